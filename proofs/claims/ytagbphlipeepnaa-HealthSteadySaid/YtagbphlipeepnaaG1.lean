/- Functions of the program: mirrors, and that a call returns what the mirror says. Printed by gen.py. -/
import Derived.Test.YtagbphlipeepnaaSL15
import Derived.KernelRfl
import Derived.Test.YtagbphlipeepnaaProg
set_option linter.unusedVariables false
set_option linter.unusedSimpArgs false
open Go Go.SL Go.Proofs
set_option maxRecDepth 8000
structure S_law32_Limits where
  Rise : Int
  Fall : Int
abbrev S_law32_Limits.enc (x : S_law32_Limits) : List Value := [.int .i64 x.Rise, .int .i64 x.Fall]
structure S_law32_Step where
  What : UInt8
  Node : UInt8
abbrev S_law32_Step.enc (x : S_law32_Step) : List Value := [.int .u8 (x.What.toNat : Int), .int .u8 (x.Node.toNat : Int)]
structure S_health_status where
  state : Int
  run : Int
abbrev S_health_status.enc (x : S_health_status) : List Value := [.int .i64 x.state, .int .i64 x.run]
structure S_health_Checks where
  rise : Int
  fall : Int
  nodes : (List (Str × S_health_status))
  drained : (List (Str × Bool))
theorem elT54 : ElT Try.prog 54 9 1 := ElT.mk' rfl rfl rfl rfl rfl
def health_New (rise : Int) (fall : Int) : Option (Option S_health_Checks × Err) :=
  if (((decide (rise < 1) || decide (rise > 100)) || decide (fall < 1)) || decide (fall > 100)) then
  some (none, (some 1))
  else
  some ((some (⟨rise, fall, [], []⟩ : S_health_Checks)), none)
set_option maxHeartbeats 8000000 in
theorem health_New_ok {rise : Int} {fall : Int} {K : Hp} {r : Option S_health_Checks × Err}
    (hm : health_New rise fall = some r)  :
    Fn Try.prog 11 [.int .i64 rise, .int .i64 fall] K [] (fun v K' H' => match r.1 with | none => (v = .tuple #[.pointer none, errV 43 r.2] ∧ H' = []) | some ro => (∃ br_0 : Nat, ∃ mr_1 : Nat, ∃ mr_2 : Nat, v = .tuple #[.pointer (some ⟨br_0, 0, none⟩), errV 43 r.2] ∧ H' = [Cells br_0 64 [.int .i64 ro.rise, .int .i64 ro.fall, .map (some mr_1), .map (some mr_2)], MapE strK (fun x => .agg (S_health_status.enc x).toArray) mr_1 ro.nodes, MapE strK (fun x => .bool x) mr_2 ro.drained])) := by
  refine Fn.enter Try.func11 Try.call11 rfl fun F => ?_
  unfold health_New at hm
  conv => whnf
  refine cond_s (fun g8_1 => ?_) (fun g8_1 => ?_)
  · conv => whnf
    refine cond_t g8_1 ?_
    conv => whnf
    refine cond_t g8_1 ?_
    conv => whnf
    refine cond_T ?_
    conv => whnf
    refine cond_T ?_
    conv => whnf
    refine cond_T ?_
    conv => whnf
    refine cond_T ?_
    conv => whnf
    refine cond_T ?_
    conv => whnf
    refine cond_T ?_
    conv => whnf
    refine cond_go rfl ?_
    conv => whnf
    refine cond_T ?_
    replace hm := ift (or_t (or_t (or_t g8_1))) hm
    conv => whnf
    refine mk_iface rfl ?_
    obtain rfl := si hm
    conv => whnf
    refine EndStep.mk _ (Hp.Le.refl _) ⟨rfl, rfl⟩ (ConvH.of (.cons r0 .nil))
  · conv => whnf
    refine cond_f g8_1 ?_
    conv => whnf
    refine cond_f g8_1 ?_
    conv => whnf
    refine cond_s (fun g12_1 => ?_) (fun g12_1 => ?_)
    · conv => whnf
      refine cond_t g12_1 ?_
      conv => whnf
      refine cond_t g12_1 ?_
      conv => whnf
      refine cond_T ?_
      conv => whnf
      refine cond_T ?_
      conv => whnf
      refine cond_T ?_
      conv => whnf
      refine cond_go rfl ?_
      conv => whnf
      refine cond_T ?_
      replace hm := ift (or_t (or_t (or_u g8_1 g12_1))) hm
      conv => whnf
      refine mk_iface rfl ?_
      obtain rfl := si hm
      conv => whnf
      refine EndStep.mk _ (Hp.Le.refl _) ⟨rfl, rfl⟩ (ConvH.of (.cons r0 .nil))
    · conv => whnf
      refine cond_f g12_1 ?_
      conv => whnf
      refine cond_f g12_1 ?_
      conv => whnf
      refine cond_s (fun g16_1 => ?_) (fun g16_1 => ?_)
      · conv => whnf
        refine cond_t g16_1 ?_
        conv => whnf
        refine cond_t g16_1 ?_
        conv => whnf
        refine cond_go rfl ?_
        conv => whnf
        refine cond_T ?_
        replace hm := ift (or_t (or_u (or_f g8_1 g12_1) g16_1)) hm
        conv => whnf
        refine mk_iface rfl ?_
        obtain rfl := si hm
        conv => whnf
        refine EndStep.mk _ (Hp.Le.refl _) ⟨rfl, rfl⟩ (ConvH.of (.cons r0 .nil))
      · conv => whnf
        refine cond_f g16_1 ?_
        conv => whnf
        refine cond_f g16_1 ?_
        conv => whnf
        refine cond_go rfl ?_
        conv => whnf
        refine cond_s (fun w19 => ?_) (fun w19 => ?_)
        · replace hm := ift (or_u (or_f (or_f g8_1 g12_1) g16_1) w19) hm
          conv => whnf
          refine mk_iface rfl ?_
          obtain rfl := si hm
          conv => whnf
          refine EndStep.mk _ (Hp.Le.refl _) ⟨rfl, rfl⟩ (ConvH.of (.cons r0 .nil))
        · replace hm := iff_ (or_f (or_f (or_f g8_1 g12_1) g16_1) w19) hm
          conv => whnf
          refine makeMap_rule strK (fun x => .agg (S_health_status.enc x).toArray) fun b23 => ?_
          conv => whnf
          refine makeMap_rule strK (fun x => .bool x) fun b24 => ?_
          conv => whnf
          refine build_struct rfl rfl ?_
          conv => whnf
          refine cond_T ?_
          conv => whnf
          refine cond_T ?_
          conv => whnf
          refine cond_T ?_
          conv => whnf
          refine cond_T ?_
          conv => whnf
          refine box_rule ?_
          intro b26
          obtain rfl := si hm
          conv => whnf
          refine EndStep.mk _ (Hp.Le.refl _) ⟨b26, b23, b24, rfl, rfl⟩ (ConvH.of (.cons r0 (.cons r1 (.cons r0 (.cons r0 .nil)))))

def health_Checks_Report (c : S_health_Checks) (node : Str) (ok : Bool) : Option (Int × S_health_Checks) :=
  if ok then
  if (decide (((mget c.nodes node).getD (⟨0, 0⟩ : S_health_status)).state = 0) || decide (((mget c.nodes node).getD (⟨0, 0⟩ : S_health_status)).state = 1)) then
  some (1, (⟨c.rise, c.fall, (mset c.nodes node (⟨1, 0⟩ : S_health_status)), c.drained⟩ : S_health_Checks))
  else
  (chk (InI (((mget c.nodes node).getD (⟨0, 0⟩ : S_health_status)).run + 1))).bind fun _ =>
  if decide ((((mget c.nodes node).getD (⟨0, 0⟩ : S_health_status)).run + 1) ≥ c.rise) then
  some (1, (⟨c.rise, c.fall, (mset c.nodes node (⟨1, 0⟩ : S_health_status)), c.drained⟩ : S_health_Checks))
  else
  (chk (InI (((mget c.nodes node).getD (⟨0, 0⟩ : S_health_status)).run + 1))).bind fun _ =>
  some (((mget c.nodes node).getD (⟨0, 0⟩ : S_health_status)).state, (⟨c.rise, c.fall, (mset c.nodes node (⟨((mget c.nodes node).getD (⟨0, 0⟩ : S_health_status)).state, (((mget c.nodes node).getD (⟨0, 0⟩ : S_health_status)).run + 1)⟩ : S_health_status)), c.drained⟩ : S_health_Checks))
  else
  if (decide (((mget c.nodes node).getD (⟨0, 0⟩ : S_health_status)).state = 0) || decide (((mget c.nodes node).getD (⟨0, 0⟩ : S_health_status)).state = 2)) then
  some (2, (⟨c.rise, c.fall, (mset c.nodes node (⟨2, 0⟩ : S_health_status)), c.drained⟩ : S_health_Checks))
  else
  (chk (InI (((mget c.nodes node).getD (⟨0, 0⟩ : S_health_status)).run + 1))).bind fun _ =>
  if decide ((((mget c.nodes node).getD (⟨0, 0⟩ : S_health_status)).run + 1) ≥ c.fall) then
  some (2, (⟨c.rise, c.fall, (mset c.nodes node (⟨2, 0⟩ : S_health_status)), c.drained⟩ : S_health_Checks))
  else
  (chk (InI (((mget c.nodes node).getD (⟨0, 0⟩ : S_health_status)).run + 1))).bind fun _ =>
  some (((mget c.nodes node).getD (⟨0, 0⟩ : S_health_status)).state, (⟨c.rise, c.fall, (mset c.nodes node (⟨((mget c.nodes node).getD (⟨0, 0⟩ : S_health_status)).state, (((mget c.nodes node).getD (⟨0, 0⟩ : S_health_status)).run + 1)⟩ : S_health_status)), c.drained⟩ : S_health_Checks))
set_option maxHeartbeats 8000000 in
theorem health_Checks_Report_ok {c : S_health_Checks} {node : Str} {ok : Bool} {b0 : Nat} {mp0_0 : Nat} {mp0_1 : Nat} {K : Hp} {r : Int × S_health_Checks}
    (hm : health_Checks_Report c node ok = some r)  :
    Fn Try.prog 12 [.pointer (some ⟨b0, 0, none⟩), str node, .bool ok] K [Cells b0 64 [.int .i64 c.rise, .int .i64 c.fall, .map (some mp0_0), .map (some mp0_1)], MapE strK (fun x => .agg (S_health_status.enc x).toArray) mp0_0 c.nodes, MapE strK (fun x => .bool x) mp0_1 c.drained] (fun v K' H' => ∃ mr_0 : Nat, ∃ mr_1 : Nat, v = .int .i64 r.1 ∧ H' = [Cells b0 64 [.int .i64 r.2.rise, .int .i64 r.2.fall, .map (some mr_0), .map (some mr_1)], MapE strK (fun x => .agg (S_health_status.enc x).toArray) mr_0 r.2.nodes, MapE strK (fun x => .bool x) mr_1 r.2.drained]) := by
  refine Fn.enter Try.func12 Try.call12 rfl fun F => ?_
  unfold health_Checks_Report at hm
  conv => whnf
  refine eq_ptr_nil rfl ?_
  conv => whnf
  refine cond_go rfl ?_
  conv => whnf
  refine cond_F ?_
  conv => whnf
  refine ⟨⟨⟨[], false⟩, _, [(_, _)]⟩, by kernel_rfl, ⟨Hp.Le.refl _, (ConvH.of (.cons r0 .nil))⟩, ?_⟩
  conv => whnf
  refine nil_check ?_
  conv => whnf
  refine field_addr rfl ?_
  conv => whnf
  refine load1_l m0 rfl rfl ?_
  conv => whnf
  refine cond_go rfl ?_
  conv => whnf
  refine cond_s (fun w16 => ?_) (fun w16 => ?_)
  · replace hm := ift w16 hm
    conv => whnf
    refine ⟨⟨⟨[], false⟩, _, [(_, _)]⟩, by kernel_rfl, ⟨Hp.Le.refl _, (ConvH.of (.cons r0 .nil))⟩, ?_⟩
    conv => whnf
    refine nil_check ?_
    conv => whnf
    refine field_addr rfl ?_
    conv => whnf
    refine load1_l m0 rfl rfl ?_
    conv => whnf
    refine nil_check ?_
    conv => whnf
    refine field_addr rfl ?_
    conv => whnf
    refine RStep.of (load1_s r0 rfl rfl ?_)
    conv => whnf
    refine RStep.of (lookup_rule (kenc := strK) (venc := (fun x => .agg (S_health_status.enc x).toArray)) (z := (⟨0, 0⟩ : S_health_status)) r1 rfl rfl (key_str rfl) ?_)
    conv => whnf
    refine alloc_rule rfl ?_
    intro b9
    conv => whnf
    refine store_rule r0 rfl ?_
    conv => whnf
    refine ⟨rfl, rfl, (Nat.le_of_ble_eq_true rfl), ?_⟩
    conv => whnf
    refine block_go rfl ?_
    conv => whnf
    refine field_addr rfl ?_
    conv => whnf
    refine RStep.of (load1_s r0 rfl rfl ?_)
    conv => whnf
    refine eq_int ?_
    conv => whnf
    refine cond_s (fun g35_8 => ?_) (fun g35_8 => ?_)
    · conv => whnf
      refine cond_t g35_8 ?_
      conv => whnf
      refine cond_t g35_8 ?_
      conv => whnf
      refine cond_t g35_8 ?_
      conv => whnf
      refine cond_t g35_8 ?_
      conv => whnf
      refine cond_go rfl ?_
      conv => whnf
      refine cond_T ?_
      replace hm := ift (or_t g35_8) hm
      conv => whnf
      refine build_struct rfl rfl ?_
      conv => whnf
      refine cond_T ?_
      conv => whnf
      refine store_rule r0 rfl ?_
      conv => whnf
      refine ⟨rfl, rfl, (Nat.le_of_ble_eq_true rfl), ?_⟩
      conv => whnf
      refine ⟨⟨⟨[], false⟩, _, [(_, _), (_, _)]⟩, by kernel_rfl, ⟨Hp.Le.refl _, (ConvH.of (.cons r1 (.cons r0 .nil)))⟩, ?_⟩
      conv => whnf
      refine nil_check ?_
      conv => whnf
      refine field_addr rfl ?_
      conv => whnf
      refine load1_l m0 rfl rfl ?_
      conv => whnf
      refine loadn_l m1 rfl (Nat.le_of_ble_eq_true rfl) ?_
      conv => whnf
      refine update_rule (kenc := strK) (venc := (fun x => .agg (S_health_status.enc x).toArray)) (⟨1, 0⟩ : S_health_status) rfl r2 rfl (key_str rfl) ?_
      conv => whnf
      refine ⟨⟨(Hp.Le.refl _), (ConvH.of (.cons r2 (.cons r1 .nil)))⟩, ?_⟩
      conv => whnf
      refine field_addr rfl ?_
      conv => whnf
      refine RStep.of (load1_s r1 rfl rfl ?_)
      obtain rfl := si hm
      conv => whnf
      refine EndStep.mk _ (Hp.Le.refl _) ⟨mp0_0, mp0_1, rfl, rfl⟩ (ConvH.of (.cons r2 (.cons r0 (.cons r1 (.cons r1 .nil)))))
    · conv => whnf
      refine field_addr rfl ?_
      conv => whnf
      refine cond_f g35_8 ?_
      conv => whnf
      refine RStep.of (load1_s r0 rfl rfl ?_)
      conv => whnf
      refine cond_f g35_8 ?_
      conv => whnf
      refine cond_f g35_8 ?_
      conv => whnf
      refine eq_int ?_
      conv => whnf
      refine cond_f g35_8 ?_
      conv => whnf
      refine cond_go rfl ?_
      conv => whnf
      refine cond_s (fun w31 => ?_) (fun w31 => ?_)
      · replace hm := ift (or_u g35_8 w31) hm
        conv => whnf
        refine build_struct rfl rfl ?_
        conv => whnf
        refine cond_T ?_
        conv => whnf
        refine store_rule r0 rfl ?_
        conv => whnf
        refine ⟨rfl, rfl, (Nat.le_of_ble_eq_true rfl), ?_⟩
        conv => whnf
        refine ⟨⟨⟨[], false⟩, _, [(_, _), (_, _)]⟩, by kernel_rfl, ⟨Hp.Le.refl _, (ConvH.of (.cons r1 (.cons r0 .nil)))⟩, ?_⟩
        conv => whnf
        refine nil_check ?_
        conv => whnf
        refine field_addr rfl ?_
        conv => whnf
        refine load1_l m0 rfl rfl ?_
        conv => whnf
        refine loadn_l m1 rfl (Nat.le_of_ble_eq_true rfl) ?_
        conv => whnf
        refine update_rule (kenc := strK) (venc := (fun x => .agg (S_health_status.enc x).toArray)) (⟨1, 0⟩ : S_health_status) rfl r2 rfl (key_str rfl) ?_
        conv => whnf
        refine ⟨⟨(Hp.Le.refl _), (ConvH.of (.cons r2 (.cons r1 .nil)))⟩, ?_⟩
        conv => whnf
        refine field_addr rfl ?_
        conv => whnf
        refine RStep.of (load1_s r1 rfl rfl ?_)
        obtain rfl := si hm
        conv => whnf
        refine EndStep.mk _ (Hp.Le.refl _) ⟨mp0_0, mp0_1, rfl, rfl⟩ (ConvH.of (.cons r2 (.cons r0 (.cons r1 (.cons r1 .nil)))))
      · replace hm := iff_ (or_f g35_8 w31) hm
        conv => whnf
        refine field_addr rfl ?_
        conv => whnf
        refine RStep.of (load1_s r0 rfl rfl ?_)
        obtain ⟨h46, hm⟩ := chkb hm
        conv => whnf
        refine int_in h46 ?_
        conv => whnf
        refine cond_go rfl ?_
        conv => whnf
        refine cond_s (fun w43 => ?_) (fun w43 => ?_)
        · replace hm := ift w43 hm
          conv => whnf
          refine build_struct rfl rfl ?_
          conv => whnf
          refine cond_T ?_
          conv => whnf
          refine store_rule r0 rfl ?_
          conv => whnf
          refine ⟨rfl, rfl, (Nat.le_of_ble_eq_true rfl), ?_⟩
          conv => whnf
          refine ⟨⟨⟨[], false⟩, _, [(_, _), (_, _)]⟩, by kernel_rfl, ⟨Hp.Le.refl _, (ConvH.of (.cons r1 (.cons r0 .nil)))⟩, ?_⟩
          conv => whnf
          refine nil_check ?_
          conv => whnf
          refine field_addr rfl ?_
          conv => whnf
          refine load1_l m0 rfl rfl ?_
          conv => whnf
          refine loadn_l m1 rfl (Nat.le_of_ble_eq_true rfl) ?_
          conv => whnf
          refine update_rule (kenc := strK) (venc := (fun x => .agg (S_health_status.enc x).toArray)) (⟨1, 0⟩ : S_health_status) rfl r2 rfl (key_str rfl) ?_
          conv => whnf
          refine ⟨⟨(Hp.Le.refl _), (ConvH.of (.cons r2 (.cons r1 .nil)))⟩, ?_⟩
          conv => whnf
          refine field_addr rfl ?_
          conv => whnf
          refine RStep.of (load1_s r1 rfl rfl ?_)
          obtain rfl := si hm
          conv => whnf
          refine EndStep.mk _ (Hp.Le.refl _) ⟨mp0_0, mp0_1, rfl, rfl⟩ (ConvH.of (.cons r2 (.cons r0 (.cons r1 (.cons r1 .nil)))))
        · replace hm := iff_ w43 hm
          conv => whnf
          refine field_addr rfl ?_
          conv => whnf
          refine RStep.of (load1_s r0 rfl rfl ?_)
          obtain ⟨h29, hm⟩ := chkb hm
          conv => whnf
          refine int_in h29 ?_
          conv => whnf
          refine field_addr rfl ?_
          conv => whnf
          refine store_rule r0 rfl ?_
          conv => whnf
          refine ⟨rfl, rfl, (Nat.le_of_ble_eq_true rfl), ?_⟩
          conv => whnf
          refine ⟨⟨⟨[], false⟩, _, [(_, _), (_, _)]⟩, by kernel_rfl, ⟨Hp.Le.refl _, (ConvH.of (.cons r1 (.cons r0 .nil)))⟩, ?_⟩
          conv => whnf
          refine nil_check ?_
          conv => whnf
          refine field_addr rfl ?_
          conv => whnf
          refine load1_l m0 rfl rfl ?_
          conv => whnf
          refine loadn_l m1 rfl (Nat.le_of_ble_eq_true rfl) ?_
          conv => whnf
          refine update_rule (kenc := strK) (venc := (fun x => .agg (S_health_status.enc x).toArray)) (⟨((mget c.nodes node).getD (⟨0, 0⟩ : S_health_status)).state, (((mget c.nodes node).getD (⟨0, 0⟩ : S_health_status)).run + 1)⟩ : S_health_status) rfl r2 rfl (key_str rfl) ?_
          conv => whnf
          refine ⟨⟨(Hp.Le.refl _), (ConvH.of (.cons r2 (.cons r1 .nil)))⟩, ?_⟩
          conv => whnf
          refine field_addr rfl ?_
          conv => whnf
          refine RStep.of (load1_s r1 rfl rfl ?_)
          obtain rfl := si hm
          conv => whnf
          refine EndStep.mk _ (Hp.Le.refl _) ⟨mp0_0, mp0_1, rfl, rfl⟩ (ConvH.of (.cons r2 (.cons r0 (.cons r1 (.cons r1 .nil)))))
  · replace hm := iff_ w16 hm
    conv => whnf
    refine nil_check ?_
    conv => whnf
    refine field_addr rfl ?_
    conv => whnf
    refine RStep.of (load1_s r0 rfl rfl ?_)
    conv => whnf
    refine RStep.of (lookup_rule (kenc := strK) (venc := (fun x => .agg (S_health_status.enc x).toArray)) (z := (⟨0, 0⟩ : S_health_status)) r1 rfl rfl (key_str rfl) ?_)
    conv => whnf
    refine alloc_rule rfl ?_
    intro b9
    conv => whnf
    refine store_rule r0 rfl ?_
    conv => whnf
    refine ⟨rfl, rfl, (Nat.le_of_ble_eq_true rfl), ?_⟩
    conv => whnf
    refine block_go rfl ?_
    conv => whnf
    refine field_addr rfl ?_
    conv => whnf
    refine RStep.of (load1_s r0 rfl rfl ?_)
    conv => whnf
    refine eq_int ?_
    conv => whnf
    refine cond_s (fun g35_8 => ?_) (fun g35_8 => ?_)
    · conv => whnf
      refine cond_t g35_8 ?_
      conv => whnf
      refine cond_t g35_8 ?_
      conv => whnf
      refine cond_t g35_8 ?_
      conv => whnf
      refine cond_t g35_8 ?_
      conv => whnf
      refine cond_go rfl ?_
      conv => whnf
      refine cond_T ?_
      replace hm := ift (or_t g35_8) hm
      conv => whnf
      refine build_struct rfl rfl ?_
      conv => whnf
      refine cond_T ?_
      conv => whnf
      refine store_rule r0 rfl ?_
      conv => whnf
      refine ⟨rfl, rfl, (Nat.le_of_ble_eq_true rfl), ?_⟩
      conv => whnf
      refine ⟨⟨⟨[], false⟩, _, [(_, _), (_, _)]⟩, by kernel_rfl, ⟨Hp.Le.refl _, (ConvH.of (.cons r1 (.cons r0 .nil)))⟩, ?_⟩
      conv => whnf
      refine nil_check ?_
      conv => whnf
      refine field_addr rfl ?_
      conv => whnf
      refine load1_l m0 rfl rfl ?_
      conv => whnf
      refine loadn_l m1 rfl (Nat.le_of_ble_eq_true rfl) ?_
      conv => whnf
      refine update_rule (kenc := strK) (venc := (fun x => .agg (S_health_status.enc x).toArray)) (⟨2, 0⟩ : S_health_status) rfl r2 rfl (key_str rfl) ?_
      conv => whnf
      refine ⟨⟨(Hp.Le.refl _), (ConvH.of (.cons r2 (.cons r1 .nil)))⟩, ?_⟩
      conv => whnf
      refine field_addr rfl ?_
      conv => whnf
      refine RStep.of (load1_s r1 rfl rfl ?_)
      obtain rfl := si hm
      conv => whnf
      refine EndStep.mk _ (Hp.Le.refl _) ⟨mp0_0, mp0_1, rfl, rfl⟩ (ConvH.of (.cons r2 (.cons r0 (.cons r1 (.cons r1 .nil)))))
    · conv => whnf
      refine field_addr rfl ?_
      conv => whnf
      refine cond_f g35_8 ?_
      conv => whnf
      refine RStep.of (load1_s r0 rfl rfl ?_)
      conv => whnf
      refine cond_f g35_8 ?_
      conv => whnf
      refine cond_f g35_8 ?_
      conv => whnf
      refine eq_int ?_
      conv => whnf
      refine cond_f g35_8 ?_
      conv => whnf
      refine cond_go rfl ?_
      conv => whnf
      refine cond_s (fun w31 => ?_) (fun w31 => ?_)
      · replace hm := ift (or_u g35_8 w31) hm
        conv => whnf
        refine build_struct rfl rfl ?_
        conv => whnf
        refine cond_T ?_
        conv => whnf
        refine store_rule r0 rfl ?_
        conv => whnf
        refine ⟨rfl, rfl, (Nat.le_of_ble_eq_true rfl), ?_⟩
        conv => whnf
        refine ⟨⟨⟨[], false⟩, _, [(_, _), (_, _)]⟩, by kernel_rfl, ⟨Hp.Le.refl _, (ConvH.of (.cons r1 (.cons r0 .nil)))⟩, ?_⟩
        conv => whnf
        refine nil_check ?_
        conv => whnf
        refine field_addr rfl ?_
        conv => whnf
        refine load1_l m0 rfl rfl ?_
        conv => whnf
        refine loadn_l m1 rfl (Nat.le_of_ble_eq_true rfl) ?_
        conv => whnf
        refine update_rule (kenc := strK) (venc := (fun x => .agg (S_health_status.enc x).toArray)) (⟨2, 0⟩ : S_health_status) rfl r2 rfl (key_str rfl) ?_
        conv => whnf
        refine ⟨⟨(Hp.Le.refl _), (ConvH.of (.cons r2 (.cons r1 .nil)))⟩, ?_⟩
        conv => whnf
        refine field_addr rfl ?_
        conv => whnf
        refine RStep.of (load1_s r1 rfl rfl ?_)
        obtain rfl := si hm
        conv => whnf
        refine EndStep.mk _ (Hp.Le.refl _) ⟨mp0_0, mp0_1, rfl, rfl⟩ (ConvH.of (.cons r2 (.cons r0 (.cons r1 (.cons r1 .nil)))))
      · replace hm := iff_ (or_f g35_8 w31) hm
        conv => whnf
        refine field_addr rfl ?_
        conv => whnf
        refine RStep.of (load1_s r0 rfl rfl ?_)
        obtain ⟨h46, hm⟩ := chkb hm
        conv => whnf
        refine int_in h46 ?_
        conv => whnf
        refine cond_go rfl ?_
        conv => whnf
        refine cond_s (fun w43 => ?_) (fun w43 => ?_)
        · replace hm := ift w43 hm
          conv => whnf
          refine build_struct rfl rfl ?_
          conv => whnf
          refine cond_T ?_
          conv => whnf
          refine store_rule r0 rfl ?_
          conv => whnf
          refine ⟨rfl, rfl, (Nat.le_of_ble_eq_true rfl), ?_⟩
          conv => whnf
          refine ⟨⟨⟨[], false⟩, _, [(_, _), (_, _)]⟩, by kernel_rfl, ⟨Hp.Le.refl _, (ConvH.of (.cons r1 (.cons r0 .nil)))⟩, ?_⟩
          conv => whnf
          refine nil_check ?_
          conv => whnf
          refine field_addr rfl ?_
          conv => whnf
          refine load1_l m0 rfl rfl ?_
          conv => whnf
          refine loadn_l m1 rfl (Nat.le_of_ble_eq_true rfl) ?_
          conv => whnf
          refine update_rule (kenc := strK) (venc := (fun x => .agg (S_health_status.enc x).toArray)) (⟨2, 0⟩ : S_health_status) rfl r2 rfl (key_str rfl) ?_
          conv => whnf
          refine ⟨⟨(Hp.Le.refl _), (ConvH.of (.cons r2 (.cons r1 .nil)))⟩, ?_⟩
          conv => whnf
          refine field_addr rfl ?_
          conv => whnf
          refine RStep.of (load1_s r1 rfl rfl ?_)
          obtain rfl := si hm
          conv => whnf
          refine EndStep.mk _ (Hp.Le.refl _) ⟨mp0_0, mp0_1, rfl, rfl⟩ (ConvH.of (.cons r2 (.cons r0 (.cons r1 (.cons r1 .nil)))))
        · replace hm := iff_ w43 hm
          conv => whnf
          refine field_addr rfl ?_
          conv => whnf
          refine RStep.of (load1_s r0 rfl rfl ?_)
          obtain ⟨h29, hm⟩ := chkb hm
          conv => whnf
          refine int_in h29 ?_
          conv => whnf
          refine field_addr rfl ?_
          conv => whnf
          refine store_rule r0 rfl ?_
          conv => whnf
          refine ⟨rfl, rfl, (Nat.le_of_ble_eq_true rfl), ?_⟩
          conv => whnf
          refine ⟨⟨⟨[], false⟩, _, [(_, _), (_, _)]⟩, by kernel_rfl, ⟨Hp.Le.refl _, (ConvH.of (.cons r1 (.cons r0 .nil)))⟩, ?_⟩
          conv => whnf
          refine nil_check ?_
          conv => whnf
          refine field_addr rfl ?_
          conv => whnf
          refine load1_l m0 rfl rfl ?_
          conv => whnf
          refine loadn_l m1 rfl (Nat.le_of_ble_eq_true rfl) ?_
          conv => whnf
          refine update_rule (kenc := strK) (venc := (fun x => .agg (S_health_status.enc x).toArray)) (⟨((mget c.nodes node).getD (⟨0, 0⟩ : S_health_status)).state, (((mget c.nodes node).getD (⟨0, 0⟩ : S_health_status)).run + 1)⟩ : S_health_status) rfl r2 rfl (key_str rfl) ?_
          conv => whnf
          refine ⟨⟨(Hp.Le.refl _), (ConvH.of (.cons r2 (.cons r1 .nil)))⟩, ?_⟩
          conv => whnf
          refine field_addr rfl ?_
          conv => whnf
          refine RStep.of (load1_s r1 rfl rfl ?_)
          obtain rfl := si hm
          conv => whnf
          refine EndStep.mk _ (Hp.Le.refl _) ⟨mp0_0, mp0_1, rfl, rfl⟩ (ConvH.of (.cons r2 (.cons r0 (.cons r1 (.cons r1 .nil)))))

def health_Checks_Report_nil (node : Str) (ok : Bool) : Option (Int) :=
  some 0
set_option maxHeartbeats 8000000 in
theorem health_Checks_Report_nil_ok {node : Str} {ok : Bool} {K : Hp} {r : Int}
    (hm : health_Checks_Report_nil node ok = some r)  :
    Fn Try.prog 12 [.pointer none, str node, .bool ok] K [] (fun v K' H' => v = .int .i64 r ∧ H' = []) := by
  refine Fn.enter Try.func12 Try.call12 rfl fun F => ?_
  unfold health_Checks_Report_nil at hm
  conv => whnf
  refine eq_nil_nil rfl ?_
  conv => whnf
  refine cond_go rfl ?_
  conv => whnf
  refine cond_T ?_
  obtain rfl := si hm
  conv => whnf
  refine EndStep.mk _ (Hp.Le.refl _) ⟨rfl, rfl⟩ (ConvH.of (.cons r0 .nil))

def law32_awake : Option (Bool) :=
  (health_New 1 2).bind fun x4 =>
  Option.elim x4.1 (
  if x4.2.isNone then
  (health_Checks_Report_nil ([97] : Str) true).bind fun x11 =>
  if decide (x11 = 1) then
  (health_Checks_Report_nil ([97] : Str) false).bind fun x16 =>
  if decide (x16 = 1) then
  (health_Checks_Report_nil ([97] : Str) false).bind fun x21 =>
  some (decide (x21 = 2))
  else
  some false
  else
  some false
  else
  some false)
   fun o4 =>
  if x4.2.isNone then
  (health_Checks_Report o4 ([97] : Str) true).bind fun x11 =>
  if decide (x11.1 = 1) then
  (health_Checks_Report x11.2 ([97] : Str) false).bind fun x16 =>
  if decide (x16.1 = 1) then
  (health_Checks_Report x16.2 ([97] : Str) false).bind fun x21 =>
  some (decide (x21.1 = 2))
  else
  some false
  else
  some false
  else
  some false
set_option maxHeartbeats 8000000 in
theorem law32_awake_ok  {K : Hp} {r : Bool}
    (hm : law32_awake = some r)  :
    Fn Try.prog 10 [] K [] (fun v K' H' => v = .bool r ∧ H' = []) := by
  refine Fn.enter Try.func10 Try.call10 rfl fun F => ?_
  unfold law32_awake at hm
  obtain ⟨x4, q4, hm⟩ := bnd hm
  conv => whnf
  refine call_fn (health_New_ok q4) .nil ?_
  rintro v4 K4 H4 l4 p4
  rcases hq4 : x4.1 with _ | o4
  · rw [hq4] at p4 hm
    obtain ⟨rfl, rfl⟩ := p4
    replace hm := oe_n hm
    conv => whnf
    refine eq_err rfl ?_
    conv => whnf
    refine cond_s (fun g9_2 => ?_) (fun g9_2 => ?_)
    · replace hm := ift g9_2 hm
      conv => whnf
      refine cond_t g9_2 ?_
      obtain ⟨x11, q11, hm⟩ := bnd hm
      conv => whnf
      refine call_fn (health_Checks_Report_nil_ok q11) .nil ?_
      rintro _ K11 _ l11 ⟨rfl, rfl⟩
      conv => whnf
      refine cond_t g9_2 ?_
      conv => whnf
      refine eq_int ?_
      conv => whnf
      refine cond_t g9_2 ?_
      conv => whnf
      refine cond_s (fun g14_2 => ?_) (fun g14_2 => ?_)
      · replace hm := ift g14_2 hm
        conv => whnf
        refine cond_t g14_2 ?_
        obtain ⟨x16, q16, hm⟩ := bnd hm
        conv => whnf
        refine call_fn (health_Checks_Report_nil_ok q16) .nil ?_
        rintro _ K16 _ l16 ⟨rfl, rfl⟩
        conv => whnf
        refine cond_t g14_2 ?_
        conv => whnf
        refine eq_int ?_
        conv => whnf
        refine cond_t g14_2 ?_
        conv => whnf
        refine cond_s (fun g19_2 => ?_) (fun g19_2 => ?_)
        · replace hm := ift g19_2 hm
          conv => whnf
          refine cond_t g19_2 ?_
          obtain ⟨x21, q21, hm⟩ := bnd hm
          conv => whnf
          refine call_fn (health_Checks_Report_nil_ok q21) .nil ?_
          rintro _ K21 _ l21 ⟨rfl, rfl⟩
          conv => whnf
          refine cond_t g19_2 ?_
          conv => whnf
          refine eq_int ?_
          conv => whnf
          refine cond_t g19_2 ?_
          obtain rfl := si hm
          conv => whnf
          refine EndStep.mk _ (((l4.trans l11).trans l16).trans l21) ⟨rfl, rfl⟩ (ConvH.of (.cons r0 .nil))
        · replace hm := iff_ g19_2 hm
          conv => whnf
          refine cond_f g19_2 ?_
          conv => whnf
          refine cond_f g19_2 ?_
          conv => whnf
          refine cond_f g19_2 ?_
          obtain rfl := si hm
          conv => whnf
          refine EndStep.mk _ ((l4.trans l11).trans l16) ⟨rfl, rfl⟩ (ConvH.of (.cons r0 .nil))
      · replace hm := iff_ g14_2 hm
        conv => whnf
        refine cond_f g14_2 ?_
        conv => whnf
        refine cond_f g14_2 ?_
        conv => whnf
        refine cond_f g14_2 ?_
        conv => whnf
        refine cond_F ?_
        conv => whnf
        refine cond_F ?_
        conv => whnf
        refine cond_F ?_
        conv => whnf
        refine cond_F ?_
        obtain rfl := si hm
        conv => whnf
        refine EndStep.mk _ (l4.trans l11) ⟨rfl, rfl⟩ (ConvH.of (.cons r0 .nil))
    · replace hm := iff_ g9_2 hm
      conv => whnf
      refine cond_f g9_2 ?_
      conv => whnf
      refine cond_f g9_2 ?_
      conv => whnf
      refine cond_f g9_2 ?_
      conv => whnf
      refine cond_F ?_
      conv => whnf
      refine cond_F ?_
      conv => whnf
      refine cond_F ?_
      conv => whnf
      refine cond_F ?_
      conv => whnf
      refine cond_F ?_
      conv => whnf
      refine cond_F ?_
      conv => whnf
      refine cond_F ?_
      conv => whnf
      refine cond_F ?_
      obtain rfl := si hm
      conv => whnf
      refine EndStep.mk _ l4 ⟨rfl, rfl⟩ (ConvH.of (.cons r0 .nil))
  · rw [hq4] at p4 hm
    obtain ⟨b4_0, m4_1, m4_2, rfl, rfl⟩ := p4
    replace hm := oe_s hm
    conv => whnf
    refine eq_err rfl ?_
    conv => whnf
    refine cond_s (fun g9_2 => ?_) (fun g9_2 => ?_)
    · replace hm := ift g9_2 hm
      conv => whnf
      refine cond_t g9_2 ?_
      obtain ⟨x11, q11, hm⟩ := bnd hm
      conv => whnf
      refine call_fn (health_Checks_Report_ok q11) (.cons r0 (.cons r0 (.cons r0 .nil))) ?_
      rintro _ K11 _ l11 ⟨m11_0, m11_1, rfl, rfl⟩
      conv => whnf
      refine cond_t g9_2 ?_
      conv => whnf
      refine eq_int ?_
      conv => whnf
      refine cond_t g9_2 ?_
      conv => whnf
      refine cond_s (fun g14_2 => ?_) (fun g14_2 => ?_)
      · replace hm := ift g14_2 hm
        conv => whnf
        refine cond_t g14_2 ?_
        obtain ⟨x16, q16, hm⟩ := bnd hm
        conv => whnf
        refine call_fn (health_Checks_Report_ok q16) (.cons r0 (.cons r0 (.cons r0 .nil))) ?_
        rintro _ K16 _ l16 ⟨m16_0, m16_1, rfl, rfl⟩
        conv => whnf
        refine cond_t g14_2 ?_
        conv => whnf
        refine eq_int ?_
        conv => whnf
        refine cond_t g14_2 ?_
        conv => whnf
        refine cond_s (fun g19_2 => ?_) (fun g19_2 => ?_)
        · replace hm := ift g19_2 hm
          conv => whnf
          refine cond_t g19_2 ?_
          obtain ⟨x21, q21, hm⟩ := bnd hm
          conv => whnf
          refine call_fn (health_Checks_Report_ok q21) (.cons r0 (.cons r0 (.cons r0 .nil))) ?_
          rintro _ K21 _ l21 ⟨m21_0, m21_1, rfl, rfl⟩
          conv => whnf
          refine cond_t g19_2 ?_
          conv => whnf
          refine eq_int ?_
          conv => whnf
          refine cond_t g19_2 ?_
          obtain rfl := si hm
          conv => whnf
          refine EndStep.mk _ (((l4.trans l11).trans l16).trans l21) ⟨rfl, rfl⟩ (ConvH.of (.cons r3 .nil))
        · replace hm := iff_ g19_2 hm
          conv => whnf
          refine cond_f g19_2 ?_
          conv => whnf
          refine cond_f g19_2 ?_
          conv => whnf
          refine cond_f g19_2 ?_
          obtain rfl := si hm
          conv => whnf
          refine EndStep.mk _ ((l4.trans l11).trans l16) ⟨rfl, rfl⟩ (ConvH.of (.cons r3 .nil))
      · replace hm := iff_ g14_2 hm
        conv => whnf
        refine cond_f g14_2 ?_
        conv => whnf
        refine cond_f g14_2 ?_
        conv => whnf
        refine cond_f g14_2 ?_
        conv => whnf
        refine cond_F ?_
        conv => whnf
        refine cond_F ?_
        conv => whnf
        refine cond_F ?_
        conv => whnf
        refine cond_F ?_
        obtain rfl := si hm
        conv => whnf
        refine EndStep.mk _ (l4.trans l11) ⟨rfl, rfl⟩ (ConvH.of (.cons r3 .nil))
    · replace hm := iff_ g9_2 hm
      conv => whnf
      refine cond_f g9_2 ?_
      conv => whnf
      refine cond_f g9_2 ?_
      conv => whnf
      refine cond_f g9_2 ?_
      conv => whnf
      refine cond_F ?_
      conv => whnf
      refine cond_F ?_
      conv => whnf
      refine cond_F ?_
      conv => whnf
      refine cond_F ?_
      conv => whnf
      refine cond_F ?_
      conv => whnf
      refine cond_F ?_
      conv => whnf
      refine cond_F ?_
      conv => whnf
      refine cond_F ?_
      obtain rfl := si hm
      conv => whnf
      refine EndStep.mk _ l4 ⟨rfl, rfl⟩ (ConvH.of (.cons r3 .nil))

def base_Clip (n' : Int) (low : Int) (high : Int) : Option (Int) :=
  some (max low (min n' high))
set_option maxHeartbeats 8000000 in
theorem base_Clip_ok {n' : Int} {low : Int} {high : Int} {K : Hp} {r : Int}
    (hm : base_Clip n' low high = some r)  :
    Fn Try.prog 17 [.int .i64 n', .int .i64 low, .int .i64 high] K [] (fun v K' H' => v = .int .i64 r ∧ H' = []) := by
  refine Fn.enter Try.func17 Try.call17 rfl fun F => ?_
  unfold base_Clip at hm
  conv => whnf
  refine RStep.of (min_int ?_)
  conv => whnf
  refine RStep.of (max_int ?_)
  obtain rfl := si hm
  conv => whnf
  refine EndStep.mk _ (Hp.Le.refl _) ⟨rfl, rfl⟩ (ConvH.of (.cons r0 .nil))

def law32_made (x : S_law32_Limits) : Option (Option S_health_Checks × Bool) :=
  (base_Clip x.Rise 1 100).bind fun x9 =>
  (base_Clip x.Fall 1 100).bind fun x12 =>
  (health_New x9 x12).bind fun x13 =>
  Option.elim x13.1 (
  some (none, x13.2.isNone))
   fun o13 =>
  some ((some o13), x13.2.isNone)
set_option maxHeartbeats 8000000 in
theorem law32_made_ok {x : S_law32_Limits} {K : Hp} {r : Option S_health_Checks × Bool}
    (hm : law32_made x = some r)  :
    Fn Try.prog 13 [.agg #[.int .i64 x.Rise, .int .i64 x.Fall]] K [] (fun v K' H' => match r.1 with | none => (v = .tuple #[.pointer none, .bool r.2] ∧ H' = []) | some ro => (∃ br_0 : Nat, ∃ mr_1 : Nat, ∃ mr_2 : Nat, v = .tuple #[.pointer (some ⟨br_0, 0, none⟩), .bool r.2] ∧ H' = [Cells br_0 64 [.int .i64 ro.rise, .int .i64 ro.fall, .map (some mr_1), .map (some mr_2)], MapE strK (fun x => .agg (S_health_status.enc x).toArray) mr_1 ro.nodes, MapE strK (fun x => .bool x) mr_2 ro.drained])) := by
  refine Fn.enter Try.func13 Try.call13 rfl fun F => ?_
  unfold law32_made at hm
  conv => whnf
  refine box_rule ?_
  intro b1
  conv => whnf
  refine ⟨⟨⟨[], false⟩, _, [(_, _)]⟩, by kernel_rfl, ⟨Hp.Le.refl _, (ConvH.of (.cons r0 .nil))⟩, ?_⟩
  conv => whnf
  refine field_addr rfl ?_
  conv => whnf
  refine load1_l m0 rfl rfl ?_
  obtain ⟨x9, q9, hm⟩ := bnd hm
  conv => whnf
  refine call_fn (base_Clip_ok q9) .nil ?_
  rintro _ K9 _ l9 ⟨rfl, rfl⟩
  conv => whnf
  refine ⟨⟨l9, (ConvH.of (.cons r0 .nil))⟩, ?_⟩
  conv => whnf
  refine field_addr rfl ?_
  conv => whnf
  refine load1_l m0 rfl rfl ?_
  obtain ⟨x12, q12, hm⟩ := bnd hm
  conv => whnf
  refine call_fn (base_Clip_ok q12) .nil ?_
  rintro _ K12 _ l12 ⟨rfl, rfl⟩
  conv => whnf
  refine ⟨⟨(l9.trans l12), (ConvH.of (.cons r0 .nil))⟩, ?_⟩
  obtain ⟨x13, q13, hm⟩ := bnd hm
  conv => whnf
  refine call_fn (health_New_ok q13) .nil ?_
  rintro v13 K13 H13 l13 p13
  rcases hq13 : x13.1 with _ | o13
  · rw [hq13] at p13 hm
    obtain ⟨rfl, rfl⟩ := p13
    replace hm := oe_n hm
    conv => whnf
    refine ⟨⟨((l9.trans l12).trans l13), (ConvH.of (.cons r0 .nil))⟩, ?_⟩
    conv => whnf
    refine ⟨⟨⟨[], false⟩, _, []⟩, by kernel_rfl, ⟨Hp.Le.refl _, (ConvH.of .nil)⟩, ?_⟩
    conv => whnf
    refine eq_err rfl ?_
    obtain rfl := si hm
    conv => whnf
    refine EndStep.mk _ ((l9.trans l12).trans l13) ⟨rfl, rfl⟩ (ConvH.of (.cons r1 .nil))
  · rw [hq13] at p13 hm
    obtain ⟨b13_0, m13_1, m13_2, rfl, rfl⟩ := p13
    replace hm := oe_s hm
    conv => whnf
    refine ⟨⟨((l9.trans l12).trans l13), (ConvH.of (.cons r3 .nil))⟩, ?_⟩
    conv => whnf
    refine ⟨⟨⟨[], false⟩, _, []⟩, by kernel_rfl, ⟨Hp.Le.refl _, (ConvH.of .nil)⟩, ?_⟩
    conv => whnf
    refine eq_err rfl ?_
    obtain rfl := si hm
    conv => whnf
    refine EndStep.mk _ ((l9.trans l12).trans l13) ⟨b13_0, m13_1, m13_2, rfl, rfl⟩ (ConvH.of (.cons r0 (.cons r0 (.cons r0 (.cons r1 .nil)))))

def law32_name (k : UInt8) : Option (Str) :=
  (ix ([([98] : Str), ([97] : Str), ([99] : Str), ([] : Str), ([115, 104, 105, 101, 108, 100, 32, 57] : Str)]) ((k % (5 : UInt8)).toNat : Int)).bind fun x6 =>
  some x6
set_option maxHeartbeats 8000000 in
theorem law32_name_ok {k : UInt8} {K : Hp} {r : Str}
    (hm : law32_name k = some r)  :
    Fn Try.prog 15 [.int .u8 (k.toNat : Int)] K [] (fun v K' H' => v = str r ∧ H' = []) := by
  refine Fn.enter Try.func15 Try.call15 rfl fun F => ?_
  unfold law32_name at hm
  conv => whnf
  refine bsO (len := 5) (enc := eS) (l := [([98] : Str), ([97] : Str), ([99] : Str), ([] : Str), ([115, 104, 105, 101, 108, 100, 32, 57] : Str)]) (cl := [str ([98] : Str), str ([97] : Str), str ([99] : Str), str ([] : Str), str ([115, 104, 105, 101, 108, 100, 32, 57] : Str)]) elT54 rfl rfl (fun _ _ => rfl) rfl rfl rfl ?_ fun b3 => ?_
  · conv => whnf
    refine cond_T ?_
    conv => whnf
    refine cond_T ?_
    conv => whnf
    refine cond_T ?_
    conv => whnf
    refine cond_T ?_
    conv => whnf
    refine cond_T ?_
    conv => whnf
  conv => whnf
  refine u8_rem (x := k) (y := (5 : UInt8)) rfl rfl (by decide) ?_
  obtain ⟨x6, l6, k6, hm⟩ := ixb hm
  conv => whnf
  refine RStep.ofN (index_addr rfl rfl (hasO (fun _ => ⟨_, _, rfl⟩) k6) l6 (lt_ofE rfl l6 k6) ?_)
  conv => whnf
  refine RStep.of (ld_own (i := (((k % (5 : UInt8)).toNat : Int)).toNat) (o := 0) r0 rfl k6 rfl rfl ?_)
  obtain rfl := si hm
  conv => whnf
  refine EndStep.mk _ (Hp.Le.refl _) ⟨rfl, rfl⟩ (ConvH.of (.cons r1 .nil))

def health_Checks_Drain_nil (node : Str) (on : Bool) : Option (Unit) :=
  some ()
set_option maxHeartbeats 8000000 in
theorem health_Checks_Drain_nil_ok {node : Str} {on : Bool} {K : Hp} {r : Unit}
    (hm : health_Checks_Drain_nil node on = some r)  :
    Fn Try.prog 21 [.pointer none, str node, .bool on] K [] (fun v K' H' => v = .tuple #[] ∧ H' = []) := by
  refine Fn.enter Try.func21 Try.call21 rfl fun F => ?_
  unfold health_Checks_Drain_nil at hm
  conv => whnf
  refine eq_nil_nil rfl ?_
  conv => whnf
  refine cond_go rfl ?_
  conv => whnf
  refine cond_T ?_
  obtain rfl := si hm
  conv => whnf
  refine EndStep.mk _ (Hp.Le.refl _) ⟨rfl, rfl⟩ (ConvH.of (.cons r0 .nil))

def health_Checks_Forget_nil (node : Str) : Option (Bool) :=
  some false
set_option maxHeartbeats 8000000 in
theorem health_Checks_Forget_nil_ok {node : Str} {K : Hp} {r : Bool}
    (hm : health_Checks_Forget_nil node = some r)  :
    Fn Try.prog 22 [.pointer none, str node] K [] (fun v K' H' => v = .bool r ∧ H' = []) := by
  refine Fn.enter Try.func22 Try.call22 rfl fun F => ?_
  unfold health_Checks_Forget_nil at hm
  conv => whnf
  refine eq_nil_nil rfl ?_
  conv => whnf
  refine cond_go rfl ?_
  conv => whnf
  refine cond_T ?_
  obtain rfl := si hm
  conv => whnf
  refine EndStep.mk _ (Hp.Le.refl _) ⟨rfl, rfl⟩ (ConvH.of (.cons r0 .nil))

def law32_play_nil (s : S_law32_Step) : Option (Unit) :=
  if decide (((s.What % (9 : UInt8)).toNat : Int) < 6) then
  (law32_name s.Node).bind fun x19 =>
  (health_Checks_Report_nil x19 (decide (((s.What % (9 : UInt8)).toNat : Int) < 3))).bind fun x22 =>
  some ()
  else
  if decide (((s.What % (9 : UInt8)).toNat : Int) < 8) then
  (law32_name s.Node).bind fun x29 =>
  (health_Checks_Drain_nil x29 (decide (((s.What % (9 : UInt8)).toNat : Int) = 6))).bind fun x32 =>
  some ()
  else
  (law32_name s.Node).bind fun x11 =>
  (health_Checks_Forget_nil x11).bind fun x12 =>
  some ()
set_option maxHeartbeats 8000000 in
theorem law32_play_nil_ok {s : S_law32_Step} {K : Hp} {r : Unit}
    (hm : law32_play_nil s = some r)  :
    Fn Try.prog 14 [.pointer none, .agg #[.int .u8 (s.What.toNat : Int), .int .u8 (s.Node.toNat : Int)]] K [] (fun v K' H' => v = .tuple #[] ∧ H' = []) := by
  refine Fn.enter Try.func14 Try.call14 rfl fun F => ?_
  unfold law32_play_nil at hm
  conv => whnf
  refine box_rule ?_
  intro b3
  conv => whnf
  refine field_addr rfl ?_
  conv => whnf
  refine RStep.of (load1_s r0 rfl rfl ?_)
  conv => whnf
  refine u8_rem (x := s.What) (y := (9 : UInt8)) rfl rfl (by decide) ?_
  conv => whnf
  refine block_go rfl ?_
  conv => whnf
  refine cond_go rfl ?_
  conv => whnf
  refine cond_s (fun w13 => ?_) (fun w13 => ?_)
  · replace hm := ift w13 hm
    conv => whnf
    refine field_addr rfl ?_
    conv => whnf
    refine RStep.of (load1_s r0 rfl rfl ?_)
    obtain ⟨x19, q19, hm⟩ := bnd hm
    conv => whnf
    refine call_fn (law32_name_ok q19) .nil ?_
    rintro _ K19 _ l19 ⟨rfl, rfl⟩
    obtain ⟨x22, q22, hm⟩ := bnd hm
    conv => whnf
    refine call_fn (health_Checks_Report_nil_ok q22) .nil ?_
    rintro _ K22 _ l22 ⟨rfl, rfl⟩
    obtain rfl := si hm
    conv => whnf
    refine EndStep.mk _ (l19.trans l22) ⟨rfl, rfl⟩ (ConvH.of (.cons r1 .nil))
  · replace hm := iff_ w13 hm
    conv => whnf
    refine cond_go rfl ?_
    conv => whnf
    refine cond_s (fun w23 => ?_) (fun w23 => ?_)
    · replace hm := ift w23 hm
      conv => whnf
      refine field_addr rfl ?_
      conv => whnf
      refine RStep.of (load1_s r0 rfl rfl ?_)
      obtain ⟨x29, q29, hm⟩ := bnd hm
      conv => whnf
      refine call_fn (law32_name_ok q29) .nil ?_
      rintro _ K29 _ l29 ⟨rfl, rfl⟩
      conv => whnf
      refine eq_int ?_
      obtain ⟨x32, q32, hm⟩ := bnd hm
      conv => whnf
      refine call_fn (health_Checks_Drain_nil_ok q32) .nil ?_
      rintro _ K32 _ l32 ⟨rfl, rfl⟩
      obtain rfl := si hm
      conv => whnf
      refine EndStep.mk _ (l29.trans l32) ⟨rfl, rfl⟩ (ConvH.of (.cons r1 .nil))
    · replace hm := iff_ w23 hm
      conv => whnf
      refine field_addr rfl ?_
      conv => whnf
      refine RStep.of (load1_s r0 rfl rfl ?_)
      obtain ⟨x11, q11, hm⟩ := bnd hm
      conv => whnf
      refine call_fn (law32_name_ok q11) .nil ?_
      rintro _ K11 _ l11 ⟨rfl, rfl⟩
      obtain ⟨x12, q12, hm⟩ := bnd hm
      conv => whnf
      refine call_fn (health_Checks_Forget_nil_ok q12) .nil ?_
      rintro _ K12 _ l12 ⟨rfl, rfl⟩
      obtain rfl := si hm
      conv => whnf
      refine EndStep.mk _ (l11.trans l12) ⟨rfl, rfl⟩ (ConvH.of (.cons r1 .nil))

def health_Checks_State_nil (node : Str) : Option (Int) :=
  some 0
set_option maxHeartbeats 8000000 in
theorem health_Checks_State_nil_ok {node : Str} {K : Hp} {r : Int}
    (hm : health_Checks_State_nil node = some r)  :
    Fn Try.prog 16 [.pointer none, str node] K [] (fun v K' H' => v = .int .i64 r ∧ H' = []) := by
  refine Fn.enter Try.func16 Try.call16 rfl fun F => ?_
  unfold health_Checks_State_nil at hm
  conv => whnf
  refine eq_nil_nil rfl ?_
  conv => whnf
  refine cond_go rfl ?_
  conv => whnf
  refine cond_T ?_
  obtain rfl := si hm
  conv => whnf
  refine EndStep.mk _ (Hp.Le.refl _) ⟨rfl, rfl⟩ (ConvH.of (.cons r0 .nil))

def health_Checks_State (c : S_health_Checks) (node : Str) : Option (Int) :=
  some (((mget c.nodes node).getD (⟨0, 0⟩ : S_health_status)).state)
set_option maxHeartbeats 8000000 in
theorem health_Checks_State_ok {c : S_health_Checks} {node : Str} {b0 : Nat} {mp0_0 : Nat} {mp0_1 : Nat} {K : Hp} {r : Int}
    (hm : health_Checks_State c node = some r)  :
    Fn Try.prog 16 [.pointer (some ⟨b0, 0, none⟩), str node] K [Cells b0 64 [.int .i64 c.rise, .int .i64 c.fall, .map (some mp0_0), .map (some mp0_1)], MapE strK (fun x => .agg (S_health_status.enc x).toArray) mp0_0 c.nodes, MapE strK (fun x => .bool x) mp0_1 c.drained] (fun v K' H' => v = .int .i64 r ∧ H' = [Cells b0 64 [.int .i64 c.rise, .int .i64 c.fall, .map (some mp0_0), .map (some mp0_1)], MapE strK (fun x => .agg (S_health_status.enc x).toArray) mp0_0 c.nodes, MapE strK (fun x => .bool x) mp0_1 c.drained]) := by
  refine Fn.enter Try.func16 Try.call16 rfl fun F => ?_
  unfold health_Checks_State at hm
  conv => whnf
  refine eq_ptr_nil rfl ?_
  conv => whnf
  refine cond_go rfl ?_
  conv => whnf
  refine cond_F ?_
  conv => whnf
  refine nil_check ?_
  conv => whnf
  refine field_addr rfl ?_
  conv => whnf
  refine RStep.of (load1_s r0 rfl rfl ?_)
  conv => whnf
  refine RStep.of (lookup_rule (kenc := strK) (venc := (fun x => .agg (S_health_status.enc x).toArray)) (z := (⟨0, 0⟩ : S_health_status)) r1 rfl rfl (key_str rfl) ?_)
  conv => whnf
  refine field_one rfl rfl rfl rfl ?_
  obtain rfl := si hm
  conv => whnf
  refine EndStep.mk _ (Hp.Le.refl _) ⟨rfl, rfl⟩ (ConvH.of (.cons r0 (.cons r0 (.cons r0 (.cons r0 .nil)))))

def health_Checks_Drain (c : S_health_Checks) (node : Str) (on : Bool) : Option (S_health_Checks) :=
  if on then
  some (⟨c.rise, c.fall, c.nodes, (mset (mdel c.drained node) node true)⟩ : S_health_Checks)
  else
  some (⟨c.rise, c.fall, c.nodes, (mdel c.drained node)⟩ : S_health_Checks)
set_option maxHeartbeats 8000000 in
theorem health_Checks_Drain_ok {c : S_health_Checks} {node : Str} {on : Bool} {b0 : Nat} {mp0_0 : Nat} {mp0_1 : Nat} {K : Hp} {r : S_health_Checks}
    (hm : health_Checks_Drain c node on = some r)  :
    Fn Try.prog 21 [.pointer (some ⟨b0, 0, none⟩), str node, .bool on] K [Cells b0 64 [.int .i64 c.rise, .int .i64 c.fall, .map (some mp0_0), .map (some mp0_1)], MapE strK (fun x => .agg (S_health_status.enc x).toArray) mp0_0 c.nodes, MapE strK (fun x => .bool x) mp0_1 c.drained] (fun v K' H' => ∃ mr_0 : Nat, ∃ mr_1 : Nat, v = .tuple #[] ∧ H' = [Cells b0 64 [.int .i64 r.rise, .int .i64 r.fall, .map (some mr_0), .map (some mr_1)], MapE strK (fun x => .agg (S_health_status.enc x).toArray) mr_0 r.nodes, MapE strK (fun x => .bool x) mr_1 r.drained]) := by
  refine Fn.enter Try.func21 Try.call21 rfl fun F => ?_
  unfold health_Checks_Drain at hm
  conv => whnf
  refine eq_ptr_nil rfl ?_
  conv => whnf
  refine cond_go rfl ?_
  conv => whnf
  refine cond_F ?_
  conv => whnf
  refine nil_check ?_
  conv => whnf
  refine field_addr rfl ?_
  conv => whnf
  refine RStep.of (load1_s r0 rfl rfl ?_)
  conv => whnf
  refine delete_rule (kenc := strK) (venc := (fun x => .bool x)) r2 rfl rfl (key_str rfl) ?_
  conv => whnf
  refine cond_go rfl ?_
  conv => whnf
  refine cond_s (fun w13 => ?_) (fun w13 => ?_)
  · replace hm := ift w13 hm
    conv => whnf
    refine nil_check ?_
    conv => whnf
    refine field_addr rfl ?_
    conv => whnf
    refine RStep.of (load1_s r1 rfl rfl ?_)
    conv => whnf
    refine update_rule (kenc := strK) (venc := (fun x => .bool x)) true rfl r0 rfl (key_str rfl) ?_
    obtain rfl := si hm
    conv => whnf
    refine EndStep.mk _ (Hp.Le.refl _) ⟨mp0_0, mp0_1, rfl, rfl⟩ (ConvH.of (.cons r1 (.cons r1 (.cons r0 (.cons r0 .nil)))))
  · replace hm := iff_ w13 hm
    obtain rfl := si hm
    conv => whnf
    refine EndStep.mk _ (Hp.Le.refl _) ⟨mp0_0, mp0_1, rfl, rfl⟩ (ConvH.of (.cons r1 (.cons r1 (.cons r0 (.cons r0 .nil)))))

def health_Checks_Forget (c : S_health_Checks) (node : Str) : Option (Bool × S_health_Checks) :=
  some ((mget c.nodes node).isSome, (⟨c.rise, c.fall, (mdel c.nodes node), c.drained⟩ : S_health_Checks))
set_option maxHeartbeats 8000000 in
theorem health_Checks_Forget_ok {c : S_health_Checks} {node : Str} {b0 : Nat} {mp0_0 : Nat} {mp0_1 : Nat} {K : Hp} {r : Bool × S_health_Checks}
    (hm : health_Checks_Forget c node = some r)  :
    Fn Try.prog 22 [.pointer (some ⟨b0, 0, none⟩), str node] K [Cells b0 64 [.int .i64 c.rise, .int .i64 c.fall, .map (some mp0_0), .map (some mp0_1)], MapE strK (fun x => .agg (S_health_status.enc x).toArray) mp0_0 c.nodes, MapE strK (fun x => .bool x) mp0_1 c.drained] (fun v K' H' => ∃ mr_0 : Nat, ∃ mr_1 : Nat, v = .bool r.1 ∧ H' = [Cells b0 64 [.int .i64 r.2.rise, .int .i64 r.2.fall, .map (some mr_0), .map (some mr_1)], MapE strK (fun x => .agg (S_health_status.enc x).toArray) mr_0 r.2.nodes, MapE strK (fun x => .bool x) mr_1 r.2.drained]) := by
  refine Fn.enter Try.func22 Try.call22 rfl fun F => ?_
  unfold health_Checks_Forget at hm
  conv => whnf
  refine eq_ptr_nil rfl ?_
  conv => whnf
  refine cond_go rfl ?_
  conv => whnf
  refine cond_F ?_
  conv => whnf
  refine nil_check ?_
  conv => whnf
  refine field_addr rfl ?_
  conv => whnf
  refine RStep.of (load1_s r0 rfl rfl ?_)
  conv => whnf
  refine RStep.of (lookup_ok (kenc := strK) (venc := (fun x => .agg (S_health_status.enc x).toArray)) (z := (⟨0, 0⟩ : S_health_status)) r1 rfl rfl (key_str rfl) ?_)
  conv => whnf
  refine alloc_rule rfl ?_
  intro b5
  conv => whnf
  refine store_rule r0 rfl ?_
  conv => whnf
  refine ⟨rfl, rfl, (Nat.le_of_ble_eq_true rfl), ?_⟩
  conv => whnf
  refine nil_check ?_
  conv => whnf
  refine field_addr rfl ?_
  conv => whnf
  refine RStep.of (load1_s r1 rfl rfl ?_)
  conv => whnf
  refine delete_rule (kenc := strK) (venc := (fun x => .agg (S_health_status.enc x).toArray)) r2 rfl rfl (key_str rfl) ?_
  obtain rfl := si hm
  conv => whnf
  refine EndStep.mk _ (Hp.Le.refl _) ⟨mp0_0, mp0_1, rfl, rfl⟩ (ConvH.of (.cons r2 (.cons r0 (.cons r1 (.cons r1 .nil)))))

def law32_play (c : S_health_Checks) (s : S_law32_Step) : Option (S_health_Checks) :=
  if decide (((s.What % (9 : UInt8)).toNat : Int) < 6) then
  (law32_name s.Node).bind fun x19 =>
  (health_Checks_Report c x19 (decide (((s.What % (9 : UInt8)).toNat : Int) < 3))).bind fun x22 =>
  some x22.2
  else
  if decide (((s.What % (9 : UInt8)).toNat : Int) < 8) then
  (law32_name s.Node).bind fun x29 =>
  (health_Checks_Drain c x29 (decide (((s.What % (9 : UInt8)).toNat : Int) = 6))).bind fun x32 =>
  some x32
  else
  (law32_name s.Node).bind fun x11 =>
  (health_Checks_Forget c x11).bind fun x12 =>
  some x12.2
set_option maxHeartbeats 8000000 in
theorem law32_play_ok {c : S_health_Checks} {s : S_law32_Step} {b0 : Nat} {mp0_0 : Nat} {mp0_1 : Nat} {K : Hp} {r : S_health_Checks}
    (hm : law32_play c s = some r)  :
    Fn Try.prog 14 [.pointer (some ⟨b0, 0, none⟩), .agg #[.int .u8 (s.What.toNat : Int), .int .u8 (s.Node.toNat : Int)]] K [Cells b0 64 [.int .i64 c.rise, .int .i64 c.fall, .map (some mp0_0), .map (some mp0_1)], MapE strK (fun x => .agg (S_health_status.enc x).toArray) mp0_0 c.nodes, MapE strK (fun x => .bool x) mp0_1 c.drained] (fun v K' H' => ∃ mr_0 : Nat, ∃ mr_1 : Nat, v = .tuple #[] ∧ H' = [Cells b0 64 [.int .i64 r.rise, .int .i64 r.fall, .map (some mr_0), .map (some mr_1)], MapE strK (fun x => .agg (S_health_status.enc x).toArray) mr_0 r.nodes, MapE strK (fun x => .bool x) mr_1 r.drained]) := by
  refine Fn.enter Try.func14 Try.call14 rfl fun F => ?_
  unfold law32_play at hm
  conv => whnf
  refine box_rule ?_
  intro b3
  conv => whnf
  refine field_addr rfl ?_
  conv => whnf
  refine RStep.of (load1_s r0 rfl rfl ?_)
  conv => whnf
  refine u8_rem (x := s.What) (y := (9 : UInt8)) rfl rfl (by decide) ?_
  conv => whnf
  refine block_go rfl ?_
  conv => whnf
  refine cond_go rfl ?_
  conv => whnf
  refine cond_s (fun w13 => ?_) (fun w13 => ?_)
  · replace hm := ift w13 hm
    conv => whnf
    refine field_addr rfl ?_
    conv => whnf
    refine RStep.of (load1_s r0 rfl rfl ?_)
    obtain ⟨x19, q19, hm⟩ := bnd hm
    conv => whnf
    refine call_fn (law32_name_ok q19) .nil ?_
    rintro _ K19 _ l19 ⟨rfl, rfl⟩
    obtain ⟨x22, q22, hm⟩ := bnd hm
    conv => whnf
    refine call_fn (health_Checks_Report_ok q22) (.cons r1 (.cons r1 (.cons r1 .nil))) ?_
    rintro _ K22 _ l22 ⟨m22_0, m22_1, rfl, rfl⟩
    obtain rfl := si hm
    conv => whnf
    refine EndStep.mk _ (l19.trans l22) ⟨m22_0, m22_1, rfl, rfl⟩ (ConvH.of (.cons r0 (.cons r0 (.cons r0 (.cons r1 .nil)))))
  · replace hm := iff_ w13 hm
    conv => whnf
    refine cond_go rfl ?_
    conv => whnf
    refine cond_s (fun w23 => ?_) (fun w23 => ?_)
    · replace hm := ift w23 hm
      conv => whnf
      refine field_addr rfl ?_
      conv => whnf
      refine RStep.of (load1_s r0 rfl rfl ?_)
      obtain ⟨x29, q29, hm⟩ := bnd hm
      conv => whnf
      refine call_fn (law32_name_ok q29) .nil ?_
      rintro _ K29 _ l29 ⟨rfl, rfl⟩
      conv => whnf
      refine eq_int ?_
      obtain ⟨x32, q32, hm⟩ := bnd hm
      conv => whnf
      refine call_fn (health_Checks_Drain_ok q32) (.cons r1 (.cons r1 (.cons r1 .nil))) ?_
      rintro _ K32 _ l32 ⟨m32_0, m32_1, rfl, rfl⟩
      obtain rfl := si hm
      conv => whnf
      refine EndStep.mk _ (l29.trans l32) ⟨m32_0, m32_1, rfl, rfl⟩ (ConvH.of (.cons r0 (.cons r0 (.cons r0 (.cons r1 .nil)))))
    · replace hm := iff_ w23 hm
      conv => whnf
      refine field_addr rfl ?_
      conv => whnf
      refine RStep.of (load1_s r0 rfl rfl ?_)
      obtain ⟨x11, q11, hm⟩ := bnd hm
      conv => whnf
      refine call_fn (law32_name_ok q11) .nil ?_
      rintro _ K11 _ l11 ⟨rfl, rfl⟩
      obtain ⟨x12, q12, hm⟩ := bnd hm
      conv => whnf
      refine call_fn (health_Checks_Forget_ok q12) (.cons r1 (.cons r1 (.cons r1 .nil))) ?_
      rintro _ K12 _ l12 ⟨m12_0, m12_1, rfl, rfl⟩
      obtain rfl := si hm
      conv => whnf
      refine EndStep.mk _ (l11.trans l12) ⟨m12_0, m12_1, rfl, rfl⟩ (ConvH.of (.cons r0 (.cons r0 (.cons r0 (.cons r1 .nil)))))

def law32_HealthSteady_L0 : List S_law32_Step → Nat → Option (Unit)
  | [], _ => some ()
  | e0 :: xs0, i0 =>
    (law32_play_nil e0).bind fun x40 =>
    law32_HealthSteady_L0 xs0 (i0 + 1)
def law32_HealthSteady_L2 (x44 : Str) (x47 : Int) : Nat → Nat → Option (Fl (Bool) (Unit))
  | 0, _ => some (Fl.go ())
  | xs2 + 1, i2 =>
    (health_Checks_Report_nil x44 (decide (x47 = 1))).bind fun x62 =>
    if decide (x62 ≠ x47) then
    some (Fl.ret false)
    else
    law32_HealthSteady_L2 x44 x47 xs2 (i2 + 1)
def law32_HealthSteady_L4 (x44 : Str) (x47 : Int) : Nat → Nat → Option (Fl (Bool) (Unit))
  | 0, _ => some (Fl.go ())
  | xs4 + 1, i4 =>
    (health_Checks_Report_nil x44 (!decide (x47 = 1))).bind fun x81 =>
    if decide (x81 ≠ x47) then
    some (Fl.ret false)
    else
    law32_HealthSteady_L4 x44 x47 xs4 (i4 + 1)
def law32_HealthSteady_L0b : List S_law32_Step → Nat → S_health_Checks → Option (S_health_Checks)
  | [], _, y0_0 => some y0_0
  | e0 :: xs0, i0, y0_0 =>
    (law32_play y0_0 e0).bind fun x40 =>
    law32_HealthSteady_L0b xs0 (i0 + 1) x40
def law32_HealthSteady_L2b (x44 : Str) (x47 : Int) : Nat → Nat → S_health_Checks → Option (Fl (Bool) (S_health_Checks))
  | 0, _, y2_0 => some (Fl.go y2_0)
  | xs2 + 1, i2, y2_0 =>
    (health_Checks_Report y2_0 x44 (decide (x47 = 1))).bind fun x62 =>
    if decide (x62.1 ≠ x47) then
    some (Fl.ret false)
    else
    law32_HealthSteady_L2b x44 x47 xs2 (i2 + 1) x62.2
def law32_HealthSteady_L4b (x44 : Str) (x47 : Int) : Nat → Nat → S_health_Checks → Option (Fl (Bool) (S_health_Checks))
  | 0, _, y4_0 => some (Fl.go y4_0)
  | xs4 + 1, i4, y4_0 =>
    (health_Checks_Report y4_0 x44 (!decide (x47 = 1))).bind fun x81 =>
    if decide (x81.1 ≠ x47) then
    some (Fl.ret false)
    else
    law32_HealthSteady_L4b x44 x47 xs4 (i4 + 1) x81.2
def law32_HealthSteady (x : S_law32_Limits) (script : (List S_law32_Step)) (s : S_law32_Step) : Option (Bool) :=
  (if decide ((script.length : Int) > 100) then some true else (law32_awake).bind fun x19 =>
  some (!x19)).bind fun x21 =>
  if x21 then
  some (decide ((script.length : Int) > 100))
  else
  (law32_made x).bind fun x27 =>
  Option.elim x27.1 (
  if (!x27.2) then
  some false
  else
  (chk (script.length ≤ lim)).bind fun _ =>
  (law32_HealthSteady_L0 script 0).bind fun t0 =>
  (law32_name s.Node).bind fun x44 =>
  (health_Checks_State_nil x44).bind fun x47 =>
  if decide (x47 = 0) then
  some true
  else
  (chk (InI (1 + (Int.tmod (s.What.toNat : Int) 5)))).bind fun _ =>
  (chk (InI (1 + (Int.tmod (s.What.toNat : Int) 5)))).bind fun _ =>
  (law32_HealthSteady_L2 x44 x47 (1 + (Int.tmod (s.What.toNat : Int) 5)).toNat 0).bind fun s2 => s2.el some fun t2 =>
  (base_Clip x.Rise 1 100).bind fun x68 =>
  if decide (x47 = 1) then
  (base_Clip x.Fall 1 100).bind fun x72 =>
  (chk (InI (x72 - 1))).bind fun _ =>
  (chk (InI (x72 - 1))).bind fun _ =>
  (law32_HealthSteady_L4 x44 x47 (x72 - 1).toNat 0).bind fun s4 => s4.el some fun t4 =>
  (health_Checks_Report_nil x44 (decide (x47 = 1))).bind fun x88 =>
  (if decide (x88 = x47) then (health_Checks_State_nil x44).bind fun x94 =>
  some (decide (x94 = x47)) else some false).bind fun x97 =>
  some x97
  else
  (chk (InI (x68 - 1))).bind fun _ =>
  (chk (InI (x68 - 1))).bind fun _ =>
  (law32_HealthSteady_L4 x44 x47 (x68 - 1).toNat 0).bind fun s4 => s4.el some fun t4 =>
  (health_Checks_Report_nil x44 (decide (x47 = 1))).bind fun x88 =>
  (if decide (x88 = x47) then (health_Checks_State_nil x44).bind fun x94 =>
  some (decide (x94 = x47)) else some false).bind fun x97 =>
  some x97)
   fun o27 =>
  if (!x27.2) then
  some false
  else
  (chk (script.length ≤ lim)).bind fun _ =>
  (law32_HealthSteady_L0b script 0 o27).bind fun t0 =>
  (law32_name s.Node).bind fun x44 =>
  (health_Checks_State t0 x44).bind fun x47 =>
  if decide (x47 = 0) then
  some true
  else
  (chk (InI (1 + (Int.tmod (s.What.toNat : Int) 5)))).bind fun _ =>
  (chk (InI (1 + (Int.tmod (s.What.toNat : Int) 5)))).bind fun _ =>
  (law32_HealthSteady_L2b x44 x47 (1 + (Int.tmod (s.What.toNat : Int) 5)).toNat 0 t0).bind fun s2 => s2.el some fun t2 =>
  (base_Clip x.Rise 1 100).bind fun x68 =>
  if decide (x47 = 1) then
  (base_Clip x.Fall 1 100).bind fun x72 =>
  (chk (InI (x72 - 1))).bind fun _ =>
  (chk (InI (x72 - 1))).bind fun _ =>
  (law32_HealthSteady_L4b x44 x47 (x72 - 1).toNat 0 t2).bind fun s4 => s4.el some fun t4 =>
  (health_Checks_Report t4 x44 (decide (x47 = 1))).bind fun x88 =>
  (if decide (x88.1 = x47) then (health_Checks_State x88.2 x44).bind fun x94 =>
  some (decide (x94 = x47)) else some false).bind fun x97 =>
  some x97
  else
  (chk (InI (x68 - 1))).bind fun _ =>
  (chk (InI (x68 - 1))).bind fun _ =>
  (law32_HealthSteady_L4b x44 x47 (x68 - 1).toNat 0 t2).bind fun s4 => s4.el some fun t4 =>
  (health_Checks_Report t4 x44 (decide (x47 = 1))).bind fun x88 =>
  (if decide (x88.1 = x47) then (health_Checks_State x88.2 x44).bind fun x94 =>
  some (decide (x94 = x47)) else some false).bind fun x97 =>
  some x97
set_option maxHeartbeats 8000000 in
theorem law32_HealthSteady_ok {x : S_law32_Limits} {script : (List S_law32_Step)} {s : S_law32_Step} {ap1_0 : Option Addr} {cp1_0 : Nat} {n1 : Nat} {K : Hp} {r : Bool}
    (hm : law32_HealthSteady x script s = some r) (hp1_0 : RdC S_law32_Step.enc K ap1_0 cp1_0 2 script) (en1 : n1 = script.length) :
    Fn Try.prog 4 [.agg #[.int .i64 x.Rise, .int .i64 x.Fall], .slice ap1_0 n1 cp1_0, .agg #[.int .u8 (s.What.toNat : Int), .int .u8 (s.Node.toNat : Int)]] K [] (fun v K' H' => v = .bool r ∧ H' = []) := by
  subst en1
  refine Fn.enter Try.func4 Try.call4 rfl fun F => ?_
  unfold law32_HealthSteady at hm
  conv => whnf
  refine box_rule ?_
  intro b3
  conv => whnf
  refine box_rule ?_
  intro b5
  conv => whnf
  refine RStep.of (len_slice rfl ?_)
  obtain ⟨x21, e21, hm⟩ := bnd hm
  conv => whnf
  refine cond_s (fun g18_1 => ?_) (fun g18_1 => ?_)
  · replace e21 := ift g18_1 e21
    conv => whnf
    refine cond_t g18_1 ?_
    conv => whnf
    refine cond_t g18_1 ?_
    conv => whnf
    refine cond_go rfl ?_
    conv => whnf
    refine cond_T ?_
    replace hm := ift (si e21).symm hm
    conv => whnf
    refine RStep.of (len_slice rfl ?_)
    obtain rfl := si hm
    conv => whnf
    refine EndStep.mk _ (Hp.Le.refl _) ⟨rfl, rfl⟩ (ConvH.of (.cons r2 .nil))
  · replace e21 := iff_ g18_1 e21
    obtain ⟨x19, q19, e21⟩ := bnd e21
    conv => whnf
    refine call_fn (law32_awake_ok q19) .nil ?_
    rintro _ K19 _ l19 ⟨rfl, rfl⟩
    conv => whnf
    refine cond_f g18_1 ?_
    conv => whnf
    refine un_not ?_
    conv => whnf
    refine cond_f g18_1 ?_
    conv => whnf
    refine cond_go rfl ?_
    conv => whnf
    refine cond_s (fun w21 => ?_) (fun w21 => ?_)
    · replace hm := ift ((si e21).symm.trans (not_t (ni_t w21))) hm
      conv => whnf
      refine RStep.of (len_slice rfl ?_)
      obtain rfl := si hm
      conv => whnf
      refine EndStep.mk _ l19 ⟨rfl, rfl⟩ (ConvH.of (.cons r2 .nil))
    · replace hm := iff_ ((si e21).symm.trans (not_f (ni_f w21))) hm
      conv => whnf
      refine RStep.of (loadn_s r1 rfl (Nat.le_of_ble_eq_true rfl) ?_)
      obtain ⟨x27, q27, hm⟩ := bnd hm
      conv => whnf
      refine call_fn (law32_made_ok q27) .nil ?_
      rintro v27 K27 H27 l27 p27
      rcases hq27 : x27.1 with _ | o27
      · rw [hq27] at p27 hm
        obtain ⟨rfl, rfl⟩ := p27
        replace hm := oe_n hm
        conv => whnf
        refine un_not ?_
        conv => whnf
        refine cond_go rfl ?_
        conv => whnf
        refine cond_s (fun w31 => ?_) (fun w31 => ?_)
        · replace hm := ift (not_t (ni_t w31)) hm
          obtain rfl := si hm
          conv => whnf
          refine EndStep.mk _ (l19.trans l27) ⟨rfl, rfl⟩ (ConvH.of (.cons r2 .nil))
        · replace hm := iff_ (not_f (ni_f w31)) hm
          conv => whnf
          refine RStep.of (len_slice rfl ?_)
          obtain ⟨hk0, hm⟩ := chkb hm
          obtain ⟨s0, hl0, hm⟩ := bnd hm
          conv => whnf
          refine code_cut (σ := (Unit)) [10, 34, 35, 36, 37, 38, 39, 40, 41] (fun t0 => []) (fun t0 => [Cells b5 34 [.int .u8 (s.What.toNat : Int), .int .u8 (s.Node.toNat : Int)], Cells b3 31 [.int .i64 x.Rise, .int .i64 x.Fall], F]) (fun zz K1 => match zz with | t0 => t0 = s0) ?_ ?_
          · refine block_go rfl ?_
            conv => whnf
            refine loop_rule (σ := Nat) [10, 34, 35, 36, 37, 38, 39, 40, 41] (fun i0 => [(34, .int .i64 (i0 : Int))]) (fun i0 => [Cells b5 34 [.int .u8 (s.What.toNat : Int), .int .u8 (s.Node.toNat : Int)], Cells b3 31 [.int .i64 x.Rise, .int .i64 x.Fall], F]) (fun zz K1 => match zz with | i0 => law32_HealthSteady_L0 (script.drop i0) i0 = some s0) (fun zz => script.length - zz) (0) rfl ⟨rfl, trivial⟩ (ConvH.of (.cons r0 (.cons r0 (.cons r0 .nil)))) hl0 ?_
            clear hl0
            rintro i0 Kb0 lk0 hl0 j0
            conv at hl0 => whnf
            conv => whnf
            refine cond_go rfl ?_
            conv => whnf
            refine cond_s (fun w0 => ?_) (fun w0 => ?_)
            · obtain ⟨e0, hx0, hd0⟩ := ltx w0
              rw [hd0, law32_HealthSteady_L0.eq_2] at hl0
              conv => whnf
              refine block_go rfl ?_
              conv => whnf
              refine RStep.ofN (index_addr rfl rfl (hasK (hp1_0.mono ((l19.trans l27).trans lk0)).rd hx0) (nn _) (lt_ofN hx0) ?_)
              conv => whnf
              refine RStep.of (load_rd_agg i0 _ (hp1_0.mono ((l19.trans l27).trans lk0)).rd rfl (mp hx0) rfl ?_)
              conv => whnf
              refine alloc_rule rfl ?_
              intro b10
              conv => whnf
              refine store_rule r0 rfl ?_
              conv => whnf
              refine ⟨rfl, rfl, (Nat.le_of_ble_eq_true rfl), ?_⟩
              conv => whnf
              refine RStep.of (loadn_s r0 rfl (Nat.le_of_ble_eq_true rfl) ?_)
              obtain ⟨x40, q40, hl0⟩ := bnd hl0
              conv => whnf
              refine call_fn (law32_play_nil_ok q40) .nil ?_
              rintro _ K40 _ l40 ⟨rfl, rfl⟩
              conv => whnf
              refine int_in (cnt hx0 hk0) ?_
              conv => whnf
              refine RoundStep.mk (i0 + 1) ⟨rfl, trivial⟩ (by repeat (first | exact trivial | refine And.intro rfl ?_)) (ConvH.of (.cons r1 (.cons r1 (.cons r1 .nil)))) (lk0.trans l40) (ltm hx0) hl0
            · rw [lty w0, law32_HealthSteady_L0.eq_1] at hl0
              conv => whnf
              refine cond_T ?_
              conv => whnf
              refine MeetStep.mk (()) trivial (by repeat (first | exact trivial | refine And.intro rfl ?_)) (ConvH.of (.cons r0 (.cons r0 (.cons r0 .nil)))) lk0 (si hl0)
          · rintro t0 Kt0 lt0 rfl j0
            conv => whnf
            refine field_addr rfl ?_
            conv => whnf
            refine RStep.of (load1_s r0 rfl rfl ?_)
            obtain ⟨x44, q44, hm⟩ := bnd hm
            conv => whnf
            refine call_fn (law32_name_ok q44) .nil ?_
            rintro _ K44 _ l44 ⟨rfl, rfl⟩
            obtain ⟨x47, q47, hm⟩ := bnd hm
            conv => whnf
            refine call_fn (health_Checks_State_nil_ok q47) .nil ?_
            rintro _ K47 _ l47 ⟨rfl, rfl⟩
            conv => whnf
            refine eq_int ?_
            conv => whnf
            refine cond_go rfl ?_
            conv => whnf
            refine cond_s (fun w49 => ?_) (fun w49 => ?_)
            · replace hm := ift w49 hm
              obtain rfl := si hm
              conv => whnf
              refine EndStep.mk _ ((((l19.trans l27).trans lt0).trans l44).trans l47) ⟨rfl, rfl⟩ (ConvH.of (.cons r2 .nil))
            · replace hm := iff_ w49 hm
              conv => whnf
              refine eq_int ?_
              conv => whnf
              refine field_addr rfl ?_
              conv => whnf
              refine RStep.of (load1_s r0 rfl rfl ?_)
              conv => whnf
              refine conv_int rfl rfl (u8in s.What) ?_
              conv => whnf
              refine rem_t (by decide) ?_
              obtain ⟨h56, hm⟩ := chkb hm
              conv => whnf
              refine int_in h56 ?_
              obtain ⟨hk2, hm⟩ := chkb hm
              obtain ⟨s2, hl2, hm⟩ := bnd hm
              conv => whnf
              refine code_cut (σ := (Unit)) [6, 57, 58, 59, 60, 61, 62, 63, 64, 65] (fun t2 => []) (fun t2 => [Cells b5 34 [.int .u8 (s.What.toNat : Int), .int .u8 (s.Node.toNat : Int)], Cells b3 31 [.int .i64 x.Rise, .int .i64 x.Fall], F]) (fun zz K1 => match zz with | t2 => s2 = Fl.go t2) ?_ ?_
              · refine block_go rfl ?_
                conv => whnf
                refine loop_rule (σ := Nat) [6, 57, 58, 59, 60, 61, 62, 63, 64, 65] (fun i2 => [(57, .int .i64 (i2 : Int))]) (fun i2 => [Cells b5 34 [.int .u8 (s.What.toNat : Int), .int .u8 (s.Node.toNat : Int)], Cells b3 31 [.int .i64 x.Rise, .int .i64 x.Fall], F]) (fun zz K1 => match zz with | i2 => law32_HealthSteady_L2 x44 x47 ((1 + (Int.tmod (s.What.toNat : Int) 5)).toNat - i2) i2 = some s2) (fun zz => (1 + (Int.tmod (s.What.toNat : Int) 5)).toNat - zz) (0) rfl ⟨rfl, trivial⟩ (ConvH.of (.cons r0 (.cons r0 (.cons r0 .nil)))) hl2 ?_
                clear hl2
                rintro i2 Kb2 lk2 hl2 j2
                conv at hl2 => whnf
                conv => whnf
                refine cond_go rfl ?_
                conv => whnf
                refine cond_s (fun w2 => ?_) (fun w2 => ?_)
                · rw [ltn w2, law32_HealthSteady_L2.eq_2] at hl2
                  conv => whnf
                  refine block_go rfl ?_
                  obtain ⟨x62, q62, hl2⟩ := bnd hl2
                  conv => whnf
                  refine call_fn (health_Checks_Report_nil_ok q62) .nil ?_
                  rintro _ K62 _ l62 ⟨rfl, rfl⟩
                  conv => whnf
                  refine neq_int ?_
                  conv => whnf
                  refine cond_go rfl ?_
                  conv => whnf
                  refine cond_s (fun w64 => ?_) (fun w64 => ?_)
                  · replace hl2 := ift w64 hl2
                    obtain rfl := si hl2
                    replace hm := elr hm
                    obtain rfl := si hm
                    conv => whnf
                    refine EndStep.mk _ ((((((l19.trans l27).trans lt0).trans l44).trans l47).trans lk2).trans l62) ⟨rfl, rfl⟩ (ConvH.of (.cons r2 .nil))
                  · replace hl2 := iff_ w64 hl2
                    conv => whnf
                    refine int_in (cntn w2 hk2) ?_
                    conv => whnf
                    refine RoundStep.mk (i2 + 1) ⟨rfl, trivial⟩ (by repeat (first | exact trivial | refine And.intro rfl ?_)) (ConvH.of (.cons r0 (.cons r0 (.cons r0 .nil)))) (lk2.trans l62) (ltnm w2) hl2
                · rw [lto w2, law32_HealthSteady_L2.eq_1] at hl2
                  conv => whnf
                  refine cond_T ?_
                  conv => whnf
                  refine MeetStep.mk (()) trivial (by repeat (first | exact trivial | refine And.intro rfl ?_)) (ConvH.of (.cons r0 (.cons r0 (.cons r0 .nil)))) lk2 (si hl2).symm
              · rintro t2 Kt2 lt2 rfl j2
                replace hm := elg hm
                conv => whnf
                refine field_addr rfl ?_
                conv => whnf
                refine RStep.of (load1_s r1 rfl rfl ?_)
                obtain ⟨x68, q68, hm⟩ := bnd hm
                conv => whnf
                refine call_fn (base_Clip_ok q68) .nil ?_
                rintro _ K68 _ l68 ⟨rfl, rfl⟩
                conv => whnf
                refine cond_go rfl ?_
                conv => whnf
                refine cond_s (fun w69 => ?_) (fun w69 => ?_)
                · replace hm := ift w69 hm
                  conv => whnf
                  refine field_addr rfl ?_
                  conv => whnf
                  refine RStep.of (load1_s r1 rfl rfl ?_)
                  obtain ⟨x72, q72, hm⟩ := bnd hm
                  conv => whnf
                  refine call_fn (base_Clip_ok q72) .nil ?_
                  rintro _ K72 _ l72 ⟨rfl, rfl⟩
                  obtain ⟨h74, hm⟩ := chkb hm
                  conv => whnf
                  refine int_in h74 ?_
                  obtain ⟨hk4, hm⟩ := chkb hm
                  obtain ⟨s4, hl4, hm⟩ := bnd hm
                  conv => whnf
                  refine code_cut (σ := (Unit)) [6, 75, 76, 77, 78, 79, 80, 81, 82, 83, 84] (fun t4 => []) (fun t4 => [Cells b5 34 [.int .u8 (s.What.toNat : Int), .int .u8 (s.Node.toNat : Int)], Cells b3 31 [.int .i64 x.Rise, .int .i64 x.Fall], F]) (fun zz K1 => match zz with | t4 => s4 = Fl.go t4) ?_ ?_
                  · refine block_go rfl ?_
                    conv => whnf
                    refine loop_rule (σ := Nat) [6, 75, 76, 77, 78, 79, 80, 81, 82, 83, 84] (fun i4 => [(75, .int .i64 (i4 : Int))]) (fun i4 => [Cells b5 34 [.int .u8 (s.What.toNat : Int), .int .u8 (s.Node.toNat : Int)], Cells b3 31 [.int .i64 x.Rise, .int .i64 x.Fall], F]) (fun zz K1 => match zz with | i4 => law32_HealthSteady_L4 x44 x47 ((x72 - 1).toNat - i4) i4 = some s4) (fun zz => (x72 - 1).toNat - zz) (0) rfl ⟨rfl, trivial⟩ (ConvH.of (.cons r0 (.cons r0 (.cons r0 .nil)))) hl4 ?_
                    clear hl4
                    rintro i4 Kb4 lk4 hl4 j4
                    conv at hl4 => whnf
                    conv => whnf
                    refine cond_go rfl ?_
                    conv => whnf
                    refine cond_s (fun w4 => ?_) (fun w4 => ?_)
                    · rw [ltn w4, law32_HealthSteady_L4.eq_2] at hl4
                      conv => whnf
                      refine block_go rfl ?_
                      conv => whnf
                      refine un_not ?_
                      obtain ⟨x81, q81, hl4⟩ := bnd hl4
                      conv => whnf
                      refine call_fn (health_Checks_Report_nil_ok q81) .nil ?_
                      rintro _ K81 _ l81 ⟨rfl, rfl⟩
                      conv => whnf
                      refine neq_int ?_
                      conv => whnf
                      refine cond_go rfl ?_
                      conv => whnf
                      refine cond_s (fun w83 => ?_) (fun w83 => ?_)
                      · replace hl4 := ift w83 hl4
                        obtain rfl := si hl4
                        replace hm := elr hm
                        obtain rfl := si hm
                        conv => whnf
                        refine EndStep.mk _ (((((((((l19.trans l27).trans lt0).trans l44).trans l47).trans lt2).trans l68).trans l72).trans lk4).trans l81) ⟨rfl, rfl⟩ (ConvH.of (.cons r2 .nil))
                      · replace hl4 := iff_ w83 hl4
                        conv => whnf
                        refine int_in (cntn w4 hk4) ?_
                        conv => whnf
                        refine RoundStep.mk (i4 + 1) ⟨rfl, trivial⟩ (by repeat (first | exact trivial | refine And.intro rfl ?_)) (ConvH.of (.cons r0 (.cons r0 (.cons r0 .nil)))) (lk4.trans l81) (ltnm w4) hl4
                    · rw [lto w4, law32_HealthSteady_L4.eq_1] at hl4
                      conv => whnf
                      refine cond_T ?_
                      conv => whnf
                      refine MeetStep.mk (()) trivial (by repeat (first | exact trivial | refine And.intro rfl ?_)) (ConvH.of (.cons r0 (.cons r0 (.cons r0 .nil)))) lk4 (si hl4).symm
                  · rintro t4 Kt4 lt4 rfl j4
                    replace hm := elg hm
                    obtain ⟨x88, q88, hm⟩ := bnd hm
                    conv => whnf
                    refine call_fn (health_Checks_Report_nil_ok q88) .nil ?_
                    rintro _ K88 _ l88 ⟨rfl, rfl⟩
                    conv => whnf
                    refine eq_int ?_
                    obtain ⟨x97, e97, hm⟩ := bnd hm
                    conv => whnf
                    refine cond_s (fun g91_29 => ?_) (fun g91_29 => ?_)
                    · replace e97 := ift g91_29 e97
                      conv => whnf
                      refine cond_t g91_29 ?_
                      conv => whnf
                      refine cond_t g91_29 ?_
                      obtain ⟨x94, q94, e97⟩ := bnd e97
                      conv => whnf
                      refine call_fn (health_Checks_State_nil_ok q94) .nil ?_
                      rintro _ K94 _ l94 ⟨rfl, rfl⟩
                      conv => whnf
                      refine cond_t g91_29 ?_
                      conv => whnf
                      refine cond_t g91_29 ?_
                      conv => whnf
                      refine eq_int ?_
                      conv => whnf
                      refine cond_t g91_29 ?_
                      obtain rfl := si hm
                      conv => whnf
                      refine EndStep.mk _ ((((((((((l19.trans l27).trans lt0).trans l44).trans l47).trans lt2).trans l68).trans l72).trans lt4).trans l88).trans l94) ⟨(by rw [← (si e97)] <;> rfl), rfl⟩ (ConvH.of (.cons r2 .nil))
                    · replace e97 := iff_ g91_29 e97
                      conv => whnf
                      refine cond_f g91_29 ?_
                      conv => whnf
                      refine cond_f g91_29 ?_
                      conv => whnf
                      refine cond_f g91_29 ?_
                      conv => whnf
                      refine cond_f g91_29 ?_
                      conv => whnf
                      refine cond_f g91_29 ?_
                      obtain rfl := si hm
                      conv => whnf
                      refine EndStep.mk _ (((((((((l19.trans l27).trans lt0).trans l44).trans l47).trans lt2).trans l68).trans l72).trans lt4).trans l88) ⟨(by rw [← ((si e97).symm).symm] <;> rfl), rfl⟩ (ConvH.of (.cons r2 .nil))
                · replace hm := iff_ w69 hm
                  obtain ⟨h74, hm⟩ := chkb hm
                  conv => whnf
                  refine int_in h74 ?_
                  obtain ⟨hk4, hm⟩ := chkb hm
                  obtain ⟨s4, hl4, hm⟩ := bnd hm
                  conv => whnf
                  refine code_cut (σ := (Unit)) [6, 75, 76, 77, 78, 79, 80, 81, 82, 83, 84] (fun t4 => []) (fun t4 => [Cells b5 34 [.int .u8 (s.What.toNat : Int), .int .u8 (s.Node.toNat : Int)], Cells b3 31 [.int .i64 x.Rise, .int .i64 x.Fall], F]) (fun zz K1 => match zz with | t4 => s4 = Fl.go t4) ?_ ?_
                  · refine block_go rfl ?_
                    conv => whnf
                    refine loop_rule (σ := Nat) [6, 75, 76, 77, 78, 79, 80, 81, 82, 83, 84] (fun i4 => [(75, .int .i64 (i4 : Int))]) (fun i4 => [Cells b5 34 [.int .u8 (s.What.toNat : Int), .int .u8 (s.Node.toNat : Int)], Cells b3 31 [.int .i64 x.Rise, .int .i64 x.Fall], F]) (fun zz K1 => match zz with | i4 => law32_HealthSteady_L4 x44 x47 ((x68 - 1).toNat - i4) i4 = some s4) (fun zz => (x68 - 1).toNat - zz) (0) rfl ⟨rfl, trivial⟩ (ConvH.of (.cons r0 (.cons r0 (.cons r0 .nil)))) hl4 ?_
                    clear hl4
                    rintro i4 Kb4 lk4 hl4 j4
                    conv at hl4 => whnf
                    conv => whnf
                    refine cond_go rfl ?_
                    conv => whnf
                    refine cond_s (fun w4 => ?_) (fun w4 => ?_)
                    · rw [ltn w4, law32_HealthSteady_L4.eq_2] at hl4
                      conv => whnf
                      refine block_go rfl ?_
                      conv => whnf
                      refine un_not ?_
                      obtain ⟨x81, q81, hl4⟩ := bnd hl4
                      conv => whnf
                      refine call_fn (health_Checks_Report_nil_ok q81) .nil ?_
                      rintro _ K81 _ l81 ⟨rfl, rfl⟩
                      conv => whnf
                      refine neq_int ?_
                      conv => whnf
                      refine cond_go rfl ?_
                      conv => whnf
                      refine cond_s (fun w83 => ?_) (fun w83 => ?_)
                      · replace hl4 := ift w83 hl4
                        obtain rfl := si hl4
                        replace hm := elr hm
                        obtain rfl := si hm
                        conv => whnf
                        refine EndStep.mk _ ((((((((l19.trans l27).trans lt0).trans l44).trans l47).trans lt2).trans l68).trans lk4).trans l81) ⟨rfl, rfl⟩ (ConvH.of (.cons r2 .nil))
                      · replace hl4 := iff_ w83 hl4
                        conv => whnf
                        refine int_in (cntn w4 hk4) ?_
                        conv => whnf
                        refine RoundStep.mk (i4 + 1) ⟨rfl, trivial⟩ (by repeat (first | exact trivial | refine And.intro rfl ?_)) (ConvH.of (.cons r0 (.cons r0 (.cons r0 .nil)))) (lk4.trans l81) (ltnm w4) hl4
                    · rw [lto w4, law32_HealthSteady_L4.eq_1] at hl4
                      conv => whnf
                      refine cond_T ?_
                      conv => whnf
                      refine MeetStep.mk (()) trivial (by repeat (first | exact trivial | refine And.intro rfl ?_)) (ConvH.of (.cons r0 (.cons r0 (.cons r0 .nil)))) lk4 (si hl4).symm
                  · rintro t4 Kt4 lt4 rfl j4
                    replace hm := elg hm
                    obtain ⟨x88, q88, hm⟩ := bnd hm
                    conv => whnf
                    refine call_fn (health_Checks_Report_nil_ok q88) .nil ?_
                    rintro _ K88 _ l88 ⟨rfl, rfl⟩
                    conv => whnf
                    refine eq_int ?_
                    obtain ⟨x97, e97, hm⟩ := bnd hm
                    conv => whnf
                    refine cond_s (fun g91_29 => ?_) (fun g91_29 => ?_)
                    · replace e97 := ift g91_29 e97
                      conv => whnf
                      refine cond_t g91_29 ?_
                      conv => whnf
                      refine cond_t g91_29 ?_
                      obtain ⟨x94, q94, e97⟩ := bnd e97
                      conv => whnf
                      refine call_fn (health_Checks_State_nil_ok q94) .nil ?_
                      rintro _ K94 _ l94 ⟨rfl, rfl⟩
                      conv => whnf
                      refine cond_t g91_29 ?_
                      conv => whnf
                      refine cond_t g91_29 ?_
                      conv => whnf
                      refine eq_int ?_
                      conv => whnf
                      refine cond_t g91_29 ?_
                      obtain rfl := si hm
                      conv => whnf
                      refine EndStep.mk _ (((((((((l19.trans l27).trans lt0).trans l44).trans l47).trans lt2).trans l68).trans lt4).trans l88).trans l94) ⟨(by rw [← (si e97)] <;> rfl), rfl⟩ (ConvH.of (.cons r2 .nil))
                    · replace e97 := iff_ g91_29 e97
                      conv => whnf
                      refine cond_f g91_29 ?_
                      conv => whnf
                      refine cond_f g91_29 ?_
                      conv => whnf
                      refine cond_f g91_29 ?_
                      conv => whnf
                      refine cond_f g91_29 ?_
                      conv => whnf
                      refine cond_f g91_29 ?_
                      obtain rfl := si hm
                      conv => whnf
                      refine EndStep.mk _ ((((((((l19.trans l27).trans lt0).trans l44).trans l47).trans lt2).trans l68).trans lt4).trans l88) ⟨(by rw [← ((si e97).symm).symm] <;> rfl), rfl⟩ (ConvH.of (.cons r2 .nil))
      · rw [hq27] at p27 hm
        obtain ⟨b27_0, m27_1, m27_2, rfl, rfl⟩ := p27
        replace hm := oe_s hm
        conv => whnf
        refine un_not ?_
        conv => whnf
        refine cond_go rfl ?_
        conv => whnf
        refine cond_s (fun w31 => ?_) (fun w31 => ?_)
        · replace hm := ift (not_t (ni_t w31)) hm
          obtain rfl := si hm
          conv => whnf
          refine EndStep.mk _ (l19.trans l27) ⟨rfl, rfl⟩ (ConvH.of (.cons r5 .nil))
        · replace hm := iff_ (not_f (ni_f w31)) hm
          conv => whnf
          refine RStep.of (len_slice rfl ?_)
          obtain ⟨hk0, hm⟩ := chkb hm
          obtain ⟨s0, hl0, hm⟩ := bnd hm
          conv => whnf
          refine code_cut (σ := (S_health_Checks) × Nat × Nat) [10, 34, 35, 36, 37, 38, 39, 40, 41] (fun (t0, mt0_0_0, mt0_0_1) => []) (fun (t0, mt0_0_0, mt0_0_1) => [Cells b27_0 64 [.int .i64 t0.rise, .int .i64 t0.fall, .map (some mt0_0_0), .map (some mt0_0_1)], MapE strK (fun x => .agg (S_health_status.enc x).toArray) mt0_0_0 t0.nodes, MapE strK (fun x => .bool x) mt0_0_1 t0.drained, Cells b5 34 [.int .u8 (s.What.toNat : Int), .int .u8 (s.Node.toNat : Int)], Cells b3 31 [.int .i64 x.Rise, .int .i64 x.Fall], F]) (fun zz K1 => match zz with | (t0, mt0_0_0, mt0_0_1) => t0 = s0) ?_ ?_
          · refine block_go rfl ?_
            conv => whnf
            refine loop_rule (σ := Nat × S_health_Checks × Nat × Nat) [10, 34, 35, 36, 37, 38, 39, 40, 41] (fun (i0, y0_0, my0_0_0, my0_0_1) => [(34, .int .i64 (i0 : Int))]) (fun (i0, y0_0, my0_0_0, my0_0_1) => [Cells b27_0 64 [.int .i64 y0_0.rise, .int .i64 y0_0.fall, .map (some my0_0_0), .map (some my0_0_1)], MapE strK (fun x => .agg (S_health_status.enc x).toArray) my0_0_0 y0_0.nodes, MapE strK (fun x => .bool x) my0_0_1 y0_0.drained, Cells b5 34 [.int .u8 (s.What.toNat : Int), .int .u8 (s.Node.toNat : Int)], Cells b3 31 [.int .i64 x.Rise, .int .i64 x.Fall], F]) (fun zz K1 => match zz with | (i0, y0_0, my0_0_0, my0_0_1) => law32_HealthSteady_L0b (script.drop i0) i0 y0_0 = some s0) (fun zz => script.length - zz.1) (0, o27, m27_1, m27_2) rfl ⟨rfl, trivial⟩ (ConvH.of (.cons r0 (.cons r0 (.cons r0 (.cons r0 (.cons r0 (.cons r0 .nil))))))) hl0 ?_
            clear hl0
            rintro ⟨i0, y0_0, my0_0_0, my0_0_1⟩ Kb0 lk0 hl0 j0
            conv at hl0 => whnf
            conv => whnf
            refine cond_go rfl ?_
            conv => whnf
            refine cond_s (fun w0 => ?_) (fun w0 => ?_)
            · obtain ⟨e0, hx0, hd0⟩ := ltx w0
              rw [hd0, law32_HealthSteady_L0b.eq_2] at hl0
              conv => whnf
              refine block_go rfl ?_
              conv => whnf
              refine RStep.ofN (index_addr rfl rfl (hasK (hp1_0.mono ((l19.trans l27).trans lk0)).rd hx0) (nn _) (lt_ofN hx0) ?_)
              conv => whnf
              refine RStep.of (load_rd_agg i0 _ (hp1_0.mono ((l19.trans l27).trans lk0)).rd rfl (mp hx0) rfl ?_)
              conv => whnf
              refine alloc_rule rfl ?_
              intro b10
              conv => whnf
              refine store_rule r0 rfl ?_
              conv => whnf
              refine ⟨rfl, rfl, (Nat.le_of_ble_eq_true rfl), ?_⟩
              conv => whnf
              refine RStep.of (loadn_s r0 rfl (Nat.le_of_ble_eq_true rfl) ?_)
              obtain ⟨x40, q40, hl0⟩ := bnd hl0
              conv => whnf
              refine call_fn (law32_play_ok q40) (.cons r1 (.cons r1 (.cons r1 .nil))) ?_
              rintro _ K40 _ l40 ⟨m40_0, m40_1, rfl, rfl⟩
              conv => whnf
              refine int_in (cnt hx0 hk0) ?_
              conv => whnf
              refine RoundStep.mk (i0 + 1, x40, m40_0, m40_1) ⟨rfl, trivial⟩ (by repeat (first | exact trivial | refine And.intro rfl ?_)) (ConvH.of (.cons r0 (.cons r0 (.cons r0 (.cons r1 (.cons r1 (.cons r1 .nil))))))) (lk0.trans l40) (ltm hx0) hl0
            · rw [lty w0, law32_HealthSteady_L0b.eq_1] at hl0
              conv => whnf
              refine cond_T ?_
              conv => whnf
              refine MeetStep.mk (y0_0, my0_0_0, my0_0_1) trivial (by repeat (first | exact trivial | refine And.intro rfl ?_)) (ConvH.of (.cons r0 (.cons r0 (.cons r0 (.cons r0 (.cons r0 (.cons r0 .nil))))))) lk0 (si hl0)
          · rintro ⟨t0, mt0_0_0, mt0_0_1⟩ Kt0 lt0 rfl j0
            conv => whnf
            refine field_addr rfl ?_
            conv => whnf
            refine RStep.of (load1_s r3 rfl rfl ?_)
            obtain ⟨x44, q44, hm⟩ := bnd hm
            conv => whnf
            refine call_fn (law32_name_ok q44) .nil ?_
            rintro _ K44 _ l44 ⟨rfl, rfl⟩
            obtain ⟨x47, q47, hm⟩ := bnd hm
            conv => whnf
            refine call_fn (health_Checks_State_ok q47) (.cons r0 (.cons r0 (.cons r0 .nil))) ?_
            rintro _ K47 _ l47 ⟨rfl, rfl⟩
            conv => whnf
            refine eq_int ?_
            conv => whnf
            refine cond_go rfl ?_
            conv => whnf
            refine cond_s (fun w49 => ?_) (fun w49 => ?_)
            · replace hm := ift w49 hm
              obtain rfl := si hm
              conv => whnf
              refine EndStep.mk _ ((((l19.trans l27).trans lt0).trans l44).trans l47) ⟨rfl, rfl⟩ (ConvH.of (.cons r5 .nil))
            · replace hm := iff_ w49 hm
              conv => whnf
              refine eq_int ?_
              conv => whnf
              refine field_addr rfl ?_
              conv => whnf
              refine RStep.of (load1_s r3 rfl rfl ?_)
              conv => whnf
              refine conv_int rfl rfl (u8in s.What) ?_
              conv => whnf
              refine rem_t (by decide) ?_
              obtain ⟨h56, hm⟩ := chkb hm
              conv => whnf
              refine int_in h56 ?_
              obtain ⟨hk2, hm⟩ := chkb hm
              obtain ⟨s2, hl2, hm⟩ := bnd hm
              conv => whnf
              refine code_cut (σ := (S_health_Checks) × Nat × Nat) [6, 57, 58, 59, 60, 61, 62, 63, 64, 65] (fun (t2, mt2_0_0, mt2_0_1) => []) (fun (t2, mt2_0_0, mt2_0_1) => [Cells b27_0 64 [.int .i64 t2.rise, .int .i64 t2.fall, .map (some mt2_0_0), .map (some mt2_0_1)], MapE strK (fun x => .agg (S_health_status.enc x).toArray) mt2_0_0 t2.nodes, MapE strK (fun x => .bool x) mt2_0_1 t2.drained, Cells b5 34 [.int .u8 (s.What.toNat : Int), .int .u8 (s.Node.toNat : Int)], Cells b3 31 [.int .i64 x.Rise, .int .i64 x.Fall], F]) (fun zz K1 => match zz with | (t2, mt2_0_0, mt2_0_1) => s2 = Fl.go t2) ?_ ?_
              · refine block_go rfl ?_
                conv => whnf
                refine loop_rule (σ := Nat × S_health_Checks × Nat × Nat) [6, 57, 58, 59, 60, 61, 62, 63, 64, 65] (fun (i2, y2_0, my2_0_0, my2_0_1) => [(57, .int .i64 (i2 : Int))]) (fun (i2, y2_0, my2_0_0, my2_0_1) => [Cells b27_0 64 [.int .i64 y2_0.rise, .int .i64 y2_0.fall, .map (some my2_0_0), .map (some my2_0_1)], MapE strK (fun x => .agg (S_health_status.enc x).toArray) my2_0_0 y2_0.nodes, MapE strK (fun x => .bool x) my2_0_1 y2_0.drained, Cells b5 34 [.int .u8 (s.What.toNat : Int), .int .u8 (s.Node.toNat : Int)], Cells b3 31 [.int .i64 x.Rise, .int .i64 x.Fall], F]) (fun zz K1 => match zz with | (i2, y2_0, my2_0_0, my2_0_1) => law32_HealthSteady_L2b x44 x47 ((1 + (Int.tmod (s.What.toNat : Int) 5)).toNat - i2) i2 y2_0 = some s2) (fun zz => (1 + (Int.tmod (s.What.toNat : Int) 5)).toNat - zz.1) (0, t0, mt0_0_0, mt0_0_1) rfl ⟨rfl, trivial⟩ (ConvH.of (.cons r0 (.cons r0 (.cons r0 (.cons r0 (.cons r0 (.cons r0 .nil))))))) hl2 ?_
                clear hl2
                rintro ⟨i2, y2_0, my2_0_0, my2_0_1⟩ Kb2 lk2 hl2 j2
                conv at hl2 => whnf
                conv => whnf
                refine cond_go rfl ?_
                conv => whnf
                refine cond_s (fun w2 => ?_) (fun w2 => ?_)
                · rw [ltn w2, law32_HealthSteady_L2b.eq_2] at hl2
                  conv => whnf
                  refine block_go rfl ?_
                  obtain ⟨x62, q62, hl2⟩ := bnd hl2
                  conv => whnf
                  refine call_fn (health_Checks_Report_ok q62) (.cons r0 (.cons r0 (.cons r0 .nil))) ?_
                  rintro _ K62 _ l62 ⟨m62_0, m62_1, rfl, rfl⟩
                  conv => whnf
                  refine neq_int ?_
                  conv => whnf
                  refine cond_go rfl ?_
                  conv => whnf
                  refine cond_s (fun w64 => ?_) (fun w64 => ?_)
                  · replace hl2 := ift w64 hl2
                    obtain rfl := si hl2
                    replace hm := elr hm
                    obtain rfl := si hm
                    conv => whnf
                    refine EndStep.mk _ ((((((l19.trans l27).trans lt0).trans l44).trans l47).trans lk2).trans l62) ⟨rfl, rfl⟩ (ConvH.of (.cons r5 .nil))
                  · replace hl2 := iff_ w64 hl2
                    conv => whnf
                    refine int_in (cntn w2 hk2) ?_
                    conv => whnf
                    refine RoundStep.mk (i2 + 1, x62.2, m62_0, m62_1) ⟨rfl, trivial⟩ (by repeat (first | exact trivial | refine And.intro rfl ?_)) (ConvH.of (.cons r0 (.cons r0 (.cons r0 (.cons r0 (.cons r0 (.cons r0 .nil))))))) (lk2.trans l62) (ltnm w2) hl2
                · rw [lto w2, law32_HealthSteady_L2b.eq_1] at hl2
                  conv => whnf
                  refine cond_T ?_
                  conv => whnf
                  refine MeetStep.mk (y2_0, my2_0_0, my2_0_1) trivial (by repeat (first | exact trivial | refine And.intro rfl ?_)) (ConvH.of (.cons r0 (.cons r0 (.cons r0 (.cons r0 (.cons r0 (.cons r0 .nil))))))) lk2 (si hl2).symm
              · rintro ⟨t2, mt2_0_0, mt2_0_1⟩ Kt2 lt2 rfl j2
                replace hm := elg hm
                conv => whnf
                refine field_addr rfl ?_
                conv => whnf
                refine RStep.of (load1_s r4 rfl rfl ?_)
                obtain ⟨x68, q68, hm⟩ := bnd hm
                conv => whnf
                refine call_fn (base_Clip_ok q68) .nil ?_
                rintro _ K68 _ l68 ⟨rfl, rfl⟩
                conv => whnf
                refine cond_go rfl ?_
                conv => whnf
                refine cond_s (fun w69 => ?_) (fun w69 => ?_)
                · replace hm := ift w69 hm
                  conv => whnf
                  refine field_addr rfl ?_
                  conv => whnf
                  refine RStep.of (load1_s r4 rfl rfl ?_)
                  obtain ⟨x72, q72, hm⟩ := bnd hm
                  conv => whnf
                  refine call_fn (base_Clip_ok q72) .nil ?_
                  rintro _ K72 _ l72 ⟨rfl, rfl⟩
                  obtain ⟨h74, hm⟩ := chkb hm
                  conv => whnf
                  refine int_in h74 ?_
                  obtain ⟨hk4, hm⟩ := chkb hm
                  obtain ⟨s4, hl4, hm⟩ := bnd hm
                  conv => whnf
                  refine code_cut (σ := (S_health_Checks) × Nat × Nat) [6, 75, 76, 77, 78, 79, 80, 81, 82, 83, 84] (fun (t4, mt4_0_0, mt4_0_1) => []) (fun (t4, mt4_0_0, mt4_0_1) => [Cells b27_0 64 [.int .i64 t4.rise, .int .i64 t4.fall, .map (some mt4_0_0), .map (some mt4_0_1)], MapE strK (fun x => .agg (S_health_status.enc x).toArray) mt4_0_0 t4.nodes, MapE strK (fun x => .bool x) mt4_0_1 t4.drained, Cells b5 34 [.int .u8 (s.What.toNat : Int), .int .u8 (s.Node.toNat : Int)], Cells b3 31 [.int .i64 x.Rise, .int .i64 x.Fall], F]) (fun zz K1 => match zz with | (t4, mt4_0_0, mt4_0_1) => s4 = Fl.go t4) ?_ ?_
                  · refine block_go rfl ?_
                    conv => whnf
                    refine loop_rule (σ := Nat × S_health_Checks × Nat × Nat) [6, 75, 76, 77, 78, 79, 80, 81, 82, 83, 84] (fun (i4, y4_0, my4_0_0, my4_0_1) => [(75, .int .i64 (i4 : Int))]) (fun (i4, y4_0, my4_0_0, my4_0_1) => [Cells b27_0 64 [.int .i64 y4_0.rise, .int .i64 y4_0.fall, .map (some my4_0_0), .map (some my4_0_1)], MapE strK (fun x => .agg (S_health_status.enc x).toArray) my4_0_0 y4_0.nodes, MapE strK (fun x => .bool x) my4_0_1 y4_0.drained, Cells b5 34 [.int .u8 (s.What.toNat : Int), .int .u8 (s.Node.toNat : Int)], Cells b3 31 [.int .i64 x.Rise, .int .i64 x.Fall], F]) (fun zz K1 => match zz with | (i4, y4_0, my4_0_0, my4_0_1) => law32_HealthSteady_L4b x44 x47 ((x72 - 1).toNat - i4) i4 y4_0 = some s4) (fun zz => (x72 - 1).toNat - zz.1) (0, t2, mt2_0_0, mt2_0_1) rfl ⟨rfl, trivial⟩ (ConvH.of (.cons r0 (.cons r0 (.cons r0 (.cons r0 (.cons r0 (.cons r0 .nil))))))) hl4 ?_
                    clear hl4
                    rintro ⟨i4, y4_0, my4_0_0, my4_0_1⟩ Kb4 lk4 hl4 j4
                    conv at hl4 => whnf
                    conv => whnf
                    refine cond_go rfl ?_
                    conv => whnf
                    refine cond_s (fun w4 => ?_) (fun w4 => ?_)
                    · rw [ltn w4, law32_HealthSteady_L4b.eq_2] at hl4
                      conv => whnf
                      refine block_go rfl ?_
                      conv => whnf
                      refine un_not ?_
                      obtain ⟨x81, q81, hl4⟩ := bnd hl4
                      conv => whnf
                      refine call_fn (health_Checks_Report_ok q81) (.cons r0 (.cons r0 (.cons r0 .nil))) ?_
                      rintro _ K81 _ l81 ⟨m81_0, m81_1, rfl, rfl⟩
                      conv => whnf
                      refine neq_int ?_
                      conv => whnf
                      refine cond_go rfl ?_
                      conv => whnf
                      refine cond_s (fun w83 => ?_) (fun w83 => ?_)
                      · replace hl4 := ift w83 hl4
                        obtain rfl := si hl4
                        replace hm := elr hm
                        obtain rfl := si hm
                        conv => whnf
                        refine EndStep.mk _ (((((((((l19.trans l27).trans lt0).trans l44).trans l47).trans lt2).trans l68).trans l72).trans lk4).trans l81) ⟨rfl, rfl⟩ (ConvH.of (.cons r5 .nil))
                      · replace hl4 := iff_ w83 hl4
                        conv => whnf
                        refine int_in (cntn w4 hk4) ?_
                        conv => whnf
                        refine RoundStep.mk (i4 + 1, x81.2, m81_0, m81_1) ⟨rfl, trivial⟩ (by repeat (first | exact trivial | refine And.intro rfl ?_)) (ConvH.of (.cons r0 (.cons r0 (.cons r0 (.cons r0 (.cons r0 (.cons r0 .nil))))))) (lk4.trans l81) (ltnm w4) hl4
                    · rw [lto w4, law32_HealthSteady_L4b.eq_1] at hl4
                      conv => whnf
                      refine cond_T ?_
                      conv => whnf
                      refine MeetStep.mk (y4_0, my4_0_0, my4_0_1) trivial (by repeat (first | exact trivial | refine And.intro rfl ?_)) (ConvH.of (.cons r0 (.cons r0 (.cons r0 (.cons r0 (.cons r0 (.cons r0 .nil))))))) lk4 (si hl4).symm
                  · rintro ⟨t4, mt4_0_0, mt4_0_1⟩ Kt4 lt4 rfl j4
                    replace hm := elg hm
                    obtain ⟨x88, q88, hm⟩ := bnd hm
                    conv => whnf
                    refine call_fn (health_Checks_Report_ok q88) (.cons r0 (.cons r0 (.cons r0 .nil))) ?_
                    rintro _ K88 _ l88 ⟨m88_0, m88_1, rfl, rfl⟩
                    conv => whnf
                    refine eq_int ?_
                    obtain ⟨x97, e97, hm⟩ := bnd hm
                    conv => whnf
                    refine cond_s (fun g91_29 => ?_) (fun g91_29 => ?_)
                    · replace e97 := ift g91_29 e97
                      conv => whnf
                      refine cond_t g91_29 ?_
                      conv => whnf
                      refine cond_t g91_29 ?_
                      obtain ⟨x94, q94, e97⟩ := bnd e97
                      conv => whnf
                      refine call_fn (health_Checks_State_ok q94) (.cons r0 (.cons r0 (.cons r0 .nil))) ?_
                      rintro _ K94 _ l94 ⟨rfl, rfl⟩
                      conv => whnf
                      refine cond_t g91_29 ?_
                      conv => whnf
                      refine cond_t g91_29 ?_
                      conv => whnf
                      refine eq_int ?_
                      conv => whnf
                      refine cond_t g91_29 ?_
                      obtain rfl := si hm
                      conv => whnf
                      refine EndStep.mk _ ((((((((((l19.trans l27).trans lt0).trans l44).trans l47).trans lt2).trans l68).trans l72).trans lt4).trans l88).trans l94) ⟨(by rw [← (si e97)] <;> rfl), rfl⟩ (ConvH.of (.cons r5 .nil))
                    · replace e97 := iff_ g91_29 e97
                      conv => whnf
                      refine cond_f g91_29 ?_
                      conv => whnf
                      refine cond_f g91_29 ?_
                      conv => whnf
                      refine cond_f g91_29 ?_
                      conv => whnf
                      refine cond_f g91_29 ?_
                      conv => whnf
                      refine cond_f g91_29 ?_
                      obtain rfl := si hm
                      conv => whnf
                      refine EndStep.mk _ (((((((((l19.trans l27).trans lt0).trans l44).trans l47).trans lt2).trans l68).trans l72).trans lt4).trans l88) ⟨(by rw [← ((si e97).symm).symm] <;> rfl), rfl⟩ (ConvH.of (.cons r5 .nil))
                · replace hm := iff_ w69 hm
                  obtain ⟨h74, hm⟩ := chkb hm
                  conv => whnf
                  refine int_in h74 ?_
                  obtain ⟨hk4, hm⟩ := chkb hm
                  obtain ⟨s4, hl4, hm⟩ := bnd hm
                  conv => whnf
                  refine code_cut (σ := (S_health_Checks) × Nat × Nat) [6, 75, 76, 77, 78, 79, 80, 81, 82, 83, 84] (fun (t4, mt4_0_0, mt4_0_1) => []) (fun (t4, mt4_0_0, mt4_0_1) => [Cells b27_0 64 [.int .i64 t4.rise, .int .i64 t4.fall, .map (some mt4_0_0), .map (some mt4_0_1)], MapE strK (fun x => .agg (S_health_status.enc x).toArray) mt4_0_0 t4.nodes, MapE strK (fun x => .bool x) mt4_0_1 t4.drained, Cells b5 34 [.int .u8 (s.What.toNat : Int), .int .u8 (s.Node.toNat : Int)], Cells b3 31 [.int .i64 x.Rise, .int .i64 x.Fall], F]) (fun zz K1 => match zz with | (t4, mt4_0_0, mt4_0_1) => s4 = Fl.go t4) ?_ ?_
                  · refine block_go rfl ?_
                    conv => whnf
                    refine loop_rule (σ := Nat × S_health_Checks × Nat × Nat) [6, 75, 76, 77, 78, 79, 80, 81, 82, 83, 84] (fun (i4, y4_0, my4_0_0, my4_0_1) => [(75, .int .i64 (i4 : Int))]) (fun (i4, y4_0, my4_0_0, my4_0_1) => [Cells b27_0 64 [.int .i64 y4_0.rise, .int .i64 y4_0.fall, .map (some my4_0_0), .map (some my4_0_1)], MapE strK (fun x => .agg (S_health_status.enc x).toArray) my4_0_0 y4_0.nodes, MapE strK (fun x => .bool x) my4_0_1 y4_0.drained, Cells b5 34 [.int .u8 (s.What.toNat : Int), .int .u8 (s.Node.toNat : Int)], Cells b3 31 [.int .i64 x.Rise, .int .i64 x.Fall], F]) (fun zz K1 => match zz with | (i4, y4_0, my4_0_0, my4_0_1) => law32_HealthSteady_L4b x44 x47 ((x68 - 1).toNat - i4) i4 y4_0 = some s4) (fun zz => (x68 - 1).toNat - zz.1) (0, t2, mt2_0_0, mt2_0_1) rfl ⟨rfl, trivial⟩ (ConvH.of (.cons r0 (.cons r0 (.cons r0 (.cons r0 (.cons r0 (.cons r0 .nil))))))) hl4 ?_
                    clear hl4
                    rintro ⟨i4, y4_0, my4_0_0, my4_0_1⟩ Kb4 lk4 hl4 j4
                    conv at hl4 => whnf
                    conv => whnf
                    refine cond_go rfl ?_
                    conv => whnf
                    refine cond_s (fun w4 => ?_) (fun w4 => ?_)
                    · rw [ltn w4, law32_HealthSteady_L4b.eq_2] at hl4
                      conv => whnf
                      refine block_go rfl ?_
                      conv => whnf
                      refine un_not ?_
                      obtain ⟨x81, q81, hl4⟩ := bnd hl4
                      conv => whnf
                      refine call_fn (health_Checks_Report_ok q81) (.cons r0 (.cons r0 (.cons r0 .nil))) ?_
                      rintro _ K81 _ l81 ⟨m81_0, m81_1, rfl, rfl⟩
                      conv => whnf
                      refine neq_int ?_
                      conv => whnf
                      refine cond_go rfl ?_
                      conv => whnf
                      refine cond_s (fun w83 => ?_) (fun w83 => ?_)
                      · replace hl4 := ift w83 hl4
                        obtain rfl := si hl4
                        replace hm := elr hm
                        obtain rfl := si hm
                        conv => whnf
                        refine EndStep.mk _ ((((((((l19.trans l27).trans lt0).trans l44).trans l47).trans lt2).trans l68).trans lk4).trans l81) ⟨rfl, rfl⟩ (ConvH.of (.cons r5 .nil))
                      · replace hl4 := iff_ w83 hl4
                        conv => whnf
                        refine int_in (cntn w4 hk4) ?_
                        conv => whnf
                        refine RoundStep.mk (i4 + 1, x81.2, m81_0, m81_1) ⟨rfl, trivial⟩ (by repeat (first | exact trivial | refine And.intro rfl ?_)) (ConvH.of (.cons r0 (.cons r0 (.cons r0 (.cons r0 (.cons r0 (.cons r0 .nil))))))) (lk4.trans l81) (ltnm w4) hl4
                    · rw [lto w4, law32_HealthSteady_L4b.eq_1] at hl4
                      conv => whnf
                      refine cond_T ?_
                      conv => whnf
                      refine MeetStep.mk (y4_0, my4_0_0, my4_0_1) trivial (by repeat (first | exact trivial | refine And.intro rfl ?_)) (ConvH.of (.cons r0 (.cons r0 (.cons r0 (.cons r0 (.cons r0 (.cons r0 .nil))))))) lk4 (si hl4).symm
                  · rintro ⟨t4, mt4_0_0, mt4_0_1⟩ Kt4 lt4 rfl j4
                    replace hm := elg hm
                    obtain ⟨x88, q88, hm⟩ := bnd hm
                    conv => whnf
                    refine call_fn (health_Checks_Report_ok q88) (.cons r0 (.cons r0 (.cons r0 .nil))) ?_
                    rintro _ K88 _ l88 ⟨m88_0, m88_1, rfl, rfl⟩
                    conv => whnf
                    refine eq_int ?_
                    obtain ⟨x97, e97, hm⟩ := bnd hm
                    conv => whnf
                    refine cond_s (fun g91_29 => ?_) (fun g91_29 => ?_)
                    · replace e97 := ift g91_29 e97
                      conv => whnf
                      refine cond_t g91_29 ?_
                      conv => whnf
                      refine cond_t g91_29 ?_
                      obtain ⟨x94, q94, e97⟩ := bnd e97
                      conv => whnf
                      refine call_fn (health_Checks_State_ok q94) (.cons r0 (.cons r0 (.cons r0 .nil))) ?_
                      rintro _ K94 _ l94 ⟨rfl, rfl⟩
                      conv => whnf
                      refine cond_t g91_29 ?_
                      conv => whnf
                      refine cond_t g91_29 ?_
                      conv => whnf
                      refine eq_int ?_
                      conv => whnf
                      refine cond_t g91_29 ?_
                      obtain rfl := si hm
                      conv => whnf
                      refine EndStep.mk _ (((((((((l19.trans l27).trans lt0).trans l44).trans l47).trans lt2).trans l68).trans lt4).trans l88).trans l94) ⟨(by rw [← (si e97)] <;> rfl), rfl⟩ (ConvH.of (.cons r5 .nil))
                    · replace e97 := iff_ g91_29 e97
                      conv => whnf
                      refine cond_f g91_29 ?_
                      conv => whnf
                      refine cond_f g91_29 ?_
                      conv => whnf
                      refine cond_f g91_29 ?_
                      conv => whnf
                      refine cond_f g91_29 ?_
                      conv => whnf
                      refine cond_f g91_29 ?_
                      obtain rfl := si hm
                      conv => whnf
                      refine EndStep.mk _ ((((((((l19.trans l27).trans lt0).trans l44).trans l47).trans lt2).trans l68).trans lt4).trans l88) ⟨(by rw [← ((si e97).symm).symm] <;> rfl), rfl⟩ (ConvH.of (.cons r5 .nil))
