/- Functions of the program: mirrors, and that a call returns what the mirror says. Printed by gen.py. -/
import Derived.Test.YtmpdebfckeahmaaGreatDoorG4
set_option linter.unusedVariables false
set_option linter.unusedSimpArgs false
open Go Go.SL Go.Proofs
set_option maxRecDepth 1000000
noncomputable def J0 (t : Str) (s : Str) : Nat → Int → Option (Fl (Bool) (Int))
  | 0, _ => none
  | xs0 + 1, y0_0 =>
    (chk (InI (y0_0 + (t.length : Int)))).bind fun _ =>
    if decide ((y0_0 + (t.length : Int)) ≤ (s.length : Int)) then
    (chk (InI (y0_0 + (t.length : Int)))).bind fun _ =>
    (chk (0 ≤ y0_0 ∧ y0_0 ≤ (y0_0 + (t.length : Int)) ∧ (y0_0 + (t.length : Int)) ≤ (s.length : Int))).bind fun _ =>
    if decide ((subL s y0_0 (y0_0 + (t.length : Int))) = t) then
    some (Fl.ret true)
    else
    (chk (InI (y0_0 + 1))).bind fun _ =>
    J0 t s xs0 (y0_0 + 1)
    else
    some (Fl.go y0_0)
noncomputable def Ja5 (n : Nat) (s : Str) (t : Str) : Option (Bool) :=
  (J0 t s n 0).bind fun s0 => s0.el some fun t0 =>
  some false
set_option maxHeartbeats 8000000 in
theorem Jcy {n : Nat} {s : Str} {t : Str} {K : Hp} {r : Bool}
    (hm : Ja5 n s t = some r)  :
    Fn Tryz.prog 43 [str s, str t] K [] (fun v K' H' => v = .bool r ∧ H' = []) := by
 refine Fn.enter Tryz.func43 Tryz.call43 rfl fun F => ?_
 unfold Ja5 at hm
 obtain ⟨s0, hl0, hm⟩ := bnd hm
 refine code_cut (σ := (Int)) [4, 5, 6, 7, 8, 9, 10, 11, 12, 13, 14, 15, 16, 17, 18, 19, 20, 21, 22, 23] (fun t0 => [(5, .int .i64 t0)]) (fun t0 => [F]) (fun zz K1 => match zz with | t0 => s0 = Fl.go t0) ?_ ?_
 refine block_go rfl ?_
 refine loop_rule (σ := Nat × Int) [4, 5, 6, 7, 8, 9, 10, 11, 12, 13, 14, 15, 16, 17, 18, 19, 20, 21, 22, 23] (fun (i0, y0_0) => [(5, .int .i64 y0_0)]) (fun (i0, y0_0) => [F]) (fun zz K1 => match zz with | (i0, y0_0) => J0 t s i0 y0_0 = some s0) (fun zz => zz.1) (n, 0) rfl ⟨rfl, trivial⟩ (ConvH.of (.cons r0 .nil)) hl0 ?_
 clear hl0
 rintro ⟨i0, y0_0⟩ Kb0 lk0 hl0 j0
 conv at hl0 => whnf
 cases i0 with
 | zero => rw [J0.eq_1] at hl0; cases hl0
 | succ i0 =>
  rw [J0.eq_2] at hl0
  refine RStep.of (len_str rfl ?_)
  obtain ⟨h9, hl0⟩ := chkb hl0
  refine int_in h9 (RStep.of (len_str rfl ?_))
  refine cs rfl rfl hl0 (fun w12 hl0 => ?_) fun w12 hl0 => ?_
  refine block_go rfl ?_
  refine RStep.of (len_str rfl ?_)
  obtain ⟨h20, hl0⟩ := chkb hl0
  refine int_in h20 ?_
  obtain ⟨h21, hl0⟩ := chkb hl0
  refine RStep.ofN (sl_str (lo := (some y0_0)) (hi := (some (y0_0 + (t.length : Int)))) rfl h21 (eq_str ?_))
  refine cs rfl rfl hl0 (fun w23 hl0 => ?_) fun w23 hl0 => ?_
  obtain rfl := si hl0
  replace hm := elr hm
  obtain rfl := si hm
  refine EndStep.mk _ lk0 ⟨rfl, rfl⟩ (ConvH.of (.cons r0 .nil))
  obtain ⟨h14, hl0⟩ := chkb hl0
  refine int_in h14 ?_
  refine RoundStep.mk (i0, (y0_0 + 1)) ⟨rfl, trivial⟩ (by repeat (first | exact trivial | refine And.intro rfl ?_)) (ConvH.of (.cons r0 .nil)) lk0 (Nat.lt_succ_self _) hl0
  refine cond_T ?_
  refine MeetStep.mk (y0_0) ⟨rfl, trivial⟩ (by repeat (first | exact trivial | refine And.intro rfl ?_)) (ConvH.of (.cons r0 .nil)) lk0 (si hl0).symm
 rintro t0 Kt0 lt0 rfl j0
 replace hm := elg hm
 obtain rfl := si hm
 refine EndStep.mk _ lt0 ⟨rfl, rfl⟩ (ConvH.of (.cons r0 .nil))

noncomputable def Jx (n : Nat) (op : Str) (a : Jd) (b : Jd) : Option (Jd × Bool) :=
  if decide (op = ([43] : Str)) then
  if (decide (a.TypeZ = 1) && decide (b.TypeZ = 1)) then
  (chk (a.S.length + b.S.length ≤ lim)).bind fun _ =>
  (JY (a.S ++ b.S)).bind fun x35 =>
  some (x35, true)
  else
  (chk (InI (a.N + b.N))).bind fun _ =>
  (JaT (a.N + b.N)).bind fun x41 =>
  some (x41, (decide (a.TypeZ = 2) && decide (b.TypeZ = 2)))
  else
  if decide (op = ([45] : Str)) then
  (chk (InI (a.N - b.N))).bind fun _ =>
  (JaT (a.N - b.N)).bind fun x50 =>
  some (x50, (decide (a.TypeZ = 2) && decide (b.TypeZ = 2)))
  else
  if decide (op = ([42] : Str)) then
  (Jbi a.N b.N).bind fun x58 =>
  some (x58, (decide (a.TypeZ = 2) && decide (b.TypeZ = 2)))
  else
  if decide (op = ([61, 61] : Str)) then
  (J9 (decide (a.TypeZ = b.TypeZ) && (decide (a.N = b.N) && (decide (a.S = b.S) && (a.Is == b.Is))))).bind fun x65 =>
  some (x65, decide (a.TypeZ = b.TypeZ))
  else
  if decide (op = ([33, 61] : Str)) then
  (J9 (!(decide (a.TypeZ = b.TypeZ) && (decide (a.N = b.N) && (decide (a.S = b.S) && (a.Is == b.Is)))))).bind fun x76 =>
  some (x76, decide (a.TypeZ = b.TypeZ))
  else
  if decide (op = ([60] : Str)) then
  (J9 (decide (a.N < b.N))).bind fun x89 =>
  some (x89, (decide (a.TypeZ = 2) && decide (b.TypeZ = 2)))
  else
  if decide (op = ([60, 61] : Str)) then
  (J9 (decide (a.N ≤ b.N))).bind fun x98 =>
  some (x98, (decide (a.TypeZ = 2) && decide (b.TypeZ = 2)))
  else
  if decide (op = ([115, 116, 97, 114, 116, 115] : Str)) then
  (if decide ((a.S.length : Int) ≥ (b.S.length : Int)) then (chk (0 ≤ (0 : Int) ∧ (0 : Int) ≤ (min (a.S.length : Int) (b.S.length : Int)) ∧ (min (a.S.length : Int) (b.S.length : Int)) ≤ (a.S.length : Int))).bind fun _ =>
  some (decide ((subL a.S (0 : Int) (min (a.S.length : Int) (b.S.length : Int))) = b.S)) else some false).bind fun x123 =>
  (J9 x123).bind fun x124 =>
  some (x124, (decide (a.TypeZ = 1) && decide (b.TypeZ = 1)))
  else
  if decide (op = ([101, 110, 100, 115] : Str)) then
  (if decide ((a.S.length : Int) ≥ (b.S.length : Int)) then (chk (InI ((a.S.length : Int) - (b.S.length : Int)))).bind fun _ =>
  (chk (0 ≤ (max 0 ((a.S.length : Int) - (b.S.length : Int))) ∧ (max 0 ((a.S.length : Int) - (b.S.length : Int))) ≤ (a.S.length : Int) ∧ (a.S.length : Int) ≤ (a.S.length : Int))).bind fun _ =>
  some (decide ((subL a.S (max 0 ((a.S.length : Int) - (b.S.length : Int))) (a.S.length : Int)) = b.S)) else some false).bind fun x150 =>
  (J9 x150).bind fun x151 =>
  some (x151, (decide (a.TypeZ = 1) && decide (b.TypeZ = 1)))
  else
  (Ja5 n a.S b.S).bind fun x157 =>
  (J9 x157).bind fun x158 =>
  some (x158, (decide (a.TypeZ = 1) && decide (b.TypeZ = 1)))
set_option maxHeartbeats 8000000 in
theorem JcK {n : Nat} {op : Str} {a : Jd} {b : Jd} {K : Hp} {r : Jd × Bool}
    (hm : Jx n op a b = some r)  :
    Fn Tryz.prog 19 [str op, .agg #[.int .i64 a.TypeZ, .int .i64 a.N, str a.S, .bool a.Is], .agg #[.int .i64 b.TypeZ, .int .i64 b.N, str b.S, .bool b.Is]] K [] (fun v K' H' => v = .tuple #[.agg #[.int .i64 r.1.TypeZ, .int .i64 r.1.N, str r.1.S, .bool r.1.Is], .bool r.2] ∧ H' = []) := by
 refine Fn.enter Tryz.func19 Tryz.call19 rfl fun F => ?_
 unfold Jx at hm
 refine box_rule ?_
 intro b4
 refine box_rule ?_
 intro b5
 refine alloc_rule rfl ?_
 intro b6
 refine draw_cut (σ := Unit) [8, 9, 10, 11, 12, 13, 14, 15, 16, 17, 18, 19, 20, 21, 22, 23, 24, 25] (fun _ => [(8, .bool (decide (a.TypeZ = 1) && decide (b.TypeZ = 1))), (9, .bool (decide (a.TypeZ = 2) && decide (b.TypeZ = 2)))]) (fun _ => [Cells b6 56 [.int .i64 0, .int .i64 0, str ([] : Str), .bool false], Cells b5 56 [.int .i64 b.TypeZ, .int .i64 b.N, str b.S, .bool b.Is], Cells b4 56 [.int .i64 a.TypeZ, .int .i64 a.N, str a.S, .bool a.Is], F]) (fun t901 K1 => K1 = K) ?_ ?_
 refine draw_go ⟨⟨[], false⟩, _, [(_, _), (_, _)], []⟩ (by kernel_rfl) ⟨Hp.Le.refl _, (ConvH.of (.cons r2 (.cons r1 .nil))), ci0⟩ ?_
 refine Ja rfl (load1_l m0 rfl rfl (eq_int ?_))
 refine cond_s (fun g13_1 => ?_) (fun g13_1 => ?_)
 refine Ja rfl (cond_t g13_1 (load1_l m1 rfl rfl (cond_t g13_1 (eq_int (cond_t g13_1 ?_)))))
 refine Ja rfl (load1_l m0 rfl rfl (eq_int ?_))
 refine cond_s (fun g21_1 => ?_) (fun g21_1 => ?_)
 refine Ja rfl (cond_t g21_1 (load1_l m1 rfl rfl (cond_t g21_1 (eq_int (cond_t g21_1 ?_)))))
 refine MeetStep.mk (()) ⟨(by rw [← (and_e (b := decide (b.TypeZ = 1)) g13_1)] <;> rfl), (by rw [← (and_e (b := decide (b.TypeZ = 2)) g21_1)] <;> rfl), trivial⟩ (by repeat (first | exact trivial | refine And.intro rfl ?_)) (ConvH.of (.cons r0 (.cons r0 (.cons r0 (.cons r0 .nil))))) (Hp.Le.refl _) rfl
 refine cond_f g21_1 (cond_f g21_1 (cond_f g21_1 ?_))
 refine MeetStep.mk (()) ⟨(by rw [← (and_e (b := decide (b.TypeZ = 1)) g13_1)] <;> rfl), (by rw [← ((and_f g21_1)).symm] <;> rfl), trivial⟩ (by repeat (first | exact trivial | refine And.intro rfl ?_)) (ConvH.of (.cons r0 (.cons r0 (.cons r0 (.cons r0 .nil))))) (Hp.Le.refl _) rfl
 refine cond_f g13_1 (cond_f g13_1 (cond_f g13_1 (Ja rfl (load1_l m0 rfl rfl (eq_int ?_)))))
 refine cond_s (fun g21_1 => ?_) (fun g21_1 => ?_)
 refine Ja rfl (cond_t g21_1 (load1_l m1 rfl rfl (cond_t g21_1 (eq_int (cond_t g21_1 ?_)))))
 refine MeetStep.mk (()) ⟨(by rw [← ((and_f g13_1)).symm] <;> rfl), (by rw [← (and_e (b := decide (b.TypeZ = 2)) g21_1)] <;> rfl), trivial⟩ (by repeat (first | exact trivial | refine And.intro rfl ?_)) (ConvH.of (.cons r0 (.cons r0 (.cons r0 (.cons r0 .nil))))) (Hp.Le.refl _) rfl
 refine cond_f g21_1 (cond_f g21_1 (cond_f g21_1 ?_))
 refine MeetStep.mk (()) ⟨(by rw [← ((and_f g13_1)).symm] <;> rfl), (by rw [← ((and_f g21_1)).symm] <;> rfl), trivial⟩ (by repeat (first | exact trivial | refine And.intro rfl ?_)) (ConvH.of (.cons r0 (.cons r0 (.cons r0 (.cons r0 .nil))))) (Hp.Le.refl _) rfl
 rintro _ _ _ rfl j901
 refine block_go rfl ?_
 refine eq_str ?_
 refine cs rfl rfl hm (fun w27 hm => ?_) fun w27 hm => ?_
 refine cs rfl rfl hm (fun w29 hm => ?_) fun w29 hm => ?_
 refine Ja rfl (RStep.of (load1_s r2 rfl rfl (Ja rfl (RStep.of (load1_s r1 rfl rfl ?_)))))
 obtain ⟨h34, hm⟩ := chkb hm
 refine cat_str h34 ?_
 obtain ⟨x35, q35, hm⟩ := bnd hm
 refine call_fn (JN (s := (a.S ++ b.S)) q35) .nil ?_
 rintro _ K35 _ l35 ⟨rfl, rfl⟩
 refine store_rule r0 rfl ?_
 refine ⟨rfl, rfl, (Nat.le_of_ble_eq_true rfl), ?_⟩
 obtain rfl := si hm
 refine RStep.of (loadn_s r0 rfl (Nat.le_of_ble_eq_true rfl) ?_)
 refine EndStep.mk _ l35 ⟨rfl, rfl⟩ (ConvH.of (.cons r3 .nil))
 refine Ja rfl (RStep.of (load1_s r2 rfl rfl (Ja rfl (RStep.of (load1_s r1 rfl rfl ?_)))))
 obtain ⟨h40, hm⟩ := chkb hm
 refine int_in h40 ?_
 obtain ⟨x41, q41, hm⟩ := bnd hm
 refine call_fn (JaG (n' := (a.N + b.N)) q41) .nil ?_
 rintro _ K41 _ l41 ⟨rfl, rfl⟩
 refine store_rule r0 rfl ?_
 refine ⟨rfl, rfl, (Nat.le_of_ble_eq_true rfl), ?_⟩
 obtain rfl := si hm
 refine RStep.of (loadn_s r0 rfl (Nat.le_of_ble_eq_true rfl) ?_)
 refine EndStep.mk _ l41 ⟨rfl, rfl⟩ (ConvH.of (.cons r3 .nil))
 refine eq_str ?_
 refine cs rfl rfl hm (fun w43 hm => ?_) fun w43 hm => ?_
 refine Ja rfl (RStep.of (load1_s r2 rfl rfl (Ja rfl (RStep.of (load1_s r1 rfl rfl ?_)))))
 obtain ⟨h49, hm⟩ := chkb hm
 refine int_in h49 ?_
 obtain ⟨x50, q50, hm⟩ := bnd hm
 refine call_fn (JaG (n' := (a.N - b.N)) q50) .nil ?_
 rintro _ K50 _ l50 ⟨rfl, rfl⟩
 refine store_rule r0 rfl ?_
 refine ⟨rfl, rfl, (Nat.le_of_ble_eq_true rfl), ?_⟩
 obtain rfl := si hm
 refine RStep.of (loadn_s r0 rfl (Nat.le_of_ble_eq_true rfl) ?_)
 refine EndStep.mk _ l50 ⟨rfl, rfl⟩ (ConvH.of (.cons r3 .nil))
 refine eq_str ?_
 refine cs rfl rfl hm (fun w52 hm => ?_) fun w52 hm => ?_
 refine Ja rfl (RStep.of (load1_s r2 rfl rfl (Ja rfl (RStep.of (load1_s r1 rfl rfl ?_)))))
 obtain ⟨x58, q58, hm⟩ := bnd hm
 refine call_fn (JcJ (a := a.N) (b := b.N) q58) .nil ?_
 rintro _ K58 _ l58 ⟨rfl, rfl⟩
 refine store_rule r0 rfl ?_
 refine ⟨rfl, rfl, (Nat.le_of_ble_eq_true rfl), ?_⟩
 obtain rfl := si hm
 refine RStep.of (loadn_s r0 rfl (Nat.le_of_ble_eq_true rfl) ?_)
 refine EndStep.mk _ l58 ⟨rfl, rfl⟩ (ConvH.of (.cons r3 .nil))
 refine eq_str ?_
 refine cs rfl rfl hm (fun w60 hm => ?_) fun w60 hm => ?_
 refine draw_go ⟨⟨[], false⟩, _, [(_, _), (_, _)], []⟩ (by kernel_rfl) ⟨Hp.Le.refl _, (ConvH.of (.cons r2 (.cons r1 .nil))), ci0⟩ ?_
 refine loadn_l m0 rfl (Nat.le_of_ble_eq_true rfl) (loadn_l m1 rfl (Nat.le_of_ble_eq_true rfl) ?_)
 refine eq_agg (b := (decide (a.TypeZ = b.TypeZ) && (decide (a.N = b.N) && (decide (a.S = b.S) && (a.Is == b.Is))))) rfl (by kernel_rfl) (by kernel_rfl) (by kernel_rfl) rfl ?_
 obtain ⟨x65, q65, hm⟩ := bnd hm
 refine call_fn (JL (isZ := (decide (a.TypeZ = b.TypeZ) && (decide (a.N = b.N) && (decide (a.S = b.S) && (a.Is == b.Is))))) q65) .nil ?_
 rintro _ K65 _ l65 ⟨rfl, rfl⟩
 refine ⟨⟨l65, (ConvH.of (.cons r2 (.cons r1 .nil))), ci0⟩, ?_⟩
 refine Ja rfl (load1_l m0 rfl rfl (Ja rfl (load1_l m1 rfl rfl (eq_int ?_))))
 refine store_rule r0 rfl ?_
 refine ⟨rfl, rfl, (Nat.le_of_ble_eq_true rfl), ?_⟩
 refine ⟨⟨l65, (ConvH.of (.cons r2 (.cons r1 .nil))), ci0⟩, ?_⟩
 obtain rfl := si hm
 refine RStep.of (loadn_s r0 rfl (Nat.le_of_ble_eq_true rfl) ?_)
 refine EndStep.mk _ l65 ⟨rfl, rfl⟩ (ConvH.of (.cons r3 .nil))
 refine eq_str ?_
 refine cs rfl rfl hm (fun w71 hm => ?_) fun w71 hm => ?_
 refine draw_go ⟨⟨[], false⟩, _, [(_, _), (_, _)], []⟩ (by kernel_rfl) ⟨Hp.Le.refl _, (ConvH.of (.cons r2 (.cons r1 .nil))), ci0⟩ ?_
 refine loadn_l m0 rfl (Nat.le_of_ble_eq_true rfl) (loadn_l m1 rfl (Nat.le_of_ble_eq_true rfl) ?_)
 refine neq_agg (b := (decide (a.TypeZ = b.TypeZ) && (decide (a.N = b.N) && (decide (a.S = b.S) && (a.Is == b.Is))))) rfl (by kernel_rfl) (by kernel_rfl) (by kernel_rfl) rfl ?_
 obtain ⟨x76, q76, hm⟩ := bnd hm
 refine call_fn (JL (isZ := (!(decide (a.TypeZ = b.TypeZ) && (decide (a.N = b.N) && (decide (a.S = b.S) && (a.Is == b.Is)))))) q76) .nil ?_
 rintro _ K76 _ l76 ⟨rfl, rfl⟩
 refine ⟨⟨l76, (ConvH.of (.cons r2 (.cons r1 .nil))), ci0⟩, ?_⟩
 refine Ja rfl (load1_l m0 rfl rfl (Ja rfl (load1_l m1 rfl rfl (eq_int ?_))))
 refine store_rule r0 rfl ?_
 refine ⟨rfl, rfl, (Nat.le_of_ble_eq_true rfl), ?_⟩
 refine ⟨⟨l76, (ConvH.of (.cons r2 (.cons r1 .nil))), ci0⟩, ?_⟩
 obtain rfl := si hm
 refine RStep.of (loadn_s r0 rfl (Nat.le_of_ble_eq_true rfl) ?_)
 refine EndStep.mk _ l76 ⟨rfl, rfl⟩ (ConvH.of (.cons r3 .nil))
 refine eq_str ?_
 refine cs rfl rfl hm (fun w82 hm => ?_) fun w82 hm => ?_
 refine Ja rfl (RStep.of (load1_s r2 rfl rfl (Ja rfl (RStep.of (load1_s r1 rfl rfl ?_)))))
 obtain ⟨x89, q89, hm⟩ := bnd hm
 refine call_fn (JL (isZ := (decide (a.N < b.N))) q89) .nil ?_
 rintro _ K89 _ l89 ⟨rfl, rfl⟩
 refine store_rule r0 rfl ?_
 refine ⟨rfl, rfl, (Nat.le_of_ble_eq_true rfl), ?_⟩
 obtain rfl := si hm
 refine RStep.of (loadn_s r0 rfl (Nat.le_of_ble_eq_true rfl) ?_)
 refine EndStep.mk _ l89 ⟨rfl, rfl⟩ (ConvH.of (.cons r3 .nil))
 refine eq_str ?_
 refine cs rfl rfl hm (fun w91 hm => ?_) fun w91 hm => ?_
 refine Ja rfl (RStep.of (load1_s r2 rfl rfl (Ja rfl (RStep.of (load1_s r1 rfl rfl ?_)))))
 obtain ⟨x98, q98, hm⟩ := bnd hm
 refine call_fn (JL (isZ := (decide (a.N ≤ b.N))) q98) .nil ?_
 rintro _ K98 _ l98 ⟨rfl, rfl⟩
 refine store_rule r0 rfl ?_
 refine ⟨rfl, rfl, (Nat.le_of_ble_eq_true rfl), ?_⟩
 obtain rfl := si hm
 refine RStep.of (loadn_s r0 rfl (Nat.le_of_ble_eq_true rfl) ?_)
 refine EndStep.mk _ l98 ⟨rfl, rfl⟩ (ConvH.of (.cons r3 .nil))
 refine eq_str ?_
 refine cs rfl rfl hm (fun w100 hm => ?_) fun w100 hm => ?_
 refine draw_go ⟨⟨[], false⟩, _, [(_, _), (_, _)], []⟩ (by kernel_rfl) ⟨Hp.Le.refl _, (ConvH.of (.cons r2 (.cons r1 .nil))), ci0⟩ ?_
 refine Ja rfl (load1_l m0 rfl rfl (len_strN rfl (Ja rfl (load1_l m1 rfl rfl (len_strN rfl ?_)))))
 obtain ⟨x123, e123, hm⟩ := bnd hm
 refine cond_s (fun g109_20 => ?_) (fun g109_20 => ?_)
 replace e123 := ift g109_20 e123
 refine Ja rfl (cond_t g109_20 (load1_l m0 rfl rfl (cond_t g109_20 (Ja rfl (cond_t g109_20 ?_)))))
 refine load1_l m0 rfl rfl (cond_t g109_20 (len_strN rfl (cond_t g109_20 (Ja rfl (cond_t g109_20 ?_)))))
 refine load1_l m1 rfl rfl (cond_t g109_20 (len_strN rfl (cond_t g109_20 (min_intN (cond_t g109_20 ?_)))))
 obtain ⟨h119, e123⟩ := chkb e123
 refine sl_str (lo := none) (hi := (some (min (a.S.length : Int) (b.S.length : Int)))) rfl h119 (cond_t g109_20 (Ja rfl (cond_t g109_20 (load1_l m1 rfl rfl (cond_t g109_20 ?_)))))
 refine eq_str (cond_t g109_20 ?_)
 obtain ⟨x124, q124, hm⟩ := bnd hm
 rw [← (si e123)] at q124
 refine call_fn (JL q124) .nil ?_
 rintro _ K124 _ l124 ⟨rfl, rfl⟩
 refine ⟨⟨l124, (ConvH.of (.cons r2 (.cons r1 .nil))), ci0⟩, ?_⟩
 refine store_rule r0 rfl ?_
 refine ⟨rfl, rfl, (Nat.le_of_ble_eq_true rfl), ?_⟩
 refine ⟨⟨l124, (ConvH.of (.cons r2 (.cons r1 .nil))), ci0⟩, ?_⟩
 obtain rfl := si hm
 refine RStep.of (loadn_s r0 rfl (Nat.le_of_ble_eq_true rfl) ?_)
 refine EndStep.mk _ l124 ⟨rfl, rfl⟩ (ConvH.of (.cons r3 .nil))
 replace e123 := iff_ g109_20 e123
 refine cond_f g109_20 (cond_f g109_20 (cond_f g109_20 (cond_f g109_20 (cond_f g109_20 (cond_f g109_20 ?_)))))
 refine cond_f g109_20 (cond_f g109_20 (cond_f g109_20 (cond_f g109_20 (cond_f g109_20 (cond_f g109_20 ?_)))))
 refine cond_f g109_20 ?_
 obtain ⟨x124, q124, hm⟩ := bnd hm
 rw [← ((si e123).symm).symm] at q124
 refine call_fn (JL q124) .nil ?_
 rintro _ K124 _ l124 ⟨rfl, rfl⟩
 refine ⟨⟨l124, (ConvH.of (.cons r2 (.cons r1 .nil))), ci0⟩, ?_⟩
 refine store_rule r0 rfl ?_
 refine ⟨rfl, rfl, (Nat.le_of_ble_eq_true rfl), ?_⟩
 refine ⟨⟨l124, (ConvH.of (.cons r2 (.cons r1 .nil))), ci0⟩, ?_⟩
 obtain rfl := si hm
 refine RStep.of (loadn_s r0 rfl (Nat.le_of_ble_eq_true rfl) ?_)
 refine EndStep.mk _ l124 ⟨rfl, rfl⟩ (ConvH.of (.cons r3 .nil))
 refine eq_str ?_
 refine cs rfl rfl hm (fun w126 hm => ?_) fun w126 hm => ?_
 refine draw_go ⟨⟨[], false⟩, _, [(_, _), (_, _)], []⟩ (by kernel_rfl) ⟨Hp.Le.refl _, (ConvH.of (.cons r2 (.cons r1 .nil))), ci0⟩ ?_
 refine Ja rfl (load1_l m0 rfl rfl (len_strN rfl (Ja rfl (load1_l m1 rfl rfl (len_strN rfl ?_)))))
 obtain ⟨x150, e150, hm⟩ := bnd hm
 refine cond_s (fun g135_22 => ?_) (fun g135_22 => ?_)
 replace e150 := ift g135_22 e150
 refine Ja rfl (cond_t g135_22 (load1_l m0 rfl rfl (cond_t g135_22 (Ja rfl (cond_t g135_22 ?_)))))
 refine load1_l m0 rfl rfl (cond_t g135_22 (len_strN rfl (cond_t g135_22 (Ja rfl (cond_t g135_22 ?_)))))
 refine load1_l m1 rfl rfl (cond_t g135_22 (len_strN rfl (cond_t g135_22 ?_)))
 obtain ⟨h144, e150⟩ := chkb e150
 refine int_in h144 (cond_t g135_22 (max_intN (cond_t g135_22 ?_)))
 obtain ⟨h146, e150⟩ := chkb e150
 refine sl_str (lo := (some (max 0 ((a.S.length : Int) - (b.S.length : Int))))) (hi := none) rfl h146 (cond_t g135_22 (Ja rfl (cond_t g135_22 (load1_l m1 rfl rfl (cond_t g135_22 ?_)))))
 refine eq_str (cond_t g135_22 ?_)
 obtain ⟨x151, q151, hm⟩ := bnd hm
 rw [← (si e150)] at q151
 refine call_fn (JL q151) .nil ?_
 rintro _ K151 _ l151 ⟨rfl, rfl⟩
 refine ⟨⟨l151, (ConvH.of (.cons r2 (.cons r1 .nil))), ci0⟩, ?_⟩
 refine store_rule r0 rfl ?_
 refine ⟨rfl, rfl, (Nat.le_of_ble_eq_true rfl), ?_⟩
 refine ⟨⟨l151, (ConvH.of (.cons r2 (.cons r1 .nil))), ci0⟩, ?_⟩
 obtain rfl := si hm
 refine RStep.of (loadn_s r0 rfl (Nat.le_of_ble_eq_true rfl) ?_)
 refine EndStep.mk _ l151 ⟨rfl, rfl⟩ (ConvH.of (.cons r3 .nil))
 replace e150 := iff_ g135_22 e150
 refine cond_f g135_22 (cond_f g135_22 (cond_f g135_22 (cond_f g135_22 (cond_f g135_22 (cond_f g135_22 ?_)))))
 refine cond_f g135_22 (cond_f g135_22 (cond_f g135_22 (cond_f g135_22 (cond_f g135_22 (cond_f g135_22 ?_)))))
 refine cond_f g135_22 (cond_f g135_22 ?_)
 obtain ⟨x151, q151, hm⟩ := bnd hm
 rw [← ((si e150).symm).symm] at q151
 refine call_fn (JL q151) .nil ?_
 rintro _ K151 _ l151 ⟨rfl, rfl⟩
 refine ⟨⟨l151, (ConvH.of (.cons r2 (.cons r1 .nil))), ci0⟩, ?_⟩
 refine store_rule r0 rfl ?_
 refine ⟨rfl, rfl, (Nat.le_of_ble_eq_true rfl), ?_⟩
 refine ⟨⟨l151, (ConvH.of (.cons r2 (.cons r1 .nil))), ci0⟩, ?_⟩
 obtain rfl := si hm
 refine RStep.of (loadn_s r0 rfl (Nat.le_of_ble_eq_true rfl) ?_)
 refine EndStep.mk _ l151 ⟨rfl, rfl⟩ (ConvH.of (.cons r3 .nil))
 refine Ja rfl (RStep.of (load1_s r2 rfl rfl (Ja rfl (RStep.of (load1_s r1 rfl rfl ?_)))))
 obtain ⟨x157, q157, hm⟩ := bnd hm
 refine call_fn (Jcy (s := a.S) (t := b.S) q157) .nil ?_
 rintro _ K157 _ l157 ⟨rfl, rfl⟩
 obtain ⟨x158, q158, hm⟩ := bnd hm
 refine call_fn (JL (isZ := x157) q158) .nil ?_
 rintro _ K158 _ l158 ⟨rfl, rfl⟩
 refine store_rule r0 rfl ?_
 refine ⟨rfl, rfl, (Nat.le_of_ble_eq_true rfl), ?_⟩
 obtain rfl := si hm
 refine RStep.of (loadn_s r0 rfl (Nat.le_of_ble_eq_true rfl) ?_)
 refine EndStep.mk _ (l157.trans l158) ⟨rfl, rfl⟩ (ConvH.of (.cons r3 .nil))

noncomputable def JaM (l : (List Str)) (s : Str) : Nat → Int → Option (Fl ((List Str)) (Int))
  | 0, _ => none
  | xs0 + 1, y0_0 =>
    if decide (y0_0 < (l.length : Int)) then
    (ix l y0_0).bind fun x14 =>
    if decide (x14 = s) then
    some (Fl.ret l)
    else
    (chk (InI (y0_0 + 1))).bind fun _ =>
    JaM l s xs0 (y0_0 + 1)
    else
    some (Fl.go y0_0)
noncomputable def Jbv (n : Nat) (l : (List Str)) (s : Str) : Option ((List Str)) :=
  (JaM l s n 0).bind fun s0 => s0.el some fun t0 =>
  (chk (([] : List Str).length + l.length ≤ lim)).bind fun _ =>
  (chk ((([] : List Str) ++ l).length + [s].length ≤ lim)).bind fun _ =>
  some ((([] : List Str) ++ l) ++ [s])
set_option maxHeartbeats 8000000 in
theorem Jcp {n : Nat} {l : (List Str)} {s : Str} {ap0_0 : Option Addr} {cp0_0 : Nat} {n0 : Nat} {K : Hp} {r : (List Str)}
    (hm : Jbv n l s = some r) (hp0_0 : RdC eS K ap0_0 cp0_0 1 l) (en0 : n0 = l.length) :
    Fn Tryz.prog 121 [.slice ap0_0 n0 cp0_0, str s] K [] (fun v K' H' => ∃ ar_0 : Option Addr, ∃ cr_0 : Nat, v = .slice ar_0 r.length cr_0 ∧ RdC eS K' ar_0 cr_0 1 r ∧ H' = []) := by
 subst en0
 refine Fn.enter Tryz.func121 Tryz.call121 rfl fun F => ?_
 unfold Jbv at hm
 obtain ⟨s0, hl0, hm⟩ := bnd hm
 refine code_cut (σ := (Int)) [4, 5, 6, 7, 8, 9, 10, 11, 12, 13, 14, 15, 16, 17, 18] (fun t0 => [(5, .int .i64 t0)]) (fun t0 => [F]) (fun zz K1 => match zz with | t0 => s0 = Fl.go t0) ?_ ?_
 refine block_go rfl ?_
 refine loop_rule (σ := Nat × Int) [4, 5, 6, 7, 8, 9, 10, 11, 12, 13, 14, 15, 16, 17, 18] (fun (i0, y0_0) => [(5, .int .i64 y0_0)]) (fun (i0, y0_0) => [F]) (fun zz K1 => match zz with | (i0, y0_0) => JaM l s i0 y0_0 = some s0) (fun zz => zz.1) (n, 0) rfl ⟨rfl, trivial⟩ (ConvH.of (.cons r0 .nil)) hl0 ?_
 clear hl0
 rintro ⟨i0, y0_0⟩ Kb0 lk0 hl0 j0
 conv at hl0 => whnf
 cases i0 with
 | zero => rw [JaM.eq_1] at hl0; cases hl0
 | succ i0 =>
  rw [JaM.eq_2] at hl0
  refine RStep.of (len_slice rfl ?_)
  refine cs rfl rfl hl0 (fun w9 hl0 => ?_) fun w9 hl0 => ?_
  refine block_go rfl ?_
  obtain ⟨x14, l14, k14, hl0⟩ := ixb hl0
  refine RStep.ofN (index_addr rfl rfl (hasK (hp0_0.mono lk0).rd k14) l14 (lt_ofE rfl l14 k14) (RStep.of (load_rd ((y0_0).toNat) 0 _ _ (hp0_0.mono lk0).rd rfl (mp k14) rfl rfl (eq_str ?_))))
  refine cs rfl rfl hl0 (fun w17 hl0 => ?_) fun w17 hl0 => ?_
  obtain rfl := si hl0
  replace hm := elr hm
  obtain rfl := si hm
  refine EndStep.mk _ lk0 ⟨ap0_0, cp0_0, rfl, (hp0_0.mono lk0), rfl⟩ (ConvH.of (.cons r0 .nil))
  obtain ⟨h11, hl0⟩ := chkb hl0
  refine int_in h11 ?_
  refine RoundStep.mk (i0, (y0_0 + 1)) ⟨rfl, trivial⟩ (by repeat (first | exact trivial | refine And.intro rfl ?_)) (ConvH.of (.cons r0 .nil)) lk0 (Nat.lt_succ_self _) hl0
  refine cond_T ?_
  refine MeetStep.mk (y0_0) ⟨rfl, trivial⟩ (by repeat (first | exact trivial | refine And.intro rfl ?_)) (ConvH.of (.cons r0 .nil)) lk0 (si hl0).symm
 rintro t0 Kt0 lt0 rfl j0
 replace hm := elg hm
 refine bsO (len := 0) (enc := eS) (l := ([] : List Str)) (cl := []) elT31 rfl rfl (fun _ _ => rfl) rfl rfl rfl ?_ fun b19 => ?_
 · conv => whnf
   first | done | rfl
 obtain ⟨h21, hm⟩ := chkb hm
 refine apE rfl r0 elT31 (src_k rfl (hp0_0.mono lt0).rd rfl) h21 ?_
 intro a21 c21 o21
 refine bsO (len := 1) (enc := eS) (l := [s]) (cl := [str s]) elT31 rfl rfl (fun _ _ => rfl) rfl rfl rfl ?_ fun b23 => ?_
 · conv => whnf
   refine cond_T ?_
   first | done | rfl
 obtain ⟨h24, hm⟩ := chkb hm
 refine apE rfl r1 elT31 (src_own' rfl r0 rfl (fun _ => rfl) (fun _ => rfl)) h24 ?_
 intro a24 c24 o24
 obtain rfl := si hm
 refine fE r0 fun Kz1 lz1 fz1 => ?_
 refine EndStep.mk _ (lt0.trans lz1) ⟨a24, c24, rfl, fz1, rfl⟩ (ConvH.of (.cons r1 .nil))

noncomputable def Ja6 (c : UInt8) : List UInt8 → Nat → Option (Fl (Bool) (Unit))
  | [], _ => some (Fl.go ())
  | e0 :: xs0, i0 =>
    if decide ((e0.toNat : Int) = (c.toNat : Int)) then
    some (Fl.ret true)
    else
    Ja6 c xs0 (i0 + 1)
noncomputable def Jbn (c : UInt8) : Option (Bool) :=
  ((if (decide ((c.toNat : Int) ≥ 48) && decide ((c.toNat : Int) ≤ 57)) then
  some true
  else
  if (decide ((c.toNat : Int) ≥ 97) && decide ((c.toNat : Int) ≤ 122)) then
  some true
  else
  some (decide ((c.toNat : Int) ≥ 65) && decide ((c.toNat : Int) ≤ 90))) : Option (Bool)).bind fun t901 =>
  if t901 then
  some true
  else
  (chk (([33, 35, 36, 37, 38, 39, 42, 43, 45, 46, 94, 95, 96, 124, 126] : Str).length ≤ szMax)).bind fun _ =>
  (Ja6 c ([33, 35, 36, 37, 38, 39, 42, 43, 45, 46, 94, 95, 96, 124, 126] : Str) 0).bind fun s0 => s0.el some fun t0 =>
  some false
set_option maxHeartbeats 8000000 in
theorem Jc1 {c : UInt8} {K : Hp} {r : Bool}
    (hm : Jbn c = some r)  :
    Fn Tryz.prog 221 [.int .u8 (c.toNat : Int)] K [] (fun v K' H' => v = .bool r ∧ H' = []) := by
 refine Fn.enter Tryz.func221 Tryz.call221 rfl fun F => ?_
 unfold Jbn at hm
 obtain ⟨s901, hl901, hm⟩ := bnd hm
 refine code_cut (σ := Bool) [5, 6, 7, 8, 9, 10, 11, 12, 13, 14, 15, 16, 17, 18, 19, 20, 21, 22, 23, 24, 25, 26] (fun t901 => [(26, .bool t901)]) (fun _ => [F]) (fun t901 K1 => K1 = K ∧ t901 = s901) ?_ ?_
 refine guard_go rfl ?_
 refine cond_s (fun g7_1 => ?_) (fun g7_1 => ?_)
 refine cond_t g7_1 (cond_t g7_1 ?_)
 refine cond_s (fun g11_1 => ?_) (fun g11_1 => ?_)
 replace hl901 := ift (and_t g7_1 g11_1) hl901
 refine cond_t g11_1 (cond_t g11_1 (cond_t g11_1 (cond_t g11_1 (cond_T (cond_T ?_)))))
 refine cond_T (cond_T (cond_T ?_))
 refine MeetStep.mk (true) ⟨rfl, trivial⟩ (by repeat (first | exact trivial | refine And.intro rfl ?_)) (ConvH.of (.cons r0 .nil)) (Hp.Le.refl _) ⟨rfl, (si hl901)⟩
 replace hl901 := iff_ (and_g g7_1 g11_1) hl901
 refine cond_f g11_1 (cond_f g11_1 ?_)
 refine cond_s (fun g14_1 => ?_) (fun g14_1 => ?_)
 refine cond_t g14_1 (cond_f g11_1 (cond_t g14_1 (cond_f g11_1 ?_)))
 refine cond_s (fun g19_1 => ?_) (fun g19_1 => ?_)
 replace hl901 := ift (and_t g14_1 g19_1) hl901
 refine cond_t g19_1 (cond_t g19_1 (cond_t g19_1 (cond_t g19_1 ?_)))
 refine MeetStep.mk (true) ⟨rfl, trivial⟩ (by repeat (first | exact trivial | refine And.intro rfl ?_)) (ConvH.of (.cons r0 .nil)) (Hp.Le.refl _) ⟨rfl, (si hl901)⟩
 replace hl901 := iff_ (and_g g14_1 g19_1) hl901
 refine cond_f g19_1 (cond_f g19_1 ?_)
 refine cond_s (fun g22_1 => ?_) (fun g22_1 => ?_)
 refine cond_t g22_1 (cond_f g19_1 (cond_t g22_1 (cond_f g19_1 ?_)))
 refine MeetStep.mk ((decide ((c.toNat : Int) ≥ 65) && decide ((c.toNat : Int) ≤ 90))) ⟨(by rw [← (and_e (b := decide ((c.toNat : Int) ≤ 90)) g22_1)] <;> rfl), trivial⟩ (by repeat (first | exact trivial | refine And.intro rfl ?_)) (ConvH.of (.cons r0 .nil)) (Hp.Le.refl _) ⟨rfl, (si hl901)⟩
 refine cond_f g22_1 (cond_f g19_1 (cond_f g22_1 (cond_f g19_1 ?_)))
 refine MeetStep.mk (_) ⟨(by rw [← ((and_f g22_1)).symm] <;> rfl), trivial⟩ (by repeat (first | exact trivial | refine And.intro rfl ?_)) (ConvH.of (.cons r0 .nil)) (Hp.Le.refl _) ⟨rfl, (si hl901)⟩
 refine cond_f g14_1 (cond_f g11_1 (cond_f g14_1 (cond_f g11_1 ?_)))
 replace hl901 := iff_ (and_f g14_1) hl901
 refine cond_F (cond_F (cond_F ?_))
 refine cond_s (fun g22_1 => ?_) (fun g22_1 => ?_)
 refine cond_t g22_1 (cond_F (cond_t g22_1 (cond_F ?_)))
 refine MeetStep.mk ((decide ((c.toNat : Int) ≥ 65) && decide ((c.toNat : Int) ≤ 90))) ⟨(by rw [← (and_e (b := decide ((c.toNat : Int) ≤ 90)) g22_1)] <;> rfl), trivial⟩ (by repeat (first | exact trivial | refine And.intro rfl ?_)) (ConvH.of (.cons r0 .nil)) (Hp.Le.refl _) ⟨rfl, (si hl901)⟩
 refine cond_f g22_1 (cond_F (cond_f g22_1 (cond_F ?_)))
 refine MeetStep.mk (_) ⟨(by rw [← ((and_f g22_1)).symm] <;> rfl), trivial⟩ (by repeat (first | exact trivial | refine And.intro rfl ?_)) (ConvH.of (.cons r0 .nil)) (Hp.Le.refl _) ⟨rfl, (si hl901)⟩
 refine cond_f g7_1 (cond_f g7_1 ?_)
 replace hl901 := iff_ (and_f g7_1) hl901
 refine cond_F (cond_F (cond_F ?_))
 refine cond_s (fun g14_1 => ?_) (fun g14_1 => ?_)
 refine cond_t g14_1 (cond_F (cond_t g14_1 (cond_F ?_)))
 refine cond_s (fun g19_1 => ?_) (fun g19_1 => ?_)
 replace hl901 := ift (and_t g14_1 g19_1) hl901
 refine cond_t g19_1 (cond_t g19_1 (cond_t g19_1 (cond_t g19_1 ?_)))
 refine MeetStep.mk (true) ⟨rfl, trivial⟩ (by repeat (first | exact trivial | refine And.intro rfl ?_)) (ConvH.of (.cons r0 .nil)) (Hp.Le.refl _) ⟨rfl, (si hl901)⟩
 replace hl901 := iff_ (and_g g14_1 g19_1) hl901
 refine cond_f g19_1 (cond_f g19_1 ?_)
 refine cond_s (fun g22_1 => ?_) (fun g22_1 => ?_)
 refine cond_t g22_1 (cond_f g19_1 (cond_t g22_1 (cond_f g19_1 ?_)))
 refine MeetStep.mk ((decide ((c.toNat : Int) ≥ 65) && decide ((c.toNat : Int) ≤ 90))) ⟨(by rw [← (and_e (b := decide ((c.toNat : Int) ≤ 90)) g22_1)] <;> rfl), trivial⟩ (by repeat (first | exact trivial | refine And.intro rfl ?_)) (ConvH.of (.cons r0 .nil)) (Hp.Le.refl _) ⟨rfl, (si hl901)⟩
 refine cond_f g22_1 (cond_f g19_1 (cond_f g22_1 (cond_f g19_1 ?_)))
 refine MeetStep.mk (_) ⟨(by rw [← ((and_f g22_1)).symm] <;> rfl), trivial⟩ (by repeat (first | exact trivial | refine And.intro rfl ?_)) (ConvH.of (.cons r0 .nil)) (Hp.Le.refl _) ⟨rfl, (si hl901)⟩
 refine cond_f g14_1 (cond_F (cond_f g14_1 (cond_F ?_)))
 replace hl901 := iff_ (and_f g14_1) hl901
 refine cond_F (cond_F (cond_F ?_))
 refine cond_s (fun g22_1 => ?_) (fun g22_1 => ?_)
 refine cond_t g22_1 (cond_F (cond_t g22_1 (cond_F ?_)))
 refine MeetStep.mk ((decide ((c.toNat : Int) ≥ 65) && decide ((c.toNat : Int) ≤ 90))) ⟨(by rw [← (and_e (b := decide ((c.toNat : Int) ≤ 90)) g22_1)] <;> rfl), trivial⟩ (by repeat (first | exact trivial | refine And.intro rfl ?_)) (ConvH.of (.cons r0 .nil)) (Hp.Le.refl _) ⟨rfl, (si hl901)⟩
 refine cond_f g22_1 (cond_F (cond_f g22_1 (cond_F ?_)))
 refine MeetStep.mk (_) ⟨(by rw [← ((and_f g22_1)).symm] <;> rfl), trivial⟩ (by repeat (first | exact trivial | refine And.intro rfl ?_)) (ConvH.of (.cons r0 .nil)) (Hp.Le.refl _) ⟨rfl, (si hl901)⟩
 rintro t901 _ _ ⟨rfl, rfl⟩ j901
 refine cs rfl rfl hm (fun w26 hm => ?_) fun w26 hm => ?_
 obtain rfl := si hm
 refine EndStep.mk _ (Hp.Le.refl _) ⟨rfl, rfl⟩ (ConvH.of (.cons r0 .nil))
 refine RStep.of (len_str rfl ?_)
 obtain ⟨hk0, hm⟩ := chkb hm
 obtain ⟨s0, hl0, hm⟩ := bnd hm
 refine code_cut (σ := (Unit)) [2, 4, 29, 30, 31, 32, 33, 34, 35, 36, 37] (fun t0 => []) (fun t0 => [F]) (fun zz K1 => match zz with | t0 => s0 = Fl.go t0) ?_ ?_
 refine block_go rfl ?_
 refine loop_rule (σ := Nat) [2, 4, 29, 30, 31, 32, 33, 34, 35, 36, 37] (fun i0 => [(29, .int .i64 (i0 : Int))]) (fun i0 => [F]) (fun zz K1 => match zz with | i0 => Ja6 c (([33, 35, 36, 37, 38, 39, 42, 43, 45, 46, 94, 95, 96, 124, 126] : Str).drop i0) i0 = some s0) (fun zz => ([33, 35, 36, 37, 38, 39, 42, 43, 45, 46, 94, 95, 96, 124, 126] : Str).length - zz) (0) rfl ⟨rfl, trivial⟩ (ConvH.of (.cons r0 .nil)) hl0 ?_
 clear hl0
 rintro i0 Kb0 lk0 hl0 j0
 conv at hl0 => whnf
 refine cond_go rfl ?_
 refine cond_s (fun w0 => ?_) (fun w0 => ?_)
 obtain ⟨e0, hx0, hd0⟩ := ltx w0
 rw [hd0, Ja6.eq_2] at hl0
 refine block_go rfl ?_
 refine idx_str rfl (nn _) hx0 (eq_int ?_)
 refine cs rfl rfl hl0 (fun w36 hl0 => ?_) fun w36 hl0 => ?_
 obtain rfl := si hl0
 replace hm := elr hm
 obtain rfl := si hm
 refine EndStep.mk _ lk0 ⟨rfl, rfl⟩ (ConvH.of (.cons r0 .nil))
 refine int_in (cntz hx0 hk0) ?_
 refine RoundStep.mk (i0 + 1) ⟨rfl, trivial⟩ (by repeat (first | exact trivial | refine And.intro rfl ?_)) (ConvH.of (.cons r0 .nil)) lk0 (ltm hx0) hl0
 rw [lty w0, Ja6.eq_1] at hl0
 refine cond_T ?_
 refine MeetStep.mk (()) trivial (by repeat (first | exact trivial | refine And.intro rfl ?_)) (ConvH.of (.cons r0 .nil)) lk0 (si hl0).symm
 rintro t0 Kt0 lt0 rfl j0
 replace hm := elg hm
 obtain rfl := si hm
 refine EndStep.mk _ lt0 ⟨rfl, rfl⟩ (ConvH.of (.cons r0 .nil))

noncomputable def Jaw : List UInt8 → Nat → Option (Fl (Bool) (Unit))
  | [], _ => some (Fl.go ())
  | e0 :: xs0, i0 =>
    (Jbn e0).bind fun x12 =>
    if (!x12) then
    some (Fl.ret false)
    else
    Jaw xs0 (i0 + 1)
noncomputable def Ja9 (s : Str) : Option (Bool) :=
  (chk (s.length ≤ szMax)).bind fun _ =>
  (Jaw s 0).bind fun s0 => s0.el some fun t0 =>
  some (decide ((s.length : Int) > 0))
set_option maxHeartbeats 8000000 in
theorem Jc2 {s : Str} {K : Hp} {r : Bool}
    (hm : Ja9 s = some r)  :
    Fn Tryz.prog 186 [str s] K [] (fun v K' H' => v = .bool r ∧ H' = []) := by
 refine Fn.enter Tryz.func186 Tryz.call186 rfl fun F => ?_
 unfold Ja9 at hm
 refine RStep.of (len_str rfl ?_)
 obtain ⟨hk0, hm⟩ := chkb hm
 obtain ⟨s0, hl0, hm⟩ := bnd hm
 refine code_cut (σ := (Unit)) [2, 3, 6, 7, 8, 9, 10, 11, 12, 13, 14] (fun t0 => []) (fun t0 => [F]) (fun zz K1 => match zz with | t0 => s0 = Fl.go t0) ?_ ?_
 refine block_go rfl ?_
 refine loop_rule (σ := Nat) [2, 3, 6, 7, 8, 9, 10, 11, 12, 13, 14] (fun i0 => [(6, .int .i64 (i0 : Int))]) (fun i0 => [F]) (fun zz K1 => match zz with | i0 => Jaw (s.drop i0) i0 = some s0) (fun zz => s.length - zz) (0) rfl ⟨rfl, trivial⟩ (ConvH.of (.cons r0 .nil)) hl0 ?_
 clear hl0
 rintro i0 Kb0 lk0 hl0 j0
 conv at hl0 => whnf
 refine cond_go rfl ?_
 refine cond_s (fun w0 => ?_) (fun w0 => ?_)
 obtain ⟨e0, hx0, hd0⟩ := ltx w0
 rw [hd0, Jaw.eq_2] at hl0
 refine block_go rfl ?_
 refine idx_str rfl (nn _) hx0 ?_
 obtain ⟨x12, q12, hl0⟩ := bnd hl0
 refine call_fn (Jc1 (c := e0) q12) .nil ?_
 rintro _ K12 _ l12 ⟨rfl, rfl⟩
 refine un_not (cond_go rfl ?_)
 refine cond_s (fun w13 => ?_) (fun w13 => ?_)
 replace hl0 := ift (not_t (ni_t w13)) hl0
 obtain rfl := si hl0
 replace hm := elr hm
 obtain rfl := si hm
 refine EndStep.mk _ (lk0.trans l12) ⟨rfl, rfl⟩ (ConvH.of (.cons r0 .nil))
 replace hl0 := iff_ (not_f (ni_f w13)) hl0
 refine int_in (cntz hx0 hk0) ?_
 refine RoundStep.mk (i0 + 1) ⟨rfl, trivial⟩ (by repeat (first | exact trivial | refine And.intro rfl ?_)) (ConvH.of (.cons r0 .nil)) (lk0.trans l12) (ltm hx0) hl0
 rw [lty w0, Jaw.eq_1] at hl0
 refine cond_T ?_
 refine MeetStep.mk (()) trivial (by repeat (first | exact trivial | refine And.intro rfl ?_)) (ConvH.of (.cons r0 .nil)) lk0 (si hl0).symm
 rintro t0 Kt0 lt0 rfl j0
 replace hm := elg hm
 refine RStep.of (len_str rfl ?_)
 obtain rfl := si hm
 refine EndStep.mk _ lt0 ⟨rfl, rfl⟩ (ConvH.of (.cons r0 .nil))

noncomputable def JbS (s : Str) : Option (Str × Int) :=
  (Ja9 s).bind fun x5 =>
  if (!x5) then
  some (([] : Str), 8)
  else
  if decide ((s.length : Int) > 64) then
  some (([] : Str), 5)
  else
  (JaL s).bind fun x11 =>
  some (x11, 0)
set_option maxHeartbeats 8000000 in
theorem Jc9 {s : Str} {K : Hp} {r : Str × Int}
    (hm : JbS s = some r)  :
    Fn Tryz.prog 153 [str s] K [] (fun v K' H' => v = .tuple #[str r.1, .int .i64 r.2] ∧ H' = []) := by
 refine Fn.enter Tryz.func153 Tryz.call153 rfl fun F => ?_
 unfold JbS at hm
 obtain ⟨x5, q5, hm⟩ := bnd hm
 refine call_fn (Jc2 (s := s) q5) .nil ?_
 rintro _ K5 _ l5 ⟨rfl, rfl⟩
 refine un_not (cond_go rfl ?_)
 refine cond_s (fun w6 => ?_) (fun w6 => ?_)
 replace hm := ift (not_t (ni_t w6)) hm
 obtain rfl := si hm
 refine EndStep.mk _ l5 ⟨rfl, rfl⟩ (ConvH.of (.cons r0 .nil))
 replace hm := iff_ (not_f (ni_f w6)) hm
 refine RStep.of (len_str rfl ?_)
 refine cs rfl rfl hm (fun w9 hm => ?_) fun w9 hm => ?_
 obtain rfl := si hm
 refine EndStep.mk _ l5 ⟨rfl, rfl⟩ (ConvH.of (.cons r0 .nil))
 obtain ⟨x11, q11, hm⟩ := bnd hm
 refine call_fn (Ja4 (s := s) q11) .nil ?_
 rintro _ K11 _ l11 ⟨rfl, rfl⟩
 obtain rfl := si hm
 refine EndStep.mk _ (l5.trans l11) ⟨rfl, rfl⟩ (ConvH.of (.cons r0 .nil))

noncomputable def Jaa : List UInt8 → Nat → Option (Fl (Bool) (Unit))
  | [], _ => some (Fl.go ())
  | e0 :: xs0, i0 =>
    (if decide ((e0.toNat : Int) < 32) then some (decide ((e0.toNat : Int) ≠ 9)) else some false).bind fun x18 =>
    (if x18 then some true else some (decide ((e0.toNat : Int) = 127))).bind fun x24 =>
    if x24 then
    some (Fl.ret true)
    else
    Jaa xs0 (i0 + 1)
noncomputable def Jbj (s : Str) : Option (Bool) :=
  (chk (s.length ≤ szMax)).bind fun _ =>
  (Jaa s 0).bind fun s0 => s0.el some fun t0 =>
  some false
set_option maxHeartbeats 8000000 in
theorem JcL {s : Str} {K : Hp} {r : Bool}
    (hm : Jbj s = some r)  :
    Fn Tryz.prog 187 [str s] K [] (fun v K' H' => v = .bool r ∧ H' = []) := by
 refine Fn.enter Tryz.func187 Tryz.call187 rfl fun F => ?_
 unfold Jbj at hm
 refine RStep.of (len_str rfl ?_)
 obtain ⟨hk0, hm⟩ := chkb hm
 obtain ⟨s0, hl0, hm⟩ := bnd hm
 refine code_cut (σ := (Unit)) [2, 3, 6, 7, 8, 9, 10, 11, 12, 13, 14, 15, 16, 17, 18, 19, 20, 21, 22, 23, 24, 25] (fun t0 => []) (fun t0 => [F]) (fun zz K1 => match zz with | t0 => s0 = Fl.go t0) ?_ ?_
 refine block_go rfl ?_
 refine loop_rule (σ := Nat) [2, 3, 6, 7, 8, 9, 10, 11, 12, 13, 14, 15, 16, 17, 18, 19, 20, 21, 22, 23, 24, 25] (fun i0 => [(6, .int .i64 (i0 : Int))]) (fun i0 => [F]) (fun zz K1 => match zz with | i0 => Jaa (s.drop i0) i0 = some s0) (fun zz => s.length - zz) (0) rfl ⟨rfl, trivial⟩ (ConvH.of (.cons r0 .nil)) hl0 ?_
 clear hl0
 rintro i0 Kb0 lk0 hl0 j0
 conv at hl0 => whnf
 refine cond_go rfl ?_
 refine cond_s (fun w0 => ?_) (fun w0 => ?_)
 obtain ⟨e0, hx0, hd0⟩ := ltx w0
 rw [hd0, Jaa.eq_2] at hl0
 refine block_go rfl ?_
 refine guard_go rfl ?_
 refine idx_str rfl (nn _) hx0 ?_
 obtain ⟨x18, e18, hl0⟩ := bnd hl0
 refine cond_s (fun g13_4 => ?_) (fun g13_4 => ?_)
 replace e18 := ift g13_4 e18
 refine cond_t g13_4 (cond_t g13_4 (idx_str rfl (nn _) hx0 (cond_t g13_4 (neq_int (cond_t g13_4 ?_)))))
 obtain ⟨x24, e24, hl0⟩ := bnd hl0
 refine cond_s (fun g19_4 => ?_) (fun g19_4 => ?_)
 replace e24 := ift ((si e18).symm.trans g19_4) e24
 refine cond_t g19_4 (cond_t g19_4 (cond_t g19_4 (cond_t g19_4 (cond_go rfl (cond_T ?_)))))
 replace hl0 := ift (si e24).symm hl0
 obtain rfl := si hl0
 replace hm := elr hm
 obtain rfl := si hm
 refine EndStep.mk _ lk0 ⟨rfl, rfl⟩ (ConvH.of (.cons r0 .nil))
 replace e24 := iff_ ((si e18).symm.trans g19_4) e24
 refine cond_f g19_4 (cond_f g19_4 (idx_str rfl (nn _) hx0 (cond_f g19_4 (eq_int (cond_f g19_4 ?_)))))
 refine cond_go rfl ?_
 refine cond_s (fun w24 => ?_) (fun w24 => ?_)
 replace hl0 := ift ((si e24).symm.trans w24) hl0
 obtain rfl := si hl0
 replace hm := elr hm
 obtain rfl := si hm
 refine EndStep.mk _ lk0 ⟨rfl, rfl⟩ (ConvH.of (.cons r0 .nil))
 replace hl0 := iff_ ((si e24).symm.trans w24) hl0
 refine int_in (cntz hx0 hk0) ?_
 refine RoundStep.mk (i0 + 1) ⟨rfl, trivial⟩ (by repeat (first | exact trivial | refine And.intro rfl ?_)) (ConvH.of (.cons r0 .nil)) lk0 (ltm hx0) hl0
 replace e18 := iff_ g13_4 e18
 refine cond_f g13_4 (cond_f g13_4 (cond_f g13_4 (cond_f g13_4 ?_)))
 obtain ⟨x24, e24, hl0⟩ := bnd hl0
 replace e24 := iff_ (si e18).symm e24
 refine cond_F (cond_F (cond_F (idx_str rfl (nn _) hx0 (cond_F (eq_int ?_)))))
 refine cond_F (cond_go rfl ?_)
 refine cond_s (fun w24 => ?_) (fun w24 => ?_)
 replace hl0 := ift ((si e24).symm.trans w24) hl0
 obtain rfl := si hl0
 replace hm := elr hm
 obtain rfl := si hm
 refine EndStep.mk _ lk0 ⟨rfl, rfl⟩ (ConvH.of (.cons r0 .nil))
 replace hl0 := iff_ ((si e24).symm.trans w24) hl0
 refine int_in (cntz hx0 hk0) ?_
 refine RoundStep.mk (i0 + 1) ⟨rfl, trivial⟩ (by repeat (first | exact trivial | refine And.intro rfl ?_)) (ConvH.of (.cons r0 .nil)) lk0 (ltm hx0) hl0
 rw [lty w0, Jaa.eq_1] at hl0
 refine cond_T ?_
 refine MeetStep.mk (()) trivial (by repeat (first | exact trivial | refine And.intro rfl ?_)) (ConvH.of (.cons r0 .nil)) lk0 (si hl0).symm
 rintro t0 Kt0 lt0 rfl j0
 replace hm := elg hm
 obtain rfl := si hm
 refine EndStep.mk _ lt0 ⟨rfl, rfl⟩ (ConvH.of (.cons r0 .nil))

noncomputable def Jat : Nat → Str → Option (Str)
  | 0, _ => none
  | xs0 + 1, y0_0 =>
    if decide ((y0_0.length : Int) > 0) then
    (ix y0_0 0).bind fun x8 =>
    (if decide ((x8.toNat : Int) = 32) then some true else (ix y0_0 0).bind fun x12 =>
    some (decide ((x12.toNat : Int) = 9))).bind fun x14 =>
    if x14 then
    (chk (0 ≤ (1 : Int) ∧ (1 : Int) ≤ (y0_0.length : Int) ∧ (y0_0.length : Int) ≤ (y0_0.length : Int))).bind fun _ =>
    Jat xs0 (subL y0_0 (1 : Int) (y0_0.length : Int))
    else
    some y0_0
    else
    some y0_0
noncomputable def Jau : Nat → Str → Option (Str)
  | 0, _ => none
  | xs2 + 1, y2_0 =>
    if decide ((y2_0.length : Int) > 0) then
    (chk (InI ((y2_0.length : Int) - 1))).bind fun _ =>
    (ix y2_0 ((y2_0.length : Int) - 1)).bind fun x26 =>
    (if decide ((x26.toNat : Int) = 32) then some true else (chk (InI ((y2_0.length : Int) - 1))).bind fun _ =>
    (ix y2_0 ((y2_0.length : Int) - 1)).bind fun x33 =>
    some (decide ((x33.toNat : Int) = 9))).bind fun x35 =>
    if x35 then
    (chk (InI ((y2_0.length : Int) - 1))).bind fun _ =>
    (chk (0 ≤ (0 : Int) ∧ (0 : Int) ≤ ((y2_0.length : Int) - 1) ∧ ((y2_0.length : Int) - 1) ≤ (y2_0.length : Int))).bind fun _ =>
    Jau xs2 (subL y2_0 (0 : Int) ((y2_0.length : Int) - 1))
    else
    some y2_0
    else
    some y2_0
noncomputable def JbT (n : Nat) (s : Str) : Option (Str) :=
  (Jat n s).bind fun t0 =>
  (Jau n t0).bind fun t2 =>
  some t2
set_option maxHeartbeats 8000000 in
theorem Jda {n : Nat} {s : Str} {K : Hp} {r : Str}
    (hm : JbT n s = some r)  :
    Fn Tryz.prog 188 [str s] K [] (fun v K' H' => v = str r ∧ H' = []) := by
 refine Fn.enter Tryz.func188 Tryz.call188 rfl fun F => ?_
 unfold JbT at hm
 obtain ⟨s0, hl0, hm⟩ := bnd hm
 refine code_cut (σ := (Str)) [0, 3, 4, 5, 6, 7, 8, 9, 10, 11, 12, 13, 14, 15, 16, 17] (fun t0 => [(0, str t0)]) (fun t0 => [F]) (fun zz K1 => match zz with | t0 => t0 = s0) ?_ ?_
 refine block_go rfl ?_
 refine loop_rule (σ := Nat × Str) [0, 3, 4, 5, 6, 7, 8, 9, 10, 11, 12, 13, 14, 15, 16, 17] (fun (i0, y0_0) => [(0, str y0_0)]) (fun (i0, y0_0) => [F]) (fun zz K1 => match zz with | (i0, y0_0) => Jat i0 y0_0 = some s0) (fun zz => zz.1) (n, s) rfl ⟨rfl, trivial⟩ (ConvH.of (.cons r0 .nil)) hl0 ?_
 clear hl0
 rintro ⟨i0, y0_0⟩ Kb0 lk0 hl0 j0
 conv at hl0 => whnf
 cases i0 with
 | zero => rw [Jat.eq_1] at hl0; cases hl0
 | succ i0 =>
  rw [Jat.eq_2] at hl0
  refine guard_go rfl ?_
  refine RStep.of (len_str rfl ?_)
  refine cond_s (fun g6_1 => ?_) (fun g6_1 => ?_)
  replace hl0 := ift g6_1 hl0
  refine cond_t g6_1 ?_
  obtain ⟨x8, l8, k8, hl0⟩ := ixb hl0
  refine idx_str rfl l8 k8 (cond_t g6_1 (eq_int (cond_t g6_1 ?_)))
  obtain ⟨x14, e14, hl0⟩ := bnd hl0
  refine cond_s (fun g10_1 => ?_) (fun g10_1 => ?_)
  replace e14 := ift g10_1 e14
  refine cond_t g10_1 (cond_t g10_1 (cond_t g6_1 (cond_t g10_1 (cond_t g6_1 (cond_go rfl ?_)))))
  refine cond_T ?_
  replace hl0 := ift (si e14).symm hl0
  refine block_go rfl ?_
  obtain ⟨h17, hl0⟩ := chkb hl0
  refine RStep.ofN (sl_str (lo := (some 1)) (hi := none) rfl h17 ?_)
  refine RoundStep.mk (i0, (subL y0_0 (1 : Int) (y0_0.length : Int))) ⟨rfl, trivial⟩ (by repeat (first | exact trivial | refine And.intro rfl ?_)) (ConvH.of (.cons r0 .nil)) lk0 (Nat.lt_succ_self _) hl0
  replace e14 := iff_ g10_1 e14
  refine cond_f g10_1 ?_
  obtain ⟨x12, l12, k12, e14⟩ := ixb e14
  refine idx_str rfl l12 k12 (cond_f g10_1 (eq_int (cond_t g6_1 (cond_f g10_1 (cond_t g6_1 ?_)))))
  refine cond_go rfl ?_
  refine cond_s (fun w15 => ?_) (fun w15 => ?_)
  replace hl0 := ift ((si e14).symm.trans w15) hl0
  refine block_go rfl ?_
  obtain ⟨h17, hl0⟩ := chkb hl0
  refine RStep.ofN (sl_str (lo := (some 1)) (hi := none) rfl h17 ?_)
  refine RoundStep.mk (i0, (subL y0_0 (1 : Int) (y0_0.length : Int))) ⟨rfl, trivial⟩ (by repeat (first | exact trivial | refine And.intro rfl ?_)) (ConvH.of (.cons r0 .nil)) lk0 (Nat.lt_succ_self _) hl0
  replace hl0 := iff_ ((si e14).symm.trans w15) hl0
  refine cond_T ?_
  refine MeetStep.mk (y0_0) ⟨rfl, trivial⟩ (by repeat (first | exact trivial | refine And.intro rfl ?_)) (ConvH.of (.cons r0 .nil)) lk0 (si hl0)
  replace hl0 := iff_ g6_1 hl0
  refine cond_f g6_1 (cond_f g6_1 (cond_f g6_1 (cond_f g6_1 (cond_f g6_1 (cond_go rfl ?_)))))
  refine cond_F (cond_T ?_)
  refine MeetStep.mk (y0_0) ⟨rfl, trivial⟩ (by repeat (first | exact trivial | refine And.intro rfl ?_)) (ConvH.of (.cons r0 .nil)) lk0 (si hl0)
 rintro t0 Kt0 lt0 rfl j0
 obtain ⟨s2, hl2, hm⟩ := bnd hm
 refine code_cut (σ := (Str)) [0, 18, 19, 20, 21, 22, 23, 24, 25, 26, 27, 28, 29, 30, 31, 32, 33, 34, 35, 36, 37, 38, 39, 40, 41] (fun t2 => [(0, str t2)]) (fun t2 => [F]) (fun zz K1 => match zz with | t2 => t2 = s2) ?_ ?_
 refine block_go rfl ?_
 refine loop_rule (σ := Nat × Str) [0, 18, 19, 20, 21, 22, 23, 24, 25, 26, 27, 28, 29, 30, 31, 32, 33, 34, 35, 36, 37, 38, 39, 40, 41] (fun (i2, y2_0) => [(0, str y2_0)]) (fun (i2, y2_0) => [F]) (fun zz K1 => match zz with | (i2, y2_0) => Jau i2 y2_0 = some s2) (fun zz => zz.1) (n, t0) rfl ⟨rfl, trivial⟩ (ConvH.of (.cons r0 .nil)) hl2 ?_
 clear hl2
 rintro ⟨i2, y2_0⟩ Kb2 lk2 hl2 j2
 conv at hl2 => whnf
 cases i2 with
 | zero => rw [Jau.eq_1] at hl2; cases hl2
 | succ i2 =>
  rw [Jau.eq_2] at hl2
  refine guard_go rfl ?_
  refine RStep.of (len_str rfl ?_)
  refine cond_s (fun g21_3 => ?_) (fun g21_3 => ?_)
  replace hl2 := ift g21_3 hl2
  refine cond_t g21_3 (cond_t g21_3 (RStep.of (len_str rfl (cond_t g21_3 ?_))))
  obtain ⟨h25, hl2⟩ := chkb hl2
  refine int_in h25 (cond_t g21_3 ?_)
  obtain ⟨x26, l26, k26, hl2⟩ := ixb hl2
  refine idx_str rfl l26 k26 (cond_t g21_3 (eq_int (cond_t g21_3 ?_)))
  obtain ⟨x35, e35, hl2⟩ := bnd hl2
  refine cond_s (fun g28_3 => ?_) (fun g28_3 => ?_)
  replace e35 := ift g28_3 e35
  refine cond_t g28_3 (cond_t g28_3 (cond_t g28_3 (cond_t g28_3 (cond_t g28_3 (cond_t g21_3 ?_)))))
  refine cond_t g28_3 (cond_t g21_3 (cond_go rfl (cond_T ?_)))
  replace hl2 := ift (si e35).symm hl2
  refine block_go rfl ?_
  refine RStep.of (len_str rfl ?_)
  obtain ⟨h40, hl2⟩ := chkb hl2
  refine int_in h40 ?_
  obtain ⟨h41, hl2⟩ := chkb hl2
  refine RStep.ofN (sl_str (lo := none) (hi := (some ((y2_0.length : Int) - 1))) rfl h41 ?_)
  refine RoundStep.mk (i2, (subL y2_0 (0 : Int) ((y2_0.length : Int) - 1))) ⟨rfl, trivial⟩ (by repeat (first | exact trivial | refine And.intro rfl ?_)) (ConvH.of (.cons r0 .nil)) lk2 (Nat.lt_succ_self _) hl2
  replace e35 := iff_ g28_3 e35
  refine cond_f g28_3 (cond_f g28_3 (RStep.of (len_str rfl (cond_f g28_3 ?_))))
  obtain ⟨h32, e35⟩ := chkb e35
  refine int_in h32 (cond_f g28_3 ?_)
  obtain ⟨x33, l33, k33, e35⟩ := ixb e35
  refine idx_str rfl l33 k33 (cond_f g28_3 (eq_int (cond_t g21_3 (cond_f g28_3 (cond_t g21_3 ?_)))))
  refine cond_go rfl ?_
  refine cond_s (fun w36 => ?_) (fun w36 => ?_)
  replace hl2 := ift ((si e35).symm.trans w36) hl2
  refine block_go rfl ?_
  refine RStep.of (len_str rfl ?_)
  obtain ⟨h40, hl2⟩ := chkb hl2
  refine int_in h40 ?_
  obtain ⟨h41, hl2⟩ := chkb hl2
  refine RStep.ofN (sl_str (lo := none) (hi := (some ((y2_0.length : Int) - 1))) rfl h41 ?_)
  refine RoundStep.mk (i2, (subL y2_0 (0 : Int) ((y2_0.length : Int) - 1))) ⟨rfl, trivial⟩ (by repeat (first | exact trivial | refine And.intro rfl ?_)) (ConvH.of (.cons r0 .nil)) lk2 (Nat.lt_succ_self _) hl2
  replace hl2 := iff_ ((si e35).symm.trans w36) hl2
  refine cond_T ?_
  refine MeetStep.mk (y2_0) ⟨rfl, trivial⟩ (by repeat (first | exact trivial | refine And.intro rfl ?_)) (ConvH.of (.cons r0 .nil)) lk2 (si hl2)
  replace hl2 := iff_ g21_3 hl2
  refine cond_f g21_3 (cond_f g21_3 (cond_f g21_3 (cond_f g21_3 (cond_f g21_3 (cond_f g21_3 ?_)))))
  refine cond_f g21_3 (cond_f g21_3 (cond_go rfl (cond_F (cond_T ?_))))
  refine MeetStep.mk (y2_0) ⟨rfl, trivial⟩ (by repeat (first | exact trivial | refine And.intro rfl ?_)) (ConvH.of (.cons r0 .nil)) lk2 (si hl2)
 rintro t2 Kt2 lt2 rfl j2
 obtain rfl := si hm
 refine EndStep.mk _ (lt0.trans lt2) ⟨rfl, rfl⟩ (ConvH.of (.cons r0 .nil))

noncomputable def JbE (n : Nat) (s : Str) : Option (Str × Int) :=
  (Jbj s).bind fun x5 =>
  if x5 then
  some (([] : Str), 2)
  else
  (JbT n s).bind fun x7 =>
  if decide ((x7.length : Int) > 2048) then
  some (([] : Str), 5)
  else
  some (x7, 0)
set_option maxHeartbeats 8000000 in
theorem Jc3 {n : Nat} {s : Str} {K : Hp} {r : Str × Int}
    (hm : JbE n s = some r)  :
    Fn Tryz.prog 154 [str s] K [] (fun v K' H' => v = .tuple #[str r.1, .int .i64 r.2] ∧ H' = []) := by
 refine Fn.enter Tryz.func154 Tryz.call154 rfl fun F => ?_
 unfold JbE at hm
 obtain ⟨x5, q5, hm⟩ := bnd hm
 refine call_fn (JcL (s := s) q5) .nil ?_
 rintro _ K5 _ l5 ⟨rfl, rfl⟩
 refine cs rfl rfl hm (fun w5 hm => ?_) fun w5 hm => ?_
 obtain rfl := si hm
 refine EndStep.mk _ l5 ⟨rfl, rfl⟩ (ConvH.of (.cons r0 .nil))
 obtain ⟨x7, q7, hm⟩ := bnd hm
 refine call_fn (Jda (s := s) q7) .nil ?_
 rintro _ K7 _ l7 ⟨rfl, rfl⟩
 refine RStep.of (len_str rfl ?_)
 refine cs rfl rfl hm (fun w10 hm => ?_) fun w10 hm => ?_
 obtain rfl := si hm
 refine EndStep.mk _ (l5.trans l7) ⟨rfl, rfl⟩ (ConvH.of (.cons r0 .nil))
 obtain rfl := si hm
 refine EndStep.mk _ (l5.trans l7) ⟨rfl, rfl⟩ (ConvH.of (.cons r0 .nil))

noncomputable def JbU (f : (List Jc)) (name : Str) (value : Str) : Option ((List Jc)) :=
  (chk (([] : List Jc).length + f.length ≤ lim)).bind fun _ =>
  (JaL name).bind fun x11 =>
  (chk ((([] : List Jc) ++ f).length + [(⟨x11, value⟩ : Jc)].length ≤ lim)).bind fun _ =>
  some ((([] : List Jc) ++ f) ++ [(⟨x11, value⟩ : Jc)])
set_option maxHeartbeats 8000000 in
theorem JcD {f : (List Jc)} {name : Str} {value : Str} {ap0_0 : Option Addr} {cp0_0 : Nat} {n0 : Nat} {K : Hp} {r : (List Jc)}
    (hm : JbU f name value = some r) (hp0_0 : RdC Jc.enc K ap0_0 cp0_0 2 f) (en0 : n0 = f.length) :
    Fn Tryz.prog 189 [.slice ap0_0 n0 cp0_0, str name, str value] K [] (fun v K' H' => ∃ ar_0 : Option Addr, ∃ cr_0 : Nat, v = .slice ar_0 r.length cr_0 ∧ (0 < r.length → Has ar_0) ∧ H' = [OwnL Jc.enc ar_0 90 2 cr_0 r]) := by
 subst en0
 refine Fn.enter Tryz.func189 Tryz.call189 rfl fun F => ?_
 unfold JbU at hm
 refine bsO (len := 0) (enc := Jc.enc) (l := ([] : List Jc)) (cl := []) elT23 rfl rfl (fun _ _ => rfl) rfl rfl rfl ?_ fun b7 => ?_
 · conv => whnf
   first | done | rfl
 obtain ⟨h9, hm⟩ := chkb hm
 refine apE rfl r0 elT23 (src_k rfl hp0_0.rd rfl) h9 ?_
 intro a9 c9 o9
 obtain ⟨x11, q11, hm⟩ := bnd hm
 refine call_fn (Ja4 (s := name) q11) .nil ?_
 rintro _ K11 _ l11 ⟨rfl, rfl⟩
 refine build_struct rfl rfl (cond_T (cond_T ?_))
 refine bsO (len := 1) (enc := Jc.enc) (l := [(⟨x11, value⟩ : Jc)]) (cl := [str x11, str value]) elT23 rfl rfl (fun _ _ => rfl) rfl rfl rfl ?_ fun b14 => ?_
 · conv => whnf
   refine cond_T ?_
   first | done | rfl
 obtain ⟨h15, hm⟩ := chkb hm
 refine apE rfl r1 elT23 (src_own' rfl r0 rfl (fun _ => rfl) (fun _ => rfl)) h15 ?_
 intro a15 c15 o15
 obtain rfl := si hm
 refine EndStep.mk _ l11 ⟨a15, c15, rfl, o15, rfl⟩ (ConvH.of (.cons r0 (.cons r1 .nil)))

noncomputable def JU (name : Str) : List Jc → Nat → (List Jc) → Option ((List Jc))
  | [], _, y0_0 => some y0_0
  | e0 :: xs0, i0, y0_0 =>
    (JbI e0 name).bind fun x17 =>
    if (!x17) then
    (chk (y0_0.length + [e0].length ≤ lim)).bind fun _ =>
    JU name xs0 (i0 + 1) (y0_0 ++ [e0])
    else
    JU name xs0 (i0 + 1) y0_0
noncomputable def Jbs (f : (List Jc)) (name : Str) : Option ((List Jc)) :=
  (chk (f.length ≤ szMax)).bind fun _ =>
  (JU name f 0 []).bind fun t0 =>
  some t0
set_option maxHeartbeats 8000000 in
theorem JcS {f : (List Jc)} {name : Str} {ap0_0 : Option Addr} {cp0_0 : Nat} {n0 : Nat} {K : Hp} {r : (List Jc)}
    (hm : Jbs f name = some r) (hp0_0 : RdC Jc.enc K ap0_0 cp0_0 2 f) (en0 : n0 = f.length) :
    Fn Tryz.prog 190 [.slice ap0_0 n0 cp0_0, str name] K [] (fun v K' H' => ∃ ar_0 : Option Addr, ∃ cr_0 : Nat, v = .slice ar_0 r.length cr_0 ∧ (0 < r.length → Has ar_0) ∧ H' = [OwnL Jc.enc ar_0 90 2 cr_0 r]) := by
 subst en0
 refine Fn.enter Tryz.func190 Tryz.call190 rfl fun F => ?_
 unfold Jbs at hm
 refine RStep.of (len_slice rfl ?_)
 obtain ⟨hk0, hm⟩ := chkb hm
 obtain ⟨s0, hl0, hm⟩ := bnd hm
 refine nilC Jc.enc 90 2 ?_
 refine code_cut (σ := ((List Jc)) × Option Addr × Nat) [5, 6, 9, 10, 11, 12, 13, 14, 15, 16, 17, 18, 19, 20, 21, 22, 23, 24, 25, 26] (fun (t0, t0_a0, t0_c0) => [(5, .slice t0_a0 t0.length t0_c0)]) (fun (t0, t0_a0, t0_c0) => [OwnL Jc.enc t0_a0 90 2 t0_c0 t0, F]) (fun zz K1 => match zz with | (t0, t0_a0, t0_c0) => (0 < t0.length → Has t0_a0) ∧ t0 = s0) ?_ ?_
 refine block_go rfl ?_
 refine loop_rule (σ := Nat × (List Jc) × Option Addr × Nat) [5, 6, 9, 10, 11, 12, 13, 14, 15, 16, 17, 18, 19, 20, 21, 22, 23, 24, 25, 26] (fun (i0, y0_0, y0_a0, y0_c0) => [(9, .int .i64 (i0 : Int)), (5, .slice y0_a0 y0_0.length y0_c0)]) (fun (i0, y0_0, y0_a0, y0_c0) => [OwnL Jc.enc y0_a0 90 2 y0_c0 y0_0, F]) (fun zz K1 => match zz with | (i0, y0_0, y0_a0, y0_c0) => (0 < y0_0.length → Has y0_a0) ∧ JU name (f.drop i0) i0 y0_0 = some s0) (fun zz => f.length - zz.1) (0, [], none, 0) rfl ⟨rfl, rfl, trivial⟩ (ConvH.of (.cons r0 (.cons r0 .nil))) ⟨(fun h => by simp at h), hl0⟩ ?_
 clear hl0
 rintro ⟨i0, y0_0, y0_a0, y0_c0⟩ Kb0 lk0 ⟨y0_h0, hl0⟩ j0
 refine cond_go rfl ?_
 refine cond_s (fun w0 => ?_) (fun w0 => ?_)
 obtain ⟨e0, hx0, hd0⟩ := ltx w0
 rw [hd0, JU.eq_2] at hl0
 refine block_go rfl ?_
 refine RStep.ofN (index_addr rfl rfl (hasK (hp0_0.mono lk0).rd hx0) (nn _) (lt_ofN hx0) (RStep.of (load_rd_agg i0 _ (hp0_0.mono lk0).rd rfl (mp hx0) rfl ?_)))
 obtain ⟨x17, q17, hl0⟩ := bnd hl0
 refine call_fn (Jcm (f := e0) (name := name) q17) .nil ?_
 rintro _ K17 _ l17 ⟨rfl, rfl⟩
 refine un_not (cond_go rfl ?_)
 refine cond_s (fun w18 => ?_) (fun w18 => ?_)
 replace hl0 := ift (not_t (ni_t w18)) hl0
 refine RStep.ofN (index_addr rfl rfl (hasK (hp0_0.mono (lk0.trans l17)).rd hx0) (nn _) (lt_ofN hx0) (RStep.of (load_rd_agg i0 _ (hp0_0.mono (lk0.trans l17)).rd rfl (mp hx0) rfl ?_)))
 refine bsO (len := 1) (enc := Jc.enc) (l := [e0]) (cl := [str e0.Name, str e0.Value]) elT23 rfl rfl (fun _ _ => rfl) rfl rfl rfl ?_ fun b24 => ?_
 · conv => whnf
   refine cond_T ?_
   first | done | rfl
 obtain ⟨h25, hl0⟩ := chkb hl0
 refine apE rfl r1 elT23 (src_own' rfl r0 rfl (fun _ => rfl) (fun _ => rfl)) h25 ?_
 intro a25 c25 o25
 refine int_in (cntz hx0 hk0) ?_
 refine RoundStep.mk (i0 + 1, (y0_0 ++ [e0]), a25, c25) ⟨rfl, rfl, trivial⟩ (by repeat (first | exact trivial | refine And.intro rfl ?_)) (ConvH.of (.cons r0 (.cons r1 .nil))) (lk0.trans l17) (ltm hx0) ⟨o25, hl0⟩
 replace hl0 := iff_ (not_f (ni_f w18)) hl0
 refine int_in (cntz hx0 hk0) ?_
 refine RoundStep.mk (i0 + 1, y0_0, y0_a0, y0_c0) ⟨rfl, rfl, trivial⟩ (by repeat (first | exact trivial | refine And.intro rfl ?_)) (ConvH.of (.cons r0 (.cons r0 .nil))) (lk0.trans l17) (ltm hx0) ⟨y0_h0, hl0⟩
 rw [lty w0, JU.eq_1] at hl0
 refine cond_T ?_
 refine MeetStep.mk (y0_0, y0_a0, y0_c0) ⟨rfl, trivial⟩ (by repeat (first | exact trivial | refine And.intro rfl ?_)) (ConvH.of (.cons r0 (.cons r0 .nil))) lk0 ⟨y0_h0, (si hl0)⟩
 rintro ⟨t0, t0_a0, t0_c0⟩ Kt0 lt0 ⟨t0_h0, rfl⟩ j0
 obtain rfl := si hm
 refine EndStep.mk _ lt0 ⟨t0_a0, t0_c0, rfl, t0_h0, rfl⟩ (ConvH.of (.cons r0 (.cons r0 .nil)))

noncomputable def JaV (name : Str) (f : (List Jc)) (value : Str) : List Jc → Nat → Option (Fl ((List Jc)) (Unit))
  | [], _ => some (Fl.go ())
  | e0 :: xs0, i0 =>
    (JbI e0 name).bind fun x18 =>
    if x18 then
    (chk (0 ≤ (0 : Int) ∧ (0 : Int) ≤ (i0 : Int) ∧ (i0 : Int) ≤ (f.length : Int))).bind fun _ =>
    (JbU (subL f (0 : Int) (i0 : Int)) name value).bind fun x24 =>
    (chk (0 ≤ ((i0 : Int) + 1) ∧ ((i0 : Int) + 1) ≤ (f.length : Int) ∧ (f.length : Int) ≤ (f.length : Int))).bind fun _ =>
    (Jbs (subL f ((i0 : Int) + 1) (f.length : Int)) name).bind fun x30 =>
    (chk (x24.length + x30.length ≤ lim)).bind fun _ =>
    some (Fl.ret (x24 ++ x30))
    else
    JaV name f value xs0 (i0 + 1)
noncomputable def Jce (f : (List Jc)) (name : Str) (value : Str) : Option ((List Jc)) :=
  (chk (f.length ≤ szMax)).bind fun _ =>
  (JaV name f value f 0).bind fun s0 => s0.el some fun t0 =>
  (JbU f name value).bind fun x36 =>
  some x36
set_option maxHeartbeats 8000000 in
theorem Jdj {f : (List Jc)} {name : Str} {value : Str} {ap0_0 : Option Addr} {cp0_0 : Nat} {n0 : Nat} {K : Hp} {r : (List Jc)}
    (hm : Jce f name value = some r) (hp0_0 : RdC Jc.enc K ap0_0 cp0_0 2 f) (en0 : n0 = f.length) :
    Fn Tryz.prog 155 [.slice ap0_0 n0 cp0_0, str name, str value] K [] (fun v K' H' => ∃ ar_0 : Option Addr, ∃ cr_0 : Nat, v = .slice ar_0 r.length cr_0 ∧ (0 < r.length → Has ar_0) ∧ H' = [OwnL Jc.enc ar_0 90 2 cr_0 r]) := by
 subst en0
 refine Fn.enter Tryz.func155 Tryz.call155 rfl fun F => ?_
 unfold Jce at hm
 refine RStep.of (len_slice rfl ?_)
 obtain ⟨hk0, hm⟩ := chkb hm
 obtain ⟨s0, hl0, hm⟩ := bnd hm
 refine code_cut (σ := (Unit)) [6, 7, 10, 11, 12, 13, 14, 15, 16, 17, 18, 19, 20, 21, 22, 23, 24, 25, 26, 27, 28, 29, 30, 31, 32] (fun t0 => []) (fun t0 => [F]) (fun zz K1 => match zz with | t0 => s0 = Fl.go t0) ?_ ?_
 refine block_go rfl ?_
 refine loop_rule (σ := Nat) [6, 7, 10, 11, 12, 13, 14, 15, 16, 17, 18, 19, 20, 21, 22, 23, 24, 25, 26, 27, 28, 29, 30, 31, 32] (fun i0 => [(10, .int .i64 (i0 : Int))]) (fun i0 => [F]) (fun zz K1 => match zz with | i0 => JaV name f value (f.drop i0) i0 = some s0) (fun zz => f.length - zz) (0) rfl ⟨rfl, trivial⟩ (ConvH.of (.cons r0 .nil)) hl0 ?_
 clear hl0
 rintro i0 Kb0 lk0 hl0 j0
 conv at hl0 => whnf
 refine cond_go rfl ?_
 refine cond_s (fun w0 => ?_) (fun w0 => ?_)
 obtain ⟨e0, hx0, hd0⟩ := ltx w0
 rw [hd0, JaV.eq_2] at hl0
 refine block_go rfl ?_
 refine RStep.ofN (index_addr rfl rfl (hasK (hp0_0.mono lk0).rd hx0) (nn _) (lt_ofN hx0) (RStep.of (load_rd_agg i0 _ (hp0_0.mono lk0).rd rfl (mp hx0) rfl ?_)))
 obtain ⟨x18, q18, hl0⟩ := bnd hl0
 refine call_fn (Jcm (f := e0) (name := name) q18) .nil ?_
 rintro _ K18 _ l18 ⟨rfl, rfl⟩
 refine cs rfl rfl hl0 (fun w18 hl0 => ?_) fun w18 hl0 => ?_
 refine draw_go ⟨⟨[], false⟩, _, [], []⟩ (by kernel_rfl) ⟨Hp.Le.refl _, (ConvH.of .nil), ci0⟩ ?_
 obtain ⟨h21, hl0⟩ := chkb hl0
 have h21_ := (hp0_0.mono (lk0.trans l18)).subC h21
 refine sl_slN (l := f) (lo := none) (hi := (some (i0 : Int))) (lo' := (0 : Int)) (hi' := (i0 : Int)) rfl rfl rfl rfl rfl (hp0_0.mono (lk0.trans l18)).le h21 ?_
 obtain ⟨x24, q24, hl0⟩ := bnd hl0
 refine call_fn (JcD (name := name) (value := value) q24 h21_ rfl) .nil ?_
 rintro _ K24 _ l24 ⟨a24_0, c24_0, rfl, h24_0, rfl⟩
 refine ⟨⟨l24, (ConvH.of .nil), ci0⟩, ?_⟩
 refine int_in (cntz hx0 hk0) ?_
 obtain ⟨h28, hl0⟩ := chkb hl0
 have h28_ := (hp0_0.mono ((lk0.trans l18).trans l24)).subC h28
 refine sl_slN (l := f) (lo := (some ((i0 : Int) + 1))) (hi := none) (lo' := ((i0 : Int) + 1)) (hi' := (f.length : Int)) rfl rfl rfl rfl rfl (hp0_0.mono ((lk0.trans l18).trans l24)).le h28 ?_
 obtain ⟨x30, q30, hl0⟩ := bnd hl0
 refine call_fn (JcS (name := name) q30 h28_ rfl) .nil ?_
 rintro _ K30 _ l30 ⟨a30_0, c30_0, rfl, h30_0, rfl⟩
 refine ⟨⟨(l24.trans l30), (ConvH.of .nil), ci0⟩, ?_⟩
 obtain ⟨h31, hl0⟩ := chkb hl0
 refine apE rfl r1 elT23 (src_own' rfl r0 rfl (fun _ => rfl) (fun _ => rfl)) h31 ?_
 intro a31 c31 o31
 refine ⟨⟨(l24.trans l30), (ConvH.of .nil), ci0⟩, ?_⟩
 obtain rfl := si hl0
 replace hm := elr hm
 obtain rfl := si hm
 refine EndStep.mk _ (((lk0.trans l18).trans l24).trans l30) ⟨a31, c31, rfl, o31, rfl⟩ (ConvH.of (.cons r0 (.cons r1 .nil)))
 refine int_in (cntz hx0 hk0) ?_
 refine RoundStep.mk (i0 + 1) ⟨rfl, trivial⟩ (by repeat (first | exact trivial | refine And.intro rfl ?_)) (ConvH.of (.cons r0 .nil)) (lk0.trans l18) (ltm hx0) hl0
 rw [lty w0, JaV.eq_1] at hl0
 refine cond_T ?_
 refine MeetStep.mk (()) trivial (by repeat (first | exact trivial | refine And.intro rfl ?_)) (ConvH.of (.cons r0 .nil)) lk0 (si hl0).symm
 rintro t0 Kt0 lt0 rfl j0
 replace hm := elg hm
 obtain ⟨x36, q36, hm⟩ := bnd hm
 refine call_fn (JcD (name := name) (value := value) q36 (hp0_0.mono lt0) rfl) .nil ?_
 rintro _ K36 _ l36 ⟨a36_0, c36_0, rfl, h36_0, rfl⟩
 obtain rfl := si hm
 refine EndStep.mk _ (lt0.trans l36) ⟨a36_0, c36_0, rfl, h36_0, rfl⟩ (ConvH.of (.cons r0 (.cons r0 .nil)))

noncomputable def JbF (n : Nat) (r' : Ji) (s : Str) (x : Jd) : Option (Ji × Int) :=
  (chk (0 ≤ (0 : Int) ∧ (0 : Int) ≤ (5 : Int) ∧ (5 : Int) ≤ (s.length : Int))).bind fun _ =>
  ((if decide ((subL s (0 : Int) (5 : Int)) ≠ ([118, 97, 114, 121, 58] : Str)) then
  some 7
  else
  some 5 : Option (Int))).bind fun t901 =>
  (chk (0 ≤ t901 ∧ t901 ≤ (s.length : Int) ∧ (s.length : Int) ≤ (s.length : Int))).bind fun _ =>
  (JbS (subL s t901 (s.length : Int))).bind fun x21 =>
  if decide (x21.2 ≠ 0) then
  some (r', 8)
  else
  if decide (t901 = 5) then
  (Jbv n r'.Vary x21.1).bind fun x32 =>
  some ((⟨r'.Path, r'.Query, r'.Headers, x32, r'.Tags, r'.TTL, r'.Deny, r'.Steps, r'.Pass, r'.Token⟩ : Ji), 0)
  else
  (JbE n x.S).bind fun x38 =>
  if decide (x38.2 ≠ 0) then
  some (r', x38.2)
  else
  (Jce r'.Headers x21.1 x38.1).bind fun x49 =>
  some ((⟨r'.Path, r'.Query, x49, r'.Vary, r'.Tags, r'.TTL, r'.Deny, r'.Steps, r'.Pass, r'.Token⟩ : Ji), 0)
set_option maxHeartbeats 8000000 in
theorem Jc4 {n : Nat} {r' : Ji} {s : Str} {x : Jd} {ap0_0 : Option Addr} {cp0_0 : Nat} {ap0_1 : Option Addr} {cp0_1 : Nat} {ap0_2 : Option Addr} {cp0_2 : Nat} {K : Hp} {r : Ji × Int}
    (hm : JbF n r' s x = some r) (hp0_0 : RdC Jc.enc K ap0_0 cp0_0 2 r'.Headers) (hp0_1 : RdC eS K ap0_1 cp0_1 1 r'.Vary) (hp0_2 : RdC eS K ap0_2 cp0_2 1 r'.Tags) :
    Fn Tryz.prog 122 [.agg #[str r'.Path, str r'.Query, .slice ap0_0 r'.Headers.length cp0_0, .slice ap0_1 r'.Vary.length cp0_1, .slice ap0_2 r'.Tags.length cp0_2, .int .i64 r'.TTL, .int .i64 r'.Deny, .int .i64 r'.Steps, .bool r'.Pass, .bool r'.Token], str s, .agg #[.int .i64 x.TypeZ, .int .i64 x.N, str x.S, .bool x.Is]] K [] (fun v K' H' => ∃ ar_0 : Option Addr, ∃ cr_0 : Nat, ∃ ar_1 : Option Addr, ∃ cr_1 : Nat, ∃ ar_2 : Option Addr, ∃ cr_2 : Nat, v = .tuple #[.agg #[str r.1.Path, str r.1.Query, .slice ar_0 r.1.Headers.length cr_0, .slice ar_1 r.1.Vary.length cr_1, .slice ar_2 r.1.Tags.length cr_2, .int .i64 r.1.TTL, .int .i64 r.1.Deny, .int .i64 r.1.Steps, .bool r.1.Pass, .bool r.1.Token], .int .i64 r.2] ∧ RdC Jc.enc K' ar_0 cr_0 2 r.1.Headers ∧ RdC eS K' ar_1 cr_1 1 r.1.Vary ∧ RdC eS K' ar_2 cr_2 1 r.1.Tags ∧ H' = []) := by
 refine Fn.enter Tryz.func122 Tryz.call122 rfl fun F => ?_
 unfold JbF at hm
 refine box_rule ?_
 intro b3
 refine box_rule ?_
 intro b5
 refine alloc_rule rfl ?_
 intro b6
 obtain ⟨h14, hm⟩ := chkb hm
 refine RStep.ofN (sl_str (lo := none) (hi := (some 5)) rfl h14 (neq_str ?_))
 obtain ⟨s901, hl901, hm⟩ := bnd hm
 refine code_cut (σ := (Int)) [8] (fun t901 => [(8, .int .i64 t901)]) (fun t901 => [Cells b6 44 [str ([] : Str), str ([] : Str), .slice none 0 0, .slice none 0 0, .slice none 0 0, .int .i64 0, .int .i64 0, .int .i64 0, .bool false, .bool false], Cells b5 56 [.int .i64 x.TypeZ, .int .i64 x.N, str x.S, .bool x.Is], Cells b3 44 [str r'.Path, str r'.Query, .slice ap0_0 r'.Headers.length cp0_0, .slice ap0_1 r'.Vary.length cp0_1, .slice ap0_2 r'.Tags.length cp0_2, .int .i64 r'.TTL, .int .i64 r'.Deny, .int .i64 r'.Steps, .bool r'.Pass, .bool r'.Token], F]) (fun zz K1 => match zz with | t901 => t901 = s901) ?_ ?_
 refine cs rfl rfl hl901 (fun w16 hl901 => ?_) fun w16 hl901 => ?_
 refine MeetStep.mk (7) ⟨rfl, trivial⟩ (by repeat (first | exact trivial | refine And.intro rfl ?_)) (ConvH.of (.cons r0 (.cons r0 (.cons r0 (.cons r0 .nil))))) (Hp.Le.refl _) (si hl901)
 refine MeetStep.mk (5) ⟨rfl, trivial⟩ (by repeat (first | exact trivial | refine And.intro rfl ?_)) (ConvH.of (.cons r0 (.cons r0 (.cons r0 (.cons r0 .nil))))) (Hp.Le.refl _) (si hl901)
 rintro t901 Kt901 lt901 rfl j901
 obtain ⟨h20, hm⟩ := chkb hm
 refine RStep.ofN (sl_str (lo := (some t901)) (hi := none) rfl h20 ?_)
 obtain ⟨x21, q21, hm⟩ := bnd hm
 refine call_fn (Jc9 (s := (subL s t901 (s.length : Int))) q21) .nil ?_
 rintro _ K21 _ l21 ⟨rfl, rfl⟩
 refine neq_int ?_
 refine cs rfl rfl hm (fun w25 hm => ?_) fun w25 hm => ?_
 refine RStep.of (loadn_s r2 rfl (Nat.le_of_ble_eq_true rfl) ?_)
 refine store_rule r0 rfl ?_
 refine ⟨rfl, rfl, (Nat.le_of_ble_eq_true rfl), ?_⟩
 obtain rfl := si hm
 refine RStep.of (loadn_s r0 rfl (Nat.le_of_ble_eq_true rfl) ?_)
 refine EndStep.mk _ (lt901.trans l21) ⟨ap0_0, cp0_0, ap0_1, cp0_1, ap0_2, cp0_2, rfl, (hp0_0.mono (lt901.trans l21)), (hp0_1.mono (lt901.trans l21)), (hp0_2.mono (lt901.trans l21)), rfl⟩ (ConvH.of (.cons r3 .nil))
 refine eq_int ?_
 refine cs rfl rfl hm (fun w28 hm => ?_) fun w28 hm => ?_
 refine Ja rfl (RStep.of (load1_s r2 rfl rfl ?_))
 obtain ⟨x32, q32, hm⟩ := bnd hm
 refine call_fn (Jcp (s := x21.1) q32 (hp0_1.mono (lt901.trans l21)) rfl) .nil ?_
 rintro _ K32 _ l32 ⟨a32_0, c32_0, rfl, h32_0, rfl⟩
 refine Ja rfl ?_
 refine store_rule r2 rfl ?_
 refine ⟨rfl, rfl, (Nat.le_of_ble_eq_true rfl), ?_⟩
 refine RStep.of (loadn_s r0 rfl (Nat.le_of_ble_eq_true rfl) ?_)
 refine store_rule r1 rfl ?_
 refine ⟨rfl, rfl, (Nat.le_of_ble_eq_true rfl), ?_⟩
 obtain rfl := si hm
 refine RStep.of (loadn_s r0 rfl (Nat.le_of_ble_eq_true rfl) ?_)
 refine EndStep.mk _ ((lt901.trans l21).trans l32) ⟨ap0_0, cp0_0, a32_0, c32_0, ap0_2, cp0_2, rfl, (hp0_0.mono ((lt901.trans l21).trans l32)), h32_0, (hp0_2.mono ((lt901.trans l21).trans l32)), rfl⟩ (ConvH.of (.cons r3 .nil))
 refine Ja rfl (RStep.of (load1_s r1 rfl rfl ?_))
 obtain ⟨x38, q38, hm⟩ := bnd hm
 refine call_fn (Jc3 (s := x.S) q38) .nil ?_
 rintro _ K38 _ l38 ⟨rfl, rfl⟩
 refine neq_int ?_
 refine cs rfl rfl hm (fun w42 hm => ?_) fun w42 hm => ?_
 refine RStep.of (loadn_s r2 rfl (Nat.le_of_ble_eq_true rfl) ?_)
 refine store_rule r0 rfl ?_
 refine ⟨rfl, rfl, (Nat.le_of_ble_eq_true rfl), ?_⟩
 obtain rfl := si hm
 refine RStep.of (loadn_s r0 rfl (Nat.le_of_ble_eq_true rfl) ?_)
 refine EndStep.mk _ ((lt901.trans l21).trans l38) ⟨ap0_0, cp0_0, ap0_1, cp0_1, ap0_2, cp0_2, rfl, (hp0_0.mono ((lt901.trans l21).trans l38)), (hp0_1.mono ((lt901.trans l21).trans l38)), (hp0_2.mono ((lt901.trans l21).trans l38)), rfl⟩ (ConvH.of (.cons r3 .nil))
 refine Ja rfl (RStep.of (load1_s r2 rfl rfl ?_))
 obtain ⟨x49, q49, hm⟩ := bnd hm
 refine call_fn (Jdj (name := x21.1) (value := x38.1) q49 (hp0_0.mono ((lt901.trans l21).trans l38)) rfl) .nil ?_
 rintro _ K49 _ l49 ⟨a49_0, c49_0, rfl, h49_0, rfl⟩
 refine Ja rfl ?_
 refine store_rule r3 rfl ?_
 refine ⟨rfl, rfl, (Nat.le_of_ble_eq_true rfl), ?_⟩
 refine RStep.of (loadn_s r0 rfl (Nat.le_of_ble_eq_true rfl) ?_)
 refine store_rule r2 rfl ?_
 refine ⟨rfl, rfl, (Nat.le_of_ble_eq_true rfl), ?_⟩
 obtain rfl := si hm
 refine RStep.of (loadn_s r0 rfl (Nat.le_of_ble_eq_true rfl) ?_)
 refine fE r2 fun Kz1 lz1 fz1 => ?_
 refine EndStep.mk _ ((((lt901.trans l21).trans l38).trans l49).trans lz1) ⟨a49_0, c49_0, ap0_1, cp0_1, ap0_2, cp0_2, rfl, fz1, (hp0_1.mono ((((lt901.trans l21).trans l38).trans l49).trans lz1)), (hp0_2.mono ((((lt901.trans l21).trans l38).trans l49).trans lz1)), rfl⟩ (ConvH.of (.cons r3 .nil))

noncomputable def Jcq (n : Nat) (r' : Ji) (s : Str) (x : Jd) : Option (Ji × Int) :=
  ((((if (decide (s = ([112, 97, 115, 115] : Str)) || decide (s = ([116, 111, 107, 101, 110] : Str))) then
  some true
  else
  (if decide ((s.length : Int) > 5) then (chk (0 ≤ (0 : Int) ∧ (0 : Int) ≤ (5 : Int) ∧ (5 : Int) ≤ (s.length : Int))).bind fun _ =>
  some (decide ((subL s (0 : Int) (5 : Int)) = ([118, 97, 114, 121, 58] : Str))) else some false).bind fun x24 =>
  some (x24 || decide (s = ([118, 97, 114, 121, 58] : Str)))) : Option (Bool)).bind fun t902 =>
  if t902 then
  some 0
  else
  if (decide (s = ([116, 116, 108] : Str)) || decide (s = ([100, 101, 110, 121] : Str))) then
  some 2
  else
  some 1 : Option (Int))).bind fun t901 =>
  if decide (x.TypeZ ≠ t901) then
  some (r', 9)
  else
  ((if decide (s = ([112, 97, 116, 104] : Str)) then
  some (Fl.go (x.S, r'.Query, r'.Tags, r'.TTL, r'.Deny, r'.Pass, r'.Token))
  else
  if decide (s = ([113, 117, 101, 114, 121] : Str)) then
  some (Fl.go (r'.Path, x.S, r'.Tags, r'.TTL, r'.Deny, r'.Pass, r'.Token))
  else
  if decide (s = ([116, 97, 103] : Str)) then
  (Jbv n r'.Tags x.S).bind fun x65 =>
  some (Fl.go (r'.Path, r'.Query, x65, r'.TTL, r'.Deny, r'.Pass, r'.Token))
  else
  if decide (s = ([116, 116, 108] : Str)) then
  some (Fl.go (r'.Path, r'.Query, r'.Tags, (max x.N 0), r'.Deny, r'.Pass, r'.Token))
  else
  if decide (s = ([100, 101, 110, 121] : Str)) then
  if (decide (x.N < 400) || decide (x.N > 499)) then
  some (Fl.go (r'.Path, r'.Query, r'.Tags, r'.TTL, 403, r'.Pass, r'.Token))
  else
  some (Fl.go (r'.Path, r'.Query, r'.Tags, r'.TTL, x.N, r'.Pass, r'.Token))
  else
  if decide (s = ([112, 97, 115, 115] : Str)) then
  some (Fl.go (r'.Path, r'.Query, r'.Tags, r'.TTL, r'.Deny, true, r'.Token))
  else
  if decide (s = ([116, 111, 107, 101, 110] : Str)) then
  some (Fl.go (r'.Path, r'.Query, r'.Tags, r'.TTL, r'.Deny, r'.Pass, true))
  else
  (JbF n r' s x).bind fun x46 =>
  some (Fl.ret (x46.1, x46.2)) : Option (Fl (Ji × Int) (Str × Str × (List Str) × Int × Int × Bool × Bool)))).bind fun s906 => s906.el some fun t906 =>
  some ((⟨t906.1, t906.2.1, r'.Headers, r'.Vary, t906.2.2.1, t906.2.2.2.1, t906.2.2.2.2.1, r'.Steps, t906.2.2.2.2.2.1, t906.2.2.2.2.2.2⟩ : Ji), 0)
set_option maxHeartbeats 8000000 in
theorem Jdm {n : Nat} {r' : Ji} {s : Str} {x : Jd} {ap0_0 : Option Addr} {cp0_0 : Nat} {ap0_1 : Option Addr} {cp0_1 : Nat} {ap0_2 : Option Addr} {cp0_2 : Nat} {K : Hp} {r : Ji × Int}
    (hm : Jcq n r' s x = some r) (hp0_0 : RdC Jc.enc K ap0_0 cp0_0 2 r'.Headers) (hp0_1 : RdC eS K ap0_1 cp0_1 1 r'.Vary) (hp0_2 : RdC eS K ap0_2 cp0_2 1 r'.Tags) :
    Fn Tryz.prog 79 [.agg #[str r'.Path, str r'.Query, .slice ap0_0 r'.Headers.length cp0_0, .slice ap0_1 r'.Vary.length cp0_1, .slice ap0_2 r'.Tags.length cp0_2, .int .i64 r'.TTL, .int .i64 r'.Deny, .int .i64 r'.Steps, .bool r'.Pass, .bool r'.Token], str s, .agg #[.int .i64 x.TypeZ, .int .i64 x.N, str x.S, .bool x.Is]] K [] (fun v K' H' => ∃ ar_0 : Option Addr, ∃ cr_0 : Nat, ∃ ar_1 : Option Addr, ∃ cr_1 : Nat, ∃ ar_2 : Option Addr, ∃ cr_2 : Nat, v = .tuple #[.agg #[str r.1.Path, str r.1.Query, .slice ar_0 r.1.Headers.length cr_0, .slice ar_1 r.1.Vary.length cr_1, .slice ar_2 r.1.Tags.length cr_2, .int .i64 r.1.TTL, .int .i64 r.1.Deny, .int .i64 r.1.Steps, .bool r.1.Pass, .bool r.1.Token], .int .i64 r.2] ∧ RdC Jc.enc K' ar_0 cr_0 2 r.1.Headers ∧ RdC eS K' ar_1 cr_1 1 r.1.Vary ∧ RdC eS K' ar_2 cr_2 1 r.1.Tags ∧ H' = []) := by
 refine Fn.enter Tryz.func79 Tryz.call79 rfl fun F => ?_
 unfold Jcq at hm
 refine box_rule ?_
 intro b3
 refine box_rule ?_
 intro b5
 refine alloc_rule rfl ?_
 intro b6
 obtain ⟨s901, hl901, hm⟩ := bnd hm
 refine code_cut (σ := (Int)) [8, 9, 10, 11, 12, 13, 14, 15, 16, 17, 18, 19, 20, 21, 22, 23, 24, 25, 26, 27, 28, 29, 30, 31, 32, 33, 34, 35, 36] (fun t901 => [(8, .int .i64 t901)]) (fun t901 => [Cells b6 44 [str ([] : Str), str ([] : Str), .slice none 0 0, .slice none 0 0, .slice none 0 0, .int .i64 0, .int .i64 0, .int .i64 0, .bool false, .bool false], Cells b5 56 [.int .i64 x.TypeZ, .int .i64 x.N, str x.S, .bool x.Is], Cells b3 44 [str r'.Path, str r'.Query, .slice ap0_0 r'.Headers.length cp0_0, .slice ap0_1 r'.Vary.length cp0_1, .slice ap0_2 r'.Tags.length cp0_2, .int .i64 r'.TTL, .int .i64 r'.Deny, .int .i64 r'.Steps, .bool r'.Pass, .bool r'.Token], F]) (fun zz K1 => match zz with | t901 => t901 = s901) ?_ ?_
 refine block_go rfl ?_
 obtain ⟨s902, hl902, hl901⟩ := bnd hl901
 refine code_cut (σ := Bool) [9, 10, 11, 12, 13, 14, 15, 16, 17, 18, 19, 20, 21, 22, 23, 24, 25, 26, 27, 28, 29] (fun t902 => [(9, .bool t902)]) (fun _ => [Cells b6 44 [str ([] : Str), str ([] : Str), .slice none 0 0, .slice none 0 0, .slice none 0 0, .int .i64 0, .int .i64 0, .int .i64 0, .bool false, .bool false], Cells b5 56 [.int .i64 x.TypeZ, .int .i64 x.N, str x.S, .bool x.Is], Cells b3 44 [str r'.Path, str r'.Query, .slice ap0_0 r'.Headers.length cp0_0, .slice ap0_1 r'.Vary.length cp0_1, .slice ap0_2 r'.Tags.length cp0_2, .int .i64 r'.TTL, .int .i64 r'.Deny, .int .i64 r'.Steps, .bool r'.Pass, .bool r'.Token], F]) (fun t902 K1 => K1 = K ∧ t902 = s902) ?_ ?_
 refine guard_go rfl ?_
 refine eq_str ?_
 refine cond_s (fun g12_2 => ?_) (fun g12_2 => ?_)
 refine cond_t g12_2 (cond_t g12_2 ?_)
 replace hl902 := ift (or_t g12_2) hl902
 refine cond_T (cond_T (cond_T (cond_T (cond_T (cond_T ?_)))))
 refine cond_T (cond_T (cond_T ?_))
 refine MeetStep.mk (true) ⟨rfl, trivial⟩ (by repeat (first | exact trivial | refine And.intro rfl ?_)) (ConvH.of (.cons r0 (.cons r0 (.cons r0 (.cons r0 .nil))))) (Hp.Le.refl _) ⟨rfl, (si hl902)⟩
 refine cond_f g12_2 (eq_str (cond_f g12_2 ?_))
 refine cond_s (fun g16_2 => ?_) (fun g16_2 => ?_)
 replace hl902 := ift (or_u g12_2 g16_2) hl902
 refine cond_t g16_2 (cond_t g16_2 (cond_t g16_2 (cond_t g16_2 (cond_t g16_2 (cond_T ?_)))))
 refine cond_T (cond_T ?_)
 refine MeetStep.mk (true) ⟨rfl, trivial⟩ (by repeat (first | exact trivial | refine And.intro rfl ?_)) (ConvH.of (.cons r0 (.cons r0 (.cons r0 (.cons r0 .nil))))) (Hp.Le.refl _) ⟨rfl, (si hl902)⟩
 replace hl902 := iff_ (or_f g12_2 g16_2) hl902
 refine cond_f g16_2 (RStep.of (len_str rfl (cond_f g16_2 (cond_f g16_2 ?_))))
 obtain ⟨x24, e24, hl902⟩ := bnd hl902
 refine cond_s (fun g20_2 => ?_) (fun g20_2 => ?_)
 replace e24 := ift g20_2 e24
 refine cond_t g20_2 ?_
 obtain ⟨h22, e24⟩ := chkb e24
 refine RStep.ofN (sl_str (lo := none) (hi := (some 5)) rfl h22 (cond_t g20_2 (eq_str (cond_f g16_2 (cond_t g20_2 (cond_f g16_2 ?_))))))
 refine cond_s (fun g26_2 => ?_) (fun g26_2 => ?_)
 refine cond_t g26_2 (cond_t g26_2 ?_)
 refine MeetStep.mk (_) ⟨(by rw [← ((or_t ((si e24).symm.trans g26_2))).symm] <;> rfl), trivial⟩ (by repeat (first | exact trivial | refine And.intro rfl ?_)) (ConvH.of (.cons r0 (.cons r0 (.cons r0 (.cons r0 .nil))))) (Hp.Le.refl _) ⟨rfl, (si hl902)⟩
 refine cond_f g26_2 (eq_str (cond_f g26_2 ?_))
 refine MeetStep.mk ((x24 || decide (s = ([118, 97, 114, 121, 58] : Str)))) ⟨(by rw [← (or_e (b := decide (s = ([118, 97, 114, 121, 58] : Str))) ((si e24).symm.trans g26_2))] <;> rfl), trivial⟩ (by repeat (first | exact trivial | refine And.intro rfl ?_)) (ConvH.of (.cons r0 (.cons r0 (.cons r0 (.cons r0 .nil))))) (Hp.Le.refl _) ⟨rfl, (si hl902)⟩
 replace e24 := iff_ g20_2 e24
 refine cond_f g20_2 (cond_f g20_2 (cond_f g16_2 (cond_f g20_2 (cond_f g16_2 (cond_F ?_)))))
 refine cond_F (eq_str (cond_F ?_))
 refine MeetStep.mk ((x24 || decide (s = ([118, 97, 114, 121, 58] : Str)))) ⟨(by rw [← (or_e (b := decide (s = ([118, 97, 114, 121, 58] : Str))) (si e24).symm)] <;> rfl), trivial⟩ (by repeat (first | exact trivial | refine And.intro rfl ?_)) (ConvH.of (.cons r0 (.cons r0 (.cons r0 (.cons r0 .nil))))) (Hp.Le.refl _) ⟨rfl, (si hl902)⟩
 rintro t902 _ _ ⟨rfl, rfl⟩ j902
 refine cs rfl rfl hl901 (fun w9 hl901 => ?_) fun w9 hl901 => ?_
 refine MeetStep.mk (0) ⟨rfl, trivial⟩ (by repeat (first | exact trivial | refine And.intro rfl ?_)) (ConvH.of (.cons r0 (.cons r0 (.cons r0 (.cons r0 .nil))))) (Hp.Le.refl _) (si hl901)
 refine guard_go rfl ?_
 refine eq_str ?_
 refine cond_s (fun g33_4 => ?_) (fun g33_4 => ?_)
 refine cond_t g33_4 (cond_t g33_4 (cond_go rfl (cond_T ?_)))
 replace hl901 := ift (or_t g33_4) hl901
 refine MeetStep.mk (2) ⟨rfl, trivial⟩ (by repeat (first | exact trivial | refine And.intro rfl ?_)) (ConvH.of (.cons r0 (.cons r0 (.cons r0 (.cons r0 .nil))))) (Hp.Le.refl _) (si hl901)
 refine cond_f g33_4 (eq_str (cond_f g33_4 (cond_go rfl ?_)))
 refine cond_s (fun w30 => ?_) (fun w30 => ?_)
 replace hl901 := ift (or_u g33_4 w30) hl901
 refine MeetStep.mk (2) ⟨rfl, trivial⟩ (by repeat (first | exact trivial | refine And.intro rfl ?_)) (ConvH.of (.cons r0 (.cons r0 (.cons r0 (.cons r0 .nil))))) (Hp.Le.refl _) (si hl901)
 replace hl901 := iff_ (or_f g33_4 w30) hl901
 refine MeetStep.mk (1) ⟨rfl, trivial⟩ (by repeat (first | exact trivial | refine And.intro rfl ?_)) (ConvH.of (.cons r0 (.cons r0 (.cons r0 (.cons r0 .nil))))) (Hp.Le.refl _) (si hl901)
 rintro t901 Kt901 lt901 rfl j901
 refine Ja rfl (RStep.of (load1_s r1 rfl rfl (neq_int ?_)))
 refine cs rfl rfl hm (fun w40 hm => ?_) fun w40 hm => ?_
 refine RStep.of (loadn_s r2 rfl (Nat.le_of_ble_eq_true rfl) ?_)
 refine store_rule r0 rfl ?_
 refine ⟨rfl, rfl, (Nat.le_of_ble_eq_true rfl), ?_⟩
 obtain rfl := si hm
 refine RStep.of (loadn_s r0 rfl (Nat.le_of_ble_eq_true rfl) ?_)
 refine EndStep.mk _ lt901 ⟨ap0_0, cp0_0, ap0_1, cp0_1, ap0_2, cp0_2, rfl, (hp0_0.mono lt901), (hp0_1.mono lt901), (hp0_2.mono lt901), rfl⟩ (ConvH.of (.cons r3 .nil))
 obtain ⟨s906, hl906, hm⟩ := bnd hm
 refine code_cut (σ := (Str × Str × (List Str) × Int × Int × Bool × Bool) × Option Addr × Nat) [7, 43, 44, 45, 46, 47, 48, 49, 50, 51, 52, 53, 54, 55, 56, 57, 58, 59, 60, 61, 62, 63, 64, 65, 66, 67, 68, 69, 70, 71, 72, 73, 74, 75, 76, 77, 78, 79, 80, 81, 82, 83, 84, 85, 86, 87, 88, 89, 90, 91, 92] (fun (t906, t906_a2, t906_c2) => []) (fun (t906, t906_a2, t906_c2) => [Cells b6 44 [str ([] : Str), str ([] : Str), .slice none 0 0, .slice none 0 0, .slice none 0 0, .int .i64 0, .int .i64 0, .int .i64 0, .bool false, .bool false], Cells b5 56 [.int .i64 x.TypeZ, .int .i64 x.N, str x.S, .bool x.Is], Cells b3 44 [str t906.1, str t906.2.1, .slice ap0_0 r'.Headers.length cp0_0, .slice ap0_1 r'.Vary.length cp0_1, .slice t906_a2 t906.2.2.1.length t906_c2, .int .i64 t906.2.2.2.1, .int .i64 t906.2.2.2.2.1, .int .i64 r'.Steps, .bool t906.2.2.2.2.2.1, .bool t906.2.2.2.2.2.2], F]) (fun zz K1 => match zz with | (t906, t906_a2, t906_c2) => RdC eS K1 t906_a2 t906_c2 1 t906.2.2.1 ∧ s906 = Fl.go t906) ?_ ?_
 refine block_go rfl ?_
 refine eq_str ?_
 refine cs rfl rfl hl906 (fun w49 hl906 => ?_) fun w49 hl906 => ?_
 refine Ja rfl (RStep.of (load1_s r1 rfl rfl (Ja rfl ?_)))
 refine store_rule r2 rfl ?_
 refine ⟨rfl, rfl, (Nat.le_of_ble_eq_true rfl), ?_⟩
 refine MeetStep.mk ((x.S, r'.Query, r'.Tags, r'.TTL, r'.Deny, r'.Pass, r'.Token), ap0_2, cp0_2) trivial (by repeat (first | exact trivial | refine And.intro rfl ?_)) (ConvH.of (.cons r1 (.cons r1 (.cons r0 (.cons r0 .nil))))) (Hp.Le.refl _) ⟨(hp0_2.mono lt901), (si hl906).symm⟩
 refine eq_str ?_
 refine cs rfl rfl hl906 (fun w54 hl906 => ?_) fun w54 hl906 => ?_
 refine Ja rfl (RStep.of (load1_s r1 rfl rfl (Ja rfl ?_)))
 refine store_rule r2 rfl ?_
 refine ⟨rfl, rfl, (Nat.le_of_ble_eq_true rfl), ?_⟩
 refine MeetStep.mk ((r'.Path, x.S, r'.Tags, r'.TTL, r'.Deny, r'.Pass, r'.Token), ap0_2, cp0_2) trivial (by repeat (first | exact trivial | refine And.intro rfl ?_)) (ConvH.of (.cons r1 (.cons r1 (.cons r0 (.cons r0 .nil))))) (Hp.Le.refl _) ⟨(hp0_2.mono lt901), (si hl906).symm⟩
 refine eq_str ?_
 refine cs rfl rfl hl906 (fun w59 hl906 => ?_) fun w59 hl906 => ?_
 refine Ja rfl (RStep.of (load1_s r2 rfl rfl (Ja rfl (RStep.of (load1_s r1 rfl rfl ?_)))))
 obtain ⟨x65, q65, hl906⟩ := bnd hl906
 refine call_fn (Jcp (s := x.S) q65 (hp0_2.mono lt901) rfl) .nil ?_
 rintro _ K65 _ l65 ⟨a65_0, c65_0, rfl, h65_0, rfl⟩
 refine Ja rfl ?_
 refine store_rule r2 rfl ?_
 refine ⟨rfl, rfl, (Nat.le_of_ble_eq_true rfl), ?_⟩
 refine MeetStep.mk ((r'.Path, r'.Query, x65, r'.TTL, r'.Deny, r'.Pass, r'.Token), a65_0, c65_0) trivial (by repeat (first | exact trivial | refine And.intro rfl ?_)) (ConvH.of (.cons r1 (.cons r1 (.cons r0 (.cons r0 .nil))))) l65 ⟨h65_0, (si hl906).symm⟩
 refine eq_str ?_
 refine cs rfl rfl hl906 (fun w67 hl906 => ?_) fun w67 hl906 => ?_
 refine Ja rfl (RStep.of (load1_s r1 rfl rfl (RStep.of (max_int (Ja rfl ?_)))))
 refine store_rule r2 rfl ?_
 refine ⟨rfl, rfl, (Nat.le_of_ble_eq_true rfl), ?_⟩
 refine MeetStep.mk ((r'.Path, r'.Query, r'.Tags, (max x.N 0), r'.Deny, r'.Pass, r'.Token), ap0_2, cp0_2) trivial (by repeat (first | exact trivial | refine And.intro rfl ?_)) (ConvH.of (.cons r1 (.cons r1 (.cons r0 (.cons r0 .nil))))) (Hp.Le.refl _) ⟨(hp0_2.mono lt901), (si hl906).symm⟩
 refine eq_str ?_
 refine cs rfl rfl hl906 (fun w73 hl906 => ?_) fun w73 hl906 => ?_
 refine Ja rfl (RStep.of (load1_s r1 rfl rfl (Ja rfl ?_)))
 refine store_rule r2 rfl ?_
 refine ⟨rfl, rfl, (Nat.le_of_ble_eq_true rfl), ?_⟩
 refine guard_go rfl ?_
 refine Ja rfl (RStep.of (load1_s r2 rfl rfl ?_))
 refine cond_s (fun g81_20 => ?_) (fun g81_20 => ?_)
 refine cond_t g81_20 (cond_t g81_20 (cond_t g81_20 (cond_go rfl (cond_T ?_))))
 replace hl906 := ift (or_t g81_20) hl906
 refine Ja rfl ?_
 refine store_rule r0 rfl ?_
 refine ⟨rfl, rfl, (Nat.le_of_ble_eq_true rfl), ?_⟩
 refine MeetStep.mk ((r'.Path, r'.Query, r'.Tags, r'.TTL, 403, r'.Pass, r'.Token), ap0_2, cp0_2) trivial (by repeat (first | exact trivial | refine And.intro rfl ?_)) (ConvH.of (.cons r1 (.cons r1 (.cons r0 (.cons r0 .nil))))) (Hp.Le.refl _) ⟨(hp0_2.mono lt901), (si hl906).symm⟩
 refine Ja rfl (cond_f g81_20 (RStep.of (load1_s r2 rfl rfl (cond_f g81_20 (cond_f g81_20 (cond_go rfl ?_))))))
 refine cond_s (fun w85 => ?_) (fun w85 => ?_)
 replace hl906 := ift (or_u g81_20 w85) hl906
 refine Ja rfl ?_
 refine store_rule r0 rfl ?_
 refine ⟨rfl, rfl, (Nat.le_of_ble_eq_true rfl), ?_⟩
 refine MeetStep.mk ((r'.Path, r'.Query, r'.Tags, r'.TTL, 403, r'.Pass, r'.Token), ap0_2, cp0_2) trivial (by repeat (first | exact trivial | refine And.intro rfl ?_)) (ConvH.of (.cons r1 (.cons r1 (.cons r0 (.cons r0 .nil))))) (Hp.Le.refl _) ⟨(hp0_2.mono lt901), (si hl906).symm⟩
 replace hl906 := iff_ (or_f g81_20 w85) hl906
 refine MeetStep.mk ((r'.Path, r'.Query, r'.Tags, r'.TTL, x.N, r'.Pass, r'.Token), ap0_2, cp0_2) trivial (by repeat (first | exact trivial | refine And.intro rfl ?_)) (ConvH.of (.cons r1 (.cons r1 (.cons r0 (.cons r0 .nil))))) (Hp.Le.refl _) ⟨(hp0_2.mono lt901), (si hl906).symm⟩
 refine eq_str ?_
 refine cs rfl rfl hl906 (fun w87 hl906 => ?_) fun w87 hl906 => ?_
 refine Ja rfl ?_
 refine store_rule r2 rfl ?_
 refine ⟨rfl, rfl, (Nat.le_of_ble_eq_true rfl), ?_⟩
 refine MeetStep.mk ((r'.Path, r'.Query, r'.Tags, r'.TTL, r'.Deny, true, r'.Token), ap0_2, cp0_2) trivial (by repeat (first | exact trivial | refine And.intro rfl ?_)) (ConvH.of (.cons r1 (.cons r1 (.cons r0 (.cons r0 .nil))))) (Hp.Le.refl _) ⟨(hp0_2.mono lt901), (si hl906).symm⟩
 refine eq_str ?_
 refine cs rfl rfl hl906 (fun w90 hl906 => ?_) fun w90 hl906 => ?_
 refine Ja rfl ?_
 refine store_rule r2 rfl ?_
 refine ⟨rfl, rfl, (Nat.le_of_ble_eq_true rfl), ?_⟩
 refine MeetStep.mk ((r'.Path, r'.Query, r'.Tags, r'.TTL, r'.Deny, r'.Pass, true), ap0_2, cp0_2) trivial (by repeat (first | exact trivial | refine And.intro rfl ?_)) (ConvH.of (.cons r1 (.cons r1 (.cons r0 (.cons r0 .nil))))) (Hp.Le.refl _) ⟨(hp0_2.mono lt901), (si hl906).symm⟩
 refine RStep.of (loadn_s r2 rfl (Nat.le_of_ble_eq_true rfl) (RStep.of (loadn_s r1 rfl (Nat.le_of_ble_eq_true rfl) ?_)))
 obtain ⟨x46, q46, hl906⟩ := bnd hl906
 refine call_fn (Jc4 (r' := r') (s := s) (x := x) q46 (hp0_0.mono lt901) (hp0_1.mono lt901) (hp0_2.mono lt901)) .nil ?_
 rintro _ K46 _ l46 ⟨a46_0, c46_0, a46_1, c46_1, a46_2, c46_2, rfl, h46_0, h46_1, h46_2, rfl⟩
 refine store_rule r0 rfl ?_
 refine ⟨rfl, rfl, (Nat.le_of_ble_eq_true rfl), ?_⟩
 obtain rfl := si hl906
 replace hm := elr hm
 obtain rfl := si hm
 refine RStep.of (loadn_s r0 rfl (Nat.le_of_ble_eq_true rfl) ?_)
 refine EndStep.mk _ (lt901.trans l46) ⟨a46_0, c46_0, a46_1, c46_1, a46_2, c46_2, rfl, h46_0, h46_1, h46_2, rfl⟩ (ConvH.of (.cons r3 .nil))
 rintro ⟨t906, t906_a2, t906_c2⟩ Kt906 lt906 ⟨t906_h2, rfl⟩ j906
 replace hm := elg hm
 refine RStep.of (loadn_s r2 rfl (Nat.le_of_ble_eq_true rfl) ?_)
 refine store_rule r0 rfl ?_
 refine ⟨rfl, rfl, (Nat.le_of_ble_eq_true rfl), ?_⟩
 obtain rfl := si hm
 refine RStep.of (loadn_s r0 rfl (Nat.le_of_ble_eq_true rfl) ?_)
 refine EndStep.mk _ (lt901.trans lt906) ⟨ap0_0, cp0_0, ap0_1, cp0_1, t906_a2, t906_c2, rfl, (hp0_0.mono (lt901.trans lt906)), (hp0_1.mono (lt901.trans lt906)), t906_h2, rfl⟩ (ConvH.of (.cons r3 .nil))

noncomputable def Jbo (n : Nat) (m : Jk) (x : Jm) (inZ : Jn) (most : Int) : Option (Jk) :=
  (chk (InI (m.r.Steps + 1))).bind fun _ =>
  if decide ((m.r.Steps + 1) > most) then
  (Jbl (⟨m.stack, m.slots, m.atZ, (⟨m.r.Path, m.r.Query, m.r.Headers, m.r.Vary, m.r.Tags, m.r.TTL, m.r.Deny, (m.r.Steps + 1), m.r.Pass, m.r.Token⟩ : Ji), m.done, m.code⟩ : Jk) 13).bind fun x31 =>
  some x31
  else
  (JaR x).bind fun x34 =>
  (chk (InI ((m.stack.length : Int) - x34.1))).bind fun _ =>
  ((if decide (x34.1 > 0) then
  (chk (InI ((m.stack.length : Int) - 1))).bind fun _ =>
  (ix m.stack ((m.stack.length : Int) - 1)).bind fun x51 =>
  some (x51.TypeZ, x51.N, x51.S, x51.Is)
  else
  some (0, 0, ([] : Str), false) : Option (Int × Int × Str × Bool))).bind fun t902 =>
  ((if decide (x34.1 > 1) then
  (ix m.stack ((m.stack.length : Int) - x34.1)).bind fun x58 =>
  some (x58.TypeZ, x58.N, x58.S, x58.Is)
  else
  some (0, 0, ([] : Str), false) : Option (Int × Int × Str × Bool))).bind fun t904 =>
  (chk (0 ≤ (0 : Int) ∧ (0 : Int) ≤ ((m.stack.length : Int) - x34.1) ∧ ((m.stack.length : Int) - x34.1) ≤ (m.stack.length : Int))).bind fun _ =>
  (chk (InI (m.atZ + 1))).bind fun _ =>
  ((if decide (x.Op = 1) then
  (JaT x.N).bind fun x80 =>
  (Jah (⟨(subL m.stack (0 : Int) ((m.stack.length : Int) - x34.1)), m.slots, (m.atZ + 1), (⟨m.r.Path, m.r.Query, m.r.Headers, m.r.Vary, m.r.Tags, m.r.TTL, m.r.Deny, (m.r.Steps + 1), m.r.Pass, m.r.Token⟩ : Ji), m.done, m.code⟩ : Jk) x x80 most).bind fun x82 =>
  some (Fl.ret x82)
  else
  if decide (x.Op = 2) then
  (JY x.S).bind fun x89 =>
  (Jah (⟨(subL m.stack (0 : Int) ((m.stack.length : Int) - x34.1)), m.slots, (m.atZ + 1), (⟨m.r.Path, m.r.Query, m.r.Headers, m.r.Vary, m.r.Tags, m.r.TTL, m.r.Deny, (m.r.Steps + 1), m.r.Pass, m.r.Token⟩ : Ji), m.done, m.code⟩ : Jk) x x89 most).bind fun x91 =>
  some (Fl.ret x91)
  else
  if decide (x.Op = 3) then
  (ix m.slots x.N).bind fun x100 =>
  (Jah (⟨(subL m.stack (0 : Int) ((m.stack.length : Int) - x34.1)), m.slots, (m.atZ + 1), (⟨m.r.Path, m.r.Query, m.r.Headers, m.r.Vary, m.r.Tags, m.r.TTL, m.r.Deny, (m.r.Steps + 1), m.r.Pass, m.r.Token⟩ : Ji), m.done, m.code⟩ : Jk) x x100 most).bind fun x103 =>
  some (Fl.ret x103)
  else
  if decide (x.Op = 5) then
  (Jbm x.S inZ).bind fun x111 =>
  (Jah (⟨(subL m.stack (0 : Int) ((m.stack.length : Int) - x34.1)), m.slots, (m.atZ + 1), (⟨m.r.Path, m.r.Query, m.r.Headers, m.r.Vary, m.r.Tags, m.r.TTL, m.r.Deny, (m.r.Steps + 1), m.r.Pass, m.r.Token⟩ : Ji), m.done, m.code⟩ : Jk) x x111 most).bind fun x113 =>
  some (Fl.ret x113)
  else
  if decide (x.Op = 4) then
  (chk (([] : List Jd).length + m.slots.length ≤ lim)).bind fun _ =>
  (ix (([] : List Jd) ++ m.slots) x.N).bind fun x126 =>
  some (Fl.ret (⟨(subL m.stack (0 : Int) ((m.stack.length : Int) - x34.1)), ((([] : List Jd) ++ m.slots).set ((x.N).toNat) (⟨t902.1, t902.2.1, t902.2.2.1, t902.2.2.2⟩ : Jd)), (m.atZ + 1), (⟨m.r.Path, m.r.Query, m.r.Headers, m.r.Vary, m.r.Tags, m.r.TTL, m.r.Deny, (m.r.Steps + 1), m.r.Pass, m.r.Token⟩ : Ji), m.done, m.code⟩ : Jk))
  else
  if decide (x.Op = 6) then
  (JZ n x.S (⟨t902.1, t902.2.1, t902.2.2.1, t902.2.2.2⟩ : Jd) inZ).bind fun x135 =>
  some (Fl.go (x135.2, x135.1.TypeZ, x135.1.N, x135.1.S, x135.1.Is))
  else
  if decide (x.Op = 7) then
  (Jx n x.S (⟨t904.1, t904.2.1, t904.2.2.1, t904.2.2.2⟩ : Jd) (⟨t902.1, t902.2.1, t902.2.2.1, t902.2.2.2⟩ : Jd)).bind fun x145 =>
  some (Fl.go (x145.2, x145.1.TypeZ, x145.1.N, x145.1.S, x145.1.Is))
  else
  if decide (x.Op = 8) then
  (J9 (!t902.2.2.2)).bind fun x153 =>
  some (Fl.go (decide (t902.1 = 3), x153.TypeZ, x153.N, x153.S, x153.Is))
  else
  if decide (x.Op = 9) then
  some (Fl.ret (⟨(subL m.stack (0 : Int) ((m.stack.length : Int) - x34.1)), m.slots, x.N, (⟨m.r.Path, m.r.Query, m.r.Headers, m.r.Vary, m.r.Tags, m.r.TTL, m.r.Deny, (m.r.Steps + 1), m.r.Pass, m.r.Token⟩ : Ji), m.done, m.code⟩ : Jk))
  else
  if decide (x.Op = 10) then
  if decide (t902.1 ≠ 3) then
  (Jbl (⟨(subL m.stack (0 : Int) ((m.stack.length : Int) - x34.1)), m.slots, (m.atZ + 1), (⟨m.r.Path, m.r.Query, m.r.Headers, m.r.Vary, m.r.Tags, m.r.TTL, m.r.Deny, (m.r.Steps + 1), m.r.Pass, m.r.Token⟩ : Ji), m.done, m.code⟩ : Jk) 9).bind fun x169 =>
  some (Fl.ret x169)
  else
  if (!t902.2.2.2) then
  some (Fl.ret (⟨(subL m.stack (0 : Int) ((m.stack.length : Int) - x34.1)), m.slots, x.N, (⟨m.r.Path, m.r.Query, m.r.Headers, m.r.Vary, m.r.Tags, m.r.TTL, m.r.Deny, (m.r.Steps + 1), m.r.Pass, m.r.Token⟩ : Ji), m.done, m.code⟩ : Jk))
  else
  some (Fl.ret (⟨(subL m.stack (0 : Int) ((m.stack.length : Int) - x34.1)), m.slots, (m.atZ + 1), (⟨m.r.Path, m.r.Query, m.r.Headers, m.r.Vary, m.r.Tags, m.r.TTL, m.r.Deny, (m.r.Steps + 1), m.r.Pass, m.r.Token⟩ : Ji), m.done, m.code⟩ : Jk))
  else
  if decide (x.Op = 11) then
  (Jcq n (⟨m.r.Path, m.r.Query, m.r.Headers, m.r.Vary, m.r.Tags, m.r.TTL, m.r.Deny, (m.r.Steps + 1), m.r.Pass, m.r.Token⟩ : Ji) x.S (⟨t902.1, t902.2.1, t902.2.2.1, t902.2.2.2⟩ : Jd)).bind fun x185 =>
  some (Fl.ret (⟨(subL m.stack (0 : Int) ((m.stack.length : Int) - x34.1)), m.slots, (m.atZ + 1), x185.1, decide (x.S = ([100, 101, 110, 121] : Str)), x185.2⟩ : Jk))
  else
  some (Fl.ret (⟨(subL m.stack (0 : Int) ((m.stack.length : Int) - x34.1)), m.slots, (m.atZ + 1), (⟨m.r.Path, m.r.Query, m.r.Headers, m.r.Vary, m.r.Tags, m.r.TTL, m.r.Deny, (m.r.Steps + 1), m.r.Pass, m.r.Token⟩ : Ji), true, m.code⟩ : Jk)) : Option (Fl (Jk) (Bool × Int × Int × Str × Bool)))).bind fun s906 => s906.el some fun t906 =>
  if (!t906.1) then
  (Jbl (⟨(subL m.stack (0 : Int) ((m.stack.length : Int) - x34.1)), m.slots, (m.atZ + 1), (⟨m.r.Path, m.r.Query, m.r.Headers, m.r.Vary, m.r.Tags, m.r.TTL, m.r.Deny, (m.r.Steps + 1), m.r.Pass, m.r.Token⟩ : Ji), m.done, m.code⟩ : Jk) 9).bind fun x200 =>
  some x200
  else
  (Jah (⟨(subL m.stack (0 : Int) ((m.stack.length : Int) - x34.1)), m.slots, (m.atZ + 1), (⟨m.r.Path, m.r.Query, m.r.Headers, m.r.Vary, m.r.Tags, m.r.TTL, m.r.Deny, (m.r.Steps + 1), m.r.Pass, m.r.Token⟩ : Ji), m.done, m.code⟩ : Jk) x (⟨t906.2.1, t906.2.2.1, t906.2.2.2.1, t906.2.2.2.2⟩ : Jd) most).bind fun x205 =>
  some x205
set_option maxHeartbeats 8000000 in
theorem Jdb {n : Nat} {m : Jk} {x : Jm} {inZ : Jn} {most : Int} {ap0_0 : Option Addr} {cp0_0 : Nat} {ap0_1 : Option Addr} {cp0_1 : Nat} {ap0_2 : Option Addr} {cp0_2 : Nat} {ap0_3 : Option Addr} {cp0_3 : Nat} {ap0_4 : Option Addr} {cp0_4 : Nat} {ap2_0 : Option Addr} {cp2_0 : Nat} {K : Hp} {r : Jk}
    (hm : Jbo n m x inZ most = some r) (hp0_0 : RdC Jd.enc K ap0_0 cp0_0 4 m.stack) (hp0_1 : RdC Jd.enc K ap0_1 cp0_1 4 m.slots) (hp0_2 : RdC Jc.enc K ap0_2 cp0_2 2 m.r.Headers) (hp0_3 : RdC eS K ap0_3 cp0_3 1 m.r.Vary) (hp0_4 : RdC eS K ap0_4 cp0_4 1 m.r.Tags) (hp2_0 : RdC Jc.enc K ap2_0 cp2_0 2 inZ.Fields) :
    Fn Tryz.prog 37 [.agg #[.slice ap0_0 m.stack.length cp0_0, .slice ap0_1 m.slots.length cp0_1, .int .i64 m.atZ, str m.r.Path, str m.r.Query, .slice ap0_2 m.r.Headers.length cp0_2, .slice ap0_3 m.r.Vary.length cp0_3, .slice ap0_4 m.r.Tags.length cp0_4, .int .i64 m.r.TTL, .int .i64 m.r.Deny, .int .i64 m.r.Steps, .bool m.r.Pass, .bool m.r.Token, .bool m.done, .int .i64 m.code], .agg #[.int .i64 x.Op, .int .i64 x.N, str x.S], .agg #[str inZ.Method, str inZ.Host, str inZ.Path, str inZ.Query, .slice ap2_0 inZ.Fields.length cp2_0], .int .i64 most] K [] (fun v K' H' => ∃ ar_0 : Option Addr, ∃ cr_0 : Nat, ∃ ar_1 : Option Addr, ∃ cr_1 : Nat, ∃ ar_2 : Option Addr, ∃ cr_2 : Nat, ∃ ar_3 : Option Addr, ∃ cr_3 : Nat, ∃ ar_4 : Option Addr, ∃ cr_4 : Nat, v = .agg #[.slice ar_0 r.stack.length cr_0, .slice ar_1 r.slots.length cr_1, .int .i64 r.atZ, str r.r.Path, str r.r.Query, .slice ar_2 r.r.Headers.length cr_2, .slice ar_3 r.r.Vary.length cr_3, .slice ar_4 r.r.Tags.length cr_4, .int .i64 r.r.TTL, .int .i64 r.r.Deny, .int .i64 r.r.Steps, .bool r.r.Pass, .bool r.r.Token, .bool r.done, .int .i64 r.code] ∧ RdC Jd.enc K' ar_0 cr_0 4 r.stack ∧ RdC Jd.enc K' ar_1 cr_1 4 r.slots ∧ RdC Jc.enc K' ar_2 cr_2 2 r.r.Headers ∧ RdC eS K' ar_3 cr_3 1 r.r.Vary ∧ RdC eS K' ar_4 cr_4 1 r.r.Tags ∧ H' = []) := by
 refine Fn.enter Tryz.func37 Tryz.call37 rfl fun F => ?_
 unfold Jbo at hm
 refine box_rule ?_
 intro b4
 refine box_rule ?_
 intro b5
 refine box_rule ?_
 intro b6
 refine alloc_rule rfl ?_
 intro b8
 refine Ja rfl (Ja rfl (RStep.of (load1_s r3 rfl rfl ?_)))
 obtain ⟨h22, hm⟩ := chkb hm
 refine int_in h22 (Ja rfl (Ja rfl ?_))
 refine store_rule r3 rfl ?_
 refine ⟨rfl, rfl, (Nat.le_of_ble_eq_true rfl), ?_⟩
 refine Ja rfl (Ja rfl (RStep.of (load1_s r0 rfl rfl ?_)))
 refine cs rfl rfl hm (fun w29 hm => ?_) fun w29 hm => ?_
 refine RStep.of (loadn_s r0 rfl (Nat.le_of_ble_eq_true rfl) ?_)
 obtain ⟨x31, q31, hm⟩ := bnd hm
 refine call_fn (Jbh (m := (⟨m.stack, m.slots, m.atZ, (⟨m.r.Path, m.r.Query, m.r.Headers, m.r.Vary, m.r.Tags, m.r.TTL, m.r.Deny, (m.r.Steps + 1), m.r.Pass, m.r.Token⟩ : Ji), m.done, m.code⟩ : Jk)) (e := 13) q31 hp0_0 hp0_1 hp0_2 hp0_3 hp0_4) .nil ?_
 rintro _ K31 _ l31 ⟨a31_0, c31_0, a31_1, c31_1, a31_2, c31_2, a31_3, c31_3, a31_4, c31_4, rfl, h31_0, h31_1, h31_2, h31_3, h31_4, rfl⟩
 refine store_rule r1 rfl ?_
 refine ⟨rfl, rfl, (Nat.le_of_ble_eq_true rfl), ?_⟩
 obtain rfl := si hm
 refine RStep.of (loadn_s r0 rfl (Nat.le_of_ble_eq_true rfl) ?_)
 refine EndStep.mk _ l31 ⟨a31_0, c31_0, a31_1, c31_1, a31_2, c31_2, a31_3, c31_3, a31_4, c31_4, rfl, h31_0, h31_1, h31_2, h31_3, h31_4, rfl⟩ (ConvH.of (.cons r4 .nil))
 refine RStep.of (loadn_s r3 rfl (Nat.le_of_ble_eq_true rfl) ?_)
 obtain ⟨x34, q34, hm⟩ := bnd hm
 refine call_fn (Jcb (x := x) q34) .nil ?_
 rintro _ K34 _ l34 ⟨rfl, rfl⟩
 refine Ja rfl (RStep.of (load1_s r0 rfl rfl (RStep.of (len_slice rfl ?_))))
 obtain ⟨h42, hm⟩ := chkb hm
 refine int_in h42 ?_
 refine alloc_rule rfl ?_
 intro b13
 refine alloc_rule rfl ?_
 intro b14
 obtain ⟨s902, hl902, hm⟩ := bnd hm
 refine code_cut (σ := (Int × Int × Str × Bool)) [45, 46, 47, 48, 49, 50, 51, 52] (fun t902 => []) (fun t902 => [Cells b14 56 [.int .i64 0, .int .i64 0, str ([] : Str), .bool false], Cells b13 56 [.int .i64 t902.1, .int .i64 t902.2.1, str t902.2.2.1, .bool t902.2.2.2], Cells b4 106 [.slice ap0_0 m.stack.length cp0_0, .slice ap0_1 m.slots.length cp0_1, .int .i64 m.atZ, str m.r.Path, str m.r.Query, .slice ap0_2 m.r.Headers.length cp0_2, .slice ap0_3 m.r.Vary.length cp0_3, .slice ap0_4 m.r.Tags.length cp0_4, .int .i64 m.r.TTL, .int .i64 m.r.Deny, .int .i64 (m.r.Steps + 1), .bool m.r.Pass, .bool m.r.Token, .bool m.done, .int .i64 m.code], Cells b8 106 [.slice none 0 0, .slice none 0 0, .int .i64 0, str ([] : Str), str ([] : Str), .slice none 0 0, .slice none 0 0, .slice none 0 0, .int .i64 0, .int .i64 0, .int .i64 0, .bool false, .bool false, .bool false, .int .i64 0], Cells b6 25 [str inZ.Method, str inZ.Host, str inZ.Path, str inZ.Query, .slice ap2_0 inZ.Fields.length cp2_0], Cells b5 89 [.int .i64 x.Op, .int .i64 x.N, str x.S], F]) (fun zz K1 => match zz with | t902 => t902 = s902) ?_ ?_
 refine cs rfl rfl hl902 (fun w44 hl902 => ?_) fun w44 hl902 => ?_
 refine Ja rfl (RStep.of (load1_s r2 rfl rfl (Ja rfl (RStep.of (load1_s r2 rfl rfl (RStep.of (len_slice rfl ?_)))))))
 obtain ⟨h50, hl902⟩ := chkb hl902
 refine int_in h50 ?_
 obtain ⟨x51, l51, k51, hl902⟩ := ixb hl902
 refine RStep.ofN (index_addr rfl rfl (hasK (hp0_0.mono l34).rd k51) l51 (lt_ofE rfl l51 k51) (RStep.of (load_rd_agg ((((m.stack.length : Int) - 1)).toNat) _ (hp0_0.mono l34).rd rfl (mp k51) rfl ?_)))
 refine store_rule r1 rfl ?_
 refine ⟨rfl, rfl, (Nat.le_of_ble_eq_true rfl), ?_⟩
 refine MeetStep.mk ((x51.TypeZ, x51.N, x51.S, x51.Is)) trivial (by repeat (first | exact trivial | refine And.intro rfl ?_)) (ConvH.of (.cons r1 (.cons r0 (.cons r0 (.cons r0 (.cons r0 (.cons r0 (.cons r0 .nil)))))))) (Hp.Le.refl _) (si hl902)
 refine MeetStep.mk ((0, 0, ([] : Str), false)) trivial (by repeat (first | exact trivial | refine And.intro rfl ?_)) (ConvH.of (.cons r0 (.cons r0 (.cons r0 (.cons r0 (.cons r0 (.cons r0 (.cons r0 .nil)))))))) (Hp.Le.refl _) (si hl902)
 rintro t902 Kt902 lt902 rfl j902
 obtain ⟨s904, hl904, hm⟩ := bnd hm
 refine code_cut (σ := (Int × Int × Str × Bool)) [55, 56, 57, 58, 59] (fun t904 => []) (fun t904 => [Cells b14 56 [.int .i64 t904.1, .int .i64 t904.2.1, str t904.2.2.1, .bool t904.2.2.2], Cells b13 56 [.int .i64 t902.1, .int .i64 t902.2.1, str t902.2.2.1, .bool t902.2.2.2], Cells b4 106 [.slice ap0_0 m.stack.length cp0_0, .slice ap0_1 m.slots.length cp0_1, .int .i64 m.atZ, str m.r.Path, str m.r.Query, .slice ap0_2 m.r.Headers.length cp0_2, .slice ap0_3 m.r.Vary.length cp0_3, .slice ap0_4 m.r.Tags.length cp0_4, .int .i64 m.r.TTL, .int .i64 m.r.Deny, .int .i64 (m.r.Steps + 1), .bool m.r.Pass, .bool m.r.Token, .bool m.done, .int .i64 m.code], Cells b8 106 [.slice none 0 0, .slice none 0 0, .int .i64 0, str ([] : Str), str ([] : Str), .slice none 0 0, .slice none 0 0, .slice none 0 0, .int .i64 0, .int .i64 0, .int .i64 0, .bool false, .bool false, .bool false, .int .i64 0], Cells b6 25 [str inZ.Method, str inZ.Host, str inZ.Path, str inZ.Query, .slice ap2_0 inZ.Fields.length cp2_0], Cells b5 89 [.int .i64 x.Op, .int .i64 x.N, str x.S], F]) (fun zz K1 => match zz with | t904 => t904 = s904) ?_ ?_
 refine cs rfl rfl hl904 (fun w54 hl904 => ?_) fun w54 hl904 => ?_
 refine Ja rfl (RStep.of (load1_s r2 rfl rfl ?_))
 obtain ⟨x58, l58, k58, hl904⟩ := ixb hl904
 refine RStep.ofN (index_addr rfl rfl (hasK (hp0_0.mono (l34.trans lt902)).rd k58) l58 (lt_ofE rfl l58 k58) (RStep.of (load_rd_agg ((((m.stack.length : Int) - x34.1)).toNat) _ (hp0_0.mono (l34.trans lt902)).rd rfl (mp k58) rfl ?_)))
 refine store_rule r0 rfl ?_
 refine ⟨rfl, rfl, (Nat.le_of_ble_eq_true rfl), ?_⟩
 refine MeetStep.mk ((x58.TypeZ, x58.N, x58.S, x58.Is)) trivial (by repeat (first | exact trivial | refine And.intro rfl ?_)) (ConvH.of (.cons r0 (.cons r0 (.cons r0 (.cons r0 (.cons r0 (.cons r0 (.cons r0 .nil)))))))) (Hp.Le.refl _) (si hl904)
 refine MeetStep.mk ((0, 0, ([] : Str), false)) trivial (by repeat (first | exact trivial | refine And.intro rfl ?_)) (ConvH.of (.cons r0 (.cons r0 (.cons r0 (.cons r0 (.cons r0 (.cons r0 (.cons r0 .nil)))))))) (Hp.Le.refl _) (si hl904)
 rintro t904 Kt904 lt904 rfl j904
 refine Ja rfl (RStep.of (load1_s r2 rfl rfl ?_))
 obtain ⟨h63, hm⟩ := chkb hm
 have h63_ := (hp0_0.mono ((l34.trans lt902).trans lt904)).subC h63
 refine RStep.ofN (sl_slN (l := m.stack) (lo := none) (hi := (some ((m.stack.length : Int) - x34.1))) (lo' := (0 : Int)) (hi' := ((m.stack.length : Int) - x34.1)) rfl rfl rfl rfl rfl (hp0_0.mono ((l34.trans lt902).trans lt904)).le h63 (Ja rfl ?_))
 refine store_rule r2 rfl ?_
 refine ⟨rfl, rfl, (Nat.le_of_ble_eq_true rfl), ?_⟩
 refine Ja rfl (RStep.of (load1_s r0 rfl rfl ?_))
 obtain ⟨h67, hm⟩ := chkb hm
 refine int_in h67 (Ja rfl ?_)
 refine store_rule r0 rfl ?_
 refine ⟨rfl, rfl, (Nat.le_of_ble_eq_true rfl), ?_⟩
 refine build_struct rfl rfl ?_
 refine alloc_rule rfl ?_
 intro b15
 refine store_rule r0 rfl ?_
 refine ⟨rfl, rfl, (Nat.le_of_ble_eq_true rfl), ?_⟩
 refine Ja rfl (RStep.of (load1_s r6 rfl rfl ?_))
 obtain ⟨s906, hl906, hm⟩ := bnd hm
 refine code_cut (σ := (Bool × Int × Int × Str × Bool)) [16, 17, 18, 72, 73, 74, 75, 76, 77, 78, 79, 80, 81, 82, 83, 84, 85, 86, 87, 88, 89, 90, 91, 92, 93, 94, 95, 96, 97, 98, 99, 100, 101, 102, 103, 104, 105, 106, 107, 108, 109, 110, 111, 112, 113, 114, 115, 116, 117, 118, 119, 120, 121, 122, 123, 124, 125, 126, 127, 128, 129, 130, 131, 132, 133, 134, 135, 136, 137, 138, 139, 140, 141, 142, 143, 144, 145, 146, 147, 148, 149, 150, 151, 152, 153, 154, 155, 156, 157, 158, 159, 160, 161, 162, 163, 164, 165, 166, 167, 168, 169, 170, 171, 172, 173, 174, 175, 176, 177, 178, 179, 180, 181, 182, 183, 184, 185, 186, 187, 188, 189, 190, 191, 192, 193, 194, 195, 196] (fun t906 => [(16, .bool t906.1)]) (fun t906 => [Cells b15 56 [.int .i64 t906.2.1, .int .i64 t906.2.2.1, str t906.2.2.2.1, .bool t906.2.2.2.2], Cells b4 106 [.slice (subA ap0_0 cp0_0 (Int.toNat (0 : Int)) 4) ((subL m.stack (0 : Int) ((m.stack.length : Int) - x34.1)).length) (cp0_0 - (Int.toNat (0 : Int))), .slice ap0_1 m.slots.length cp0_1, .int .i64 (m.atZ + 1), str m.r.Path, str m.r.Query, .slice ap0_2 m.r.Headers.length cp0_2, .slice ap0_3 m.r.Vary.length cp0_3, .slice ap0_4 m.r.Tags.length cp0_4, .int .i64 m.r.TTL, .int .i64 m.r.Deny, .int .i64 (m.r.Steps + 1), .bool m.r.Pass, .bool m.r.Token, .bool m.done, .int .i64 m.code], Cells b14 56 [.int .i64 t904.1, .int .i64 t904.2.1, str t904.2.2.1, .bool t904.2.2.2], Cells b13 56 [.int .i64 t902.1, .int .i64 t902.2.1, str t902.2.2.1, .bool t902.2.2.2], Cells b8 106 [.slice none 0 0, .slice none 0 0, .int .i64 0, str ([] : Str), str ([] : Str), .slice none 0 0, .slice none 0 0, .slice none 0 0, .int .i64 0, .int .i64 0, .int .i64 0, .bool false, .bool false, .bool false, .int .i64 0], Cells b6 25 [str inZ.Method, str inZ.Host, str inZ.Path, str inZ.Query, .slice ap2_0 inZ.Fields.length cp2_0], Cells b5 89 [.int .i64 x.Op, .int .i64 x.N, str x.S], F]) (fun zz K1 => match zz with | t906 => s906 = Fl.go t906) ?_ ?_
 refine block_go rfl ?_
 refine eq_int ?_
 refine cs rfl rfl hl906 (fun w74 hl906 => ?_) fun w74 hl906 => ?_
 refine draw_go ⟨⟨[], false⟩, _, [(_, _), (_, _)], []⟩ (by kernel_rfl) ⟨Hp.Le.refl _, (ConvH.of (.cons r1 (.cons r5 .nil))), ci0⟩ ?_
 refine loadn_l m0 rfl (Nat.le_of_ble_eq_true rfl) (loadn_l m1 rfl (Nat.le_of_ble_eq_true rfl) (Ja rfl (load1_l m1 rfl rfl ?_)))
 obtain ⟨x80, q80, hl906⟩ := bnd hl906
 refine call_fn (JaG (n' := x.N) q80) .nil ?_
 rintro _ K80 _ l80 ⟨rfl, rfl⟩
 refine ⟨⟨l80, (ConvH.of (.cons r1 (.cons r5 .nil))), ci0⟩, ?_⟩
 obtain ⟨x82, q82, hl906⟩ := bnd hl906
 refine call_fn (Ja2 (m := (⟨(subL m.stack (0 : Int) ((m.stack.length : Int) - x34.1)), m.slots, (m.atZ + 1), (⟨m.r.Path, m.r.Query, m.r.Headers, m.r.Vary, m.r.Tags, m.r.TTL, m.r.Deny, (m.r.Steps + 1), m.r.Pass, m.r.Token⟩ : Ji), m.done, m.code⟩ : Jk)) (x := x) (v' := x80) (most := most) q82 (h63_.mono l80) (hp0_1.mono (((l34.trans lt902).trans lt904).trans l80)) (hp0_2.mono (((l34.trans lt902).trans lt904).trans l80)) (hp0_3.mono (((l34.trans lt902).trans lt904).trans l80)) (hp0_4.mono (((l34.trans lt902).trans lt904).trans l80))) .nil ?_
 rintro _ K82 _ l82 ⟨a82_0, c82_0, a82_1, c82_1, a82_2, c82_2, a82_3, c82_3, a82_4, c82_4, rfl, h82_0, h82_1, h82_2, h82_3, h82_4, rfl⟩
 refine ⟨⟨(l80.trans l82), (ConvH.of (.cons r1 (.cons r5 .nil))), ci0⟩, ?_⟩
 refine store_rule r4 rfl ?_
 refine ⟨rfl, rfl, (Nat.le_of_ble_eq_true rfl), ?_⟩
 refine ⟨⟨(l80.trans l82), (ConvH.of (.cons r2 (.cons r5 .nil))), ci0⟩, ?_⟩
 obtain rfl := si hl906
 replace hm := elr hm
 obtain rfl := si hm
 refine RStep.of (loadn_s r0 rfl (Nat.le_of_ble_eq_true rfl) ?_)
 refine EndStep.mk _ ((((l34.trans lt902).trans lt904).trans l80).trans l82) ⟨a82_0, c82_0, a82_1, c82_1, a82_2, c82_2, a82_3, c82_3, a82_4, c82_4, rfl, h82_0, h82_1, h82_2, h82_3, h82_4, rfl⟩ (ConvH.of (.cons r7 .nil))
 refine eq_int ?_
 refine cs rfl rfl hl906 (fun w83 hl906 => ?_) fun w83 hl906 => ?_
 refine draw_go ⟨⟨[], false⟩, _, [(_, _), (_, _)], []⟩ (by kernel_rfl) ⟨Hp.Le.refl _, (ConvH.of (.cons r1 (.cons r5 .nil))), ci0⟩ ?_
 refine loadn_l m0 rfl (Nat.le_of_ble_eq_true rfl) (loadn_l m1 rfl (Nat.le_of_ble_eq_true rfl) (Ja rfl (load1_l m1 rfl rfl ?_)))
 obtain ⟨x89, q89, hl906⟩ := bnd hl906
 refine call_fn (JN (s := x.S) q89) .nil ?_
 rintro _ K89 _ l89 ⟨rfl, rfl⟩
 refine ⟨⟨l89, (ConvH.of (.cons r1 (.cons r5 .nil))), ci0⟩, ?_⟩
 obtain ⟨x91, q91, hl906⟩ := bnd hl906
 refine call_fn (Ja2 (m := (⟨(subL m.stack (0 : Int) ((m.stack.length : Int) - x34.1)), m.slots, (m.atZ + 1), (⟨m.r.Path, m.r.Query, m.r.Headers, m.r.Vary, m.r.Tags, m.r.TTL, m.r.Deny, (m.r.Steps + 1), m.r.Pass, m.r.Token⟩ : Ji), m.done, m.code⟩ : Jk)) (x := x) (v' := x89) (most := most) q91 (h63_.mono l89) (hp0_1.mono (((l34.trans lt902).trans lt904).trans l89)) (hp0_2.mono (((l34.trans lt902).trans lt904).trans l89)) (hp0_3.mono (((l34.trans lt902).trans lt904).trans l89)) (hp0_4.mono (((l34.trans lt902).trans lt904).trans l89))) .nil ?_
 rintro _ K91 _ l91 ⟨a91_0, c91_0, a91_1, c91_1, a91_2, c91_2, a91_3, c91_3, a91_4, c91_4, rfl, h91_0, h91_1, h91_2, h91_3, h91_4, rfl⟩
 refine ⟨⟨(l89.trans l91), (ConvH.of (.cons r1 (.cons r5 .nil))), ci0⟩, ?_⟩
 refine store_rule r4 rfl ?_
 refine ⟨rfl, rfl, (Nat.le_of_ble_eq_true rfl), ?_⟩
 refine ⟨⟨(l89.trans l91), (ConvH.of (.cons r2 (.cons r5 .nil))), ci0⟩, ?_⟩
 obtain rfl := si hl906
 replace hm := elr hm
 obtain rfl := si hm
 refine RStep.of (loadn_s r0 rfl (Nat.le_of_ble_eq_true rfl) ?_)
 refine EndStep.mk _ ((((l34.trans lt902).trans lt904).trans l89).trans l91) ⟨a91_0, c91_0, a91_1, c91_1, a91_2, c91_2, a91_3, c91_3, a91_4, c91_4, rfl, h91_0, h91_1, h91_2, h91_3, h91_4, rfl⟩ (ConvH.of (.cons r7 .nil))
 refine eq_int ?_
 refine cs rfl rfl hl906 (fun w92 hl906 => ?_) fun w92 hl906 => ?_
 refine draw_go ⟨⟨[], false⟩, _, [(_, _), (_, _)], []⟩ (by kernel_rfl) ⟨Hp.Le.refl _, (ConvH.of (.cons r1 (.cons r5 .nil))), ci0⟩ ?_
 refine loadn_l m0 rfl (Nat.le_of_ble_eq_true rfl) (loadn_l m1 rfl (Nat.le_of_ble_eq_true rfl) (Ja rfl (load1_l m0 rfl rfl (Ja rfl (load1_l m1 rfl rfl ?_)))))
 obtain ⟨x100, l100, k100, hl906⟩ := ixb hl906
 refine index_addr rfl rfl (hasK (hp0_1.mono ((l34.trans lt902).trans lt904)).rd k100) l100 (lt_ofE rfl l100 k100) (load_rd_agg_l ((x.N).toNat) _ (hp0_1.mono ((l34.trans lt902).trans lt904)).rd rfl (mp k100) rfl ?_)
 obtain ⟨x103, q103, hl906⟩ := bnd hl906
 refine call_fn (Ja2 (m := (⟨(subL m.stack (0 : Int) ((m.stack.length : Int) - x34.1)), m.slots, (m.atZ + 1), (⟨m.r.Path, m.r.Query, m.r.Headers, m.r.Vary, m.r.Tags, m.r.TTL, m.r.Deny, (m.r.Steps + 1), m.r.Pass, m.r.Token⟩ : Ji), m.done, m.code⟩ : Jk)) (x := x) (v' := x100) (most := most) q103 h63_ (hp0_1.mono ((l34.trans lt902).trans lt904)) (hp0_2.mono ((l34.trans lt902).trans lt904)) (hp0_3.mono ((l34.trans lt902).trans lt904)) (hp0_4.mono ((l34.trans lt902).trans lt904))) .nil ?_
 rintro _ K103 _ l103 ⟨a103_0, c103_0, a103_1, c103_1, a103_2, c103_2, a103_3, c103_3, a103_4, c103_4, rfl, h103_0, h103_1, h103_2, h103_3, h103_4, rfl⟩
 refine ⟨⟨l103, (ConvH.of (.cons r1 (.cons r5 .nil))), ci0⟩, ?_⟩
 refine store_rule r4 rfl ?_
 refine ⟨rfl, rfl, (Nat.le_of_ble_eq_true rfl), ?_⟩
 refine ⟨⟨l103, (ConvH.of (.cons r2 (.cons r5 .nil))), ci0⟩, ?_⟩
 obtain rfl := si hl906
 replace hm := elr hm
 obtain rfl := si hm
 refine RStep.of (loadn_s r0 rfl (Nat.le_of_ble_eq_true rfl) ?_)
 refine EndStep.mk _ (((l34.trans lt902).trans lt904).trans l103) ⟨a103_0, c103_0, a103_1, c103_1, a103_2, c103_2, a103_3, c103_3, a103_4, c103_4, rfl, h103_0, h103_1, h103_2, h103_3, h103_4, rfl⟩ (ConvH.of (.cons r7 .nil))
 refine eq_int ?_
 refine cs rfl rfl hl906 (fun w104 hl906 => ?_) fun w104 hl906 => ?_
 refine draw_go ⟨⟨[], false⟩, _, [(_, _), (_, _), (_, _)], []⟩ (by kernel_rfl) ⟨Hp.Le.refl _, (ConvH.of (.cons r1 (.cons r5 (.cons r4 .nil)))), ci0⟩ ?_
 refine loadn_l m0 rfl (Nat.le_of_ble_eq_true rfl) (loadn_l m1 rfl (Nat.le_of_ble_eq_true rfl) (Ja rfl (load1_l m1 rfl rfl (loadn_l m2 rfl (Nat.le_of_ble_eq_true rfl) ?_))))
 obtain ⟨x111, q111, hl906⟩ := bnd hl906
 refine call_fn (Jc0 (name := x.S) (inZ := inZ) q111 (hp2_0.mono ((l34.trans lt902).trans lt904))) .nil ?_
 rintro _ K111 _ l111 ⟨rfl, rfl⟩
 refine ⟨⟨l111, (ConvH.of (.cons r1 (.cons r5 (.cons r4 .nil)))), ci0⟩, ?_⟩
 obtain ⟨x113, q113, hl906⟩ := bnd hl906
 refine call_fn (Ja2 (m := (⟨(subL m.stack (0 : Int) ((m.stack.length : Int) - x34.1)), m.slots, (m.atZ + 1), (⟨m.r.Path, m.r.Query, m.r.Headers, m.r.Vary, m.r.Tags, m.r.TTL, m.r.Deny, (m.r.Steps + 1), m.r.Pass, m.r.Token⟩ : Ji), m.done, m.code⟩ : Jk)) (x := x) (v' := x111) (most := most) q113 (h63_.mono l111) (hp0_1.mono (((l34.trans lt902).trans lt904).trans l111)) (hp0_2.mono (((l34.trans lt902).trans lt904).trans l111)) (hp0_3.mono (((l34.trans lt902).trans lt904).trans l111)) (hp0_4.mono (((l34.trans lt902).trans lt904).trans l111))) .nil ?_
 rintro _ K113 _ l113 ⟨a113_0, c113_0, a113_1, c113_1, a113_2, c113_2, a113_3, c113_3, a113_4, c113_4, rfl, h113_0, h113_1, h113_2, h113_3, h113_4, rfl⟩
 refine ⟨⟨(l111.trans l113), (ConvH.of (.cons r1 (.cons r5 (.cons r4 .nil)))), ci0⟩, ?_⟩
 refine store_rule r4 rfl ?_
 refine ⟨rfl, rfl, (Nat.le_of_ble_eq_true rfl), ?_⟩
 refine ⟨⟨(l111.trans l113), (ConvH.of (.cons r2 (.cons r5 (.cons r4 .nil)))), ci0⟩, ?_⟩
 obtain rfl := si hl906
 replace hm := elr hm
 obtain rfl := si hm
 refine RStep.of (loadn_s r0 rfl (Nat.le_of_ble_eq_true rfl) ?_)
 refine EndStep.mk _ ((((l34.trans lt902).trans lt904).trans l111).trans l113) ⟨a113_0, c113_0, a113_1, c113_1, a113_2, c113_2, a113_3, c113_3, a113_4, c113_4, rfl, h113_0, h113_1, h113_2, h113_3, h113_4, rfl⟩ (ConvH.of (.cons r7 .nil))
 refine eq_int ?_
 refine cs rfl rfl hl906 (fun w114 hl906 => ?_) fun w114 hl906 => ?_
 refine bsO (len := 0) (enc := Jd.enc) (l := ([] : List Jd)) (cl := []) elT103 rfl rfl (fun _ _ => rfl) rfl rfl rfl ?_ fun b116 => ?_
 · conv => whnf
   first | done | rfl
 refine Ja rfl (RStep.of (load1_s r2 rfl rfl ?_))
 obtain ⟨h119, hl906⟩ := chkb hl906
 refine apE rfl r0 elT103 (src_k rfl (hp0_1.mono ((l34.trans lt902).trans lt904)).rd rfl) h119 ?_
 intro a119 c119 o119
 refine Ja rfl ?_
 refine store_rule r2 rfl ?_
 refine ⟨rfl, rfl, (Nat.le_of_ble_eq_true rfl), ?_⟩
 refine Ja rfl (RStep.of (load1_s r0 rfl rfl (Ja rfl (RStep.of (load1_s r7 rfl rfl (RStep.of (loadn_s r4 rfl (Nat.le_of_ble_eq_true rfl) ?_)))))))
 obtain ⟨x126, l126, k126, hl906⟩ := ixb hl906
 refine RStep.ofN (index_addr rfl rfl (hasO o119 k126) l126 (lt_ofE rfl l126 k126) ?_)
 refine st_own (o := 0) (y := (⟨t902.1, t902.2.1, t902.2.2.1, t902.2.2.2⟩ : Jd)) x126 r1 rfl k126 rfl (by (conv => whnf); exact ⟨rfl, rfl, (Nat.le_of_ble_eq_true rfl), rfl, rfl, rfl⟩) ?_
 refine RStep.of (loadn_s r1 rfl (Nat.le_of_ble_eq_true rfl) ?_)
 refine store_rule r5 rfl ?_
 refine ⟨rfl, rfl, (Nat.le_of_ble_eq_true rfl), ?_⟩
 obtain rfl := si hl906
 replace hm := elr hm
 obtain rfl := si hm
 refine RStep.of (loadn_s r0 rfl (Nat.le_of_ble_eq_true rfl) ?_)
 refine fE r1 fun Kz2 lz2 fz2 => ?_
 refine EndStep.mk _ (((l34.trans lt902).trans lt904).trans lz2) ⟨(subA ap0_0 cp0_0 (Int.toNat (0 : Int)) 4), (cp0_0 - (Int.toNat (0 : Int))), a119, c119, ap0_2, cp0_2, ap0_3, cp0_3, ap0_4, cp0_4, (by rw [← (show ((([] : List Jd) ++ m.slots).set ((x.N).toNat) (⟨t902.1, t902.2.1, t902.2.2.1, t902.2.2.2⟩ : Jd)).length = (([] : List Jd) ++ m.slots).length from Eq.symm (((rfl).trans List.length_set.symm)))] <;> rfl), (h63_.mono lz2), fz2, (hp0_2.mono (((l34.trans lt902).trans lt904).trans lz2)), (hp0_3.mono (((l34.trans lt902).trans lt904).trans lz2)), (hp0_4.mono (((l34.trans lt902).trans lt904).trans lz2)), rfl⟩ (ConvH.of (.cons r7 .nil))
 refine eq_int ?_
 refine cs rfl rfl hl906 (fun w128 hl906 => ?_) fun w128 hl906 => ?_
 refine Ja rfl (RStep.of (load1_s r6 rfl rfl (RStep.of (loadn_s r3 rfl (Nat.le_of_ble_eq_true rfl) (RStep.of (loadn_s r5 rfl (Nat.le_of_ble_eq_true rfl) ?_))))))
 obtain ⟨x135, q135, hl906⟩ := bnd hl906
 refine call_fn (Jc8 (name := x.S) (x := (⟨t902.1, t902.2.1, t902.2.2.1, t902.2.2.2⟩ : Jd)) (inZ := inZ) q135 (hp2_0.mono ((l34.trans lt902).trans lt904))) .nil ?_
 rintro _ K135 _ l135 ⟨rfl, rfl⟩
 refine store_rule r0 rfl ?_
 refine ⟨rfl, rfl, (Nat.le_of_ble_eq_true rfl), ?_⟩
 refine MeetStep.mk ((x135.2, x135.1.TypeZ, x135.1.N, x135.1.S, x135.1.Is)) ⟨rfl, trivial⟩ (by repeat (first | exact trivial | refine And.intro rfl ?_)) (ConvH.of (.cons r0 (.cons r0 (.cons r0 (.cons r0 (.cons r0 (.cons r0 (.cons r0 (.cons r0 .nil))))))))) l135 (si hl906).symm
 refine eq_int ?_
 refine cs rfl rfl hl906 (fun w138 hl906 => ?_) fun w138 hl906 => ?_
 refine Ja rfl (RStep.of (load1_s r6 rfl rfl (RStep.of (loadn_s r2 rfl (Nat.le_of_ble_eq_true rfl) (RStep.of (loadn_s r3 rfl (Nat.le_of_ble_eq_true rfl) ?_))))))
 obtain ⟨x145, q145, hl906⟩ := bnd hl906
 refine call_fn (JcK (op := x.S) (a := (⟨t904.1, t904.2.1, t904.2.2.1, t904.2.2.2⟩ : Jd)) (b := (⟨t902.1, t902.2.1, t902.2.2.1, t902.2.2.2⟩ : Jd)) q145) .nil ?_
 rintro _ K145 _ l145 ⟨rfl, rfl⟩
 refine store_rule r0 rfl ?_
 refine ⟨rfl, rfl, (Nat.le_of_ble_eq_true rfl), ?_⟩
 refine MeetStep.mk ((x145.2, x145.1.TypeZ, x145.1.N, x145.1.S, x145.1.Is)) ⟨rfl, trivial⟩ (by repeat (first | exact trivial | refine And.intro rfl ?_)) (ConvH.of (.cons r0 (.cons r0 (.cons r0 (.cons r0 (.cons r0 (.cons r0 (.cons r0 (.cons r0 .nil))))))))) l145 (si hl906).symm
 refine eq_int ?_
 refine cs rfl rfl hl906 (fun w148 hl906 => ?_) fun w148 hl906 => ?_
 refine draw_go ⟨⟨[], false⟩, _, [(_, _)], []⟩ (by kernel_rfl) ⟨Hp.Le.refl _, (ConvH.of (.cons r3 .nil)), ci0⟩ ?_
 refine Ja rfl (load1_l m0 rfl rfl (un_not ?_))
 obtain ⟨x153, q153, hl906⟩ := bnd hl906
 refine call_fn (JL (isZ := (!t902.2.2.2)) q153) .nil ?_
 rintro _ K153 _ l153 ⟨rfl, rfl⟩
 refine ⟨⟨l153, (ConvH.of (.cons r3 .nil)), ci0⟩, ?_⟩
 refine Ja rfl (load1_l m0 rfl rfl (eq_int ?_))
 refine store_rule r0 rfl ?_
 refine ⟨rfl, rfl, (Nat.le_of_ble_eq_true rfl), ?_⟩
 refine ⟨⟨l153, (ConvH.of (.cons r3 .nil)), ci0⟩, ?_⟩
 refine MeetStep.mk ((decide (t902.1 = 3), x153.TypeZ, x153.N, x153.S, x153.Is)) ⟨rfl, trivial⟩ (by repeat (first | exact trivial | refine And.intro rfl ?_)) (ConvH.of (.cons r0 (.cons r0 (.cons r0 (.cons r0 (.cons r0 (.cons r0 (.cons r0 (.cons r0 .nil))))))))) l153 (si hl906).symm
 refine eq_int ?_
 refine cs rfl rfl hl906 (fun w157 hl906 => ?_) fun w157 hl906 => ?_
 refine Ja rfl (RStep.of (load1_s r6 rfl rfl (Ja rfl ?_)))
 refine store_rule r1 rfl ?_
 refine ⟨rfl, rfl, (Nat.le_of_ble_eq_true rfl), ?_⟩
 refine RStep.of (loadn_s r0 rfl (Nat.le_of_ble_eq_true rfl) ?_)
 refine store_rule r4 rfl ?_
 refine ⟨rfl, rfl, (Nat.le_of_ble_eq_true rfl), ?_⟩
 obtain rfl := si hl906
 replace hm := elr hm
 obtain rfl := si hm
 refine RStep.of (loadn_s r0 rfl (Nat.le_of_ble_eq_true rfl) ?_)
 refine EndStep.mk _ ((l34.trans lt902).trans lt904) ⟨(subA ap0_0 cp0_0 (Int.toNat (0 : Int)) 4), (cp0_0 - (Int.toNat (0 : Int))), ap0_1, cp0_1, ap0_2, cp0_2, ap0_3, cp0_3, ap0_4, cp0_4, rfl, h63_, (hp0_1.mono ((l34.trans lt902).trans lt904)), (hp0_2.mono ((l34.trans lt902).trans lt904)), (hp0_3.mono ((l34.trans lt902).trans lt904)), (hp0_4.mono ((l34.trans lt902).trans lt904)), rfl⟩ (ConvH.of (.cons r7 .nil))
 refine eq_int ?_
 refine cs rfl rfl hl906 (fun w163 hl906 => ?_) fun w163 hl906 => ?_
 refine Ja rfl (RStep.of (load1_s r3 rfl rfl (neq_int ?_)))
 refine cs rfl rfl hl906 (fun w167 hl906 => ?_) fun w167 hl906 => ?_
 refine RStep.of (loadn_s r1 rfl (Nat.le_of_ble_eq_true rfl) ?_)
 obtain ⟨x169, q169, hl906⟩ := bnd hl906
 refine call_fn (Jbh (m := (⟨(subL m.stack (0 : Int) ((m.stack.length : Int) - x34.1)), m.slots, (m.atZ + 1), (⟨m.r.Path, m.r.Query, m.r.Headers, m.r.Vary, m.r.Tags, m.r.TTL, m.r.Deny, (m.r.Steps + 1), m.r.Pass, m.r.Token⟩ : Ji), m.done, m.code⟩ : Jk)) (e := 9) q169 h63_ (hp0_1.mono ((l34.trans lt902).trans lt904)) (hp0_2.mono ((l34.trans lt902).trans lt904)) (hp0_3.mono ((l34.trans lt902).trans lt904)) (hp0_4.mono ((l34.trans lt902).trans lt904))) .nil ?_
 rintro _ K169 _ l169 ⟨a169_0, c169_0, a169_1, c169_1, a169_2, c169_2, a169_3, c169_3, a169_4, c169_4, rfl, h169_0, h169_1, h169_2, h169_3, h169_4, rfl⟩
 refine store_rule r4 rfl ?_
 refine ⟨rfl, rfl, (Nat.le_of_ble_eq_true rfl), ?_⟩
 obtain rfl := si hl906
 replace hm := elr hm
 obtain rfl := si hm
 refine RStep.of (loadn_s r0 rfl (Nat.le_of_ble_eq_true rfl) ?_)
 refine EndStep.mk _ (((l34.trans lt902).trans lt904).trans l169) ⟨a169_0, c169_0, a169_1, c169_1, a169_2, c169_2, a169_3, c169_3, a169_4, c169_4, rfl, h169_0, h169_1, h169_2, h169_3, h169_4, rfl⟩ (ConvH.of (.cons r7 .nil))
 refine Ja rfl (RStep.of (load1_s r3 rfl rfl (un_not (cond_go rfl ?_))))
 refine cond_s (fun w172 => ?_) (fun w172 => ?_)
 replace hl906 := ift (not_t (ni_t w172)) hl906
 refine Ja rfl (RStep.of (load1_s r6 rfl rfl (Ja rfl ?_)))
 refine store_rule r1 rfl ?_
 refine ⟨rfl, rfl, (Nat.le_of_ble_eq_true rfl), ?_⟩
 refine RStep.of (loadn_s r0 rfl (Nat.le_of_ble_eq_true rfl) ?_)
 refine store_rule r4 rfl ?_
 refine ⟨rfl, rfl, (Nat.le_of_ble_eq_true rfl), ?_⟩
 obtain rfl := si hl906
 replace hm := elr hm
 obtain rfl := si hm
 refine RStep.of (loadn_s r0 rfl (Nat.le_of_ble_eq_true rfl) ?_)
 refine EndStep.mk _ ((l34.trans lt902).trans lt904) ⟨(subA ap0_0 cp0_0 (Int.toNat (0 : Int)) 4), (cp0_0 - (Int.toNat (0 : Int))), ap0_1, cp0_1, ap0_2, cp0_2, ap0_3, cp0_3, ap0_4, cp0_4, rfl, h63_, (hp0_1.mono ((l34.trans lt902).trans lt904)), (hp0_2.mono ((l34.trans lt902).trans lt904)), (hp0_3.mono ((l34.trans lt902).trans lt904)), (hp0_4.mono ((l34.trans lt902).trans lt904)), rfl⟩ (ConvH.of (.cons r7 .nil))
 replace hl906 := iff_ (not_f (ni_f w172)) hl906
 refine RStep.of (loadn_s r1 rfl (Nat.le_of_ble_eq_true rfl) ?_)
 refine store_rule r4 rfl ?_
 refine ⟨rfl, rfl, (Nat.le_of_ble_eq_true rfl), ?_⟩
 obtain rfl := si hl906
 replace hm := elr hm
 obtain rfl := si hm
 refine RStep.of (loadn_s r0 rfl (Nat.le_of_ble_eq_true rfl) ?_)
 refine EndStep.mk _ ((l34.trans lt902).trans lt904) ⟨(subA ap0_0 cp0_0 (Int.toNat (0 : Int)) 4), (cp0_0 - (Int.toNat (0 : Int))), ap0_1, cp0_1, ap0_2, cp0_2, ap0_3, cp0_3, ap0_4, cp0_4, rfl, h63_, (hp0_1.mono ((l34.trans lt902).trans lt904)), (hp0_2.mono ((l34.trans lt902).trans lt904)), (hp0_3.mono ((l34.trans lt902).trans lt904)), (hp0_4.mono ((l34.trans lt902).trans lt904)), rfl⟩ (ConvH.of (.cons r7 .nil))
 refine eq_int ?_
 refine cs rfl rfl hl906 (fun w177 hl906 => ?_) fun w177 hl906 => ?_
 refine Ja rfl (RStep.of (loadn_s r1 rfl (Nat.le_of_ble_eq_true rfl) (Ja rfl (RStep.of (load1_s r6 rfl rfl (RStep.of (loadn_s r3 rfl (Nat.le_of_ble_eq_true rfl) ?_)))))))
 obtain ⟨x185, q185, hl906⟩ := bnd hl906
 refine call_fn (Jdm (r' := (⟨m.r.Path, m.r.Query, m.r.Headers, m.r.Vary, m.r.Tags, m.r.TTL, m.r.Deny, (m.r.Steps + 1), m.r.Pass, m.r.Token⟩ : Ji)) (s := x.S) (x := (⟨t902.1, t902.2.1, t902.2.2.1, t902.2.2.2⟩ : Jd)) q185 (hp0_2.mono ((l34.trans lt902).trans lt904)) (hp0_3.mono ((l34.trans lt902).trans lt904)) (hp0_4.mono ((l34.trans lt902).trans lt904))) .nil ?_
 rintro _ K185 _ l185 ⟨a185_0, c185_0, a185_1, c185_1, a185_2, c185_2, rfl, h185_0, h185_1, h185_2, rfl⟩
 refine alloc_rule rfl ?_
 intro b17
 refine store_rule r0 rfl ?_
 refine ⟨rfl, rfl, (Nat.le_of_ble_eq_true rfl), ?_⟩
 refine RStep.of (loadn_s r0 rfl (Nat.le_of_ble_eq_true rfl) (Ja rfl ?_))
 refine store_rule r2 rfl ?_
 refine ⟨rfl, rfl, (Nat.le_of_ble_eq_true rfl), ?_⟩
 refine Ja rfl ?_
 refine store_rule r0 rfl ?_
 refine ⟨rfl, rfl, (Nat.le_of_ble_eq_true rfl), ?_⟩
 refine Ja rfl (RStep.of (load1_s r7 rfl rfl (eq_str (Ja rfl ?_))))
 refine store_rule r0 rfl ?_
 refine ⟨rfl, rfl, (Nat.le_of_ble_eq_true rfl), ?_⟩
 refine RStep.of (loadn_s r0 rfl (Nat.le_of_ble_eq_true rfl) ?_)
 refine store_rule r5 rfl ?_
 refine ⟨rfl, rfl, (Nat.le_of_ble_eq_true rfl), ?_⟩
 obtain rfl := si hl906
 replace hm := elr hm
 obtain rfl := si hm
 refine RStep.of (loadn_s r0 rfl (Nat.le_of_ble_eq_true rfl) ?_)
 refine EndStep.mk _ (((l34.trans lt902).trans lt904).trans l185) ⟨(subA ap0_0 cp0_0 (Int.toNat (0 : Int)) 4), (cp0_0 - (Int.toNat (0 : Int))), ap0_1, cp0_1, a185_0, c185_0, a185_1, c185_1, a185_2, c185_2, rfl, (h63_.mono l185), (hp0_1.mono (((l34.trans lt902).trans lt904).trans l185)), h185_0, h185_1, h185_2, rfl⟩ (ConvH.of (.cons r8 .nil))
 refine Ja rfl ?_
 refine store_rule r1 rfl ?_
 refine ⟨rfl, rfl, (Nat.le_of_ble_eq_true rfl), ?_⟩
 refine RStep.of (loadn_s r0 rfl (Nat.le_of_ble_eq_true rfl) ?_)
 refine store_rule r4 rfl ?_
 refine ⟨rfl, rfl, (Nat.le_of_ble_eq_true rfl), ?_⟩
 obtain rfl := si hl906
 replace hm := elr hm
 obtain rfl := si hm
 refine RStep.of (loadn_s r0 rfl (Nat.le_of_ble_eq_true rfl) ?_)
 refine EndStep.mk _ ((l34.trans lt902).trans lt904) ⟨(subA ap0_0 cp0_0 (Int.toNat (0 : Int)) 4), (cp0_0 - (Int.toNat (0 : Int))), ap0_1, cp0_1, ap0_2, cp0_2, ap0_3, cp0_3, ap0_4, cp0_4, rfl, h63_, (hp0_1.mono ((l34.trans lt902).trans lt904)), (hp0_2.mono ((l34.trans lt902).trans lt904)), (hp0_3.mono ((l34.trans lt902).trans lt904)), (hp0_4.mono ((l34.trans lt902).trans lt904)), rfl⟩ (ConvH.of (.cons r7 .nil))
 rintro t906 Kt906 lt906 rfl j906
 replace hm := elg hm
 refine un_not (cond_go rfl ?_)
 refine cond_s (fun w198 => ?_) (fun w198 => ?_)
 replace hm := ift (not_t (ni_t w198)) hm
 refine RStep.of (loadn_s r1 rfl (Nat.le_of_ble_eq_true rfl) ?_)
 obtain ⟨x200, q200, hm⟩ := bnd hm
 refine call_fn (Jbh (m := (⟨(subL m.stack (0 : Int) ((m.stack.length : Int) - x34.1)), m.slots, (m.atZ + 1), (⟨m.r.Path, m.r.Query, m.r.Headers, m.r.Vary, m.r.Tags, m.r.TTL, m.r.Deny, (m.r.Steps + 1), m.r.Pass, m.r.Token⟩ : Ji), m.done, m.code⟩ : Jk)) (e := 9) q200 (h63_.mono lt906) (hp0_1.mono (((l34.trans lt902).trans lt904).trans lt906)) (hp0_2.mono (((l34.trans lt902).trans lt904).trans lt906)) (hp0_3.mono (((l34.trans lt902).trans lt904).trans lt906)) (hp0_4.mono (((l34.trans lt902).trans lt904).trans lt906))) .nil ?_
 rintro _ K200 _ l200 ⟨a200_0, c200_0, a200_1, c200_1, a200_2, c200_2, a200_3, c200_3, a200_4, c200_4, rfl, h200_0, h200_1, h200_2, h200_3, h200_4, rfl⟩
 refine store_rule r4 rfl ?_
 refine ⟨rfl, rfl, (Nat.le_of_ble_eq_true rfl), ?_⟩
 obtain rfl := si hm
 refine RStep.of (loadn_s r0 rfl (Nat.le_of_ble_eq_true rfl) ?_)
 refine EndStep.mk _ ((((l34.trans lt902).trans lt904).trans lt906).trans l200) ⟨a200_0, c200_0, a200_1, c200_1, a200_2, c200_2, a200_3, c200_3, a200_4, c200_4, rfl, h200_0, h200_1, h200_2, h200_3, h200_4, rfl⟩ (ConvH.of (.cons r7 .nil))
 replace hm := iff_ (not_f (ni_f w198)) hm
 refine RStep.of (loadn_s r1 rfl (Nat.le_of_ble_eq_true rfl) (RStep.of (loadn_s r6 rfl (Nat.le_of_ble_eq_true rfl) (RStep.of (loadn_s r0 rfl (Nat.le_of_ble_eq_true rfl) ?_)))))
 obtain ⟨x205, q205, hm⟩ := bnd hm
 refine call_fn (Ja2 (m := (⟨(subL m.stack (0 : Int) ((m.stack.length : Int) - x34.1)), m.slots, (m.atZ + 1), (⟨m.r.Path, m.r.Query, m.r.Headers, m.r.Vary, m.r.Tags, m.r.TTL, m.r.Deny, (m.r.Steps + 1), m.r.Pass, m.r.Token⟩ : Ji), m.done, m.code⟩ : Jk)) (x := x) (v' := (⟨t906.2.1, t906.2.2.1, t906.2.2.2.1, t906.2.2.2.2⟩ : Jd)) (most := most) q205 (h63_.mono lt906) (hp0_1.mono (((l34.trans lt902).trans lt904).trans lt906)) (hp0_2.mono (((l34.trans lt902).trans lt904).trans lt906)) (hp0_3.mono (((l34.trans lt902).trans lt904).trans lt906)) (hp0_4.mono (((l34.trans lt902).trans lt904).trans lt906))) .nil ?_
 rintro _ K205 _ l205 ⟨a205_0, c205_0, a205_1, c205_1, a205_2, c205_2, a205_3, c205_3, a205_4, c205_4, rfl, h205_0, h205_1, h205_2, h205_3, h205_4, rfl⟩
 refine store_rule r4 rfl ?_
 refine ⟨rfl, rfl, (Nat.le_of_ble_eq_true rfl), ?_⟩
 obtain rfl := si hm
 refine RStep.of (loadn_s r0 rfl (Nat.le_of_ble_eq_true rfl) ?_)
 refine EndStep.mk _ ((((l34.trans lt902).trans lt904).trans lt906).trans l205) ⟨a205_0, c205_0, a205_1, c205_1, a205_2, c205_2, a205_3, c205_3, a205_4, c205_4, rfl, h205_0, h205_1, h205_2, h205_3, h205_4, rfl⟩ (ConvH.of (.cons r7 .nil))
