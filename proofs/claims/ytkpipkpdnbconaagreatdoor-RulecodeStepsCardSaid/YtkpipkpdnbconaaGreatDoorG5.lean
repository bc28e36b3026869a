/- Functions of the program: mirrors, and that a call returns what the mirror says. Printed by gen.py. -/
import Derived.Test.YtkpipkpdnbconaaGreatDoorG4
set_option linter.unusedVariables false
set_option linter.unusedSimpArgs false
open Go Go.SL Go.Proofs
set_option maxRecDepth 1000000
noncomputable def Jat (s : Str) : Option (Int × Int × Bool) :=
  if decide (s = ([104, 101, 97, 100, 101, 114] : Str)) then
  some (1, 1, true)
  else
  if decide (s = ([97, 114, 103] : Str)) then
  some (1, 1, true)
  else
  if decide (s = ([108, 111, 119, 101, 114] : Str)) then
  some (1, 1, true)
  else
  if decide (s = ([104, 97, 115] : Str)) then
  some (1, 3, true)
  else
  if decide (s = ([108, 101, 110] : Str)) then
  some (1, 2, true)
  else
  if decide (s = ([110, 117, 109, 98, 101, 114] : Str)) then
  some (1, 2, true)
  else
  if decide (s = ([112, 97, 114, 116] : Str)) then
  some (2, 1, true)
  else
  if decide (s = ([116, 101, 120, 116] : Str)) then
  some (2, 1, true)
  else
  some (0, 0, false)
set_option maxHeartbeats 8000000 in
theorem Jbo {s : Str} {K : Hp} {r : Int × Int × Bool}
    (hm : Jat s = some r)  :
    Fn Tryz.prog 64 [str s] K [] (fun v K' H' => v = .tuple #[.int .i64 r.1, .int .i64 r.2.1, .bool r.2.2] ∧ H' = []) := by
 refine Fn.enter Tryz.func64 Tryz.call64 rfl fun F => ?_
 unfold Jat at hm
 refine block_go rfl ?_
 refine eq_str (cond_go rfl ?_)
 refine cond_s (fun w6 => ?_) (fun w6 => ?_)
 replace hm := ift w6 hm
 refine cond_go rfl (cond_t w6 ?_)
 obtain rfl := si hm
 refine EndStep.mk _ (Hp.Le.refl _) ⟨rfl, rfl⟩ (ConvH.of (.cons r0 .nil))
 replace hm := iff_ w6 hm
 refine eq_str (cond_go rfl ?_)
 refine cond_s (fun w6 => ?_) (fun w6 => ?_)
 replace hm := ift w6 hm
 refine cond_go rfl (cond_t w6 ?_)
 obtain rfl := si hm
 refine EndStep.mk _ (Hp.Le.refl _) ⟨rfl, rfl⟩ (ConvH.of (.cons r0 .nil))
 replace hm := iff_ w6 hm
 refine eq_str (cond_go rfl ?_)
 refine cond_s (fun w6 => ?_) (fun w6 => ?_)
 replace hm := ift w6 hm
 obtain rfl := si hm
 refine EndStep.mk _ (Hp.Le.refl _) ⟨rfl, rfl⟩ (ConvH.of (.cons r0 .nil))
 replace hm := iff_ w6 hm
 refine eq_str (cond_go rfl ?_)
 refine cond_s (fun w10 => ?_) (fun w10 => ?_)
 replace hm := ift w10 hm
 obtain rfl := si hm
 refine EndStep.mk _ (Hp.Le.refl _) ⟨rfl, rfl⟩ (ConvH.of (.cons r0 .nil))
 replace hm := iff_ w10 hm
 refine eq_str (cond_go rfl ?_)
 refine cond_s (fun w12 => ?_) (fun w12 => ?_)
 replace hm := ift w12 hm
 refine cond_go rfl (cond_t w12 ?_)
 obtain rfl := si hm
 refine EndStep.mk _ (Hp.Le.refl _) ⟨rfl, rfl⟩ (ConvH.of (.cons r0 .nil))
 replace hm := iff_ w12 hm
 refine eq_str (cond_go rfl ?_)
 refine cond_s (fun w12 => ?_) (fun w12 => ?_)
 replace hm := ift w12 hm
 obtain rfl := si hm
 refine EndStep.mk _ (Hp.Le.refl _) ⟨rfl, rfl⟩ (ConvH.of (.cons r0 .nil))
 replace hm := iff_ w12 hm
 refine eq_str (cond_go rfl ?_)
 refine cond_s (fun w15 => ?_) (fun w15 => ?_)
 replace hm := ift w15 hm
 refine cond_go rfl (cond_t w15 ?_)
 obtain rfl := si hm
 refine EndStep.mk _ (Hp.Le.refl _) ⟨rfl, rfl⟩ (ConvH.of (.cons r0 .nil))
 replace hm := iff_ w15 hm
 refine eq_str (cond_go rfl ?_)
 refine cond_s (fun w15 => ?_) (fun w15 => ?_)
 replace hm := ift w15 hm
 obtain rfl := si hm
 refine EndStep.mk _ (Hp.Le.refl _) ⟨rfl, rfl⟩ (ConvH.of (.cons r0 .nil))
 replace hm := iff_ w15 hm
 obtain rfl := si hm
 refine EndStep.mk _ (Hp.Le.refl _) ⟨rfl, rfl⟩ (ConvH.of (.cons r0 .nil))

noncomputable def JaQ (s : Str) : List Str → Nat → Option (Fl (Bool) (Unit))
  | [], _ => some (Fl.go ())
  | e0 :: xs0, i0 =>
    if decide (e0 = s) then
    some (Fl.ret true)
    else
    JaQ s xs0 (i0 + 1)
noncomputable def Jba (s : Str) (list : (List Str)) : Option (Bool) :=
  (chk (list.length ≤ szMax)).bind fun _ =>
  (JaQ s list 0).bind fun s0 => s0.el some fun t0 =>
  some false
set_option maxHeartbeats 8000000 in
theorem JaJ {s : Str} {list : (List Str)} {ap1_0 : Option Addr} {cp1_0 : Nat} {n1 : Nat} {K : Hp} {r : Bool}
    (hm : Jba s list = some r) (hp1_0 : RdC eS K ap1_0 cp1_0 1 list) (en1 : n1 = list.length) :
    Fn Tryz.prog 65 [str s, .slice ap1_0 n1 cp1_0] K [] (fun v K' H' => v = .bool r ∧ H' = []) := by
 subst en1
 refine Fn.enter Tryz.func65 Tryz.call65 rfl fun F => ?_
 unfold Jba at hm
 refine RStep.of (len_slice rfl ?_)
 obtain ⟨hk0, hm⟩ := chkb hm
 obtain ⟨s0, hl0, hm⟩ := bnd hm
 refine code_cut (σ := (Unit)) [4, 6, 9, 10, 11, 12, 13, 14, 15, 16] (fun t0 => []) (fun t0 => [F]) (fun zz K1 => match zz with | t0 => s0 = Fl.go t0) ?_ ?_
 refine block_go rfl ?_
 refine loop_rule (σ := Nat) [4, 6, 9, 10, 11, 12, 13, 14, 15, 16] (fun i0 => [(9, .int .i64 (i0 : Int))]) (fun i0 => [F]) (fun zz K1 => match zz with | i0 => JaQ s (list.drop i0) i0 = some s0) (fun zz => list.length - zz) (0) rfl ⟨rfl, trivial⟩ (ConvH.of (.cons r0 .nil)) hl0 ?_
 clear hl0
 rintro i0 Kb0 lk0 hl0 j0
 conv at hl0 => whnf
 refine cond_go rfl ?_
 refine cond_s (fun w0 => ?_) (fun w0 => ?_)
 obtain ⟨e0, hx0, hd0⟩ := ltx w0
 rw [hd0, JaQ.eq_2] at hl0
 refine block_go rfl ?_
 refine RStep.ofN (index_addr rfl rfl (hasK (hp1_0.mono lk0).rd hx0) (nn _) (lt_ofN hx0) (RStep.of (load_rd i0 0 _ _ (hp1_0.mono lk0).rd rfl (mp hx0) rfl rfl (eq_str (cond_go rfl ?_)))))
 refine cond_s (fun w15 => ?_) (fun w15 => ?_)
 replace hl0 := ift w15 hl0
 obtain rfl := si hl0
 replace hm := elr hm
 obtain rfl := si hm
 refine EndStep.mk _ lk0 ⟨rfl, rfl⟩ (ConvH.of (.cons r0 .nil))
 replace hl0 := iff_ w15 hl0
 refine int_in (cntz hx0 hk0) ?_
 refine RoundStep.mk (i0 + 1) ⟨rfl, trivial⟩ (by repeat (first | exact trivial | refine And.intro rfl ?_)) (ConvH.of (.cons r0 .nil)) lk0 (ltm hx0) hl0
 rw [lty w0, JaQ.eq_1] at hl0
 refine cond_T ?_
 refine MeetStep.mk (()) trivial (by repeat (first | exact trivial | refine And.intro rfl ?_)) (ConvH.of (.cons r0 .nil)) lk0 (si hl0).symm
 rintro t0 Kt0 lt0 rfl j0
 replace hm := elg hm
 obtain rfl := si hm
 refine EndStep.mk _ lt0 ⟨rfl, rfl⟩ (ConvH.of (.cons r0 .nil))

noncomputable def JaR (s : Str) (word : Str) : Option (Bool) :=
  (if decide ((s.length : Int) ≥ (word.length : Int)) then (chk (0 ≤ (0 : Int) ∧ (0 : Int) ≤ (word.length : Int) ∧ (word.length : Int) ≤ (s.length : Int))).bind fun _ =>
  some (decide ((subL s (0 : Int) (word.length : Int)) = word)) else some false).bind fun x17 =>
  (if x17 then (JaN s).bind fun x20 =>
  some x20 else some false).bind fun x21 =>
  some x21
set_option maxHeartbeats 8000000 in
theorem JaP {s : Str} {word : Str} {K : Hp} {r : Bool}
    (hm : JaR s word = some r)  :
    Fn Tryz.prog 66 [str s, str word] K [] (fun v K' H' => v = .bool r ∧ H' = []) := by
 refine Fn.enter Tryz.func66 Tryz.call66 rfl fun F => ?_
 unfold JaR at hm
 refine RStep.of (len_str rfl (RStep.of (len_str rfl ?_)))
 obtain ⟨x17, e17, hm⟩ := bnd hm
 refine cond_s (fun g10_1 => ?_) (fun g10_1 => ?_)
 replace e17 := ift g10_1 e17
 refine cond_t g10_1 (cond_t g10_1 (RStep.of (len_str rfl (cond_t g10_1 ?_))))
 obtain ⟨h14, e17⟩ := chkb e17
 refine RStep.ofN (sl_str (lo := none) (hi := (some (word.length : Int))) rfl h14 (cond_t g10_1 (cond_t g10_1 (eq_str (cond_t g10_1 ?_)))))
 obtain ⟨x21, e21, hm⟩ := bnd hm
 refine cond_s (fun g18_1 => ?_) (fun g18_1 => ?_)
 replace e21 := ift ((si e17).symm.trans g18_1) e21
 refine cond_t g18_1 ?_
 obtain ⟨x20, q20, e21⟩ := bnd e21
 refine call_fn (JaZ (s := s) q20) .nil ?_
 rintro _ K20 _ l20 ⟨rfl, rfl⟩
 refine cond_t g18_1 ?_
 obtain rfl := si hm
 refine EndStep.mk _ l20 ⟨(by rw [← (si e21)] <;> rfl), rfl⟩ (ConvH.of (.cons r0 .nil))
 replace e21 := iff_ ((si e17).symm.trans g18_1) e21
 refine cond_f g18_1 (cond_f g18_1 ?_)
 obtain rfl := si hm
 refine EndStep.mk _ (Hp.Le.refl _) ⟨(by rw [← ((si e21).symm).symm] <;> rfl), rfl⟩ (ConvH.of (.cons r0 .nil))
 replace e17 := iff_ g10_1 e17
 refine cond_f g10_1 (cond_f g10_1 (cond_f g10_1 (cond_f g10_1 (cond_f g10_1 (cond_f g10_1 ?_)))))
 obtain ⟨x21, e21, hm⟩ := bnd hm
 replace e21 := iff_ (si e17).symm e21
 refine cond_F (cond_F (cond_F ?_))
 obtain rfl := si hm
 refine EndStep.mk _ (Hp.Le.refl _) ⟨(by rw [← ((si e21).symm).symm] <;> rfl), rfl⟩ (ConvH.of (.cons r0 .nil))

noncomputable def Jbt (x : Ju) : Option (Int × Int × Bool) :=
  if decide (x.Op = 1) then
  some (0, 1, ((decide (x.S = ([] : Str)) && decide (x.N ≥ 0)) && decide (x.N ≤ 999999999)))
  else
  if decide (x.Op = 2) then
  (if decide (x.N = 0) then (JaN x.S).bind fun x49 =>
  some x49 else some false).bind fun x50 =>
  some (0, 1, x50)
  else
  if decide (x.Op = 3) then
  some (0, 1, ((decide (x.S = ([] : Str)) && decide (x.N ≥ 0)) && decide (x.N < 512)))
  else
  if decide (x.Op = 4) then
  some (1, 0, ((decide (x.S = ([] : Str)) && decide (x.N ≥ 0)) && decide (x.N < 512)))
  else
  if decide (x.Op = 5) then
  (if decide (x.N = 0) then (JaO x.S).bind fun x63 =>
  some x63 else some false).bind fun x64 =>
  some (0, 1, x64)
  else
  if decide (x.Op = 6) then
  (Jat x.S).bind fun x70 =>
  some (1, 1, (decide (x.N = 0) && x70.2.2))
  else
  if decide (x.Op = 7) then
  (if decide (x.N = 0) then (Jba x.S ([([43] : Str), ([45] : Str), ([42] : Str), ([61, 61] : Str), ([33, 61] : Str), ([60] : Str), ([60, 61] : Str), ([115, 116, 97, 114, 116, 115] : Str), ([101, 110, 100, 115] : Str), ([99, 111, 110, 116, 97, 105, 110, 115] : Str)])).bind fun x85 =>
  some x85 else some false).bind fun x86 =>
  some (2, 1, x86)
  else
  if decide (x.Op = 8) then
  some (1, 1, (decide (x.S = ([] : Str)) && decide (x.N = 0)))
  else
  if decide (x.Op = 9) then
  some (0, 0, decide (x.S = ([] : Str)))
  else
  if decide (x.Op = 10) then
  some (1, 0, decide (x.S = ([] : Str)))
  else
  if decide (x.Op = 11) then
  (Jba x.S ([([112, 97, 115, 115] : Str), ([116, 111, 107, 101, 110] : Str)])).bind fun x104 =>
  (if x104 then some true else (JaR x.S ([118, 97, 114, 121, 58] : Str)).bind fun x108 =>
  some x108).bind fun x109 =>
  if x109 then
  some (0, 0, decide (x.N = 0))
  else
  if decide (x.N = 0) then
  (Jba x.S ([([112, 97, 116, 104] : Str), ([113, 117, 101, 114, 121] : Str), ([116, 97, 103] : Str), ([116, 116, 108] : Str), ([100, 101, 110, 121] : Str)])).bind fun x116 =>
  (if x116 then some true else (JaR x.S ([104, 101, 97, 100, 101, 114, 58] : Str)).bind fun x120 =>
  some x120).bind fun x121 =>
  some (1, 0, x121)
  else
  some (1, 0, false)
  else
  if decide (x.Op = 12) then
  some (0, 0, (decide (x.S = ([] : Str)) && decide (x.N = 0)))
  else
  some (0, 0, false)
set_option maxHeartbeats 8000000 in
theorem Jcr {x : Ju} {K : Hp} {r : Int × Int × Bool}
    (hm : Jbt x = some r)  :
    Fn Tryz.prog 36 [.agg #[.int .i64 x.Op, .int .i64 x.N, str x.S]] K [] (fun v K' H' => v = .tuple #[.int .i64 r.1, .int .i64 r.2.1, .bool r.2.2] ∧ H' = []) := by
 refine Fn.enter Tryz.func36 Tryz.call36 rfl fun F => ?_
 unfold Jbt at hm
 refine box_rule ?_
 intro b1
 refine Jb rfl (RStep.of (load1_s r0 rfl rfl (eq_str (Jb rfl (RStep.of (load1_s r0 rfl rfl (eq_int ?_)))))))
 refine cond_s (fun g18_3 => ?_) (fun g18_3 => ?_)
 refine Jb rfl (cond_t g18_3 (RStep.of (load1_s r0 rfl rfl (cond_t g18_3 (cond_t g18_3 ?_)))))
 refine cond_s (fun g23_3 => ?_) (fun g23_3 => ?_)
 refine Jb rfl (cond_t g23_3 (RStep.of (load1_s r0 rfl rfl (cond_t g23_3 (cond_t g23_3 (Jb rfl ?_))))))
 refine RStep.of (load1_s r0 rfl rfl ?_)
 refine block_go rfl ?_
 refine eq_int (cond_go rfl ?_)
 refine cond_s (fun w30 => ?_) (fun w30 => ?_)
 replace hm := ift w30 hm
 refine draw_go ⟨⟨[], false⟩, _, [(_, _)]⟩ (by kernel_rfl) ⟨Hp.Le.refl _, (ConvH.of (.cons r0 .nil))⟩ ?_
 refine cond_s (fun g33_6 => ?_) (fun g33_6 => ?_)
 refine Jb rfl (cond_t g33_6 (load1_l m0 rfl rfl (cond_t g33_6 (cond_t g33_6 ?_))))
 refine cond_s (fun g38_6 => ?_) (fun g38_6 => ?_)
 refine Jb rfl (cond_t g38_6 (load1_l m0 rfl rfl (cond_t g38_6 (cond_t g38_6 ?_))))
 obtain rfl := si hm
 refine EndStep.mk _ (Hp.Le.refl _) ⟨(by rw [← (and_e (b := decide (x.N ≤ 999999999)) (and_t g33_6 g38_6))] <;> rfl), rfl⟩ (ConvH.of (.cons r1 .nil))
 refine cond_f g38_6 (cond_f g38_6 (cond_f g38_6 ?_))
 obtain rfl := si hm
 refine EndStep.mk _ (Hp.Le.refl _) ⟨(by rw [← ((and_f (and_g g33_6 g38_6))).symm] <;> rfl), rfl⟩ (ConvH.of (.cons r1 .nil))
 refine cond_f g33_6 (cond_f g33_6 (cond_f g33_6 (cond_F (cond_F (cond_F ?_)))))
 refine cond_F ?_
 obtain rfl := si hm
 refine EndStep.mk _ (Hp.Le.refl _) ⟨(by rw [← ((and_f (and_f g33_6))).symm] <;> rfl), rfl⟩ (ConvH.of (.cons r1 .nil))
 replace hm := iff_ w30 hm
 refine eq_int (cond_go rfl ?_)
 refine cond_s (fun w43 => ?_) (fun w43 => ?_)
 replace hm := ift w43 hm
 obtain ⟨x50, e50, hm⟩ := bnd hm
 refine cond_s (fun g46_8 => ?_) (fun g46_8 => ?_)
 replace e50 := ift g46_8 e50
 refine Jb rfl (cond_t g46_8 (RStep.of (load1_s r0 rfl rfl (cond_t g46_8 ?_))))
 obtain ⟨x49, q49, e50⟩ := bnd e50
 refine call_fn (JaZ (s := x.S) q49) .nil ?_
 rintro _ K49 _ l49 ⟨rfl, rfl⟩
 refine cond_t g46_8 ?_
 obtain rfl := si hm
 refine EndStep.mk _ l49 ⟨(by rw [← (si e50)] <;> rfl), rfl⟩ (ConvH.of (.cons r1 .nil))
 replace e50 := iff_ g46_8 e50
 refine cond_f g46_8 (cond_f g46_8 (cond_f g46_8 ?_))
 obtain rfl := si hm
 refine EndStep.mk _ (Hp.Le.refl _) ⟨(by rw [← ((si e50).symm).symm] <;> rfl), rfl⟩ (ConvH.of (.cons r1 .nil))
 replace hm := iff_ w43 hm
 refine eq_int (cond_go rfl ?_)
 refine cond_s (fun w51 => ?_) (fun w51 => ?_)
 replace hm := ift w51 hm
 obtain rfl := si hm
 refine EndStep.mk _ (Hp.Le.refl _) ⟨(by rw [← (and_e (b := decide (x.N < 512)) (and_t g18_3 g23_3))] <;> rfl), rfl⟩ (ConvH.of (.cons r1 .nil))
 replace hm := iff_ w51 hm
 refine eq_int (cond_go rfl ?_)
 refine cond_s (fun w54 => ?_) (fun w54 => ?_)
 replace hm := ift w54 hm
 obtain rfl := si hm
 refine EndStep.mk _ (Hp.Le.refl _) ⟨(by rw [← (and_e (b := decide (x.N < 512)) (and_t g18_3 g23_3))] <;> rfl), rfl⟩ (ConvH.of (.cons r1 .nil))
 replace hm := iff_ w54 hm
 refine eq_int (cond_go rfl ?_)
 refine cond_s (fun w57 => ?_) (fun w57 => ?_)
 replace hm := ift w57 hm
 obtain ⟨x64, e64, hm⟩ := bnd hm
 refine cond_s (fun g60_14 => ?_) (fun g60_14 => ?_)
 replace e64 := ift g60_14 e64
 refine Jb rfl (cond_t g60_14 (RStep.of (load1_s r0 rfl rfl (cond_t g60_14 ?_))))
 obtain ⟨x63, q63, e64⟩ := bnd e64
 refine call_fn (Ja7 (s := x.S) q63) .nil ?_
 rintro _ K63 _ l63 ⟨rfl, rfl⟩
 refine cond_t g60_14 ?_
 obtain rfl := si hm
 refine EndStep.mk _ l63 ⟨(by rw [← (si e64)] <;> rfl), rfl⟩ (ConvH.of (.cons r1 .nil))
 replace e64 := iff_ g60_14 e64
 refine cond_f g60_14 (cond_f g60_14 (cond_f g60_14 ?_))
 obtain rfl := si hm
 refine EndStep.mk _ (Hp.Le.refl _) ⟨(by rw [← ((si e64).symm).symm] <;> rfl), rfl⟩ (ConvH.of (.cons r1 .nil))
 replace hm := iff_ w57 hm
 refine eq_int (cond_go rfl ?_)
 refine cond_s (fun w65 => ?_) (fun w65 => ?_)
 replace hm := ift w65 hm
 refine Jb rfl (RStep.of (load1_s r0 rfl rfl ?_))
 obtain ⟨x70, q70, hm⟩ := bnd hm
 refine call_fn (Jbo (s := x.S) q70) .nil ?_
 rintro _ K70 _ l70 ⟨rfl, rfl⟩
 refine cond_s (fun g75_17 => ?_) (fun g75_17 => ?_)
 refine cond_t g75_17 ?_
 obtain rfl := si hm
 refine EndStep.mk _ l70 ⟨(by rw [← (and_e (b := x70.2.2) g75_17)] <;> rfl), rfl⟩ (ConvH.of (.cons r1 .nil))
 refine cond_f g75_17 ?_
 obtain rfl := si hm
 refine EndStep.mk _ l70 ⟨(by rw [← ((and_f g75_17)).symm] <;> rfl), rfl⟩ (ConvH.of (.cons r1 .nil))
 replace hm := iff_ w65 hm
 refine eq_int (cond_go rfl ?_)
 refine cond_s (fun w78 => ?_) (fun w78 => ?_)
 replace hm := ift w78 hm
 obtain ⟨x86, e86, hm⟩ := bnd hm
 refine cond_s (fun g81_19 => ?_) (fun g81_19 => ?_)
 replace e86 := ift g81_19 e86
 refine Jb rfl (cond_t g81_19 (RStep.of (load1_s r0 rfl rfl (cond_t g81_19 ?_))))
 refine bsO (len := 10) (enc := eS) (l := [([43] : Str), ([45] : Str), ([42] : Str), ([61, 61] : Str), ([33, 61] : Str), ([60] : Str), ([60, 61] : Str), ([115, 116, 97, 114, 116, 115] : Str), ([101, 110, 100, 115] : Str), ([99, 111, 110, 116, 97, 105, 110, 115] : Str)]) (cl := [str ([43] : Str), str ([45] : Str), str ([42] : Str), str ([61, 61] : Str), str ([33, 61] : Str), str ([60] : Str), str ([60, 61] : Str), str ([115, 116, 97, 114, 116, 115] : Str), str ([101, 110, 100, 115] : Str), str ([99, 111, 110, 116, 97, 105, 110, 115] : Str)]) elT70 rfl rfl (fun _ _ => rfl) rfl rfl rfl ?_ fun b84 => ?_
 · conv => whnf
   refine cond_T (cond_T (cond_T (cond_T (cond_T (cond_T ?_)))))
   refine cond_T (cond_T (cond_T (cond_T ?_)))
   first | done | rfl
 refine cond_t g81_19 ?_
 obtain ⟨x85, q85, e86⟩ := bnd e86
 refine call_fn (Fn.lend Tryz.call65 (fun K85_1 l85_1 f85_1 => (JaJ (s := x.S) q85 f85_1 rfl)) (by exact fun _ _ _ _ h => h)) (.cons r0 .nil) ?_
 rintro _ K85 _ l85 ⟨_, rfl, rfl, rfl⟩
 refine cond_t g81_19 ?_
 obtain rfl := si hm
 refine EndStep.mk _ l85 ⟨(by rw [← (si e86)] <;> rfl), rfl⟩ (ConvH.of (.cons r2 .nil))
 replace e86 := iff_ g81_19 e86
 refine cond_f g81_19 (cond_f g81_19 (cond_f g81_19 (cond_f g81_19 ?_)))
 obtain rfl := si hm
 refine EndStep.mk _ (Hp.Le.refl _) ⟨(by rw [← ((si e86).symm).symm] <;> rfl), rfl⟩ (ConvH.of (.cons r1 .nil))
 replace hm := iff_ w78 hm
 refine eq_int (cond_go rfl ?_)
 refine cond_s (fun w87 => ?_) (fun w87 => ?_)
 replace hm := ift w87 hm
 refine cond_s (fun g90_21 => ?_) (fun g90_21 => ?_)
 refine cond_t g90_21 ?_
 obtain rfl := si hm
 refine EndStep.mk _ (Hp.Le.refl _) ⟨(by rw [← (and_e (b := decide (x.N = 0)) g90_21)] <;> rfl), rfl⟩ (ConvH.of (.cons r1 .nil))
 refine cond_f g90_21 ?_
 obtain rfl := si hm
 refine EndStep.mk _ (Hp.Le.refl _) ⟨(by rw [← ((and_f g90_21)).symm] <;> rfl), rfl⟩ (ConvH.of (.cons r1 .nil))
 replace hm := iff_ w87 hm
 refine eq_int (cond_go rfl ?_)
 refine cond_s (fun w93 => ?_) (fun w93 => ?_)
 replace hm := ift w93 hm
 obtain rfl := si hm
 refine EndStep.mk _ (Hp.Le.refl _) ⟨rfl, rfl⟩ (ConvH.of (.cons r1 .nil))
 replace hm := iff_ w93 hm
 refine eq_int (cond_go rfl ?_)
 refine cond_s (fun w96 => ?_) (fun w96 => ?_)
 replace hm := ift w96 hm
 obtain rfl := si hm
 refine EndStep.mk _ (Hp.Le.refl _) ⟨rfl, rfl⟩ (ConvH.of (.cons r1 .nil))
 replace hm := iff_ w96 hm
 refine eq_int (cond_go rfl ?_)
 refine cond_s (fun w99 => ?_) (fun w99 => ?_)
 replace hm := ift w99 hm
 refine Jb rfl (RStep.of (load1_s r0 rfl rfl ?_))
 refine bsO (len := 2) (enc := eS) (l := [([112, 97, 115, 115] : Str), ([116, 111, 107, 101, 110] : Str)]) (cl := [str ([112, 97, 115, 115] : Str), str ([116, 111, 107, 101, 110] : Str)]) elT70 rfl rfl (fun _ _ => rfl) rfl rfl rfl ?_ fun b103 => ?_
 · conv => whnf
   refine cond_T (cond_T ?_)
   first | done | rfl
 obtain ⟨x104, q104, hm⟩ := bnd hm
 refine call_fn (Fn.lend Tryz.call65 (fun K104_1 l104_1 f104_1 => (JaJ (s := x.S) q104 f104_1 rfl)) (by exact fun _ _ _ _ h => h)) (.cons r0 .nil) ?_
 rintro _ K104 _ l104 ⟨_, rfl, rfl, rfl⟩
 obtain ⟨x109, e109, hm⟩ := bnd hm
 refine cond_s (fun g105_27 => ?_) (fun g105_27 => ?_)
 replace e109 := ift g105_27 e109
 refine cond_t g105_27 (cond_t g105_27 (cond_t g105_27 (cond_go rfl (cond_T ?_))))
 replace hm := ift (si e109).symm hm
 obtain rfl := si hm
 refine EndStep.mk _ l104 ⟨rfl, rfl⟩ (ConvH.of (.cons r2 .nil))
 replace e109 := iff_ g105_27 e109
 refine Jb rfl (cond_f g105_27 (RStep.of (load1_s r1 rfl rfl (cond_f g105_27 ?_))))
 obtain ⟨x108, q108, e109⟩ := bnd e109
 refine call_fn (JaP (s := x.S) (word := ([118, 97, 114, 121, 58] : Str)) q108) .nil ?_
 rintro _ K108 _ l108 ⟨rfl, rfl⟩
 refine cond_f g105_27 (cond_go rfl ?_)
 refine cond_s (fun w109 => ?_) (fun w109 => ?_)
 replace hm := ift ((si e109).symm.trans w109) hm
 obtain rfl := si hm
 refine EndStep.mk _ (l104.trans l108) ⟨rfl, rfl⟩ (ConvH.of (.cons r2 .nil))
 replace hm := iff_ ((si e109).symm.trans w109) hm
 refine cond_s (fun g112_29 => ?_) (fun g112_29 => ?_)
 replace hm := ift g112_29 hm
 refine Jb rfl (cond_t g112_29 (RStep.of (load1_s r1 rfl rfl (cond_t g112_29 ?_))))
 refine bsO (len := 5) (enc := eS) (l := [([112, 97, 116, 104] : Str), ([113, 117, 101, 114, 121] : Str), ([116, 97, 103] : Str), ([116, 116, 108] : Str), ([100, 101, 110, 121] : Str)]) (cl := [str ([112, 97, 116, 104] : Str), str ([113, 117, 101, 114, 121] : Str), str ([116, 97, 103] : Str), str ([116, 116, 108] : Str), str ([100, 101, 110, 121] : Str)]) elT70 rfl rfl (fun _ _ => rfl) rfl rfl rfl ?_ fun b115 => ?_
 · conv => whnf
   refine cond_T (cond_T (cond_T (cond_T (cond_T ?_))))
   first | done | rfl
 refine cond_t g112_29 ?_
 obtain ⟨x116, q116, hm⟩ := bnd hm
 refine call_fn (Fn.lend Tryz.call65 (fun K116_1 l116_1 f116_1 => (JaJ (s := x.S) q116 f116_1 rfl)) (by exact fun _ _ _ _ h => h)) (.cons r0 .nil) ?_
 rintro _ K116 _ l116 ⟨_, rfl, rfl, rfl⟩
 refine cond_t g112_29 ?_
 obtain ⟨x121, e121, hm⟩ := bnd hm
 refine cond_s (fun g117_29 => ?_) (fun g117_29 => ?_)
 replace e121 := ift g117_29 e121
 refine cond_t g117_29 (cond_t g117_29 (cond_t g112_29 (cond_t g117_29 (cond_t g112_29 ?_))))
 obtain rfl := si hm
 refine EndStep.mk _ ((l104.trans l108).trans l116) ⟨(by rw [← ((si e121).symm).symm] <;> rfl), rfl⟩ (ConvH.of (.cons r3 .nil))
 replace e121 := iff_ g117_29 e121
 refine Jb rfl (cond_f g117_29 (RStep.of (load1_s r2 rfl rfl (cond_f g117_29 ?_))))
 obtain ⟨x120, q120, e121⟩ := bnd e121
 refine call_fn (JaP (s := x.S) (word := ([104, 101, 97, 100, 101, 114, 58] : Str)) q120) .nil ?_
 rintro _ K120 _ l120 ⟨rfl, rfl⟩
 refine cond_t g112_29 (cond_f g117_29 (cond_t g112_29 ?_))
 obtain rfl := si hm
 refine EndStep.mk _ (((l104.trans l108).trans l116).trans l120) ⟨(by rw [← (si e121)] <;> rfl), rfl⟩ (ConvH.of (.cons r3 .nil))
 replace hm := iff_ g112_29 hm
 refine cond_f g112_29 (cond_f g112_29 (cond_f g112_29 (cond_f g112_29 (cond_f g112_29 (cond_f g112_29 ?_)))))
 obtain rfl := si hm
 refine EndStep.mk _ (l104.trans l108) ⟨rfl, rfl⟩ (ConvH.of (.cons r2 .nil))
 replace hm := iff_ w99 hm
 refine eq_int (cond_go rfl ?_)
 refine cond_s (fun w123 => ?_) (fun w123 => ?_)
 replace hm := ift w123 hm
 refine cond_s (fun g126_31 => ?_) (fun g126_31 => ?_)
 refine cond_t g126_31 ?_
 obtain rfl := si hm
 refine EndStep.mk _ (Hp.Le.refl _) ⟨(by rw [← (and_e (b := decide (x.N = 0)) g126_31)] <;> rfl), rfl⟩ (ConvH.of (.cons r1 .nil))
 refine cond_f g126_31 ?_
 obtain rfl := si hm
 refine EndStep.mk _ (Hp.Le.refl _) ⟨(by rw [← ((and_f g126_31)).symm] <;> rfl), rfl⟩ (ConvH.of (.cons r1 .nil))
 replace hm := iff_ w123 hm
 obtain rfl := si hm
 refine EndStep.mk _ (Hp.Le.refl _) ⟨rfl, rfl⟩ (ConvH.of (.cons r1 .nil))
 refine cond_f g23_3 (cond_f g23_3 (cond_f g23_3 (Jb rfl (RStep.of (load1_s r0 rfl rfl ?_)))))
 refine block_go rfl ?_
 refine eq_int (cond_go rfl ?_)
 refine cond_s (fun w30 => ?_) (fun w30 => ?_)
 replace hm := ift w30 hm
 refine draw_go ⟨⟨[], false⟩, _, [(_, _)]⟩ (by kernel_rfl) ⟨Hp.Le.refl _, (ConvH.of (.cons r0 .nil))⟩ ?_
 refine cond_s (fun g33_6 => ?_) (fun g33_6 => ?_)
 refine Jb rfl (cond_t g33_6 (load1_l m0 rfl rfl (cond_t g33_6 (cond_t g33_6 ?_))))
 refine cond_s (fun g38_6 => ?_) (fun g38_6 => ?_)
 refine Jb rfl (cond_t g38_6 (load1_l m0 rfl rfl (cond_t g38_6 (cond_t g38_6 ?_))))
 obtain rfl := si hm
 refine EndStep.mk _ (Hp.Le.refl _) ⟨(by rw [← (and_e (b := decide (x.N ≤ 999999999)) (and_t g33_6 g38_6))] <;> rfl), rfl⟩ (ConvH.of (.cons r1 .nil))
 refine cond_f g38_6 (cond_f g38_6 (cond_f g38_6 ?_))
 obtain rfl := si hm
 refine EndStep.mk _ (Hp.Le.refl _) ⟨(by rw [← ((and_f (and_g g33_6 g38_6))).symm] <;> rfl), rfl⟩ (ConvH.of (.cons r1 .nil))
 refine cond_f g33_6 (cond_f g33_6 (cond_f g33_6 (cond_F (cond_F (cond_F ?_)))))
 refine cond_F ?_
 obtain rfl := si hm
 refine EndStep.mk _ (Hp.Le.refl _) ⟨(by rw [← ((and_f (and_f g33_6))).symm] <;> rfl), rfl⟩ (ConvH.of (.cons r1 .nil))
 replace hm := iff_ w30 hm
 refine eq_int (cond_go rfl ?_)
 refine cond_s (fun w43 => ?_) (fun w43 => ?_)
 replace hm := ift w43 hm
 obtain ⟨x50, e50, hm⟩ := bnd hm
 refine cond_s (fun g46_8 => ?_) (fun g46_8 => ?_)
 replace e50 := ift g46_8 e50
 refine Jb rfl (cond_t g46_8 (RStep.of (load1_s r0 rfl rfl (cond_t g46_8 ?_))))
 obtain ⟨x49, q49, e50⟩ := bnd e50
 refine call_fn (JaZ (s := x.S) q49) .nil ?_
 rintro _ K49 _ l49 ⟨rfl, rfl⟩
 refine cond_t g46_8 ?_
 obtain rfl := si hm
 refine EndStep.mk _ l49 ⟨(by rw [← (si e50)] <;> rfl), rfl⟩ (ConvH.of (.cons r1 .nil))
 replace e50 := iff_ g46_8 e50
 refine cond_f g46_8 (cond_f g46_8 (cond_f g46_8 ?_))
 obtain rfl := si hm
 refine EndStep.mk _ (Hp.Le.refl _) ⟨(by rw [← ((si e50).symm).symm] <;> rfl), rfl⟩ (ConvH.of (.cons r1 .nil))
 replace hm := iff_ w43 hm
 refine eq_int (cond_go rfl ?_)
 refine cond_s (fun w51 => ?_) (fun w51 => ?_)
 replace hm := ift w51 hm
 obtain rfl := si hm
 refine EndStep.mk _ (Hp.Le.refl _) ⟨(by rw [← ((and_f (and_g g18_3 g23_3))).symm] <;> rfl), rfl⟩ (ConvH.of (.cons r1 .nil))
 replace hm := iff_ w51 hm
 refine eq_int (cond_go rfl ?_)
 refine cond_s (fun w54 => ?_) (fun w54 => ?_)
 replace hm := ift w54 hm
 obtain rfl := si hm
 refine EndStep.mk _ (Hp.Le.refl _) ⟨(by rw [← ((and_f (and_g g18_3 g23_3))).symm] <;> rfl), rfl⟩ (ConvH.of (.cons r1 .nil))
 replace hm := iff_ w54 hm
 refine eq_int (cond_go rfl ?_)
 refine cond_s (fun w57 => ?_) (fun w57 => ?_)
 replace hm := ift w57 hm
 obtain ⟨x64, e64, hm⟩ := bnd hm
 refine cond_s (fun g60_14 => ?_) (fun g60_14 => ?_)
 replace e64 := ift g60_14 e64
 refine Jb rfl (cond_t g60_14 (RStep.of (load1_s r0 rfl rfl (cond_t g60_14 ?_))))
 obtain ⟨x63, q63, e64⟩ := bnd e64
 refine call_fn (Ja7 (s := x.S) q63) .nil ?_
 rintro _ K63 _ l63 ⟨rfl, rfl⟩
 refine cond_t g60_14 ?_
 obtain rfl := si hm
 refine EndStep.mk _ l63 ⟨(by rw [← (si e64)] <;> rfl), rfl⟩ (ConvH.of (.cons r1 .nil))
 replace e64 := iff_ g60_14 e64
 refine cond_f g60_14 (cond_f g60_14 (cond_f g60_14 ?_))
 obtain rfl := si hm
 refine EndStep.mk _ (Hp.Le.refl _) ⟨(by rw [← ((si e64).symm).symm] <;> rfl), rfl⟩ (ConvH.of (.cons r1 .nil))
 replace hm := iff_ w57 hm
 refine eq_int (cond_go rfl ?_)
 refine cond_s (fun w65 => ?_) (fun w65 => ?_)
 replace hm := ift w65 hm
 refine Jb rfl (RStep.of (load1_s r0 rfl rfl ?_))
 obtain ⟨x70, q70, hm⟩ := bnd hm
 refine call_fn (Jbo (s := x.S) q70) .nil ?_
 rintro _ K70 _ l70 ⟨rfl, rfl⟩
 refine cond_s (fun g75_17 => ?_) (fun g75_17 => ?_)
 refine cond_t g75_17 ?_
 obtain rfl := si hm
 refine EndStep.mk _ l70 ⟨(by rw [← (and_e (b := x70.2.2) g75_17)] <;> rfl), rfl⟩ (ConvH.of (.cons r1 .nil))
 refine cond_f g75_17 ?_
 obtain rfl := si hm
 refine EndStep.mk _ l70 ⟨(by rw [← ((and_f g75_17)).symm] <;> rfl), rfl⟩ (ConvH.of (.cons r1 .nil))
 replace hm := iff_ w65 hm
 refine eq_int (cond_go rfl ?_)
 refine cond_s (fun w78 => ?_) (fun w78 => ?_)
 replace hm := ift w78 hm
 obtain ⟨x86, e86, hm⟩ := bnd hm
 refine cond_s (fun g81_19 => ?_) (fun g81_19 => ?_)
 replace e86 := ift g81_19 e86
 refine Jb rfl (cond_t g81_19 (RStep.of (load1_s r0 rfl rfl (cond_t g81_19 ?_))))
 refine bsO (len := 10) (enc := eS) (l := [([43] : Str), ([45] : Str), ([42] : Str), ([61, 61] : Str), ([33, 61] : Str), ([60] : Str), ([60, 61] : Str), ([115, 116, 97, 114, 116, 115] : Str), ([101, 110, 100, 115] : Str), ([99, 111, 110, 116, 97, 105, 110, 115] : Str)]) (cl := [str ([43] : Str), str ([45] : Str), str ([42] : Str), str ([61, 61] : Str), str ([33, 61] : Str), str ([60] : Str), str ([60, 61] : Str), str ([115, 116, 97, 114, 116, 115] : Str), str ([101, 110, 100, 115] : Str), str ([99, 111, 110, 116, 97, 105, 110, 115] : Str)]) elT70 rfl rfl (fun _ _ => rfl) rfl rfl rfl ?_ fun b84 => ?_
 · conv => whnf
   refine cond_T (cond_T (cond_T (cond_T (cond_T (cond_T ?_)))))
   refine cond_T (cond_T (cond_T (cond_T ?_)))
   first | done | rfl
 refine cond_t g81_19 ?_
 obtain ⟨x85, q85, e86⟩ := bnd e86
 refine call_fn (Fn.lend Tryz.call65 (fun K85_1 l85_1 f85_1 => (JaJ (s := x.S) q85 f85_1 rfl)) (by exact fun _ _ _ _ h => h)) (.cons r0 .nil) ?_
 rintro _ K85 _ l85 ⟨_, rfl, rfl, rfl⟩
 refine cond_t g81_19 ?_
 obtain rfl := si hm
 refine EndStep.mk _ l85 ⟨(by rw [← (si e86)] <;> rfl), rfl⟩ (ConvH.of (.cons r2 .nil))
 replace e86 := iff_ g81_19 e86
 refine cond_f g81_19 (cond_f g81_19 (cond_f g81_19 (cond_f g81_19 ?_)))
 obtain rfl := si hm
 refine EndStep.mk _ (Hp.Le.refl _) ⟨(by rw [← ((si e86).symm).symm] <;> rfl), rfl⟩ (ConvH.of (.cons r1 .nil))
 replace hm := iff_ w78 hm
 refine eq_int (cond_go rfl ?_)
 refine cond_s (fun w87 => ?_) (fun w87 => ?_)
 replace hm := ift w87 hm
 refine cond_s (fun g90_21 => ?_) (fun g90_21 => ?_)
 refine cond_t g90_21 ?_
 obtain rfl := si hm
 refine EndStep.mk _ (Hp.Le.refl _) ⟨(by rw [← (and_e (b := decide (x.N = 0)) g90_21)] <;> rfl), rfl⟩ (ConvH.of (.cons r1 .nil))
 refine cond_f g90_21 ?_
 obtain rfl := si hm
 refine EndStep.mk _ (Hp.Le.refl _) ⟨(by rw [← ((and_f g90_21)).symm] <;> rfl), rfl⟩ (ConvH.of (.cons r1 .nil))
 replace hm := iff_ w87 hm
 refine eq_int (cond_go rfl ?_)
 refine cond_s (fun w93 => ?_) (fun w93 => ?_)
 replace hm := ift w93 hm
 obtain rfl := si hm
 refine EndStep.mk _ (Hp.Le.refl _) ⟨rfl, rfl⟩ (ConvH.of (.cons r1 .nil))
 replace hm := iff_ w93 hm
 refine eq_int (cond_go rfl ?_)
 refine cond_s (fun w96 => ?_) (fun w96 => ?_)
 replace hm := ift w96 hm
 obtain rfl := si hm
 refine EndStep.mk _ (Hp.Le.refl _) ⟨rfl, rfl⟩ (ConvH.of (.cons r1 .nil))
 replace hm := iff_ w96 hm
 refine eq_int (cond_go rfl ?_)
 refine cond_s (fun w99 => ?_) (fun w99 => ?_)
 replace hm := ift w99 hm
 refine Jb rfl (RStep.of (load1_s r0 rfl rfl ?_))
 refine bsO (len := 2) (enc := eS) (l := [([112, 97, 115, 115] : Str), ([116, 111, 107, 101, 110] : Str)]) (cl := [str ([112, 97, 115, 115] : Str), str ([116, 111, 107, 101, 110] : Str)]) elT70 rfl rfl (fun _ _ => rfl) rfl rfl rfl ?_ fun b103 => ?_
 · conv => whnf
   refine cond_T (cond_T ?_)
   first | done | rfl
 obtain ⟨x104, q104, hm⟩ := bnd hm
 refine call_fn (Fn.lend Tryz.call65 (fun K104_1 l104_1 f104_1 => (JaJ (s := x.S) q104 f104_1 rfl)) (by exact fun _ _ _ _ h => h)) (.cons r0 .nil) ?_
 rintro _ K104 _ l104 ⟨_, rfl, rfl, rfl⟩
 obtain ⟨x109, e109, hm⟩ := bnd hm
 refine cond_s (fun g105_27 => ?_) (fun g105_27 => ?_)
 replace e109 := ift g105_27 e109
 refine cond_t g105_27 (cond_t g105_27 (cond_t g105_27 (cond_go rfl (cond_T ?_))))
 replace hm := ift (si e109).symm hm
 obtain rfl := si hm
 refine EndStep.mk _ l104 ⟨rfl, rfl⟩ (ConvH.of (.cons r2 .nil))
 replace e109 := iff_ g105_27 e109
 refine Jb rfl (cond_f g105_27 (RStep.of (load1_s r1 rfl rfl (cond_f g105_27 ?_))))
 obtain ⟨x108, q108, e109⟩ := bnd e109
 refine call_fn (JaP (s := x.S) (word := ([118, 97, 114, 121, 58] : Str)) q108) .nil ?_
 rintro _ K108 _ l108 ⟨rfl, rfl⟩
 refine cond_f g105_27 (cond_go rfl ?_)
 refine cond_s (fun w109 => ?_) (fun w109 => ?_)
 replace hm := ift ((si e109).symm.trans w109) hm
 obtain rfl := si hm
 refine EndStep.mk _ (l104.trans l108) ⟨rfl, rfl⟩ (ConvH.of (.cons r2 .nil))
 replace hm := iff_ ((si e109).symm.trans w109) hm
 refine cond_s (fun g112_29 => ?_) (fun g112_29 => ?_)
 replace hm := ift g112_29 hm
 refine Jb rfl (cond_t g112_29 (RStep.of (load1_s r1 rfl rfl (cond_t g112_29 ?_))))
 refine bsO (len := 5) (enc := eS) (l := [([112, 97, 116, 104] : Str), ([113, 117, 101, 114, 121] : Str), ([116, 97, 103] : Str), ([116, 116, 108] : Str), ([100, 101, 110, 121] : Str)]) (cl := [str ([112, 97, 116, 104] : Str), str ([113, 117, 101, 114, 121] : Str), str ([116, 97, 103] : Str), str ([116, 116, 108] : Str), str ([100, 101, 110, 121] : Str)]) elT70 rfl rfl (fun _ _ => rfl) rfl rfl rfl ?_ fun b115 => ?_
 · conv => whnf
   refine cond_T (cond_T (cond_T (cond_T (cond_T ?_))))
   first | done | rfl
 refine cond_t g112_29 ?_
 obtain ⟨x116, q116, hm⟩ := bnd hm
 refine call_fn (Fn.lend Tryz.call65 (fun K116_1 l116_1 f116_1 => (JaJ (s := x.S) q116 f116_1 rfl)) (by exact fun _ _ _ _ h => h)) (.cons r0 .nil) ?_
 rintro _ K116 _ l116 ⟨_, rfl, rfl, rfl⟩
 refine cond_t g112_29 ?_
 obtain ⟨x121, e121, hm⟩ := bnd hm
 refine cond_s (fun g117_29 => ?_) (fun g117_29 => ?_)
 replace e121 := ift g117_29 e121
 refine cond_t g117_29 (cond_t g117_29 (cond_t g112_29 (cond_t g117_29 (cond_t g112_29 ?_))))
 obtain rfl := si hm
 refine EndStep.mk _ ((l104.trans l108).trans l116) ⟨(by rw [← ((si e121).symm).symm] <;> rfl), rfl⟩ (ConvH.of (.cons r3 .nil))
 replace e121 := iff_ g117_29 e121
 refine Jb rfl (cond_f g117_29 (RStep.of (load1_s r2 rfl rfl (cond_f g117_29 ?_))))
 obtain ⟨x120, q120, e121⟩ := bnd e121
 refine call_fn (JaP (s := x.S) (word := ([104, 101, 97, 100, 101, 114, 58] : Str)) q120) .nil ?_
 rintro _ K120 _ l120 ⟨rfl, rfl⟩
 refine cond_t g112_29 (cond_f g117_29 (cond_t g112_29 ?_))
 obtain rfl := si hm
 refine EndStep.mk _ (((l104.trans l108).trans l116).trans l120) ⟨(by rw [← (si e121)] <;> rfl), rfl⟩ (ConvH.of (.cons r3 .nil))
 replace hm := iff_ g112_29 hm
 refine cond_f g112_29 (cond_f g112_29 (cond_f g112_29 (cond_f g112_29 (cond_f g112_29 (cond_f g112_29 ?_)))))
 obtain rfl := si hm
 refine EndStep.mk _ (l104.trans l108) ⟨rfl, rfl⟩ (ConvH.of (.cons r2 .nil))
 replace hm := iff_ w99 hm
 refine eq_int (cond_go rfl ?_)
 refine cond_s (fun w123 => ?_) (fun w123 => ?_)
 replace hm := ift w123 hm
 refine cond_s (fun g126_31 => ?_) (fun g126_31 => ?_)
 refine cond_t g126_31 ?_
 obtain rfl := si hm
 refine EndStep.mk _ (Hp.Le.refl _) ⟨(by rw [← (and_e (b := decide (x.N = 0)) g126_31)] <;> rfl), rfl⟩ (ConvH.of (.cons r1 .nil))
 refine cond_f g126_31 ?_
 obtain rfl := si hm
 refine EndStep.mk _ (Hp.Le.refl _) ⟨(by rw [← ((and_f g126_31)).symm] <;> rfl), rfl⟩ (ConvH.of (.cons r1 .nil))
 replace hm := iff_ w123 hm
 obtain rfl := si hm
 refine EndStep.mk _ (Hp.Le.refl _) ⟨rfl, rfl⟩ (ConvH.of (.cons r1 .nil))
 refine cond_f g18_3 (cond_f g18_3 (cond_f g18_3 (cond_F (cond_F (cond_F ?_)))))
 refine cond_F (Jb rfl (RStep.of (load1_s r0 rfl rfl ?_)))
 refine block_go rfl ?_
 refine eq_int (cond_go rfl ?_)
 refine cond_s (fun w30 => ?_) (fun w30 => ?_)
 replace hm := ift w30 hm
 refine draw_go ⟨⟨[], false⟩, _, [(_, _)]⟩ (by kernel_rfl) ⟨Hp.Le.refl _, (ConvH.of (.cons r0 .nil))⟩ ?_
 refine cond_s (fun g33_6 => ?_) (fun g33_6 => ?_)
 refine Jb rfl (cond_t g33_6 (load1_l m0 rfl rfl (cond_t g33_6 (cond_t g33_6 ?_))))
 refine cond_s (fun g38_6 => ?_) (fun g38_6 => ?_)
 refine Jb rfl (cond_t g38_6 (load1_l m0 rfl rfl (cond_t g38_6 (cond_t g38_6 ?_))))
 obtain rfl := si hm
 refine EndStep.mk _ (Hp.Le.refl _) ⟨(by rw [← (and_e (b := decide (x.N ≤ 999999999)) (and_t g33_6 g38_6))] <;> rfl), rfl⟩ (ConvH.of (.cons r1 .nil))
 refine cond_f g38_6 (cond_f g38_6 (cond_f g38_6 ?_))
 obtain rfl := si hm
 refine EndStep.mk _ (Hp.Le.refl _) ⟨(by rw [← ((and_f (and_g g33_6 g38_6))).symm] <;> rfl), rfl⟩ (ConvH.of (.cons r1 .nil))
 refine cond_f g33_6 (cond_f g33_6 (cond_f g33_6 (cond_F (cond_F (cond_F ?_)))))
 refine cond_F ?_
 obtain rfl := si hm
 refine EndStep.mk _ (Hp.Le.refl _) ⟨(by rw [← ((and_f (and_f g33_6))).symm] <;> rfl), rfl⟩ (ConvH.of (.cons r1 .nil))
 replace hm := iff_ w30 hm
 refine eq_int (cond_go rfl ?_)
 refine cond_s (fun w43 => ?_) (fun w43 => ?_)
 replace hm := ift w43 hm
 obtain ⟨x50, e50, hm⟩ := bnd hm
 refine cond_s (fun g46_8 => ?_) (fun g46_8 => ?_)
 replace e50 := ift g46_8 e50
 refine Jb rfl (cond_t g46_8 (RStep.of (load1_s r0 rfl rfl (cond_t g46_8 ?_))))
 obtain ⟨x49, q49, e50⟩ := bnd e50
 refine call_fn (JaZ (s := x.S) q49) .nil ?_
 rintro _ K49 _ l49 ⟨rfl, rfl⟩
 refine cond_t g46_8 ?_
 obtain rfl := si hm
 refine EndStep.mk _ l49 ⟨(by rw [← (si e50)] <;> rfl), rfl⟩ (ConvH.of (.cons r1 .nil))
 replace e50 := iff_ g46_8 e50
 refine cond_f g46_8 (cond_f g46_8 (cond_f g46_8 ?_))
 obtain rfl := si hm
 refine EndStep.mk _ (Hp.Le.refl _) ⟨(by rw [← ((si e50).symm).symm] <;> rfl), rfl⟩ (ConvH.of (.cons r1 .nil))
 replace hm := iff_ w43 hm
 refine eq_int (cond_go rfl ?_)
 refine cond_s (fun w51 => ?_) (fun w51 => ?_)
 replace hm := ift w51 hm
 obtain rfl := si hm
 refine EndStep.mk _ (Hp.Le.refl _) ⟨(by rw [← ((and_f (and_f g18_3))).symm] <;> rfl), rfl⟩ (ConvH.of (.cons r1 .nil))
 replace hm := iff_ w51 hm
 refine eq_int (cond_go rfl ?_)
 refine cond_s (fun w54 => ?_) (fun w54 => ?_)
 replace hm := ift w54 hm
 obtain rfl := si hm
 refine EndStep.mk _ (Hp.Le.refl _) ⟨(by rw [← ((and_f (and_f g18_3))).symm] <;> rfl), rfl⟩ (ConvH.of (.cons r1 .nil))
 replace hm := iff_ w54 hm
 refine eq_int (cond_go rfl ?_)
 refine cond_s (fun w57 => ?_) (fun w57 => ?_)
 replace hm := ift w57 hm
 obtain ⟨x64, e64, hm⟩ := bnd hm
 refine cond_s (fun g60_14 => ?_) (fun g60_14 => ?_)
 replace e64 := ift g60_14 e64
 refine Jb rfl (cond_t g60_14 (RStep.of (load1_s r0 rfl rfl (cond_t g60_14 ?_))))
 obtain ⟨x63, q63, e64⟩ := bnd e64
 refine call_fn (Ja7 (s := x.S) q63) .nil ?_
 rintro _ K63 _ l63 ⟨rfl, rfl⟩
 refine cond_t g60_14 ?_
 obtain rfl := si hm
 refine EndStep.mk _ l63 ⟨(by rw [← (si e64)] <;> rfl), rfl⟩ (ConvH.of (.cons r1 .nil))
 replace e64 := iff_ g60_14 e64
 refine cond_f g60_14 (cond_f g60_14 (cond_f g60_14 ?_))
 obtain rfl := si hm
 refine EndStep.mk _ (Hp.Le.refl _) ⟨(by rw [← ((si e64).symm).symm] <;> rfl), rfl⟩ (ConvH.of (.cons r1 .nil))
 replace hm := iff_ w57 hm
 refine eq_int (cond_go rfl ?_)
 refine cond_s (fun w65 => ?_) (fun w65 => ?_)
 replace hm := ift w65 hm
 refine Jb rfl (RStep.of (load1_s r0 rfl rfl ?_))
 obtain ⟨x70, q70, hm⟩ := bnd hm
 refine call_fn (Jbo (s := x.S) q70) .nil ?_
 rintro _ K70 _ l70 ⟨rfl, rfl⟩
 refine cond_s (fun g75_17 => ?_) (fun g75_17 => ?_)
 refine cond_t g75_17 ?_
 obtain rfl := si hm
 refine EndStep.mk _ l70 ⟨(by rw [← (and_e (b := x70.2.2) g75_17)] <;> rfl), rfl⟩ (ConvH.of (.cons r1 .nil))
 refine cond_f g75_17 ?_
 obtain rfl := si hm
 refine EndStep.mk _ l70 ⟨(by rw [← ((and_f g75_17)).symm] <;> rfl), rfl⟩ (ConvH.of (.cons r1 .nil))
 replace hm := iff_ w65 hm
 refine eq_int (cond_go rfl ?_)
 refine cond_s (fun w78 => ?_) (fun w78 => ?_)
 replace hm := ift w78 hm
 obtain ⟨x86, e86, hm⟩ := bnd hm
 refine cond_s (fun g81_19 => ?_) (fun g81_19 => ?_)
 replace e86 := ift g81_19 e86
 refine Jb rfl (cond_t g81_19 (RStep.of (load1_s r0 rfl rfl (cond_t g81_19 ?_))))
 refine bsO (len := 10) (enc := eS) (l := [([43] : Str), ([45] : Str), ([42] : Str), ([61, 61] : Str), ([33, 61] : Str), ([60] : Str), ([60, 61] : Str), ([115, 116, 97, 114, 116, 115] : Str), ([101, 110, 100, 115] : Str), ([99, 111, 110, 116, 97, 105, 110, 115] : Str)]) (cl := [str ([43] : Str), str ([45] : Str), str ([42] : Str), str ([61, 61] : Str), str ([33, 61] : Str), str ([60] : Str), str ([60, 61] : Str), str ([115, 116, 97, 114, 116, 115] : Str), str ([101, 110, 100, 115] : Str), str ([99, 111, 110, 116, 97, 105, 110, 115] : Str)]) elT70 rfl rfl (fun _ _ => rfl) rfl rfl rfl ?_ fun b84 => ?_
 · conv => whnf
   refine cond_T (cond_T (cond_T (cond_T (cond_T (cond_T ?_)))))
   refine cond_T (cond_T (cond_T (cond_T ?_)))
   first | done | rfl
 refine cond_t g81_19 ?_
 obtain ⟨x85, q85, e86⟩ := bnd e86
 refine call_fn (Fn.lend Tryz.call65 (fun K85_1 l85_1 f85_1 => (JaJ (s := x.S) q85 f85_1 rfl)) (by exact fun _ _ _ _ h => h)) (.cons r0 .nil) ?_
 rintro _ K85 _ l85 ⟨_, rfl, rfl, rfl⟩
 refine cond_t g81_19 ?_
 obtain rfl := si hm
 refine EndStep.mk _ l85 ⟨(by rw [← (si e86)] <;> rfl), rfl⟩ (ConvH.of (.cons r2 .nil))
 replace e86 := iff_ g81_19 e86
 refine cond_f g81_19 (cond_f g81_19 (cond_f g81_19 (cond_f g81_19 ?_)))
 obtain rfl := si hm
 refine EndStep.mk _ (Hp.Le.refl _) ⟨(by rw [← ((si e86).symm).symm] <;> rfl), rfl⟩ (ConvH.of (.cons r1 .nil))
 replace hm := iff_ w78 hm
 refine eq_int (cond_go rfl ?_)
 refine cond_s (fun w87 => ?_) (fun w87 => ?_)
 replace hm := ift w87 hm
 refine cond_s (fun g90_21 => ?_) (fun g90_21 => ?_)
 refine cond_t g90_21 ?_
 obtain rfl := si hm
 refine EndStep.mk _ (Hp.Le.refl _) ⟨(by rw [← (and_e (b := decide (x.N = 0)) g90_21)] <;> rfl), rfl⟩ (ConvH.of (.cons r1 .nil))
 refine cond_f g90_21 ?_
 obtain rfl := si hm
 refine EndStep.mk _ (Hp.Le.refl _) ⟨(by rw [← ((and_f g90_21)).symm] <;> rfl), rfl⟩ (ConvH.of (.cons r1 .nil))
 replace hm := iff_ w87 hm
 refine eq_int (cond_go rfl ?_)
 refine cond_s (fun w93 => ?_) (fun w93 => ?_)
 replace hm := ift w93 hm
 obtain rfl := si hm
 refine EndStep.mk _ (Hp.Le.refl _) ⟨rfl, rfl⟩ (ConvH.of (.cons r1 .nil))
 replace hm := iff_ w93 hm
 refine eq_int (cond_go rfl ?_)
 refine cond_s (fun w96 => ?_) (fun w96 => ?_)
 replace hm := ift w96 hm
 obtain rfl := si hm
 refine EndStep.mk _ (Hp.Le.refl _) ⟨rfl, rfl⟩ (ConvH.of (.cons r1 .nil))
 replace hm := iff_ w96 hm
 refine eq_int (cond_go rfl ?_)
 refine cond_s (fun w99 => ?_) (fun w99 => ?_)
 replace hm := ift w99 hm
 refine Jb rfl (RStep.of (load1_s r0 rfl rfl ?_))
 refine bsO (len := 2) (enc := eS) (l := [([112, 97, 115, 115] : Str), ([116, 111, 107, 101, 110] : Str)]) (cl := [str ([112, 97, 115, 115] : Str), str ([116, 111, 107, 101, 110] : Str)]) elT70 rfl rfl (fun _ _ => rfl) rfl rfl rfl ?_ fun b103 => ?_
 · conv => whnf
   refine cond_T (cond_T ?_)
   first | done | rfl
 obtain ⟨x104, q104, hm⟩ := bnd hm
 refine call_fn (Fn.lend Tryz.call65 (fun K104_1 l104_1 f104_1 => (JaJ (s := x.S) q104 f104_1 rfl)) (by exact fun _ _ _ _ h => h)) (.cons r0 .nil) ?_
 rintro _ K104 _ l104 ⟨_, rfl, rfl, rfl⟩
 obtain ⟨x109, e109, hm⟩ := bnd hm
 refine cond_s (fun g105_27 => ?_) (fun g105_27 => ?_)
 replace e109 := ift g105_27 e109
 refine cond_t g105_27 (cond_t g105_27 (cond_t g105_27 (cond_go rfl (cond_T ?_))))
 replace hm := ift (si e109).symm hm
 obtain rfl := si hm
 refine EndStep.mk _ l104 ⟨rfl, rfl⟩ (ConvH.of (.cons r2 .nil))
 replace e109 := iff_ g105_27 e109
 refine Jb rfl (cond_f g105_27 (RStep.of (load1_s r1 rfl rfl (cond_f g105_27 ?_))))
 obtain ⟨x108, q108, e109⟩ := bnd e109
 refine call_fn (JaP (s := x.S) (word := ([118, 97, 114, 121, 58] : Str)) q108) .nil ?_
 rintro _ K108 _ l108 ⟨rfl, rfl⟩
 refine cond_f g105_27 (cond_go rfl ?_)
 refine cond_s (fun w109 => ?_) (fun w109 => ?_)
 replace hm := ift ((si e109).symm.trans w109) hm
 obtain rfl := si hm
 refine EndStep.mk _ (l104.trans l108) ⟨rfl, rfl⟩ (ConvH.of (.cons r2 .nil))
 replace hm := iff_ ((si e109).symm.trans w109) hm
 refine cond_s (fun g112_29 => ?_) (fun g112_29 => ?_)
 replace hm := ift g112_29 hm
 refine Jb rfl (cond_t g112_29 (RStep.of (load1_s r1 rfl rfl (cond_t g112_29 ?_))))
 refine bsO (len := 5) (enc := eS) (l := [([112, 97, 116, 104] : Str), ([113, 117, 101, 114, 121] : Str), ([116, 97, 103] : Str), ([116, 116, 108] : Str), ([100, 101, 110, 121] : Str)]) (cl := [str ([112, 97, 116, 104] : Str), str ([113, 117, 101, 114, 121] : Str), str ([116, 97, 103] : Str), str ([116, 116, 108] : Str), str ([100, 101, 110, 121] : Str)]) elT70 rfl rfl (fun _ _ => rfl) rfl rfl rfl ?_ fun b115 => ?_
 · conv => whnf
   refine cond_T (cond_T (cond_T (cond_T (cond_T ?_))))
   first | done | rfl
 refine cond_t g112_29 ?_
 obtain ⟨x116, q116, hm⟩ := bnd hm
 refine call_fn (Fn.lend Tryz.call65 (fun K116_1 l116_1 f116_1 => (JaJ (s := x.S) q116 f116_1 rfl)) (by exact fun _ _ _ _ h => h)) (.cons r0 .nil) ?_
 rintro _ K116 _ l116 ⟨_, rfl, rfl, rfl⟩
 refine cond_t g112_29 ?_
 obtain ⟨x121, e121, hm⟩ := bnd hm
 refine cond_s (fun g117_29 => ?_) (fun g117_29 => ?_)
 replace e121 := ift g117_29 e121
 refine cond_t g117_29 (cond_t g117_29 (cond_t g112_29 (cond_t g117_29 (cond_t g112_29 ?_))))
 obtain rfl := si hm
 refine EndStep.mk _ ((l104.trans l108).trans l116) ⟨(by rw [← ((si e121).symm).symm] <;> rfl), rfl⟩ (ConvH.of (.cons r3 .nil))
 replace e121 := iff_ g117_29 e121
 refine Jb rfl (cond_f g117_29 (RStep.of (load1_s r2 rfl rfl (cond_f g117_29 ?_))))
 obtain ⟨x120, q120, e121⟩ := bnd e121
 refine call_fn (JaP (s := x.S) (word := ([104, 101, 97, 100, 101, 114, 58] : Str)) q120) .nil ?_
 rintro _ K120 _ l120 ⟨rfl, rfl⟩
 refine cond_t g112_29 (cond_f g117_29 (cond_t g112_29 ?_))
 obtain rfl := si hm
 refine EndStep.mk _ (((l104.trans l108).trans l116).trans l120) ⟨(by rw [← (si e121)] <;> rfl), rfl⟩ (ConvH.of (.cons r3 .nil))
 replace hm := iff_ g112_29 hm
 refine cond_f g112_29 (cond_f g112_29 (cond_f g112_29 (cond_f g112_29 (cond_f g112_29 (cond_f g112_29 ?_)))))
 obtain rfl := si hm
 refine EndStep.mk _ (l104.trans l108) ⟨rfl, rfl⟩ (ConvH.of (.cons r2 .nil))
 replace hm := iff_ w99 hm
 refine eq_int (cond_go rfl ?_)
 refine cond_s (fun w123 => ?_) (fun w123 => ?_)
 replace hm := ift w123 hm
 refine cond_s (fun g126_31 => ?_) (fun g126_31 => ?_)
 refine cond_t g126_31 ?_
 obtain rfl := si hm
 refine EndStep.mk _ (Hp.Le.refl _) ⟨(by rw [← (and_e (b := decide (x.N = 0)) g126_31)] <;> rfl), rfl⟩ (ConvH.of (.cons r1 .nil))
 refine cond_f g126_31 ?_
 obtain rfl := si hm
 refine EndStep.mk _ (Hp.Le.refl _) ⟨(by rw [← ((and_f g126_31)).symm] <;> rfl), rfl⟩ (ConvH.of (.cons r1 .nil))
 replace hm := iff_ w123 hm
 obtain rfl := si hm
 refine EndStep.mk _ (Hp.Le.refl _) ⟨rfl, rfl⟩ (ConvH.of (.cons r1 .nil))

noncomputable def Jaa (e0 : Int) : List Int → Nat → (List Int) → Option ((List Int))
  | [], _, y2_0 => some y2_0
  | e2 :: xs2, i2, y2_0 =>
    if decide (e0 = e2) then
    (chk (y2_0.length + [e0].length ≤ lim)).bind fun _ =>
    Jaa e0 xs2 (i2 + 1) (y2_0 ++ [e0])
    else
    Jaa e0 xs2 (i2 + 1) y2_0
noncomputable def JaK (b : (List Int)) : List Int → Nat → (List Int) → Option ((List Int))
  | [], _, y0_0 => some y0_0
  | e0 :: xs0, i0, y0_0 =>
    (chk (b.length ≤ szMax)).bind fun _ =>
    (Jaa e0 b 0 y0_0).bind fun t2 =>
    JaK b xs0 (i0 + 1) t2
noncomputable def Jbp (a : (List Int)) (b : (List Int)) : Option ((List Int)) :=
  (chk (a.length ≤ szMax)).bind fun _ =>
  (JaK b a 0 []).bind fun t0 =>
  some t0
set_option maxHeartbeats 8000000 in
theorem Jb0 {a : (List Int)} {b : (List Int)} {ap0_0 : Option Addr} {cp0_0 : Nat} {n0 : Nat} {ap1_0 : Option Addr} {cp1_0 : Nat} {n1 : Nat} {K : Hp} {r : (List Int)}
    (hm : Jbp a b = some r) (hp0_0 : RdC eN K ap0_0 cp0_0 1 a) (en0 : n0 = a.length) (hp1_0 : RdC eN K ap1_0 cp1_0 1 b) (en1 : n1 = b.length) :
    Fn Tryz.prog 38 [.slice ap0_0 n0 cp0_0, .slice ap1_0 n1 cp1_0] K [] (fun v K' H' => ∃ ar_0 : Option Addr, ∃ cr_0 : Nat, v = .slice ar_0 r.length cr_0 ∧ (0 < r.length → Has ar_0) ∧ H' = [OwnL eN ar_0 3 1 cr_0 r]) := by
 subst en0
 subst en1
 refine Fn.enter Tryz.func38 Tryz.call38 rfl fun F => ?_
 unfold Jbp at hm
 refine RStep.of (len_slice rfl ?_)
 obtain ⟨hk0, hm⟩ := chkb hm
 obtain ⟨s0, hl0, hm⟩ := bnd hm
 refine nilC eN 3 1 ?_
 refine code_cut (σ := ((List Int)) × Option Addr × Nat) [5, 7, 9, 12, 13, 14, 15, 16, 17, 18, 19, 20, 21, 22, 23, 24, 25, 26, 27, 28, 29, 30] (fun (t0, t0_a0, t0_c0) => [(5, .slice t0_a0 t0.length t0_c0)]) (fun (t0, t0_a0, t0_c0) => [OwnL eN t0_a0 3 1 t0_c0 t0, F]) (fun zz K1 => match zz with | (t0, t0_a0, t0_c0) => (0 < t0.length → Has t0_a0) ∧ t0 = s0) ?_ ?_
 refine block_go rfl ?_
 refine loop_rule (σ := Nat × (List Int) × Option Addr × Nat) [5, 7, 9, 12, 13, 14, 15, 16, 17, 18, 19, 20, 21, 22, 23, 24, 25, 26, 27, 28, 29, 30] (fun (i0, y0_0, y0_a0, y0_c0) => [(12, .int .i64 (i0 : Int)), (5, .slice y0_a0 y0_0.length y0_c0)]) (fun (i0, y0_0, y0_a0, y0_c0) => [OwnL eN y0_a0 3 1 y0_c0 y0_0, F]) (fun zz K1 => match zz with | (i0, y0_0, y0_a0, y0_c0) => (0 < y0_0.length → Has y0_a0) ∧ JaK b (a.drop i0) i0 y0_0 = some s0) (fun zz => a.length - zz.1) (0, [], none, 0) rfl ⟨rfl, rfl, trivial⟩ (ConvH.of (.cons r0 (.cons r0 .nil))) ⟨(fun h => by simp at h), hl0⟩ ?_
 clear hl0
 rintro ⟨i0, y0_0, y0_a0, y0_c0⟩ Kb0 lk0 ⟨y0_h0, hl0⟩ j0
 refine cond_go rfl ?_
 refine cond_s (fun w0 => ?_) (fun w0 => ?_)
 obtain ⟨e0, hx0, hd0⟩ := ltx w0
 rw [hd0, JaK.eq_2] at hl0
 refine block_go rfl ?_
 refine RStep.ofN (index_addr rfl rfl (hasK (hp0_0.mono lk0).rd hx0) (nn _) (lt_ofN hx0) (RStep.of (load_rd i0 0 _ _ (hp0_0.mono lk0).rd rfl (mp hx0) rfl rfl (RStep.of (len_slice rfl ?_)))))
 obtain ⟨hk2, hl0⟩ := chkb hl0
 obtain ⟨s2, hl2, hl0⟩ := bnd hl0
 refine code_cut (σ := ((List Int)) × Option Addr × Nat) [5, 9, 18, 19, 20, 21, 22, 23, 24, 25, 26, 27, 28, 29] (fun (t2, t2_a0, t2_c0) => [(5, .slice t2_a0 t2.length t2_c0)]) (fun (t2, t2_a0, t2_c0) => [OwnL eN t2_a0 3 1 t2_c0 t2, F]) (fun zz K1 => match zz with | (t2, t2_a0, t2_c0) => (0 < t2.length → Has t2_a0) ∧ t2 = s2) ?_ ?_
 refine block_go rfl ?_
 refine loop_rule (σ := Nat × (List Int) × Option Addr × Nat) [5, 9, 18, 19, 20, 21, 22, 23, 24, 25, 26, 27, 28, 29] (fun (i2, y2_0, y2_a0, y2_c0) => [(18, .int .i64 (i2 : Int)), (5, .slice y2_a0 y2_0.length y2_c0)]) (fun (i2, y2_0, y2_a0, y2_c0) => [OwnL eN y2_a0 3 1 y2_c0 y2_0, F]) (fun zz K1 => match zz with | (i2, y2_0, y2_a0, y2_c0) => (0 < y2_0.length → Has y2_a0) ∧ Jaa e0 (b.drop i2) i2 y2_0 = some s2) (fun zz => b.length - zz.1) (0, y0_0, y0_a0, y0_c0) rfl ⟨rfl, rfl, trivial⟩ (ConvH.of (.cons r0 (.cons r0 .nil))) ⟨y0_h0, hl2⟩ ?_
 clear hl2
 rintro ⟨i2, y2_0, y2_a0, y2_c0⟩ Kb2 lk2 ⟨y2_h0, hl2⟩ j2
 refine cond_go rfl ?_
 refine cond_s (fun w2 => ?_) (fun w2 => ?_)
 obtain ⟨e2, hx2, hd2⟩ := ltx w2
 rw [hd2, Jaa.eq_2] at hl2
 refine block_go rfl ?_
 refine RStep.ofN (index_addr rfl rfl (hasK (hp1_0.mono (lk0.trans lk2)).rd hx2) (nn _) (lt_ofN hx2) (RStep.of (load_rd i2 0 _ _ (hp1_0.mono (lk0.trans lk2)).rd rfl (mp hx2) rfl rfl (eq_int (cond_go rfl ?_)))))
 refine cond_s (fun w24 => ?_) (fun w24 => ?_)
 replace hl2 := ift w24 hl2
 refine bsO (len := 1) (enc := eN) (l := [e0]) (cl := [.int .i64 e0]) elT81 rfl rfl (fun _ _ => rfl) rfl rfl rfl ?_ fun b27 => ?_
 · conv => whnf
   refine cond_T ?_
   first | done | rfl
 obtain ⟨h28, hl2⟩ := chkb hl2
 refine apE rfl r1 elT81 (src_own' rfl r0 rfl (fun _ => rfl) (fun _ => rfl)) h28 ?_
 intro a28 c28 o28
 refine int_in (cntz hx2 hk2) ?_
 refine RoundStep.mk (i2 + 1, (y2_0 ++ [e0]), a28, c28) ⟨rfl, rfl, trivial⟩ (by repeat (first | exact trivial | refine And.intro rfl ?_)) (ConvH.of (.cons r0 (.cons r1 .nil))) lk2 (ltm hx2) ⟨o28, hl2⟩
 replace hl2 := iff_ w24 hl2
 refine int_in (cntz hx2 hk2) ?_
 refine RoundStep.mk (i2 + 1, y2_0, y2_a0, y2_c0) ⟨rfl, rfl, trivial⟩ (by repeat (first | exact trivial | refine And.intro rfl ?_)) (ConvH.of (.cons r0 (.cons r0 .nil))) lk2 (ltm hx2) ⟨y2_h0, hl2⟩
 rw [lty w2, Jaa.eq_1] at hl2
 refine cond_T ?_
 refine MeetStep.mk (y2_0, y2_a0, y2_c0) ⟨rfl, trivial⟩ (by repeat (first | exact trivial | refine And.intro rfl ?_)) (ConvH.of (.cons r0 (.cons r0 .nil))) lk2 ⟨y2_h0, (si hl2)⟩
 rintro ⟨t2, t2_a0, t2_c0⟩ Kt2 lt2 ⟨t2_h0, rfl⟩ j2
 refine int_in (cntz hx0 hk0) ?_
 refine RoundStep.mk (i0 + 1, t2, t2_a0, t2_c0) ⟨rfl, rfl, trivial⟩ (by repeat (first | exact trivial | refine And.intro rfl ?_)) (ConvH.of (.cons r0 (.cons r0 .nil))) (lk0.trans lt2) (ltm hx0) ⟨t2_h0, hl0⟩
 rw [lty w0, JaK.eq_1] at hl0
 refine cond_T ?_
 refine MeetStep.mk (y0_0, y0_a0, y0_c0) ⟨rfl, trivial⟩ (by repeat (first | exact trivial | refine And.intro rfl ?_)) (ConvH.of (.cons r0 (.cons r0 .nil))) lk0 ⟨y0_h0, (si hl0)⟩
 rintro ⟨t0, t0_a0, t0_c0⟩ Kt0 lt0 ⟨t0_h0, rfl⟩ j0
 obtain rfl := si hm
 refine EndStep.mk _ lt0 ⟨t0_a0, t0_c0, rfl, t0_h0, rfl⟩ (ConvH.of (.cons r0 (.cons r0 .nil)))

noncomputable def Ja3 (b : (List Int)) : List Int → Nat → Option (Fl (Bool) (Unit))
  | [], _ => some (Fl.go ())
  | e0 :: xs0, i0 =>
    (ix b (i0 : Int)).bind fun x22 =>
    if decide (e0 ≠ x22) then
    some (Fl.ret false)
    else
    Ja3 b xs0 (i0 + 1)
noncomputable def JbG (a : (List Int)) (b : (List Int)) : Option (Bool) :=
  if decide ((a.length : Int) ≠ (b.length : Int)) then
  some false
  else
  (chk (a.length ≤ szMax)).bind fun _ =>
  (Ja3 b a 0).bind fun s0 => s0.el some fun t0 =>
  some true
set_option maxHeartbeats 8000000 in
theorem Jcm {a : (List Int)} {b : (List Int)} {ap0_0 : Option Addr} {cp0_0 : Nat} {n0 : Nat} {ap1_0 : Option Addr} {cp1_0 : Nat} {n1 : Nat} {K : Hp} {r : Bool}
    (hm : JbG a b = some r) (hp0_0 : RdC eN K ap0_0 cp0_0 1 a) (en0 : n0 = a.length) (hp1_0 : RdC eN K ap1_0 cp1_0 1 b) (en1 : n1 = b.length) :
    Fn Tryz.prog 37 [.slice ap0_0 n0 cp0_0, .slice ap1_0 n1 cp1_0] K [] (fun v K' H' => v = .bool r ∧ H' = []) := by
 subst en0
 subst en1
 refine Fn.enter Tryz.func37 Tryz.call37 rfl fun F => ?_
 unfold JbG at hm
 refine RStep.of (len_slice rfl (RStep.of (len_slice rfl (neq_int (cond_go rfl ?_)))))
 refine cond_s (fun w10 => ?_) (fun w10 => ?_)
 replace hm := ift w10 hm
 obtain rfl := si hm
 refine EndStep.mk _ (Hp.Le.refl _) ⟨rfl, rfl⟩ (ConvH.of (.cons r0 .nil))
 replace hm := iff_ w10 hm
 refine RStep.of (len_slice rfl ?_)
 obtain ⟨hk0, hm⟩ := chkb hm
 obtain ⟨s0, hl0, hm⟩ := bnd hm
 refine code_cut (σ := (Unit)) [4, 5, 13, 14, 15, 16, 17, 18, 19, 20, 21, 22, 23, 24, 25] (fun t0 => []) (fun t0 => [F]) (fun zz K1 => match zz with | t0 => s0 = Fl.go t0) ?_ ?_
 refine block_go rfl ?_
 refine loop_rule (σ := Nat) [4, 5, 13, 14, 15, 16, 17, 18, 19, 20, 21, 22, 23, 24, 25] (fun i0 => [(13, .int .i64 (i0 : Int))]) (fun i0 => [F]) (fun zz K1 => match zz with | i0 => Ja3 b (a.drop i0) i0 = some s0) (fun zz => a.length - zz) (0) rfl ⟨rfl, trivial⟩ (ConvH.of (.cons r0 .nil)) hl0 ?_
 clear hl0
 rintro i0 Kb0 lk0 hl0 j0
 conv at hl0 => whnf
 refine cond_go rfl ?_
 refine cond_s (fun w0 => ?_) (fun w0 => ?_)
 obtain ⟨e0, hx0, hd0⟩ := ltx w0
 rw [hd0, Ja3.eq_2] at hl0
 refine block_go rfl ?_
 refine draw_go ⟨⟨[], false⟩, _, []⟩ (by kernel_rfl) ⟨Hp.Le.refl _, (ConvH.of .nil)⟩ ?_
 refine index_addr rfl rfl (hasK (hp0_0.mono lk0).rd hx0) (nn _) (lt_ofN hx0) (load_rd_l i0 0 _ _ (hp0_0.mono lk0).rd rfl (mp hx0) rfl rfl ?_)
 obtain ⟨x22, l22, k22, hl0⟩ := ixb hl0
 refine index_addr rfl rfl (hasK (hp1_0.mono lk0).rd k22) l22 (lt_ofE rfl l22 k22) (load_rd_l (((i0 : Int)).toNat) 0 _ _ (hp1_0.mono lk0).rd rfl (mp k22) rfl rfl (neq_int (cond_go rfl ?_)))
 refine cond_s (fun w24 => ?_) (fun w24 => ?_)
 replace hl0 := ift w24 hl0
 obtain rfl := si hl0
 replace hm := elr hm
 obtain rfl := si hm
 refine EndStep.mk _ lk0 ⟨rfl, rfl⟩ (ConvH.of (.cons r0 .nil))
 replace hl0 := iff_ w24 hl0
 refine int_in (cntz hx0 hk0) ?_
 refine RoundStep.mk (i0 + 1) ⟨rfl, trivial⟩ (by repeat (first | exact trivial | refine And.intro rfl ?_)) (ConvH.of (.cons r0 .nil)) lk0 (ltm hx0) hl0
 rw [lty w0, Ja3.eq_1] at hl0
 refine cond_T ?_
 refine MeetStep.mk (()) trivial (by repeat (first | exact trivial | refine And.intro rfl ?_)) (ConvH.of (.cons r0 .nil)) lk0 (si hl0).symm
 rintro t0 Kt0 lt0 rfl j0
 replace hm := elg hm
 obtain rfl := si hm
 refine EndStep.mk _ lt0 ⟨rfl, rfl⟩ (ConvH.of (.cons r0 .nil))

noncomputable def J5 (n' : Int) : List Int → Nat → (List Int) → Bool → Option ((List Int) × Bool)
  | [], _, y0_0, y0_1 => some (y0_0, y0_1)
  | e0 :: xs0, i0, y0_0, y0_1 =>
    if ((!y0_1) && decide (n' ≤ e0)) then
    (chk (y0_0.length + [n'].length ≤ lim)).bind fun _ =>
    if decide (e0 ≠ n') then
    (chk ((y0_0 ++ [n']).length + [e0].length ≤ lim)).bind fun _ =>
    J5 n' xs0 (i0 + 1) ((y0_0 ++ [n']) ++ [e0]) true
    else
    J5 n' xs0 (i0 + 1) (y0_0 ++ [n']) true
    else
    if decide (e0 ≠ n') then
    (chk (y0_0.length + [e0].length ≤ lim)).bind fun _ =>
    J5 n' xs0 (i0 + 1) (y0_0 ++ [e0]) y0_1
    else
    J5 n' xs0 (i0 + 1) y0_0 y0_1
noncomputable def Jbz (l : (List Int)) (n' : Int) : Option ((List Int)) :=
  (chk (l.length ≤ szMax)).bind fun _ =>
  (J5 n' l 0 [] false).bind fun t0 =>
  if (!t0.2) then
  (chk (t0.1.length + [n'].length ≤ lim)).bind fun _ =>
  some (t0.1 ++ [n'])
  else
  some t0.1
set_option maxHeartbeats 8000000 in
theorem Jby {l : (List Int)} {n' : Int} {ap0_0 : Option Addr} {cp0_0 : Nat} {n0 : Nat} {K : Hp} {r : (List Int)}
    (hm : Jbz l n' = some r) (hp0_0 : RdC eN K ap0_0 cp0_0 1 l) (en0 : n0 = l.length) :
    Fn Tryz.prog 39 [.slice ap0_0 n0 cp0_0, .int .i64 n'] K [] (fun v K' H' => ∃ ar_0 : Option Addr, ∃ cr_0 : Nat, v = .slice ar_0 r.length cr_0 ∧ (0 < r.length → Has ar_0) ∧ H' = [OwnL eN ar_0 3 1 cr_0 r]) := by
 subst en0
 refine Fn.enter Tryz.func39 Tryz.call39 rfl fun F => ?_
 unfold Jbz at hm
 refine RStep.of (len_slice rfl ?_)
 obtain ⟨hk0, hm⟩ := chkb hm
 obtain ⟨s0, hl0, hm⟩ := bnd hm
 refine nilC eN 3 1 ?_
 refine code_cut (σ := ((List Int) × Bool) × Option Addr × Nat) [5, 6, 8, 11, 12, 13, 14, 15, 16, 17, 18, 19, 20, 21, 22, 23, 24, 25, 26, 27, 28, 29, 30, 31, 32, 33] (fun (t0, t0_a0, t0_c0) => [(5, .slice t0_a0 t0.1.length t0_c0), (6, .bool t0.2)]) (fun (t0, t0_a0, t0_c0) => [OwnL eN t0_a0 3 1 t0_c0 t0.1, F]) (fun zz K1 => match zz with | (t0, t0_a0, t0_c0) => (0 < t0.1.length → Has t0_a0) ∧ t0 = s0) ?_ ?_
 refine block_go rfl ?_
 refine loop_rule (σ := Nat × (List Int) × Bool × Option Addr × Nat) [5, 6, 8, 11, 12, 13, 14, 15, 16, 17, 18, 19, 20, 21, 22, 23, 24, 25, 26, 27, 28, 29, 30, 31, 32, 33] (fun (i0, y0_0, y0_1, y0_a0, y0_c0) => [(11, .int .i64 (i0 : Int)), (5, .slice y0_a0 y0_0.length y0_c0), (6, .bool y0_1)]) (fun (i0, y0_0, y0_1, y0_a0, y0_c0) => [OwnL eN y0_a0 3 1 y0_c0 y0_0, F]) (fun zz K1 => match zz with | (i0, y0_0, y0_1, y0_a0, y0_c0) => (0 < y0_0.length → Has y0_a0) ∧ J5 n' (l.drop i0) i0 y0_0 y0_1 = some s0) (fun zz => l.length - zz.1) (0, [], false, none, 0) rfl ⟨rfl, rfl, rfl, trivial⟩ (ConvH.of (.cons r0 (.cons r0 .nil))) ⟨(fun h => by simp at h), hl0⟩ ?_
 clear hl0
 rintro ⟨i0, y0_0, y0_1, y0_a0, y0_c0⟩ Kb0 lk0 ⟨y0_h0, hl0⟩ j0
 refine cond_go rfl ?_
 refine cond_s (fun w0 => ?_) (fun w0 => ?_)
 obtain ⟨e0, hx0, hd0⟩ := ltx w0
 rw [hd0, J5.eq_2] at hl0
 refine block_go rfl ?_
 refine RStep.ofN (index_addr rfl rfl (hasK (hp0_0.mono lk0).rd hx0) (nn _) (lt_ofN hx0) (RStep.of (load_rd i0 0 _ _ (hp0_0.mono lk0).rd rfl (mp hx0) rfl rfl (un_not ?_))))
 refine cond_s (fun g17_6 => ?_) (fun g17_6 => ?_)
 refine cond_t g17_6 (cond_t g17_6 (cond_t g17_6 (cond_go rfl ?_)))
 refine cond_s (fun w21 => ?_) (fun w21 => ?_)
 replace hl0 := ift (and_t (not_t (ni_t g17_6)) w21) hl0
 refine bsO (len := 1) (enc := eN) (l := [n']) (cl := [.int .i64 n']) elT81 rfl rfl (fun _ _ => rfl) rfl rfl rfl ?_ fun b24 => ?_
 · conv => whnf
   refine cond_T ?_
   first | done | rfl
 obtain ⟨h25, hl0⟩ := chkb hl0
 refine apE rfl r1 elT81 (src_own' rfl r0 rfl (fun _ => rfl) (fun _ => rfl)) h25 ?_
 intro a25 c25 o25
 refine neq_int (cond_go rfl ?_)
 refine cond_s (fun w28 => ?_) (fun w28 => ?_)
 replace hl0 := ift w28 hl0
 refine bsO (len := 1) (enc := eN) (l := [e0]) (cl := [.int .i64 e0]) elT81 rfl rfl (fun _ _ => rfl) rfl rfl rfl ?_ fun b31 => ?_
 · conv => whnf
   refine cond_T ?_
   first | done | rfl
 obtain ⟨h32, hl0⟩ := chkb hl0
 refine apE rfl r1 elT81 (src_own' rfl r0 rfl (fun _ => rfl) (fun _ => rfl)) h32 ?_
 intro a32 c32 o32
 refine int_in (cntz hx0 hk0) ?_
 refine RoundStep.mk (i0 + 1, ((y0_0 ++ [n']) ++ [e0]), true, a32, c32) ⟨rfl, rfl, rfl, trivial⟩ (by repeat (first | exact trivial | refine And.intro rfl ?_)) (ConvH.of (.cons r0 (.cons r2 .nil))) lk0 (ltm hx0) ⟨o32, hl0⟩
 replace hl0 := iff_ w28 hl0
 refine int_in (cntz hx0 hk0) ?_
 refine RoundStep.mk (i0 + 1, (y0_0 ++ [n']), true, a25, c25) ⟨rfl, rfl, rfl, trivial⟩ (by repeat (first | exact trivial | refine And.intro rfl ?_)) (ConvH.of (.cons r0 (.cons r1 .nil))) lk0 (ltm hx0) ⟨o25, hl0⟩
 replace hl0 := iff_ (and_g (not_t (ni_t g17_6)) w21) hl0
 refine neq_int (cond_go rfl ?_)
 refine cond_s (fun w28 => ?_) (fun w28 => ?_)
 replace hl0 := ift w28 hl0
 refine bsO (len := 1) (enc := eN) (l := [e0]) (cl := [.int .i64 e0]) elT81 rfl rfl (fun _ _ => rfl) rfl rfl rfl ?_ fun b31 => ?_
 · conv => whnf
   refine cond_T ?_
   first | done | rfl
 obtain ⟨h32, hl0⟩ := chkb hl0
 refine apE rfl r1 elT81 (src_own' rfl r0 rfl (fun _ => rfl) (fun _ => rfl)) h32 ?_
 intro a32 c32 o32
 refine int_in (cntz hx0 hk0) ?_
 refine RoundStep.mk (i0 + 1, (y0_0 ++ [e0]), y0_1, a32, c32) ⟨rfl, rfl, rfl, trivial⟩ (by repeat (first | exact trivial | refine And.intro rfl ?_)) (ConvH.of (.cons r0 (.cons r1 .nil))) lk0 (ltm hx0) ⟨o32, hl0⟩
 replace hl0 := iff_ w28 hl0
 refine int_in (cntz hx0 hk0) ?_
 refine RoundStep.mk (i0 + 1, y0_0, y0_1, y0_a0, y0_c0) ⟨rfl, rfl, rfl, trivial⟩ (by repeat (first | exact trivial | refine And.intro rfl ?_)) (ConvH.of (.cons r0 (.cons r0 .nil))) lk0 (ltm hx0) ⟨y0_h0, hl0⟩
 refine cond_f g17_6 (cond_f g17_6 (cond_f g17_6 (cond_go rfl (cond_F ?_))))
 replace hl0 := iff_ (and_f (not_f (ni_f g17_6))) hl0
 refine neq_int (cond_go rfl ?_)
 refine cond_s (fun w28 => ?_) (fun w28 => ?_)
 replace hl0 := ift w28 hl0
 refine bsO (len := 1) (enc := eN) (l := [e0]) (cl := [.int .i64 e0]) elT81 rfl rfl (fun _ _ => rfl) rfl rfl rfl ?_ fun b31 => ?_
 · conv => whnf
   refine cond_T ?_
   first | done | rfl
 obtain ⟨h32, hl0⟩ := chkb hl0
 refine apE rfl r1 elT81 (src_own' rfl r0 rfl (fun _ => rfl) (fun _ => rfl)) h32 ?_
 intro a32 c32 o32
 refine int_in (cntz hx0 hk0) ?_
 refine RoundStep.mk (i0 + 1, (y0_0 ++ [e0]), y0_1, a32, c32) ⟨rfl, rfl, rfl, trivial⟩ (by repeat (first | exact trivial | refine And.intro rfl ?_)) (ConvH.of (.cons r0 (.cons r1 .nil))) lk0 (ltm hx0) ⟨o32, hl0⟩
 replace hl0 := iff_ w28 hl0
 refine int_in (cntz hx0 hk0) ?_
 refine RoundStep.mk (i0 + 1, y0_0, y0_1, y0_a0, y0_c0) ⟨rfl, rfl, rfl, trivial⟩ (by repeat (first | exact trivial | refine And.intro rfl ?_)) (ConvH.of (.cons r0 (.cons r0 .nil))) lk0 (ltm hx0) ⟨y0_h0, hl0⟩
 rw [lty w0, J5.eq_1] at hl0
 refine cond_T ?_
 refine MeetStep.mk ((y0_0, y0_1), y0_a0, y0_c0) ⟨rfl, rfl, trivial⟩ (by repeat (first | exact trivial | refine And.intro rfl ?_)) (ConvH.of (.cons r0 (.cons r0 .nil))) lk0 ⟨y0_h0, (si hl0)⟩
 rintro ⟨t0, t0_a0, t0_c0⟩ Kt0 lt0 ⟨t0_h0, rfl⟩ j0
 refine un_not (cond_go rfl ?_)
 refine cond_s (fun w35 => ?_) (fun w35 => ?_)
 replace hm := ift (not_t (ni_t w35)) hm
 refine bsO (len := 1) (enc := eN) (l := [n']) (cl := [.int .i64 n']) elT81 rfl rfl (fun _ _ => rfl) rfl rfl rfl ?_ fun b38 => ?_
 · conv => whnf
   refine cond_T ?_
   first | done | rfl
 obtain ⟨h39, hm⟩ := chkb hm
 refine apE rfl r1 elT81 (src_own' rfl r0 rfl (fun _ => rfl) (fun _ => rfl)) h39 ?_
 intro a39 c39 o39
 obtain rfl := si hm
 refine EndStep.mk _ lt0 ⟨a39, c39, rfl, o39, rfl⟩ (ConvH.of (.cons r0 (.cons r1 .nil)))
 replace hm := iff_ (not_f (ni_f w35)) hm
 obtain rfl := si hm
 refine EndStep.mk _ lt0 ⟨t0_a0, t0_c0, rfl, t0_h0, rfl⟩ (ConvH.of (.cons r0 (.cons r0 .nil)))

noncomputable def Jbf (s : Jl) (depth : Int) (stored : (List Int)) : Option (Jl × Bool) :=
  if (!s.reached) then
  some ((⟨true, depth, stored⟩ : Jl), true)
  else
  (Jbp s.stored stored).bind fun x18 =>
  some ((⟨true, depth, x18⟩ : Jl), decide (s.depth = depth))
set_option maxHeartbeats 8000000 in
theorem Jax {s : Jl} {depth : Int} {stored : (List Int)} {ap0_0 : Option Addr} {cp0_0 : Nat} {ap2_0 : Option Addr} {cp2_0 : Nat} {n2 : Nat} {K : Hp} {r : Jl × Bool}
    (hm : Jbf s depth stored = some r) (hp0_0 : RdC eN K ap0_0 cp0_0 1 s.stored) (hp2_0 : RdC eN K ap2_0 cp2_0 1 stored) (en2 : n2 = stored.length) :
    Fn Tryz.prog 40 [.agg #[.bool s.reached, .int .i64 s.depth, .slice ap0_0 s.stored.length cp0_0], .int .i64 depth, .slice ap2_0 n2 cp2_0] K [] (fun v K' H' => ∃ ar_0 : Option Addr, ∃ cr_0 : Nat, v = .tuple #[.agg #[.bool r.1.reached, .int .i64 r.1.depth, .slice ar_0 r.1.stored.length cr_0], .bool r.2] ∧ RdC eN K' ar_0 cr_0 1 r.1.stored ∧ H' = []) := by
 subst en2
 refine Fn.enter Tryz.func40 Tryz.call40 rfl fun F => ?_
 unfold Jbf at hm
 refine box_rule ?_
 intro b3
 refine alloc_rule rfl ?_
 intro b6
 refine Jb rfl (RStep.of (load1_s r1 rfl rfl (un_not (cond_go rfl ?_))))
 refine cond_s (fun w10 => ?_) (fun w10 => ?_)
 replace hm := ift (not_t (ni_t w10)) hm
 refine build_struct rfl rfl (cond_T (cond_T (cond_T ?_)))
 refine store_rule r0 rfl ?_
 refine ⟨rfl, rfl, (Nat.le_of_ble_eq_true rfl), ?_⟩
 obtain rfl := si hm
 refine RStep.of (loadn_s r0 rfl (Nat.le_of_ble_eq_true rfl) ?_)
 refine EndStep.mk _ (Hp.Le.refl _) ⟨ap2_0, cp2_0, rfl, hp2_0, rfl⟩ (ConvH.of (.cons r2 .nil))
 replace hm := iff_ (not_f (ni_f w10)) hm
 refine draw_go ⟨⟨[], false⟩, _, [(_, _)]⟩ (by kernel_rfl) ⟨Hp.Le.refl _, (ConvH.of (.cons r1 .nil))⟩ ?_
 refine Jb rfl (load1_l m0 rfl rfl ?_)
 obtain ⟨x18, q18, hm⟩ := bnd hm
 refine call_fn (Jb0 q18 hp0_0 rfl hp2_0 rfl) .nil ?_
 rintro _ K18 _ l18 ⟨a18_0, c18_0, rfl, h18_0, rfl⟩
 refine ⟨⟨l18, (ConvH.of (.cons r2 .nil))⟩, ?_⟩
 refine build_struct rfl rfl (cond_T (cond_T (cond_T (Jb rfl (load1_l m0 rfl rfl ?_)))))
 refine eq_int ?_
 refine store_rule r1 rfl ?_
 refine ⟨rfl, rfl, (Nat.le_of_ble_eq_true rfl), ?_⟩
 refine ⟨⟨l18, (ConvH.of (.cons r2 .nil))⟩, ?_⟩
 obtain rfl := si hm
 refine RStep.of (loadn_s r0 rfl (Nat.le_of_ble_eq_true rfl) ?_)
 refine fE r1 fun Kz1 lz1 fz1 => ?_
 refine EndStep.mk _ (l18.trans lz1) ⟨a18_0, c18_0, rfl, fz1, rfl⟩ (ConvH.of (.cons r2 .nil))
