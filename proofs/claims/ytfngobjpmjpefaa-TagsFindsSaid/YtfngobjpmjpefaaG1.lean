/- Functions of the program: mirrors, and that a call returns what the mirror says. Printed by gen.py. -/
import Derived.Test.YtfngobjpmjpefaaShelf
import Derived.Test.YtfngobjpmjpefaaSL24
import Derived.KernelRfl
import Derived.Test.YtfngobjpmjpefaaProg
set_option linter.unusedVariables false
set_option linter.unusedSimpArgs false
open Go Go.SL Go.Proofs
set_option maxRecDepth 1000000
structure S_law35_Act where
  Remove : Bool
  ID : Str
  Tags : (List Str)
def S_law35_Act.R : Rp S_law35_Act := fun K cs x => ∃ a_0 : Option Addr, ∃ c_0 : Nat, cs = [.bool x.Remove, str x.ID, .slice a_0 x.Tags.length c_0] ∧ RdC eS K a_0 c_0 1 x.Tags
theorem S_law35_Act.R_ok : RpOK 3 S_law35_Act.R :=
  ⟨fun hk ⟨a_0, c_0, e, h_0⟩ => ⟨a_0, c_0, e, (h_0.mono hk)⟩, fun ⟨a_0, c_0, e, h_0⟩ => by simp [e], fun ⟨a_0, c_0, e, h_0⟩ v hv => by rw [e] at hv; simp at hv; rcases hv with rfl | rfl | rfl <;> rfl⟩
structure S_tags_Index where
  entries : (List (Str × (List Str)))
theorem elT31 : ElT Try.prog 31 9 1 := ElT.mk' rfl rfl rfl rfl rfl
noncomputable def tags_New : Option (S_tags_Index) :=
  some (⟨[]⟩ : S_tags_Index)
set_option maxHeartbeats 8000000 in
theorem tags_New_ok  {K : Hp} {r : S_tags_Index}
    (hm : tags_New = some r)  :
    Fn Try.prog 16 [] K [] (fun v K' H' => ∃ br_0 : Nat, ∃ mr_1 : Nat, ∃ wr_1 : List (Str × SlD Str), v = .pointer (some ⟨br_0, 0, none⟩) ∧ MS eS 1 K' wr_1 r.entries ∧ H' = [Cells br_0 59 [.map (some mr_1)], MapE strK vSl mr_1 wr_1]) := by
  refine Fn.enter Try.func16 Try.call16 rfl fun F => ?_
  unfold tags_New at hm
  conv => whnf
  refine makeMap_rule strK (venc := (vSl : SlD Str → Value)) fun b1 => ?_
  conv => whnf
  refine build_struct rfl rfl ?_
  conv => whnf
  refine cond_T ?_
  conv => whnf
  refine box_rule ?_
  intro b3
  obtain rfl := si hm
  conv => whnf
  refine EndStep.mk _ (Hp.Le.refl _) ⟨b3, b1, ([] : List (Str × SlD Str)), rfl, MS.nil, rfl⟩ (ConvH.of (.cons r0 (.cons r0 (.cons r0 .nil))))

noncomputable def tags_good_L0 : List UInt8 → Nat → Option (Fl (Bool) (Unit))
  | [], _ => some (Fl.go ())
  | e0 :: xs0, i0 =>
    (if decide ((e0.toNat : Int) < 33) then some true else some (decide ((e0.toNat : Int) > 126))).bind fun x26 =>
    if x26 then
    some (Fl.ret false)
    else
    tags_good_L0 xs0 (i0 + 1)
noncomputable def tags_good (s : Str) : Option (Bool) :=
  if (decide ((s.length : Int) < 1) || decide ((s.length : Int) > 32)) then
  some false
  else
  (chk (s.length ≤ szMax)).bind fun _ =>
  (tags_good_L0 s 0).bind fun s0 => s0.el some fun t0 =>
  some true
set_option maxHeartbeats 8000000 in
theorem tags_good_ok {s : Str} {K : Hp} {r : Bool}
    (hm : tags_good s = some r)  :
    Fn Try.prog 32 [str s] K [] (fun v K' H' => v = .bool r ∧ H' = []) := by
  refine Fn.enter Try.func32 Try.call32 rfl fun F => ?_
  unfold tags_good at hm
  conv => whnf
  refine RStep.of (len_str rfl ?_)
  conv => whnf
  refine cond_s (fun g7_1 => ?_) (fun g7_1 => ?_)
  · conv => whnf
    refine cond_t g7_1 ?_
    conv => whnf
    refine cond_t g7_1 ?_
    conv => whnf
    refine cond_t g7_1 ?_
    conv => whnf
    refine cond_go rfl ?_
    conv => whnf
    refine cond_T ?_
    replace hm := ift (or_t g7_1) hm
    obtain rfl := si hm
    conv => whnf
    refine EndStep.mk _ (Hp.Le.refl _) ⟨rfl, rfl⟩ (ConvH.of (.cons r0 .nil))
  · conv => whnf
    refine cond_f g7_1 ?_
    conv => whnf
    refine RStep.of (len_str rfl ?_)
    conv => whnf
    refine cond_f g7_1 ?_
    conv => whnf
    refine cond_f g7_1 ?_
    conv => whnf
    refine cond_go rfl ?_
    conv => whnf
    refine cond_s (fun w11 => ?_) (fun w11 => ?_)
    · replace hm := ift (or_u g7_1 w11) hm
      obtain rfl := si hm
      conv => whnf
      refine EndStep.mk _ (Hp.Le.refl _) ⟨rfl, rfl⟩ (ConvH.of (.cons r0 .nil))
    · replace hm := iff_ (or_f g7_1 w11) hm
      conv => whnf
      refine RStep.of (len_str rfl ?_)
      obtain ⟨hk0, hm⟩ := chkb hm
      obtain ⟨s0, hl0, hm⟩ := bnd hm
      conv => whnf
      refine code_cut (σ := (Unit)) [2, 3, 14, 15, 16, 17, 18, 19, 20, 21, 22, 23, 24, 25, 26, 27] (fun t0 => []) (fun t0 => [F]) (fun zz K1 => match zz with | t0 => s0 = Fl.go t0) ?_ ?_
      · refine block_go rfl ?_
        conv => whnf
        refine loop_rule (σ := Nat) [2, 3, 14, 15, 16, 17, 18, 19, 20, 21, 22, 23, 24, 25, 26, 27] (fun i0 => [(14, .int .i64 (i0 : Int))]) (fun i0 => [F]) (fun zz K1 => match zz with | i0 => tags_good_L0 (s.drop i0) i0 = some s0) (fun zz => s.length - zz) (0) rfl ⟨rfl, trivial⟩ (ConvH.of (.cons r0 .nil)) hl0 ?_
        clear hl0
        rintro i0 Kb0 lk0 hl0 j0
        conv at hl0 => whnf
        conv => whnf
        refine cond_go rfl ?_
        conv => whnf
        refine cond_s (fun w0 => ?_) (fun w0 => ?_)
        · obtain ⟨e0, hx0, hd0⟩ := ltx w0
          rw [hd0, tags_good_L0.eq_2] at hl0
          conv => whnf
          refine block_go rfl ?_
          conv => whnf
          refine idx_str rfl (nn _) hx0 ?_
          obtain ⟨x26, e26, hl0⟩ := bnd hl0
          conv => whnf
          refine cond_s (fun g21_6 => ?_) (fun g21_6 => ?_)
          · replace e26 := ift g21_6 e26
            conv => whnf
            refine cond_t g21_6 ?_
            conv => whnf
            refine cond_t g21_6 ?_
            conv => whnf
            refine cond_t g21_6 ?_
            conv => whnf
            refine cond_t g21_6 ?_
            conv => whnf
            refine cond_go rfl ?_
            conv => whnf
            refine cond_T ?_
            replace hl0 := ift (si e26).symm hl0
            obtain rfl := si hl0
            replace hm := elr hm
            obtain rfl := si hm
            conv => whnf
            refine EndStep.mk _ lk0 ⟨rfl, rfl⟩ (ConvH.of (.cons r0 .nil))
          · replace e26 := iff_ g21_6 e26
            conv => whnf
            refine cond_f g21_6 ?_
            conv => whnf
            refine cond_f g21_6 ?_
            conv => whnf
            refine idx_str rfl (nn _) hx0 ?_
            conv => whnf
            refine cond_f g21_6 ?_
            conv => whnf
            refine cond_f g21_6 ?_
            conv => whnf
            refine cond_go rfl ?_
            conv => whnf
            refine cond_s (fun w26 => ?_) (fun w26 => ?_)
            · replace hl0 := ift ((si e26).symm.trans w26) hl0
              obtain rfl := si hl0
              replace hm := elr hm
              obtain rfl := si hm
              conv => whnf
              refine EndStep.mk _ lk0 ⟨rfl, rfl⟩ (ConvH.of (.cons r0 .nil))
            · replace hl0 := iff_ ((si e26).symm.trans w26) hl0
              conv => whnf
              refine int_in (cntz hx0 hk0) ?_
              conv => whnf
              refine RoundStep.mk (i0 + 1) ⟨rfl, trivial⟩ (by repeat (first | exact trivial | refine And.intro rfl ?_)) (ConvH.of (.cons r0 .nil)) lk0 (ltm hx0) hl0
        · rw [lty w0, tags_good_L0.eq_1] at hl0
          conv => whnf
          refine cond_T ?_
          conv => whnf
          refine MeetStep.mk (()) trivial (by repeat (first | exact trivial | refine And.intro rfl ?_)) (ConvH.of (.cons r0 .nil)) lk0 (si hl0).symm
      · rintro t0 Kt0 lt0 rfl j0
        replace hm := elg hm
        obtain rfl := si hm
        conv => whnf
        refine EndStep.mk _ lt0 ⟨rfl, rfl⟩ (ConvH.of (.cons r0 .nil))

noncomputable def slices_Clone_string (s : (List Str)) : Option ((List Str)) :=
  (chk (([] : List Str).length + s.length ≤ lim)).bind fun _ =>
  some (([] : List Str) ++ s)
set_option maxHeartbeats 8000000 in
theorem slices_Clone_string_ok {s : (List Str)} {ap0_0 : Option Addr} {cp0_0 : Nat} {n0 : Nat} {K : Hp} {r : (List Str)}
    (hm : slices_Clone_string s = some r) (hp0_0 : RdC eS K ap0_0 cp0_0 1 s) (en0 : n0 = s.length) :
    Fn Try.prog 33 [.slice ap0_0 n0 cp0_0] K [] (fun v K' H' => ∃ ar_0 : Option Addr, ∃ cr_0 : Nat, v = .slice ar_0 r.length cr_0 ∧ (0 < r.length → Has ar_0) ∧ H' = [OwnL eS ar_0 9 1 cr_0 r]) := by
  subst en0
  refine Fn.enter Try.func33 Try.call33 rfl fun F => ?_
  unfold slices_Clone_string at hm
  rcases Classical.em (ap0_0 = none) with hz | hz
  · subst hz
    obtain rfl := RdC.none_nil hp0_0
    obtain ⟨_, hm⟩ := chkb hm
    obtain rfl := si hm
    conv => whnf
    refine eq_snil_nil rfl ?_
    conv => whnf
    refine cond_go rfl ?_
    conv => whnf
    refine cond_T ?_
    conv => whnf
    refine nilE eS 9 1 ?_
    refine EndStep.mk _ (Hp.Le.refl _) ⟨none, 0, rfl, (fun h => by simp at h), rfl⟩ (ConvH.of (.cons r0 (.cons r0 .nil)))
  · conv => whnf
    refine eq_slice_ne hz rfl ?_
    conv => whnf
    refine cond_go rfl ?_
    conv => whnf
    refine cond_F ?_
    conv => whnf
    refine bsO (len := 0) (enc := eS) (l := ([] : List Str)) (cl := []) elT31 rfl rfl (fun _ _ => rfl) rfl rfl rfl ?_ fun b5 => ?_
    · conv => whnf
      first | done | rfl
    obtain ⟨h7, hm⟩ := chkb hm
    conv => whnf
    refine apE rfl r0 elT31 (src_k rfl hp0_0.rd rfl) h7 ?_
    intro a7 c7 o7
    obtain rfl := si hm
    conv => whnf
    refine EndStep.mk _ (Hp.Le.refl _) ⟨a7, c7, rfl, o7, rfl⟩ (ConvH.of (.cons r0 (.cons r0 .nil)))

noncomputable def tags_Index_Put_L0 (x : S_tags_Index) : List Str → Nat → Option (Fl (Err × S_tags_Index) (Unit))
  | [], _ => some (Fl.go ())
  | e0 :: xs0, i0 =>
    (tags_good e0).bind fun x24 =>
    if (!x24) then
    some (Fl.ret ((some 2), x))
    else
    tags_Index_Put_L0 x xs0 (i0 + 1)
noncomputable def tags_Index_Put (x : S_tags_Index) (id : Str) (tags : (List Str)) : Option (Err × S_tags_Index) :=
  if decide ((tags.length : Int) > 16) then
  some ((some 5), x)
  else
  (chk (tags.length ≤ szMax)).bind fun _ =>
  (tags_Index_Put_L0 x tags 0).bind fun s0 => s0.el some fun t0 =>
  (slices_Clone_string tags).bind fun x29 =>
  (sortSM x29).bind fun x31 =>
  (compactM x31).bind fun x38 =>
  some (none, (⟨(mset x.entries id x38)⟩ : S_tags_Index))
set_option maxHeartbeats 8000000 in
theorem tags_Index_Put_ok {x : S_tags_Index} {id : Str} {tags : (List Str)} {b0 : Nat} {mp0_0 : Nat} {wp0_0 : List (Str × SlD Str)} {ap2_0 : Option Addr} {cp2_0 : Nat} {n2 : Nat} {K : Hp} {r : Err × S_tags_Index}
    (hm : tags_Index_Put x id tags = some r) (up0_0 : MS eS 1 K wp0_0 x.entries) (hp2_0 : RdC eS K ap2_0 cp2_0 1 tags) (en2 : n2 = tags.length) :
    Fn Try.prog 18 [.pointer (some ⟨b0, 0, none⟩), str id, .slice ap2_0 n2 cp2_0] K [Cells b0 59 [.map (some mp0_0)], MapE strK vSl mp0_0 wp0_0] (fun v K' H' => ∃ mr_0 : Nat, ∃ wr_0 : List (Str × SlD Str), v = errV 46 r.1 ∧ MS eS 1 K' wr_0 r.2.entries ∧ H' = [Cells b0 59 [.map (some mr_0)], MapE strK vSl mr_0 wr_0]) := by
  subst en2
  refine Fn.enter Try.func18 Try.call18 rfl fun F => ?_
  unfold tags_Index_Put at hm
  conv => whnf
  refine eq_ptr_nil rfl ?_
  conv => whnf
  refine cond_go rfl ?_
  conv => whnf
  refine cond_F ?_
  conv => whnf
  refine RStep.of (len_slice rfl ?_)
  conv => whnf
  refine cond_go rfl ?_
  conv => whnf
  refine cond_s (fun w15 => ?_) (fun w15 => ?_)
  · replace hm := ift w15 hm
    conv => whnf
    refine mk_iface rfl ?_
    obtain rfl := si hm
    conv => whnf
    refine EndStep.mk _ (Hp.Le.refl _) ⟨mp0_0, wp0_0, rfl, up0_0, rfl⟩ (ConvH.of (.cons r0 (.cons r0 (.cons r0 .nil))))
  · replace hm := iff_ w15 hm
    conv => whnf
    refine RStep.of (len_slice rfl ?_)
    obtain ⟨hk0, hm⟩ := chkb hm
    obtain ⟨s0, hl0, hm⟩ := bnd hm
    conv => whnf
    refine code_cut (σ := (Unit)) [6, 8, 19, 20, 21, 22, 23, 24, 25, 26, 27] (fun t0 => []) (fun t0 => [Cells b0 59 [.map (some mp0_0)], MapE strK vSl mp0_0 wp0_0, F]) (fun zz K1 => match zz with | t0 => s0 = Fl.go t0) ?_ ?_
    · refine block_go rfl ?_
      conv => whnf
      refine loop_rule (σ := Nat) [6, 8, 19, 20, 21, 22, 23, 24, 25, 26, 27] (fun i0 => [(19, .int .i64 (i0 : Int))]) (fun i0 => [Cells b0 59 [.map (some mp0_0)], MapE strK vSl mp0_0 wp0_0, F]) (fun zz K1 => match zz with | i0 => tags_Index_Put_L0 x (tags.drop i0) i0 = some s0) (fun zz => tags.length - zz) (0) rfl ⟨rfl, trivial⟩ (ConvH.of (.cons r0 (.cons r0 (.cons r0 .nil)))) hl0 ?_
      clear hl0
      rintro i0 Kb0 lk0 hl0 j0
      conv at hl0 => whnf
      conv => whnf
      refine cond_go rfl ?_
      conv => whnf
      refine cond_s (fun w0 => ?_) (fun w0 => ?_)
      · obtain ⟨e0, hx0, hd0⟩ := ltx w0
        rw [hd0, tags_Index_Put_L0.eq_2] at hl0
        conv => whnf
        refine block_go rfl ?_
        conv => whnf
        refine RStep.ofN (index_addr rfl rfl (hasK (hp2_0.mono lk0).rd hx0) (nn _) (lt_ofN hx0) ?_)
        conv => whnf
        refine RStep.of (load_rd i0 0 _ _ (hp2_0.mono lk0).rd rfl (mp hx0) rfl rfl ?_)
        obtain ⟨x24, q24, hl0⟩ := bnd hl0
        conv => whnf
        refine call_fn (tags_good_ok q24) .nil ?_
        rintro _ K24 _ l24 ⟨rfl, rfl⟩
        conv => whnf
        refine un_not ?_
        conv => whnf
        refine cond_go rfl ?_
        conv => whnf
        refine cond_s (fun w25 => ?_) (fun w25 => ?_)
        · replace hl0 := ift (not_t (ni_t w25)) hl0
          conv => whnf
          refine mk_iface rfl ?_
          obtain rfl := si hl0
          replace hm := elr hm
          obtain rfl := si hm
          conv => whnf
          refine EndStep.mk _ (lk0.trans l24) ⟨mp0_0, wp0_0, rfl, (up0_0.mono (lk0.trans l24)), rfl⟩ (ConvH.of (.cons r0 (.cons r0 (.cons r0 .nil))))
        · replace hl0 := iff_ (not_f (ni_f w25)) hl0
          conv => whnf
          refine int_in (cntz hx0 hk0) ?_
          conv => whnf
          refine RoundStep.mk (i0 + 1) ⟨rfl, trivial⟩ (by repeat (first | exact trivial | refine And.intro rfl ?_)) (ConvH.of (.cons r0 (.cons r0 (.cons r0 .nil)))) (lk0.trans l24) (ltm hx0) hl0
      · rw [lty w0, tags_Index_Put_L0.eq_1] at hl0
        conv => whnf
        refine cond_T ?_
        conv => whnf
        refine MeetStep.mk (()) trivial (by repeat (first | exact trivial | refine And.intro rfl ?_)) (ConvH.of (.cons r0 (.cons r0 (.cons r0 .nil)))) lk0 (si hl0).symm
    · rintro t0 Kt0 lt0 rfl j0
      replace hm := elg hm
      obtain ⟨x29, q29, hm⟩ := bnd hm
      conv => whnf
      refine call_fn (slices_Clone_string_ok q29 (hp2_0.mono lt0) rfl) .nil ?_
      rintro _ K29 _ l29 ⟨a29_0, c29_0, rfl, h29_0, rfl⟩
      obtain ⟨x31, q31, hm⟩ := bnd hm
      conv => whnf
      refine call_fn (sort_string_ok q31 rfl) (.cons r0 .nil) ?_
      rintro _ K31 _ l31 ⟨rfl, rfl⟩
      conv => whnf
      refine draw_go ⟨⟨[], false⟩, _, [(_, _)]⟩ (by kernel_rfl) ⟨Hp.Le.refl _, (ConvH.of (.cons r1 .nil))⟩ ?_
      conv => whnf
      refine nil_check ?_
      conv => whnf
      refine field_addr rfl ?_
      conv => whnf
      refine load1_l m0 rfl rfl ?_
      obtain ⟨x38, q38, hm⟩ := bnd hm
      conv => whnf
      refine call_fn (compact_string_ok q38 (Eq.trans (rfl) (sortSM_len q31).symm)) (.cons r0 .nil) ?_
      rintro _ K38 _ l38 ⟨rfl, rfl⟩
      conv => whnf
      refine ⟨⟨l38, (ConvH.of (.cons r1 .nil))⟩, ?_⟩
      conv => whnf
      refine fW r0 fun Kfu140404357923072_0 lfu140404357923072_0 ffu140404357923072_0 => ?_
      refine update_rule (kenc := strK) (venc := vSl) (a29_0, c29_0, x38) rfl r1 rfl (key_str rfl) ?_
      conv => whnf
      refine ⟨⟨(l38.trans lfu140404357923072_0), (ConvH.of (.cons r1 .nil))⟩, ?_⟩
      obtain rfl := si hm
      conv => whnf
      refine EndStep.mk _ ((((lt0.trans l29).trans l31).trans l38).trans lfu140404357923072_0) ⟨mp0_0, (mset wp0_0 id (a29_0, c29_0, x38)), rfl, (MS.set (up0_0.mono ((((lt0.trans l29).trans l31).trans l38).trans lfu140404357923072_0)) id ffu140404357923072_0), rfl⟩ (ConvH.of (.cons r1 (.cons r0 (.cons r0 .nil))))

noncomputable def tags_Index_IDs_L0 (e0 : (Str × (List Str))) (y0_0 : (List Str)) : Option ((List Str)) :=
  (chk (y0_0.length + [e0.1].length ≤ lim)).bind fun _ =>
  some (y0_0 ++ [e0.1])
noncomputable def tags_Index_IDs (x : S_tags_Index) : Option ((List Str)) :=
  perms x.entries fun pl0 =>
  (mfold (fun e0 ss0 => tags_Index_IDs_L0 e0 ss0) pl0 []).bind fun t0 =>
  (sortSM t0).bind fun x21 =>
  some x21
set_option maxHeartbeats 8000000 in
theorem tags_Index_IDs_ok {x : S_tags_Index} {b0 : Nat} {mp0_0 : Nat} {wp0_0 : List (Str × SlD Str)} {K : Hp} {r : (List Str)}
    (hm : tags_Index_IDs x = some r) (up0_0 : MS eS 1 K wp0_0 x.entries) :
    Fn Try.prog 19 [.pointer (some ⟨b0, 0, none⟩)] K [Cells b0 59 [.map (some mp0_0)], MapE strK vSl mp0_0 wp0_0] (fun v K' H' => ∃ ar_0 : Option Addr, ∃ cr_0 : Nat, v = .slice ar_0 r.length cr_0 ∧ (0 < r.length → Has ar_0) ∧ H' = [OwnL eS ar_0 9 1 cr_0 r, Cells b0 59 [.map (some mp0_0)], MapE strK vSl mp0_0 wp0_0]) := by
  refine Fn.enter Try.func19 Try.call19 rfl fun F => ?_
  unfold tags_Index_IDs at hm
  conv => whnf
  refine eq_ptr_nil rfl ?_
  conv => whnf
  refine cond_go rfl ?_
  conv => whnf
  refine cond_F ?_
  conv => whnf
  refine nil_check ?_
  conv => whnf
  refine field_addr rfl ?_
  conv => whnf
  refine RStep.of (load1_s r0 rfl rfl ?_)
  conv => whnf
  refine range_rule r1 rfl fun rb11 => ?_
  have hP0 := perms_all hm
  conv => whnf
  refine nilC eS 9 1 ?_
  refine code_cut (σ := ((List Str)) × Option Addr × Nat) [3, 4, 12, 13, 14, 15, 16, 17, 18, 19] (fun (t0, t0_a0, t0_c0) => [(3, .slice t0_a0 t0.length t0_c0)]) (fun (t0, t0_a0, t0_c0) => [OwnL eS t0_a0 9 1 t0_c0 t0, MapE strK vSl mp0_0 wp0_0, Cells b0 59 [.map (some mp0_0)], F]) (fun zz K1 => match zz with | (t0, t0_a0, t0_c0) => (0 < t0.length → Has t0_a0) ∧ ∃ pl, pl.Perm x.entries ∧ mfold (fun e0 ss0 => tags_Index_IDs_L0 e0 ss0) pl [] = some t0) ?_ ?_
  · refine block_go rfl ?_
    conv => whnf
    refine loop_rule (σ := (List (Str × SlD Str)) × (List Str) × Option Addr × Nat) [3, 4, 12, 13, 14, 15, 16, 17, 18, 19] (fun (vis0, y0_0, y0_a0, y0_c0) => [(3, .slice y0_a0 y0_0.length y0_c0)]) (fun (vis0, y0_0, y0_a0, y0_c0) => [OwnL eS y0_a0 9 1 y0_c0 y0_0, MapIt strK vSl rb11 mp0_0 wp0_0 vis0, Cells b0 59 [.map (some mp0_0)], F]) (fun zz K1 => match zz with | (vis0, y0_0, y0_a0, y0_c0) => (0 < y0_0.length → Has y0_a0) ∧ mfold (fun e0 ss0 => tags_Index_IDs_L0 e0 ss0) (vis0.map pSl) [] = some y0_0) (fun zz => wp0_0.length - zz.1.length) ([], [], none, 0) rfl ⟨rfl, trivial⟩ (ConvH.of (.cons r0 (.cons r0 (.cons r0 (.cons r0 .nil))))) ⟨(fun h => by simp at h), rfl⟩ ?_
    rintro ⟨vis0, y0_0, y0_a0, y0_c0⟩ Kb0 lk0 ⟨y0_h0, hv0⟩ j0
    conv => whnf
    refine next_rule r1 (fun hp0 => ?_) (fun rp0 rs0 hp0 => ?_)
    · conv => whnf
      refine cond_go rfl ?_
      conv => whnf
      refine cond_F ?_
      conv => whnf
      refine cond_T ?_
      conv => whnf
      refine MeetStep.mk (y0_0, y0_a0, y0_c0) ⟨rfl, trivial⟩ (by repeat (first | exact trivial | refine And.intro rfl ?_)) (ConvH.of (.cons r1 (.cons r0 (.cons r0 (.cons r0 .nil))))) lk0 ⟨y0_h0, ⟨_, MS.perm0 up0_0 hp0, hv0⟩⟩
    · obtain ⟨z0, hB0⟩ := mnext hP0 hv0 (MS.perm up0_0 hp0)
      have hl0 : tags_Index_IDs_L0 (pSl rp0) y0_0 = some z0 := hB0
      unfold tags_Index_IDs_L0 at hl0
      conv => whnf
      refine cond_go rfl ?_
      conv => whnf
      refine cond_T ?_
      conv => whnf
      refine block_go rfl ?_
      conv => whnf
      refine RStep.of (entry_rule r0 ?_)
      conv => whnf
      refine bsO (len := 1) (enc := eS) (l := [(pSl rp0).1]) (cl := [str (pSl rp0).1]) elT31 rfl rfl (fun _ _ => rfl) rfl rfl rfl ?_ fun b18 => ?_
      · conv => whnf
        refine cond_T ?_
        conv => whnf
        first | done | rfl
      obtain ⟨h19, hl0⟩ := chkb hl0
      conv => whnf
      refine apE rfl r2 elT31 (src_own' rfl r0 rfl (fun _ => rfl) (fun _ => rfl)) h19 ?_
      intro a19 c19 o19
      conv => whnf
      refine RoundStep.mk (vis0 ++ [rp0], (y0_0 ++ [(pSl rp0).1]), a19, c19) ⟨rfl, trivial⟩ (by repeat (first | exact trivial | refine And.intro rfl ?_)) (ConvH.of (.cons r0 (.cons r1 (.cons r1 (.cons r1 .nil))))) lk0 (ltmap hp0) ⟨o19, (by rw [pSl_snoc]; exact (mfold_snoc hv0).trans (hB0.trans hl0.symm))⟩
  · rintro ⟨t0, t0_a0, t0_c0⟩ Kt0 lt0 ⟨t0_h0, hx0⟩ j0
    replace hm := mlast hP0 hx0
    obtain ⟨x21, q21, hm⟩ := bnd hm
    conv => whnf
    refine call_fn (sort_string_ok q21 rfl) (.cons r0 .nil) ?_
    rintro _ K21 _ l21 ⟨rfl, rfl⟩
    obtain rfl := si hm
    conv => whnf
    refine EndStep.mk _ (lt0.trans l21) ⟨t0_a0, t0_c0, (by rw [← (show x21.length = t0.length from Eq.symm ((Eq.trans (rfl) (sortSM_len q21).symm)))] <;> rfl), (fun h => t0_h0 (by rw [sortSM_len q21] at h; exact h)), rfl⟩ (ConvH.of (.cons r0 (.cons r1 (.cons r0 (.cons r0 .nil)))))

noncomputable def slices_Index_string_L0 (v' : Str) : List Str → Nat → Option (Fl (Int) (Unit))
  | [], _ => some (Fl.go ())
  | e0 :: xs0, i0 =>
    if decide (v' = e0) then
    some (Fl.ret (i0 : Int))
    else
    slices_Index_string_L0 v' xs0 (i0 + 1)
noncomputable def slices_Index_string (s : (List Str)) (v' : Str) : Option (Int) :=
  (chk (s.length ≤ szMax)).bind fun _ =>
  (slices_Index_string_L0 v' s 0).bind fun s0 => s0.el some fun t0 =>
  some (-1)
set_option maxHeartbeats 8000000 in
theorem slices_Index_string_ok {s : (List Str)} {v' : Str} {ap0_0 : Option Addr} {cp0_0 : Nat} {n0 : Nat} {K : Hp} {r : Int}
    (hm : slices_Index_string s v' = some r) (hp0_0 : RdC eS K ap0_0 cp0_0 1 s) (en0 : n0 = s.length) :
    Fn Try.prog 38 [.slice ap0_0 n0 cp0_0, str v'] K [] (fun v K' H' => v = .int .i64 r ∧ H' = []) := by
  subst en0
  refine Fn.enter Try.func38 Try.call38 rfl fun F => ?_
  unfold slices_Index_string at hm
  conv => whnf
  refine RStep.of (len_slice rfl ?_)
  obtain ⟨hk0, hm⟩ := chkb hm
  obtain ⟨s0, hl0, hm⟩ := bnd hm
  conv => whnf
  refine code_cut (σ := (Unit)) [4, 5, 8, 9, 10, 11, 12, 13, 14, 15, 16, 17, 18] (fun t0 => []) (fun t0 => [F]) (fun zz K1 => match zz with | t0 => s0 = Fl.go t0) ?_ ?_
  · refine block_go rfl ?_
    conv => whnf
    refine loop_rule (σ := Nat) [4, 5, 8, 9, 10, 11, 12, 13, 14, 15, 16, 17, 18] (fun i0 => [(8, .int .i64 (i0 : Int))]) (fun i0 => [F]) (fun zz K1 => match zz with | i0 => slices_Index_string_L0 v' (s.drop i0) i0 = some s0) (fun zz => s.length - zz) (0) rfl ⟨rfl, trivial⟩ (ConvH.of (.cons r0 .nil)) hl0 ?_
    clear hl0
    rintro i0 Kb0 lk0 hl0 j0
    conv at hl0 => whnf
    conv => whnf
    refine cond_go rfl ?_
    conv => whnf
    refine cond_s (fun w0 => ?_) (fun w0 => ?_)
    · obtain ⟨e0, hx0, hd0⟩ := ltx w0
      rw [hd0, slices_Index_string_L0.eq_2] at hl0
      conv => whnf
      refine block_go rfl ?_
      conv => whnf
      refine RStep.ofN (index_addr rfl rfl (hasK (hp0_0.mono lk0).rd hx0) (nn _) (lt_ofN hx0) ?_)
      conv => whnf
      refine RStep.of (load_rd i0 0 _ _ (hp0_0.mono lk0).rd rfl (mp hx0) rfl rfl ?_)
      conv => whnf
      refine eq_str ?_
      conv => whnf
      refine cond_go rfl ?_
      conv => whnf
      refine cond_s (fun w16 => ?_) (fun w16 => ?_)
      · replace hl0 := ift w16 hl0
        obtain rfl := si hl0
        replace hm := elr hm
        obtain rfl := si hm
        conv => whnf
        refine EndStep.mk _ lk0 ⟨rfl, rfl⟩ (ConvH.of (.cons r0 .nil))
      · replace hl0 := iff_ w16 hl0
        conv => whnf
        refine int_in (cntz hx0 hk0) ?_
        conv => whnf
        refine RoundStep.mk (i0 + 1) ⟨rfl, trivial⟩ (by repeat (first | exact trivial | refine And.intro rfl ?_)) (ConvH.of (.cons r0 .nil)) lk0 (ltm hx0) hl0
    · rw [lty w0, slices_Index_string_L0.eq_1] at hl0
      conv => whnf
      refine cond_T ?_
      conv => whnf
      refine MeetStep.mk (()) trivial (by repeat (first | exact trivial | refine And.intro rfl ?_)) (ConvH.of (.cons r0 .nil)) lk0 (si hl0).symm
  · rintro t0 Kt0 lt0 rfl j0
    replace hm := elg hm
    obtain rfl := si hm
    conv => whnf
    refine EndStep.mk _ lt0 ⟨rfl, rfl⟩ (ConvH.of (.cons r0 .nil))

noncomputable def slices_Contains_string (s : (List Str)) (v' : Str) : Option (Bool) :=
  (slices_Index_string s v').bind fun x7 =>
  some (decide (x7 ≥ 0))
set_option maxHeartbeats 8000000 in
theorem slices_Contains_string_ok {s : (List Str)} {v' : Str} {ap0_0 : Option Addr} {cp0_0 : Nat} {n0 : Nat} {K : Hp} {r : Bool}
    (hm : slices_Contains_string s v' = some r) (hp0_0 : RdC eS K ap0_0 cp0_0 1 s) (en0 : n0 = s.length) :
    Fn Try.prog 30 [.slice ap0_0 n0 cp0_0, str v'] K [] (fun v K' H' => v = .bool r ∧ H' = []) := by
  subst en0
  refine Fn.enter Try.func30 Try.call30 rfl fun F => ?_
  unfold slices_Contains_string at hm
  obtain ⟨x7, q7, hm⟩ := bnd hm
  conv => whnf
  refine call_fn (slices_Index_string_ok q7 hp0_0 rfl) .nil ?_
  rintro _ K7 _ l7 ⟨rfl, rfl⟩
  obtain rfl := si hm
  conv => whnf
  refine EndStep.mk _ l7 ⟨rfl, rfl⟩ (ConvH.of (.cons r0 .nil))

noncomputable def tags_Index_Find_L0 (x : S_tags_Index) (tag : Str) : List Str → Nat → (List Str) → Option ((List Str))
  | [], _, y0_0 => some y0_0
  | e0 :: xs0, i0, y0_0 =>
    (slices_Contains_string ((mget x.entries e0).getD []) tag).bind fun x22 =>
    if x22 then
    (chk (y0_0.length + [e0].length ≤ lim)).bind fun _ =>
    tags_Index_Find_L0 x tag xs0 (i0 + 1) (y0_0 ++ [e0])
    else
    tags_Index_Find_L0 x tag xs0 (i0 + 1) y0_0
noncomputable def tags_Index_Find (x : S_tags_Index) (tag : Str) : Option ((List Str)) :=
  (tags_Index_IDs x).bind fun x9 =>
  (chk (x9.length ≤ szMax)).bind fun _ =>
  (tags_Index_Find_L0 x tag x9 0 []).bind fun t0 =>
  some t0
set_option maxHeartbeats 8000000 in
theorem tags_Index_Find_ok {x : S_tags_Index} {tag : Str} {b0 : Nat} {mp0_0 : Nat} {wp0_0 : List (Str × SlD Str)} {K : Hp} {r : (List Str)}
    (hm : tags_Index_Find x tag = some r) (up0_0 : MS eS 1 K wp0_0 x.entries) :
    Fn Try.prog 14 [.pointer (some ⟨b0, 0, none⟩), str tag] K [Cells b0 59 [.map (some mp0_0)], MapE strK vSl mp0_0 wp0_0] (fun v K' H' => ∃ ar_0 : Option Addr, ∃ cr_0 : Nat, v = .slice ar_0 r.length cr_0 ∧ (0 < r.length → Has ar_0) ∧ H' = [OwnL eS ar_0 9 1 cr_0 r, Cells b0 59 [.map (some mp0_0)], MapE strK vSl mp0_0 wp0_0]) := by
  refine Fn.enter Try.func14 Try.call14 rfl fun F => ?_
  unfold tags_Index_Find at hm
  obtain ⟨x9, q9, hm⟩ := bnd hm
  conv => whnf
  refine call_fn (tags_Index_IDs_ok q9 up0_0) (.cons r0 (.cons r0 .nil)) ?_
  rintro _ K9 _ l9 ⟨a9_0, c9_0, rfl, h9_0, rfl⟩
  conv => whnf
  refine RStep.of (len_slice rfl ?_)
  obtain ⟨hk0, hm⟩ := chkb hm
  obtain ⟨s0, hl0, hm⟩ := bnd hm
  conv => whnf
  refine nilC eS 9 1 ?_
  refine code_cut (σ := ((List Str)) × Option Addr × Nat) [5, 7, 11, 12, 13, 14, 15, 16, 17, 18, 19, 20, 21, 22, 23, 24, 25, 26, 27] (fun (t0, t0_a0, t0_c0) => [(5, .slice t0_a0 t0.length t0_c0)]) (fun (t0, t0_a0, t0_c0) => [OwnL eS t0_a0 9 1 t0_c0 t0, OwnL eS a9_0 9 1 c9_0 x9, Cells b0 59 [.map (some mp0_0)], MapE strK vSl mp0_0 wp0_0, F]) (fun zz K1 => match zz with | (t0, t0_a0, t0_c0) => (0 < t0.length → Has t0_a0) ∧ t0 = s0) ?_ ?_
  · refine block_go rfl ?_
    conv => whnf
    refine loop_rule (σ := Nat × (List Str) × Option Addr × Nat) [5, 7, 11, 12, 13, 14, 15, 16, 17, 18, 19, 20, 21, 22, 23, 24, 25, 26, 27] (fun (i0, y0_0, y0_a0, y0_c0) => [(11, .int .i64 (i0 : Int)), (5, .slice y0_a0 y0_0.length y0_c0)]) (fun (i0, y0_0, y0_a0, y0_c0) => [OwnL eS y0_a0 9 1 y0_c0 y0_0, OwnL eS a9_0 9 1 c9_0 x9, Cells b0 59 [.map (some mp0_0)], MapE strK vSl mp0_0 wp0_0, F]) (fun zz K1 => match zz with | (i0, y0_0, y0_a0, y0_c0) => (0 < y0_0.length → Has y0_a0) ∧ tags_Index_Find_L0 x tag (x9.drop i0) i0 y0_0 = some s0) (fun zz => x9.length - zz.1) (0, [], none, 0) rfl ⟨rfl, rfl, trivial⟩ (ConvH.of (.cons r0 (.cons r0 (.cons r0 (.cons r0 (.cons r0 .nil)))))) ⟨(fun h => by simp at h), hl0⟩ ?_
    clear hl0
    rintro ⟨i0, y0_0, y0_a0, y0_c0⟩ Kb0 lk0 ⟨y0_h0, hl0⟩ j0
    conv => whnf
    refine cond_go rfl ?_
    conv => whnf
    refine cond_s (fun w0 => ?_) (fun w0 => ?_)
    · obtain ⟨e0, hx0, hd0⟩ := ltx w0
      rw [hd0, tags_Index_Find_L0.eq_2] at hl0
      conv => whnf
      refine block_go rfl ?_
      conv => whnf
      refine RStep.ofN (index_addr rfl rfl (hasO h9_0 hx0) (nn _) (lt_ofNE rfl hx0) ?_)
      conv => whnf
      refine RStep.of (ld_own (i := i0) (o := 0) r1 rfl hx0 rfl rfl ?_)
      conv => whnf
      refine nil_check ?_
      conv => whnf
      refine field_addr rfl ?_
      conv => whnf
      refine RStep.of (load1_s r2 rfl rfl ?_)
      conv => whnf
      refine RStep.of (lookupS (kenc := strK) r3 rfl rfl (key_str rfl) (up0_0.mono (l9.trans lk0)) fun a20 c20 h20 => ?_)
      obtain ⟨x22, q22, hl0⟩ := bnd hl0
      conv => whnf
      refine call_fn (slices_Contains_string_ok q22 h20 rfl) .nil ?_
      rintro _ K22 _ l22 ⟨rfl, rfl⟩
      conv => whnf
      refine cond_go rfl ?_
      conv => whnf
      refine cond_s (fun w22 => ?_) (fun w22 => ?_)
      · replace hl0 := ift w22 hl0
        conv => whnf
        refine bsO (len := 1) (enc := eS) (l := [e0]) (cl := [str e0]) elT31 rfl rfl (fun _ _ => rfl) rfl rfl rfl ?_ fun b25 => ?_
        · conv => whnf
          refine cond_T ?_
          conv => whnf
          first | done | rfl
        obtain ⟨h26, hl0⟩ := chkb hl0
        conv => whnf
        refine apE rfl r1 elT31 (src_own' rfl r0 rfl (fun _ => rfl) (fun _ => rfl)) h26 ?_
        intro a26 c26 o26
        conv => whnf
        refine int_in (cntz hx0 hk0) ?_
        conv => whnf
        refine RoundStep.mk (i0 + 1, (y0_0 ++ [e0]), a26, c26) ⟨rfl, rfl, trivial⟩ (by repeat (first | exact trivial | refine And.intro rfl ?_)) (ConvH.of (.cons r0 (.cons r1 (.cons r1 (.cons r1 (.cons r1 .nil)))))) (lk0.trans l22) (ltm hx0) ⟨o26, hl0⟩
      · replace hl0 := iff_ w22 hl0
        conv => whnf
        refine int_in (cntz hx0 hk0) ?_
        conv => whnf
        refine RoundStep.mk (i0 + 1, y0_0, y0_a0, y0_c0) ⟨rfl, rfl, trivial⟩ (by repeat (first | exact trivial | refine And.intro rfl ?_)) (ConvH.of (.cons r0 (.cons r0 (.cons r0 (.cons r0 (.cons r0 .nil)))))) (lk0.trans l22) (ltm hx0) ⟨y0_h0, hl0⟩
    · rw [lty w0, tags_Index_Find_L0.eq_1] at hl0
      conv => whnf
      refine cond_T ?_
      conv => whnf
      refine MeetStep.mk (y0_0, y0_a0, y0_c0) ⟨rfl, trivial⟩ (by repeat (first | exact trivial | refine And.intro rfl ?_)) (ConvH.of (.cons r0 (.cons r0 (.cons r0 (.cons r0 (.cons r0 .nil)))))) lk0 ⟨y0_h0, (si hl0)⟩
  · rintro ⟨t0, t0_a0, t0_c0⟩ Kt0 lt0 ⟨t0_h0, rfl⟩ j0
    obtain rfl := si hm
    conv => whnf
    refine EndStep.mk _ (l9.trans lt0) ⟨t0_a0, t0_c0, rfl, t0_h0, rfl⟩ (ConvH.of (.cons r0 (.cons r1 (.cons r1 (.cons r1 .nil)))))

noncomputable def law35_awake : Option (Bool) :=
  (tags_New).bind fun x3 =>
  (tags_Index_Put x3 ([97] : Str) ([([116] : Str)])).bind fun x9 =>
  if x9.1.isSome then
  some false
  else
  (tags_Index_Find x9.2 ([116] : Str)).bind fun x13 =>
  (if decide ((x13.length : Int) = 1) then (ix x13 0).bind fun x19 =>
  some (decide (x19 = ([97] : Str))) else some false).bind fun x22 =>
  some x22
set_option maxHeartbeats 8000000 in
theorem law35_awake_ok  {K : Hp} {r : Bool}
    (hm : law35_awake = some r)  :
    Fn Try.prog 9 [] K [] (fun v K' H' => v = .bool r ∧ H' = []) := by
  refine Fn.enter Try.func9 Try.call9 rfl fun F => ?_
  unfold law35_awake at hm
  obtain ⟨x3, q3, hm⟩ := bnd hm
  conv => whnf
  refine call_fn (tags_New_ok q3) .nil ?_
  rintro _ K3 _ l3 ⟨b3_0, m3_1, w3_1, rfl, u3_1, rfl⟩
  conv => whnf
  refine eq_ptr_nil rfl ?_
  conv => whnf
  refine cond_F ?_
  conv => whnf
  refine cond_F ?_
  conv => whnf
  refine bsO (len := 1) (enc := eS) (l := [([116] : Str)]) (cl := [str ([116] : Str)]) elT31 rfl rfl (fun _ _ => rfl) rfl rfl rfl ?_ fun b8 => ?_
  · conv => whnf
    refine cond_T ?_
    conv => whnf
    first | done | rfl
  conv => whnf
  refine cond_F ?_
  obtain ⟨x9, q9, hm⟩ := bnd hm
  conv => whnf
  refine fF Try.call18 r0 fun K9_2 l9_2 f9_2 => ?_
  refine call_fn (tags_Index_Put_ok q9 (u3_1.mono l9_2) f9_2 rfl) (.cons r0 (.cons r0 .nil)) ?_
  rintro _ K9 _ l9 ⟨m9_0, w9_0, rfl, u9_0, rfl⟩
  conv => whnf
  refine cond_F ?_
  conv => whnf
  refine neq_err rfl ?_
  conv => whnf
  refine cond_F ?_
  conv => whnf
  refine cond_go rfl ?_
  conv => whnf
  refine cond_s (fun w11 => ?_) (fun w11 => ?_)
  · replace hm := ift w11 hm
    obtain rfl := si hm
    conv => whnf
    refine EndStep.mk _ ((l3.trans l9_2).trans l9) ⟨rfl, rfl⟩ (ConvH.of (.cons r2 .nil))
  · replace hm := iff_ w11 hm
    obtain ⟨x13, q13, hm⟩ := bnd hm
    conv => whnf
    refine call_fn (tags_Index_Find_ok q13 u9_0) (.cons r0 (.cons r0 .nil)) ?_
    rintro _ K13 _ l13 ⟨a13_0, c13_0, rfl, h13_0, rfl⟩
    conv => whnf
    refine RStep.of (len_slice rfl ?_)
    conv => whnf
    refine eq_int ?_
    obtain ⟨x22, e22, hm⟩ := bnd hm
    conv => whnf
    refine cond_s (fun g17_5 => ?_) (fun g17_5 => ?_)
    · replace e22 := ift g17_5 e22
      conv => whnf
      refine cond_t g17_5 ?_
      obtain ⟨x19, l19, k19, e22⟩ := ixb e22
      conv => whnf
      refine RStep.ofN (index_addr rfl rfl (hasO h13_0 k19) l19 (lt_ofE rfl l19 k19) ?_)
      conv => whnf
      refine cond_t g17_5 ?_
      conv => whnf
      refine RStep.of (ld_own (i := (0 : Int).toNat) (o := 0) r0 rfl k19 rfl rfl ?_)
      conv => whnf
      refine cond_t g17_5 ?_
      conv => whnf
      refine eq_str ?_
      conv => whnf
      refine cond_t g17_5 ?_
      obtain rfl := si hm
      conv => whnf
      refine EndStep.mk _ (((l3.trans l9_2).trans l9).trans l13) ⟨(by rw [← (si e22)] <;> rfl), rfl⟩ (ConvH.of (.cons r3 .nil))
    · replace e22 := iff_ g17_5 e22
      conv => whnf
      refine cond_f g17_5 ?_
      conv => whnf
      refine cond_f g17_5 ?_
      conv => whnf
      refine cond_f g17_5 ?_
      conv => whnf
      refine cond_f g17_5 ?_
      obtain rfl := si hm
      conv => whnf
      refine EndStep.mk _ (((l3.trans l9_2).trans l9).trans l13) ⟨(by rw [← ((si e22).symm).symm] <;> rfl), rfl⟩ (ConvH.of (.cons r3 .nil))

noncomputable def law35_fits_L0 (acts : (List S_law35_Act)) : Nat → Int → Option (Fl (Bool) (Int))
  | 0, _ => none
  | xs0 + 1, y0_0 =>
    if decide (y0_0 < (acts.length : Int)) then
    (ix acts y0_0).bind fun x12 =>
    if decide ((x12.Tags.length : Int) > 40) then
    some (Fl.ret false)
    else
    (chk (InI (y0_0 + 1))).bind fun _ =>
    law35_fits_L0 acts xs0 (y0_0 + 1)
    else
    some (Fl.go y0_0)
noncomputable def law35_fits (n : Nat) (acts : (List S_law35_Act)) : Option (Bool) :=
  (law35_fits_L0 acts n 0).bind fun s0 => s0.el some fun t0 =>
  some (decide ((acts.length : Int) ≤ 40))
set_option maxHeartbeats 8000000 in
theorem law35_fits_ok {n : Nat} {acts : (List S_law35_Act)} {ap0_0 : Option Addr} {cp0_0 : Nat} {n0 : Nat} {K : Hp} {r : Bool}
    (hm : law35_fits n acts = some r) (hp0_0 : LiC S_law35_Act.R K ap0_0 cp0_0 3 acts) (en0 : n0 = acts.length) :
    Fn Try.prog 10 [.slice ap0_0 n0 cp0_0] K [] (fun v K' H' => v = .bool r ∧ H' = []) := by
  subst en0
  refine Fn.enter Try.func10 Try.call10 rfl fun F => ?_
  unfold law35_fits at hm
  obtain ⟨s0, hl0, hm⟩ := bnd hm
  conv => whnf
  refine code_cut (σ := (Int)) [2, 3, 4, 5, 6, 7, 8, 9, 10, 11, 12, 13, 14, 15, 16] (fun t0 => [(3, .int .i64 t0)]) (fun t0 => [F]) (fun zz K1 => match zz with | t0 => s0 = Fl.go t0) ?_ ?_
  · refine block_go rfl ?_
    conv => whnf
    refine loop_rule (σ := Nat × Int) [2, 3, 4, 5, 6, 7, 8, 9, 10, 11, 12, 13, 14, 15, 16] (fun (i0, y0_0) => [(3, .int .i64 y0_0)]) (fun (i0, y0_0) => [F]) (fun zz K1 => match zz with | (i0, y0_0) => law35_fits_L0 acts i0 y0_0 = some s0) (fun zz => zz.1) (n, 0) rfl ⟨rfl, trivial⟩ (ConvH.of (.cons r0 .nil)) hl0 ?_
    clear hl0
    rintro ⟨i0, y0_0⟩ Kb0 lk0 hl0 j0
    conv at hl0 => whnf
    cases i0 with
    | zero => rw [law35_fits_L0.eq_1] at hl0; cases hl0
    | succ i0 =>
      rw [law35_fits_L0.eq_2] at hl0
      conv => whnf
      refine RStep.of (len_slice rfl ?_)
      conv => whnf
      refine cond_go rfl ?_
      conv => whnf
      refine cond_s (fun w7 => ?_) (fun w7 => ?_)
      · replace hl0 := ift w7 hl0
        conv => whnf
        refine block_go rfl ?_
        obtain ⟨x12, l12, k12, hl0⟩ := ixb hl0
        conv => whnf
        refine RStep.ofN (index_addr rfl rfl (hasR (LiC.mono S_law35_Act.R_ok lk0 hp0_0).rd k12) l12 (lt_ofE rfl l12 k12) ?_)
        conv => whnf
        refine eptr_field rfl (hasR (LiC.mono S_law35_Act.R_ok lk0 hp0_0).rd k12) ?_
        obtain ⟨ss14, cc14, hr14, hc14, hR14⟩ := LiR.get (LiC.mono S_law35_Act.R_ok lk0 hp0_0).rd k12
        obtain ⟨a14_0, c14_0, rfl, h14_0⟩ := hR14
        conv => whnf
        refine RStep.of (load_rd ((y0_0).toNat) 2 _ _ hr14 rfl hc14 rfl rfl ?_)
        conv => whnf
        refine RStep.of (len_slice rfl ?_)
        conv => whnf
        refine cond_go rfl ?_
        conv => whnf
        refine cond_s (fun w16 => ?_) (fun w16 => ?_)
        · replace hl0 := ift w16 hl0
          obtain rfl := si hl0
          replace hm := elr hm
          obtain rfl := si hm
          conv => whnf
          refine EndStep.mk _ lk0 ⟨rfl, rfl⟩ (ConvH.of (.cons r0 .nil))
        · replace hl0 := iff_ w16 hl0
          obtain ⟨h9, hl0⟩ := chkb hl0
          conv => whnf
          refine int_in h9 ?_
          conv => whnf
          refine RoundStep.mk (i0, (y0_0 + 1)) ⟨rfl, trivial⟩ (by repeat (first | exact trivial | refine And.intro rfl ?_)) (ConvH.of (.cons r0 .nil)) lk0 (Nat.lt_succ_self _) hl0
      · replace hl0 := iff_ w7 hl0
        conv => whnf
        refine cond_T ?_
        conv => whnf
        refine MeetStep.mk (y0_0) ⟨rfl, trivial⟩ (by repeat (first | exact trivial | refine And.intro rfl ?_)) (ConvH.of (.cons r0 .nil)) lk0 (si hl0).symm
  · rintro t0 Kt0 lt0 rfl j0
    replace hm := elg hm
    conv => whnf
    refine RStep.of (len_slice rfl ?_)
    obtain rfl := si hm
    conv => whnf
    refine EndStep.mk _ lt0 ⟨rfl, rfl⟩ (ConvH.of (.cons r0 .nil))

noncomputable def tags_Index_Remove (x : S_tags_Index) (id : Str) : Option (Bool × S_tags_Index) :=
  some ((mget x.entries id).isSome, (⟨(mdel x.entries id)⟩ : S_tags_Index))
set_option maxHeartbeats 8000000 in
theorem tags_Index_Remove_ok {x : S_tags_Index} {id : Str} {b0 : Nat} {mp0_0 : Nat} {wp0_0 : List (Str × SlD Str)} {K : Hp} {r : Bool × S_tags_Index}
    (hm : tags_Index_Remove x id = some r) (up0_0 : MS eS 1 K wp0_0 x.entries) :
    Fn Try.prog 17 [.pointer (some ⟨b0, 0, none⟩), str id] K [Cells b0 59 [.map (some mp0_0)], MapE strK vSl mp0_0 wp0_0] (fun v K' H' => ∃ mr_0 : Nat, ∃ wr_0 : List (Str × SlD Str), v = .bool r.1 ∧ MS eS 1 K' wr_0 r.2.entries ∧ H' = [Cells b0 59 [.map (some mr_0)], MapE strK vSl mr_0 wr_0]) := by
  refine Fn.enter Try.func17 Try.call17 rfl fun F => ?_
  unfold tags_Index_Remove at hm
  conv => whnf
  refine eq_ptr_nil rfl ?_
  conv => whnf
  refine cond_go rfl ?_
  conv => whnf
  refine cond_F ?_
  conv => whnf
  refine nil_check ?_
  conv => whnf
  refine field_addr rfl ?_
  conv => whnf
  refine RStep.of (load1_s r0 rfl rfl ?_)
  conv => whnf
  refine RStep.of (lookupS_ok (kenc := strK) r1 rfl rfl (key_str rfl) up0_0 fun a15 c15 h15 => ?_)
  conv => whnf
  refine nil_check ?_
  conv => whnf
  refine field_addr rfl ?_
  conv => whnf
  refine RStep.of (load1_s r0 rfl rfl ?_)
  conv => whnf
  refine delete_rule (kenc := strK) (venc := vSl) r1 rfl rfl (key_str rfl) ?_
  obtain rfl := si hm
  conv => whnf
  refine EndStep.mk _ (Hp.Le.refl _) ⟨mp0_0, (mdel wp0_0 id), rfl, (MS.del up0_0 id), rfl⟩ (ConvH.of (.cons r1 (.cons r0 (.cons r0 .nil))))

noncomputable def tags_Index_Tags (x : S_tags_Index) (id : Str) : Option ((List Str)) :=
  (slices_Clone_string ((mget x.entries id).getD [])).bind fun x13 =>
  some x13
set_option maxHeartbeats 8000000 in
theorem tags_Index_Tags_ok {x : S_tags_Index} {id : Str} {b0 : Nat} {mp0_0 : Nat} {wp0_0 : List (Str × SlD Str)} {K : Hp} {r : (List Str)}
    (hm : tags_Index_Tags x id = some r) (up0_0 : MS eS 1 K wp0_0 x.entries) :
    Fn Try.prog 21 [.pointer (some ⟨b0, 0, none⟩), str id] K [Cells b0 59 [.map (some mp0_0)], MapE strK vSl mp0_0 wp0_0] (fun v K' H' => ∃ ar_0 : Option Addr, ∃ cr_0 : Nat, v = .slice ar_0 r.length cr_0 ∧ (0 < r.length → Has ar_0) ∧ H' = [OwnL eS ar_0 9 1 cr_0 r, Cells b0 59 [.map (some mp0_0)], MapE strK vSl mp0_0 wp0_0]) := by
  refine Fn.enter Try.func21 Try.call21 rfl fun F => ?_
  unfold tags_Index_Tags at hm
  conv => whnf
  refine eq_ptr_nil rfl ?_
  conv => whnf
  refine cond_go rfl ?_
  conv => whnf
  refine cond_F ?_
  conv => whnf
  refine nil_check ?_
  conv => whnf
  refine field_addr rfl ?_
  conv => whnf
  refine RStep.of (load1_s r0 rfl rfl ?_)
  conv => whnf
  refine RStep.of (lookupS (kenc := strK) r1 rfl rfl (key_str rfl) up0_0 fun a12 c12 h12 => ?_)
  obtain ⟨x13, q13, hm⟩ := bnd hm
  conv => whnf
  refine call_fn (slices_Clone_string_ok q13 h12 rfl) .nil ?_
  rintro _ K13 _ l13 ⟨a13_0, c13_0, rfl, h13_0, rfl⟩
  obtain rfl := si hm
  conv => whnf
  refine EndStep.mk _ l13 ⟨a13_0, c13_0, rfl, h13_0, rfl⟩ (ConvH.of (.cons r0 (.cons r0 (.cons r0 (.cons r0 .nil)))))

noncomputable def ref35_Has_L0 (l : (List Str)) (s : Str) : Nat → Int → Option (Fl (Bool) (Int))
  | 0, _ => none
  | xs0 + 1, y0_0 =>
    if decide (y0_0 < (l.length : Int)) then
    (ix l y0_0).bind fun x14 =>
    if decide (x14 = s) then
    some (Fl.ret true)
    else
    (chk (InI (y0_0 + 1))).bind fun _ =>
    ref35_Has_L0 l s xs0 (y0_0 + 1)
    else
    some (Fl.go y0_0)
noncomputable def ref35_Has (n : Nat) (l : (List Str)) (s : Str) : Option (Bool) :=
  (ref35_Has_L0 l s n 0).bind fun s0 => s0.el some fun t0 =>
  some false
set_option maxHeartbeats 8000000 in
theorem ref35_Has_ok {n : Nat} {l : (List Str)} {s : Str} {ap0_0 : Option Addr} {cp0_0 : Nat} {n0 : Nat} {K : Hp} {r : Bool}
    (hm : ref35_Has n l s = some r) (hp0_0 : RdC eS K ap0_0 cp0_0 1 l) (en0 : n0 = l.length) :
    Fn Try.prog 20 [.slice ap0_0 n0 cp0_0, str s] K [] (fun v K' H' => v = .bool r ∧ H' = []) := by
  subst en0
  refine Fn.enter Try.func20 Try.call20 rfl fun F => ?_
  unfold ref35_Has at hm
  obtain ⟨s0, hl0, hm⟩ := bnd hm
  conv => whnf
  refine code_cut (σ := (Int)) [4, 5, 6, 7, 8, 9, 10, 11, 12, 13, 14, 15, 16, 17] (fun t0 => [(5, .int .i64 t0)]) (fun t0 => [F]) (fun zz K1 => match zz with | t0 => s0 = Fl.go t0) ?_ ?_
  · refine block_go rfl ?_
    conv => whnf
    refine loop_rule (σ := Nat × Int) [4, 5, 6, 7, 8, 9, 10, 11, 12, 13, 14, 15, 16, 17] (fun (i0, y0_0) => [(5, .int .i64 y0_0)]) (fun (i0, y0_0) => [F]) (fun zz K1 => match zz with | (i0, y0_0) => ref35_Has_L0 l s i0 y0_0 = some s0) (fun zz => zz.1) (n, 0) rfl ⟨rfl, trivial⟩ (ConvH.of (.cons r0 .nil)) hl0 ?_
    clear hl0
    rintro ⟨i0, y0_0⟩ Kb0 lk0 hl0 j0
    conv at hl0 => whnf
    cases i0 with
    | zero => rw [ref35_Has_L0.eq_1] at hl0; cases hl0
    | succ i0 =>
      rw [ref35_Has_L0.eq_2] at hl0
      conv => whnf
      refine RStep.of (len_slice rfl ?_)
      conv => whnf
      refine cond_go rfl ?_
      conv => whnf
      refine cond_s (fun w9 => ?_) (fun w9 => ?_)
      · replace hl0 := ift w9 hl0
        conv => whnf
        refine block_go rfl ?_
        obtain ⟨x14, l14, k14, hl0⟩ := ixb hl0
        conv => whnf
        refine RStep.ofN (index_addr rfl rfl (hasK (hp0_0.mono lk0).rd k14) l14 (lt_ofE rfl l14 k14) ?_)
        conv => whnf
        refine RStep.of (load_rd ((y0_0).toNat) 0 _ _ (hp0_0.mono lk0).rd rfl (mp k14) rfl rfl ?_)
        conv => whnf
        refine eq_str ?_
        conv => whnf
        refine cond_go rfl ?_
        conv => whnf
        refine cond_s (fun w17 => ?_) (fun w17 => ?_)
        · replace hl0 := ift w17 hl0
          obtain rfl := si hl0
          replace hm := elr hm
          obtain rfl := si hm
          conv => whnf
          refine EndStep.mk _ lk0 ⟨rfl, rfl⟩ (ConvH.of (.cons r0 .nil))
        · replace hl0 := iff_ w17 hl0
          obtain ⟨h11, hl0⟩ := chkb hl0
          conv => whnf
          refine int_in h11 ?_
          conv => whnf
          refine RoundStep.mk (i0, (y0_0 + 1)) ⟨rfl, trivial⟩ (by repeat (first | exact trivial | refine And.intro rfl ?_)) (ConvH.of (.cons r0 .nil)) lk0 (Nat.lt_succ_self _) hl0
      · replace hl0 := iff_ w9 hl0
        conv => whnf
        refine cond_T ?_
        conv => whnf
        refine MeetStep.mk (y0_0) ⟨rfl, trivial⟩ (by repeat (first | exact trivial | refine And.intro rfl ?_)) (ConvH.of (.cons r0 .nil)) lk0 (si hl0).symm
  · rintro t0 Kt0 lt0 rfl j0
    replace hm := elg hm
    obtain rfl := si hm
    conv => whnf
    refine EndStep.mk _ lt0 ⟨rfl, rfl⟩ (ConvH.of (.cons r0 .nil))

noncomputable def law35_TagsFinds_L0 (acts : (List S_law35_Act)) : Nat → Int → S_tags_Index → Option (Int × S_tags_Index)
  | 0, _, _ => none
  | xs0 + 1, y0_0, y0_1 =>
    if decide (y0_0 < (acts.length : Int)) then
    (ix acts y0_0).bind fun x28 =>
    if x28.Remove then
    (ix acts y0_0).bind fun x34 =>
    (tags_Index_Remove y0_1 x34.ID).bind fun x37 =>
    (chk (InI (y0_0 + 1))).bind fun _ =>
    law35_TagsFinds_L0 acts xs0 (y0_0 + 1) x37.2
    else
    (ix acts y0_0).bind fun x41 =>
    (ix acts y0_0).bind fun x46 =>
    (tags_Index_Put y0_1 x41.ID x46.Tags).bind fun x49 =>
    (chk (InI (y0_0 + 1))).bind fun _ =>
    law35_TagsFinds_L0 acts xs0 (y0_0 + 1) x49.2
    else
    some (y0_0, y0_1)
noncomputable def law35_TagsFinds_L2 (x54 : (List Str)) (t0 : Int × S_tags_Index) (n : Nat) (tag : Str) (x52 : (List Str)) : Nat → Int → Int → Option (Fl (Bool) (Int × Int))
  | 0, _, _ => none
  | xs2 + 1, y2_0, y2_1 =>
    if decide (y2_1 < (x54.length : Int)) then
    (ix x54 y2_1).bind fun x64 =>
    (tags_Index_Tags t0.2 x64).bind fun x66 =>
    (ref35_Has n x66 tag).bind fun x68 =>
    if x68 then
    (if decide (y2_0 ≥ (x52.length : Int)) then some true else (ix x52 y2_0).bind fun x76 =>
    (ix x54 y2_1).bind fun x80 =>
    some (decide (x76 ≠ x80))).bind fun x83 =>
    if x83 then
    some (Fl.ret false)
    else
    (chk (InI (y2_0 + 1))).bind fun _ =>
    (chk (InI (y2_1 + 1))).bind fun _ =>
    law35_TagsFinds_L2 x54 t0 n tag x52 xs2 (y2_0 + 1) (y2_1 + 1)
    else
    (chk (InI (y2_1 + 1))).bind fun _ =>
    law35_TagsFinds_L2 x54 t0 n tag x52 xs2 y2_0 (y2_1 + 1)
    else
    some (Fl.go (y2_0, y2_1))
noncomputable def law35_TagsFinds (n : Nat) (acts : (List S_law35_Act)) (tag : Str) : Option (Bool) :=
  (law35_awake).bind fun x11 =>
  (if (!x11) then some true else (law35_fits n acts).bind fun x15 =>
  some (!x15)).bind fun x17 =>
  if x17 then
  (law35_awake).bind fun x18 =>
  some x18
  else
  (tags_New).bind fun x19 =>
  (law35_TagsFinds_L0 acts n 0 x19).bind fun t0 =>
  (tags_Index_Find t0.2 tag).bind fun x52 =>
  (tags_Index_IDs t0.2).bind fun x54 =>
  (law35_TagsFinds_L2 x54 t0 n tag x52 n 0 0).bind fun s2 => s2.el some fun t2 =>
  some (decide (t2.1 = (x52.length : Int)))
set_option maxHeartbeats 8000000 in
theorem law35_TagsFinds_ok {n : Nat} {acts : (List S_law35_Act)} {tag : Str} {ap0_0 : Option Addr} {cp0_0 : Nat} {n0 : Nat} {K : Hp} {r : Bool}
    (hm : law35_TagsFinds n acts tag = some r) (hp0_0 : LiC S_law35_Act.R K ap0_0 cp0_0 3 acts) (en0 : n0 = acts.length) :
    Fn Try.prog 4 [.slice ap0_0 n0 cp0_0, str tag] K [] (fun v K' H' => v = .bool r ∧ H' = []) := by
  subst en0
  refine Fn.enter Try.func4 Try.call4 rfl fun F => ?_
  unfold law35_TagsFinds at hm
  obtain ⟨x11, q11, hm⟩ := bnd hm
  conv => whnf
  refine call_fn (law35_awake_ok q11) .nil ?_
  rintro _ K11 _ l11 ⟨rfl, rfl⟩
  conv => whnf
  refine un_not ?_
  obtain ⟨x17, e17, hm⟩ := bnd hm
  conv => whnf
  refine cond_s (fun g13_1 => ?_) (fun g13_1 => ?_)
  · replace e17 := ift (not_t (ni_t g13_1)) e17
    conv => whnf
    refine cond_t g13_1 ?_
    conv => whnf
    refine cond_t g13_1 ?_
    conv => whnf
    refine cond_t g13_1 ?_
    conv => whnf
    refine cond_go rfl ?_
    conv => whnf
    refine cond_T ?_
    replace hm := ift (si e17).symm hm
    obtain ⟨x18, q18, hm⟩ := bnd hm
    conv => whnf
    refine call_fn (law35_awake_ok q18) .nil ?_
    rintro _ K18 _ l18 ⟨rfl, rfl⟩
    obtain rfl := si hm
    conv => whnf
    refine EndStep.mk _ (l11.trans l18) ⟨rfl, rfl⟩ (ConvH.of (.cons r0 .nil))
  · replace e17 := iff_ (not_f (ni_f g13_1)) e17
    conv => whnf
    refine cond_f g13_1 ?_
    obtain ⟨x15, q15, e17⟩ := bnd e17
    conv => whnf
    refine call_fn (law35_fits_ok q15 (LiC.mono S_law35_Act.R_ok l11 hp0_0) rfl) .nil ?_
    rintro _ K15 _ l15 ⟨rfl, rfl⟩
    conv => whnf
    refine cond_f g13_1 ?_
    conv => whnf
    refine un_not ?_
    conv => whnf
    refine cond_f g13_1 ?_
    conv => whnf
    refine cond_go rfl ?_
    conv => whnf
    refine cond_s (fun w17 => ?_) (fun w17 => ?_)
    · replace hm := ift ((si e17).symm.trans (not_t (ni_t w17))) hm
      obtain ⟨x18, q18, hm⟩ := bnd hm
      conv => whnf
      refine call_fn (law35_awake_ok q18) .nil ?_
      rintro _ K18 _ l18 ⟨rfl, rfl⟩
      obtain rfl := si hm
      conv => whnf
      refine EndStep.mk _ ((l11.trans l15).trans l18) ⟨rfl, rfl⟩ (ConvH.of (.cons r0 .nil))
    · replace hm := iff_ ((si e17).symm.trans (not_f (ni_f w17))) hm
      obtain ⟨x19, q19, hm⟩ := bnd hm
      conv => whnf
      refine call_fn (tags_New_ok q19) .nil ?_
      rintro _ K19 _ l19 ⟨b19_0, m19_1, w19_1, rfl, u19_1, rfl⟩
      obtain ⟨s0, hl0, hm⟩ := bnd hm
      conv => whnf
      refine code_cut (σ := (Int × S_tags_Index) × Nat × List (Str × SlD Str)) [6, 20, 21, 22, 23, 24, 25, 26, 27, 28, 29, 30, 31, 32, 33, 34, 35, 36, 37, 38, 39, 40, 41, 42, 43, 44, 45, 46, 47, 48, 49] (fun (t0, mt0_1_0, wt0_1_0) => [(6, .int .i64 t0.1)]) (fun (t0, mt0_1_0, wt0_1_0) => [Cells b19_0 59 [.map (some mt0_1_0)], MapE strK vSl mt0_1_0 wt0_1_0, F]) (fun zz K1 => match zz with | (t0, mt0_1_0, wt0_1_0) => MS eS 1 K1 wt0_1_0 t0.2.entries ∧ t0 = s0) ?_ ?_
      · refine block_go rfl ?_
        conv => whnf
        refine loop_rule (σ := Nat × Int × S_tags_Index × Nat × List (Str × SlD Str)) [6, 20, 21, 22, 23, 24, 25, 26, 27, 28, 29, 30, 31, 32, 33, 34, 35, 36, 37, 38, 39, 40, 41, 42, 43, 44, 45, 46, 47, 48, 49] (fun (i0, y0_0, y0_1, my0_1_0, wy0_1_0) => [(6, .int .i64 y0_0)]) (fun (i0, y0_0, y0_1, my0_1_0, wy0_1_0) => [Cells b19_0 59 [.map (some my0_1_0)], MapE strK vSl my0_1_0 wy0_1_0, F]) (fun zz K1 => match zz with | (i0, y0_0, y0_1, my0_1_0, wy0_1_0) => MS eS 1 K1 wy0_1_0 y0_1.entries ∧ law35_TagsFinds_L0 acts i0 y0_0 y0_1 = some s0) (fun zz => zz.1) (n, 0, x19, m19_1, w19_1) rfl ⟨rfl, trivial⟩ (ConvH.of (.cons r0 (.cons r0 (.cons r0 .nil)))) ⟨u19_1, hl0⟩ ?_
        clear hl0
        rintro ⟨i0, y0_0, y0_1, my0_1_0, wy0_1_0⟩ Kb0 lk0 ⟨uy0_1_0, hl0⟩ j0
        cases i0 with
        | zero => rw [law35_TagsFinds_L0.eq_1] at hl0; cases hl0
        | succ i0 =>
          rw [law35_TagsFinds_L0.eq_2] at hl0
          conv => whnf
          refine RStep.of (len_slice rfl ?_)
          conv => whnf
          refine cond_go rfl ?_
          conv => whnf
          refine cond_s (fun w23 => ?_) (fun w23 => ?_)
          · replace hl0 := ift w23 hl0
            conv => whnf
            refine block_go rfl ?_
            obtain ⟨x28, l28, k28, hl0⟩ := ixb hl0
            conv => whnf
            refine RStep.ofN (index_addr rfl rfl (hasR (LiC.mono S_law35_Act.R_ok (((l11.trans l15).trans l19).trans lk0) hp0_0).rd k28) l28 (lt_ofE rfl l28 k28) ?_)
            conv => whnf
            refine eptr_field rfl (hasR (LiC.mono S_law35_Act.R_ok (((l11.trans l15).trans l19).trans lk0) hp0_0).rd k28) ?_
            obtain ⟨ss30, cc30, hr30, hc30, hR30⟩ := LiR.get (LiC.mono S_law35_Act.R_ok (((l11.trans l15).trans l19).trans lk0) hp0_0).rd k28
            obtain ⟨a30_0, c30_0, rfl, h30_0⟩ := hR30
            conv => whnf
            refine RStep.of (load_rd ((y0_0).toNat) 0 _ _ hr30 rfl hc30 rfl rfl ?_)
            conv => whnf
            refine cond_go rfl ?_
            conv => whnf
            refine cond_s (fun w30 => ?_) (fun w30 => ?_)
            · replace hl0 := ift w30 hl0
              obtain ⟨x34, l34, k34, hl0⟩ := ixb hl0
              conv => whnf
              refine RStep.ofN (index_addr rfl rfl (hasR (LiC.mono S_law35_Act.R_ok (((l11.trans l15).trans l19).trans lk0) hp0_0).rd k34) l34 (lt_ofE rfl l34 k34) ?_)
              conv => whnf
              refine eptr_field rfl (hasR (LiC.mono S_law35_Act.R_ok (((l11.trans l15).trans l19).trans lk0) hp0_0).rd k34) ?_
              obtain ⟨ss36, cc36, hr36, hc36, hR36⟩ := LiR.get (LiC.mono S_law35_Act.R_ok (((l11.trans l15).trans l19).trans lk0) hp0_0).rd k34
              obtain ⟨a36_0, c36_0, rfl, h36_0⟩ := hR36
              conv => whnf
              refine RStep.of (load_rd ((y0_0).toNat) 1 _ _ hr36 rfl hc36 rfl rfl ?_)
              obtain ⟨x37, q37, hl0⟩ := bnd hl0
              conv => whnf
              refine call_fn (tags_Index_Remove_ok q37 uy0_1_0) (.cons r0 (.cons r0 .nil)) ?_
              rintro _ K37 _ l37 ⟨m37_0, w37_0, rfl, u37_0, rfl⟩
              obtain ⟨h25, hl0⟩ := chkb hl0
              conv => whnf
              refine int_in h25 ?_
              conv => whnf
              refine RoundStep.mk (i0, (y0_0 + 1), x37.2, m37_0, w37_0) ⟨rfl, trivial⟩ (by repeat (first | exact trivial | refine And.intro rfl ?_)) (ConvH.of (.cons r0 (.cons r0 (.cons r0 .nil)))) (lk0.trans l37) (Nat.lt_succ_self _) ⟨u37_0, hl0⟩
            · replace hl0 := iff_ w30 hl0
              conv => whnf
              refine draw_go ⟨⟨[], false⟩, _, []⟩ (by kernel_rfl) ⟨Hp.Le.refl _, (ConvH.of .nil)⟩ ?_
              obtain ⟨x41, l41, k41, hl0⟩ := ixb hl0
              conv => whnf
              refine index_addr rfl rfl (hasR (LiC.mono S_law35_Act.R_ok (((l11.trans l15).trans l19).trans lk0) hp0_0).rd k41) l41 (lt_ofE rfl l41 k41) ?_
              conv => whnf
              refine eptr_field rfl (hasR (LiC.mono S_law35_Act.R_ok (((l11.trans l15).trans l19).trans lk0) hp0_0).rd k41) ?_
              obtain ⟨ss43, cc43, hr43, hc43, hR43⟩ := LiR.get (LiC.mono S_law35_Act.R_ok (((l11.trans l15).trans l19).trans lk0) hp0_0).rd k41
              obtain ⟨a43_0, c43_0, rfl, h43_0⟩ := hR43
              conv => whnf
              refine load_rd_l ((y0_0).toNat) 1 _ _ hr43 rfl hc43 rfl rfl ?_
              obtain ⟨x46, l46, k46, hl0⟩ := ixb hl0
              conv => whnf
              refine index_addr rfl rfl (hasR (LiC.mono S_law35_Act.R_ok (((l11.trans l15).trans l19).trans lk0) hp0_0).rd k46) l46 (lt_ofE rfl l46 k46) ?_
              conv => whnf
              refine eptr_field rfl (hasR (LiC.mono S_law35_Act.R_ok (((l11.trans l15).trans l19).trans lk0) hp0_0).rd k46) ?_
              obtain ⟨ss48, cc48, hr48, hc48, hR48⟩ := LiR.get (LiC.mono S_law35_Act.R_ok (((l11.trans l15).trans l19).trans lk0) hp0_0).rd k46
              obtain ⟨a48_0, c48_0, rfl, h48_0⟩ := hR48
              conv => whnf
              refine load_rd_l ((y0_0).toNat) 2 _ _ hr48 rfl hc48 rfl rfl ?_
              obtain ⟨x49, q49, hl0⟩ := bnd hl0
              conv => whnf
              refine call_fn (tags_Index_Put_ok q49 uy0_1_0 h48_0 rfl) (.cons r0 (.cons r0 .nil)) ?_
              rintro _ K49 _ l49 ⟨m49_0, w49_0, rfl, u49_0, rfl⟩
              conv => whnf
              refine ⟨⟨l49, (ConvH.of .nil)⟩, ?_⟩
              obtain ⟨h25, hl0⟩ := chkb hl0
              conv => whnf
              refine int_in h25 ?_
              conv => whnf
              refine RoundStep.mk (i0, (y0_0 + 1), x49.2, m49_0, w49_0) ⟨rfl, trivial⟩ (by repeat (first | exact trivial | refine And.intro rfl ?_)) (ConvH.of (.cons r0 (.cons r0 (.cons r0 .nil)))) (lk0.trans l49) (Nat.lt_succ_self _) ⟨u49_0, hl0⟩
          · replace hl0 := iff_ w23 hl0
            conv => whnf
            refine cond_T ?_
            conv => whnf
            refine MeetStep.mk ((y0_0, y0_1), my0_1_0, wy0_1_0) ⟨rfl, trivial⟩ (by repeat (first | exact trivial | refine And.intro rfl ?_)) (ConvH.of (.cons r0 (.cons r0 (.cons r0 .nil)))) lk0 ⟨uy0_1_0, (si hl0)⟩
      · rintro ⟨t0, mt0_1_0, wt0_1_0⟩ Kt0 lt0 ⟨ut0_1_0, rfl⟩ j0
        obtain ⟨x52, q52, hm⟩ := bnd hm
        conv => whnf
        refine call_fn (tags_Index_Find_ok q52 ut0_1_0) (.cons r0 (.cons r0 .nil)) ?_
        rintro _ K52 _ l52 ⟨a52_0, c52_0, rfl, h52_0, rfl⟩
        obtain ⟨x54, q54, hm⟩ := bnd hm
        conv => whnf
        refine call_fn (tags_Index_IDs_ok q54 (ut0_1_0.mono l52)) (.cons r1 (.cons r1 .nil)) ?_
        rintro _ K54 _ l54 ⟨a54_0, c54_0, rfl, h54_0, rfl⟩
        obtain ⟨s2, hl2, hm⟩ := bnd hm
        conv => whnf
        refine code_cut (σ := (Int × Int)) [4, 9, 10, 55, 56, 57, 58, 59, 60, 61, 62, 63, 64, 65, 66, 67, 68, 69, 70, 71, 72, 73, 74, 75, 76, 77, 78, 79, 80, 81, 82, 83, 84, 85] (fun t2 => [(9, .int .i64 t2.1), (10, .int .i64 t2.2)]) (fun t2 => [OwnL eS a54_0 9 1 c54_0 x54, Cells b19_0 59 [.map (some mt0_1_0)], MapE strK vSl mt0_1_0 wt0_1_0, OwnL eS a52_0 9 1 c52_0 x52, F]) (fun zz K1 => match zz with | t2 => s2 = Fl.go t2) ?_ ?_
        · refine block_go rfl ?_
          conv => whnf
          refine loop_rule (σ := Nat × Int × Int) [4, 9, 10, 55, 56, 57, 58, 59, 60, 61, 62, 63, 64, 65, 66, 67, 68, 69, 70, 71, 72, 73, 74, 75, 76, 77, 78, 79, 80, 81, 82, 83, 84, 85] (fun (i2, y2_0, y2_1) => [(9, .int .i64 y2_0), (10, .int .i64 y2_1)]) (fun (i2, y2_0, y2_1) => [OwnL eS a54_0 9 1 c54_0 x54, Cells b19_0 59 [.map (some mt0_1_0)], MapE strK vSl mt0_1_0 wt0_1_0, OwnL eS a52_0 9 1 c52_0 x52, F]) (fun zz K1 => match zz with | (i2, y2_0, y2_1) => law35_TagsFinds_L2 x54 t0 n tag x52 i2 y2_0 y2_1 = some s2) (fun zz => zz.1) (n, 0, 0) rfl ⟨rfl, rfl, trivial⟩ (ConvH.of (.cons r0 (.cons r0 (.cons r0 (.cons r0 (.cons r0 .nil)))))) hl2 ?_
          clear hl2
          rintro ⟨i2, y2_0, y2_1⟩ Kb2 lk2 hl2 j2
          conv at hl2 => whnf
          cases i2 with
          | zero => rw [law35_TagsFinds_L2.eq_1] at hl2; cases hl2
          | succ i2 =>
            rw [law35_TagsFinds_L2.eq_2] at hl2
            conv => whnf
            refine RStep.of (len_slice rfl ?_)
            conv => whnf
            refine cond_go rfl ?_
            conv => whnf
            refine cond_s (fun w58 => ?_) (fun w58 => ?_)
            · replace hl2 := ift w58 hl2
              conv => whnf
              refine block_go rfl ?_
              obtain ⟨x64, l64, k64, hl2⟩ := ixb hl2
              conv => whnf
              refine RStep.ofN (index_addr rfl rfl (hasO h54_0 k64) l64 (lt_ofE rfl l64 k64) ?_)
              conv => whnf
              refine RStep.of (ld_own (i := (y2_1).toNat) (o := 0) r0 rfl k64 rfl rfl ?_)
              obtain ⟨x66, q66, hl2⟩ := bnd hl2
              conv => whnf
              refine call_fn (tags_Index_Tags_ok q66 (ut0_1_0.mono ((l52.trans l54).trans lk2))) (.cons r1 (.cons r1 .nil)) ?_
              rintro _ K66 _ l66 ⟨a66_0, c66_0, rfl, h66_0, rfl⟩
              obtain ⟨x68, q68, hl2⟩ := bnd hl2
              conv => whnf
              refine call_fn (Fn.lend Try.call20 (fun K68_0 l68_0 f68_0 => (ref35_Has_ok q68 f68_0 rfl)) (by exact fun _ _ _ _ h => h)) (.cons r0 .nil) ?_
              rintro _ K68 _ l68 ⟨_, rfl, rfl, rfl⟩
              conv => whnf
              refine cond_go rfl ?_
              conv => whnf
              refine cond_s (fun w68 => ?_) (fun w68 => ?_)
              · replace hl2 := ift w68 hl2
                conv => whnf
                refine draw_go ⟨⟨[], true⟩, _, []⟩ (by kernel_rfl) ⟨Hp.Le.refl _, (ConvH.of .nil)⟩ ?_
                conv => whnf
                refine len_sliceN rfl ?_
                obtain ⟨x83, e83, hl2⟩ := bnd hl2
                conv => whnf
                refine cond_s (fun g73_16 => ?_) (fun g73_16 => ?_)
                · replace e83 := ift g73_16 e83
                  conv => whnf
                  refine cond_t g73_16 ?_
                  conv => whnf
                  refine cond_t g73_16 ?_
                  conv => whnf
                  refine cond_t g73_16 ?_
                  conv => whnf
                  refine cond_t g73_16 ?_
                  conv => whnf
                  refine cond_t g73_16 ?_
                  conv => whnf
                  refine cond_t g73_16 ?_
                  conv => whnf
                  refine cond_t g73_16 ?_
                  conv => whnf
                  refine cond_t g73_16 ?_
                  conv => whnf
                  refine cond_t g73_16 ?_
                  conv => whnf
                  refine cond_go rfl ?_
                  conv => whnf
                  refine cond_T ?_
                  replace hl2 := ift (si e83).symm hl2
                  obtain rfl := si hl2
                  replace hm := elr hm
                  obtain rfl := si hm
                  conv => whnf
                  refine EndStep.mk _ ((((((((l11.trans l15).trans l19).trans lt0).trans l52).trans l54).trans lk2).trans l66).trans l68) ⟨rfl, rfl⟩ (ConvH.of (.cons r5 .nil))
                · replace e83 := iff_ g73_16 e83
                  conv => whnf
                  refine cond_f g73_16 ?_
                  conv => whnf
                  refine cond_f g73_16 ?_
                  obtain ⟨x76, l76, k76, e83⟩ := ixb e83
                  conv => whnf
                  refine index_addr rfl rfl (hasO h52_0 k76) l76 (lt_ofE rfl l76 k76) ?_
                  conv => whnf
                  refine cond_f g73_16 ?_
                  conv => whnf
                  refine ld_own (i := (y2_0).toNat) (o := 0) r4 rfl k76 rfl rfl ?_
                  conv => whnf
                  refine cond_f g73_16 ?_
                  conv => whnf
                  refine cond_f g73_16 ?_
                  conv => whnf
                  refine cond_f g73_16 ?_
                  obtain ⟨x80, l80, k80, e83⟩ := ixb e83
                  conv => whnf
                  refine index_addr rfl rfl (hasO h54_0 k80) l80 (lt_ofE rfl l80 k80) ?_
                  conv => whnf
                  refine cond_f g73_16 ?_
                  conv => whnf
                  refine ld_own (i := (y2_1).toNat) (o := 0) r3 rfl k80 rfl rfl ?_
                  conv => whnf
                  refine cond_f g73_16 ?_
                  conv => whnf
                  refine neq_str ?_
                  conv => whnf
                  refine cond_f g73_16 ?_
                  conv => whnf
                  refine cond_go rfl ?_
                  conv => whnf
                  refine cond_s (fun w83 => ?_) (fun w83 => ?_)
                  · replace hl2 := ift ((si e83).symm.trans w83) hl2
                    obtain rfl := si hl2
                    replace hm := elr hm
                    obtain rfl := si hm
                    conv => whnf
                    refine EndStep.mk _ ((((((((l11.trans l15).trans l19).trans lt0).trans l52).trans l54).trans lk2).trans l66).trans l68) ⟨rfl, rfl⟩ (ConvH.of (.cons r5 .nil))
                  · replace hl2 := iff_ ((si e83).symm.trans w83) hl2
                    obtain ⟨h85, hl2⟩ := chkb hl2
                    conv => whnf
                    refine int_in h85 ?_
                    obtain ⟨h60, hl2⟩ := chkb hl2
                    conv => whnf
                    refine int_in h60 ?_
                    conv => whnf
                    refine RoundStep.mk (i2, (y2_0 + 1), (y2_1 + 1)) ⟨rfl, rfl, trivial⟩ (by repeat (first | exact trivial | refine And.intro rfl ?_)) (ConvH.of (.cons r3 (.cons r1 (.cons r1 (.cons r1 (.cons r1 .nil)))))) ((lk2.trans l66).trans l68) (Nat.lt_succ_self _) hl2
              · replace hl2 := iff_ w68 hl2
                obtain ⟨h60, hl2⟩ := chkb hl2
                conv => whnf
                refine int_in h60 ?_
                conv => whnf
                refine RoundStep.mk (i2, y2_0, (y2_1 + 1)) ⟨rfl, rfl, trivial⟩ (by repeat (first | exact trivial | refine And.intro rfl ?_)) (ConvH.of (.cons r3 (.cons r1 (.cons r1 (.cons r1 (.cons r1 .nil)))))) ((lk2.trans l66).trans l68) (Nat.lt_succ_self _) hl2
            · replace hl2 := iff_ w58 hl2
              conv => whnf
              refine cond_T ?_
              conv => whnf
              refine MeetStep.mk ((y2_0, y2_1)) ⟨rfl, rfl, trivial⟩ (by repeat (first | exact trivial | refine And.intro rfl ?_)) (ConvH.of (.cons r0 (.cons r0 (.cons r0 (.cons r0 (.cons r0 .nil)))))) lk2 (si hl2).symm
        · rintro t2 Kt2 lt2 rfl j2
          replace hm := elg hm
          conv => whnf
          refine RStep.of (len_slice rfl ?_)
          conv => whnf
          refine eq_int ?_
          obtain rfl := si hm
          conv => whnf
          refine EndStep.mk _ ((((((l11.trans l15).trans l19).trans lt0).trans l52).trans l54).trans lt2) ⟨rfl, rfl⟩ (ConvH.of (.cons r4 .nil))
