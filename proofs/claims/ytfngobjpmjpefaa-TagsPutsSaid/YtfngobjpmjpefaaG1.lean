/- Functions of the program: mirrors, and that a call returns what the mirror says. Printed by gen.py. -/
import Derived.Test.YtfngobjpmjpefaaShelf
import Derived.Test.YtfngobjpmjpefaaSL24
import Derived.KernelRfl
import Derived.Test.YtfngobjpmjpefaaProg
set_option linter.unusedVariables false
set_option linter.unusedSimpArgs false
open Go Go.SL Go.Proofs
set_option maxRecDepth 1000000
structure S_law35_Act where
  Remove : Bool
  ID : Str
  Tags : (List Str)
def S_law35_Act.R : Rp S_law35_Act := fun K cs x => ∃ a_0 : Option Addr, ∃ c_0 : Nat, cs = [.bool x.Remove, str x.ID, .slice a_0 x.Tags.length c_0] ∧ RdC eS K a_0 c_0 1 x.Tags
theorem S_law35_Act.R_ok : RpOK 3 S_law35_Act.R :=
  ⟨fun hk ⟨a_0, c_0, e, h_0⟩ => ⟨a_0, c_0, e, (h_0.mono hk)⟩, fun ⟨a_0, c_0, e, h_0⟩ => by simp [e], fun ⟨a_0, c_0, e, h_0⟩ v hv => by rw [e] at hv; simp at hv; rcases hv with rfl | rfl | rfl <;> rfl⟩
structure S_tags_Index where
  entries : (List (Str × (List Str)))
theorem elT31 : ElT Try.prog 31 9 1 := ElT.mk' rfl rfl rfl rfl rfl
theorem elT22 : ElT Try.prog 22 35 3 := ElT.mk' rfl rfl rfl rfl rfl
theorem elT44 : ElT Try.prog 44 31 1 := ElT.mk' rfl rfl rfl rfl rfl
noncomputable def tags_New : Option (S_tags_Index) :=
  some (⟨[]⟩ : S_tags_Index)
set_option maxHeartbeats 8000000 in
theorem tags_New_ok  {K : Hp} {r : S_tags_Index}
    (hm : tags_New = some r)  :
    Fn Try.prog 16 [] K [] (fun v K' H' => ∃ br_0 : Nat, ∃ mr_1 : Nat, ∃ wr_1 : List (Str × SlD Str), v = .pointer (some ⟨br_0, 0, none⟩) ∧ MS eS 1 K' wr_1 r.entries ∧ H' = [Cells br_0 59 [.map (some mr_1)], MapE strK vSl mr_1 wr_1]) := by
  refine Fn.enter Try.func16 Try.call16 rfl fun F => ?_
  unfold tags_New at hm
  conv => whnf
  refine makeMap_rule strK (venc := (vSl : SlD Str → Value)) fun b1 => ?_
  conv => whnf
  refine build_struct rfl rfl ?_
  conv => whnf
  refine cond_T ?_
  conv => whnf
  refine box_rule ?_
  intro b3
  obtain rfl := si hm
  conv => whnf
  refine EndStep.mk _ (Hp.Le.refl _) ⟨b3, b1, ([] : List (Str × SlD Str)), rfl, MS.nil, rfl⟩ (ConvH.of (.cons r0 (.cons r0 (.cons r0 .nil))))

noncomputable def tags_good_L0 : List UInt8 → Nat → Option (Fl (Bool) (Unit))
  | [], _ => some (Fl.go ())
  | e0 :: xs0, i0 =>
    (if decide ((e0.toNat : Int) < 33) then some true else some (decide ((e0.toNat : Int) > 126))).bind fun x26 =>
    if x26 then
    some (Fl.ret false)
    else
    tags_good_L0 xs0 (i0 + 1)
noncomputable def tags_good (s : Str) : Option (Bool) :=
  if (decide ((s.length : Int) < 1) || decide ((s.length : Int) > 32)) then
  some false
  else
  (chk (s.length ≤ szMax)).bind fun _ =>
  (tags_good_L0 s 0).bind fun s0 => s0.el some fun t0 =>
  some true
set_option maxHeartbeats 8000000 in
theorem tags_good_ok {s : Str} {K : Hp} {r : Bool}
    (hm : tags_good s = some r)  :
    Fn Try.prog 32 [str s] K [] (fun v K' H' => v = .bool r ∧ H' = []) := by
  refine Fn.enter Try.func32 Try.call32 rfl fun F => ?_
  unfold tags_good at hm
  conv => whnf
  refine RStep.of (len_str rfl ?_)
  conv => whnf
  refine cond_s (fun g7_1 => ?_) (fun g7_1 => ?_)
  · conv => whnf
    refine cond_t g7_1 ?_
    conv => whnf
    refine cond_t g7_1 ?_
    conv => whnf
    refine cond_t g7_1 ?_
    conv => whnf
    refine cond_go rfl ?_
    conv => whnf
    refine cond_T ?_
    replace hm := ift (or_t g7_1) hm
    obtain rfl := si hm
    conv => whnf
    refine EndStep.mk _ (Hp.Le.refl _) ⟨rfl, rfl⟩ (ConvH.of (.cons r0 .nil))
  · conv => whnf
    refine cond_f g7_1 ?_
    conv => whnf
    refine RStep.of (len_str rfl ?_)
    conv => whnf
    refine cond_f g7_1 ?_
    conv => whnf
    refine cond_f g7_1 ?_
    conv => whnf
    refine cond_go rfl ?_
    conv => whnf
    refine cond_s (fun w11 => ?_) (fun w11 => ?_)
    · replace hm := ift (or_u g7_1 w11) hm
      obtain rfl := si hm
      conv => whnf
      refine EndStep.mk _ (Hp.Le.refl _) ⟨rfl, rfl⟩ (ConvH.of (.cons r0 .nil))
    · replace hm := iff_ (or_f g7_1 w11) hm
      conv => whnf
      refine RStep.of (len_str rfl ?_)
      obtain ⟨hk0, hm⟩ := chkb hm
      obtain ⟨s0, hl0, hm⟩ := bnd hm
      conv => whnf
      refine code_cut (σ := (Unit)) [2, 3, 14, 15, 16, 17, 18, 19, 20, 21, 22, 23, 24, 25, 26, 27] (fun t0 => []) (fun t0 => [F]) (fun zz K1 => match zz with | t0 => s0 = Fl.go t0) ?_ ?_
      · refine block_go rfl ?_
        conv => whnf
        refine loop_rule (σ := Nat) [2, 3, 14, 15, 16, 17, 18, 19, 20, 21, 22, 23, 24, 25, 26, 27] (fun i0 => [(14, .int .i64 (i0 : Int))]) (fun i0 => [F]) (fun zz K1 => match zz with | i0 => tags_good_L0 (s.drop i0) i0 = some s0) (fun zz => s.length - zz) (0) rfl ⟨rfl, trivial⟩ (ConvH.of (.cons r0 .nil)) hl0 ?_
        clear hl0
        rintro i0 Kb0 lk0 hl0 j0
        conv at hl0 => whnf
        conv => whnf
        refine cond_go rfl ?_
        conv => whnf
        refine cond_s (fun w0 => ?_) (fun w0 => ?_)
        · obtain ⟨e0, hx0, hd0⟩ := ltx w0
          rw [hd0, tags_good_L0.eq_2] at hl0
          conv => whnf
          refine block_go rfl ?_
          conv => whnf
          refine idx_str rfl (nn _) hx0 ?_
          obtain ⟨x26, e26, hl0⟩ := bnd hl0
          conv => whnf
          refine cond_s (fun g21_6 => ?_) (fun g21_6 => ?_)
          · replace e26 := ift g21_6 e26
            conv => whnf
            refine cond_t g21_6 ?_
            conv => whnf
            refine cond_t g21_6 ?_
            conv => whnf
            refine cond_t g21_6 ?_
            conv => whnf
            refine cond_t g21_6 ?_
            conv => whnf
            refine cond_go rfl ?_
            conv => whnf
            refine cond_T ?_
            replace hl0 := ift (si e26).symm hl0
            obtain rfl := si hl0
            replace hm := elr hm
            obtain rfl := si hm
            conv => whnf
            refine EndStep.mk _ lk0 ⟨rfl, rfl⟩ (ConvH.of (.cons r0 .nil))
          · replace e26 := iff_ g21_6 e26
            conv => whnf
            refine cond_f g21_6 ?_
            conv => whnf
            refine cond_f g21_6 ?_
            conv => whnf
            refine idx_str rfl (nn _) hx0 ?_
            conv => whnf
            refine cond_f g21_6 ?_
            conv => whnf
            refine cond_f g21_6 ?_
            conv => whnf
            refine cond_go rfl ?_
            conv => whnf
            refine cond_s (fun w26 => ?_) (fun w26 => ?_)
            · replace hl0 := ift ((si e26).symm.trans w26) hl0
              obtain rfl := si hl0
              replace hm := elr hm
              obtain rfl := si hm
              conv => whnf
              refine EndStep.mk _ lk0 ⟨rfl, rfl⟩ (ConvH.of (.cons r0 .nil))
            · replace hl0 := iff_ ((si e26).symm.trans w26) hl0
              conv => whnf
              refine int_in (cntz hx0 hk0) ?_
              conv => whnf
              refine RoundStep.mk (i0 + 1) ⟨rfl, trivial⟩ (by repeat (first | exact trivial | refine And.intro rfl ?_)) (ConvH.of (.cons r0 .nil)) lk0 (ltm hx0) hl0
        · rw [lty w0, tags_good_L0.eq_1] at hl0
          conv => whnf
          refine cond_T ?_
          conv => whnf
          refine MeetStep.mk (()) trivial (by repeat (first | exact trivial | refine And.intro rfl ?_)) (ConvH.of (.cons r0 .nil)) lk0 (si hl0).symm
      · rintro t0 Kt0 lt0 rfl j0
        replace hm := elg hm
        obtain rfl := si hm
        conv => whnf
        refine EndStep.mk _ lt0 ⟨rfl, rfl⟩ (ConvH.of (.cons r0 .nil))

noncomputable def slices_Clone_string (s : (List Str)) : Option ((List Str)) :=
  (chk (([] : List Str).length + s.length ≤ lim)).bind fun _ =>
  some (([] : List Str) ++ s)
set_option maxHeartbeats 8000000 in
theorem slices_Clone_string_ok {s : (List Str)} {ap0_0 : Option Addr} {cp0_0 : Nat} {n0 : Nat} {K : Hp} {r : (List Str)}
    (hm : slices_Clone_string s = some r) (hp0_0 : RdC eS K ap0_0 cp0_0 1 s) (en0 : n0 = s.length) :
    Fn Try.prog 33 [.slice ap0_0 n0 cp0_0] K [] (fun v K' H' => ∃ ar_0 : Option Addr, ∃ cr_0 : Nat, v = .slice ar_0 r.length cr_0 ∧ (0 < r.length → Has ar_0) ∧ H' = [OwnL eS ar_0 9 1 cr_0 r]) := by
  subst en0
  refine Fn.enter Try.func33 Try.call33 rfl fun F => ?_
  unfold slices_Clone_string at hm
  rcases Classical.em (ap0_0 = none) with hz | hz
  · subst hz
    obtain rfl := RdC.none_nil hp0_0
    obtain ⟨_, hm⟩ := chkb hm
    obtain rfl := si hm
    conv => whnf
    refine eq_snil_nil rfl ?_
    conv => whnf
    refine cond_go rfl ?_
    conv => whnf
    refine cond_T ?_
    conv => whnf
    refine nilE eS 9 1 ?_
    refine EndStep.mk _ (Hp.Le.refl _) ⟨none, 0, rfl, (fun h => by simp at h), rfl⟩ (ConvH.of (.cons r0 (.cons r0 .nil)))
  · conv => whnf
    refine eq_slice_ne hz rfl ?_
    conv => whnf
    refine cond_go rfl ?_
    conv => whnf
    refine cond_F ?_
    conv => whnf
    refine bsO (len := 0) (enc := eS) (l := ([] : List Str)) (cl := []) elT31 rfl rfl (fun _ _ => rfl) rfl rfl rfl ?_ fun b5 => ?_
    · conv => whnf
      first | done | rfl
    obtain ⟨h7, hm⟩ := chkb hm
    conv => whnf
    refine apE rfl r0 elT31 (src_k rfl hp0_0.rd rfl) h7 ?_
    intro a7 c7 o7
    obtain rfl := si hm
    conv => whnf
    refine EndStep.mk _ (Hp.Le.refl _) ⟨a7, c7, rfl, o7, rfl⟩ (ConvH.of (.cons r0 (.cons r0 .nil)))

noncomputable def tags_Index_Put_L0 (x : S_tags_Index) : List Str → Nat → Option (Fl (Err × S_tags_Index) (Unit))
  | [], _ => some (Fl.go ())
  | e0 :: xs0, i0 =>
    (tags_good e0).bind fun x24 =>
    if (!x24) then
    some (Fl.ret ((some 2), x))
    else
    tags_Index_Put_L0 x xs0 (i0 + 1)
noncomputable def tags_Index_Put (x : S_tags_Index) (id : Str) (tags : (List Str)) : Option (Err × S_tags_Index) :=
  if decide ((tags.length : Int) > 16) then
  some ((some 5), x)
  else
  (chk (tags.length ≤ szMax)).bind fun _ =>
  (tags_Index_Put_L0 x tags 0).bind fun s0 => s0.el some fun t0 =>
  (slices_Clone_string tags).bind fun x29 =>
  (sortSM x29).bind fun x31 =>
  (compactM x31).bind fun x38 =>
  some (none, (⟨(mset x.entries id x38)⟩ : S_tags_Index))
set_option maxHeartbeats 8000000 in
theorem tags_Index_Put_ok {x : S_tags_Index} {id : Str} {tags : (List Str)} {b0 : Nat} {mp0_0 : Nat} {wp0_0 : List (Str × SlD Str)} {ap2_0 : Option Addr} {cp2_0 : Nat} {n2 : Nat} {K : Hp} {r : Err × S_tags_Index}
    (hm : tags_Index_Put x id tags = some r) (up0_0 : MS eS 1 K wp0_0 x.entries) (hp2_0 : RdC eS K ap2_0 cp2_0 1 tags) (en2 : n2 = tags.length) :
    Fn Try.prog 18 [.pointer (some ⟨b0, 0, none⟩), str id, .slice ap2_0 n2 cp2_0] K [Cells b0 59 [.map (some mp0_0)], MapE strK vSl mp0_0 wp0_0] (fun v K' H' => ∃ mr_0 : Nat, ∃ wr_0 : List (Str × SlD Str), v = errV 46 r.1 ∧ MS eS 1 K' wr_0 r.2.entries ∧ H' = [Cells b0 59 [.map (some mr_0)], MapE strK vSl mr_0 wr_0]) := by
  subst en2
  refine Fn.enter Try.func18 Try.call18 rfl fun F => ?_
  unfold tags_Index_Put at hm
  conv => whnf
  refine eq_ptr_nil rfl ?_
  conv => whnf
  refine cond_go rfl ?_
  conv => whnf
  refine cond_F ?_
  conv => whnf
  refine RStep.of (len_slice rfl ?_)
  conv => whnf
  refine cond_go rfl ?_
  conv => whnf
  refine cond_s (fun w15 => ?_) (fun w15 => ?_)
  · replace hm := ift w15 hm
    conv => whnf
    refine mk_iface rfl ?_
    obtain rfl := si hm
    conv => whnf
    refine EndStep.mk _ (Hp.Le.refl _) ⟨mp0_0, wp0_0, rfl, up0_0, rfl⟩ (ConvH.of (.cons r0 (.cons r0 (.cons r0 .nil))))
  · replace hm := iff_ w15 hm
    conv => whnf
    refine RStep.of (len_slice rfl ?_)
    obtain ⟨hk0, hm⟩ := chkb hm
    obtain ⟨s0, hl0, hm⟩ := bnd hm
    conv => whnf
    refine code_cut (σ := (Unit)) [6, 8, 19, 20, 21, 22, 23, 24, 25, 26, 27] (fun t0 => []) (fun t0 => [Cells b0 59 [.map (some mp0_0)], MapE strK vSl mp0_0 wp0_0, F]) (fun zz K1 => match zz with | t0 => s0 = Fl.go t0) ?_ ?_
    · refine block_go rfl ?_
      conv => whnf
      refine loop_rule (σ := Nat) [6, 8, 19, 20, 21, 22, 23, 24, 25, 26, 27] (fun i0 => [(19, .int .i64 (i0 : Int))]) (fun i0 => [Cells b0 59 [.map (some mp0_0)], MapE strK vSl mp0_0 wp0_0, F]) (fun zz K1 => match zz with | i0 => tags_Index_Put_L0 x (tags.drop i0) i0 = some s0) (fun zz => tags.length - zz) (0) rfl ⟨rfl, trivial⟩ (ConvH.of (.cons r0 (.cons r0 (.cons r0 .nil)))) hl0 ?_
      clear hl0
      rintro i0 Kb0 lk0 hl0 j0
      conv at hl0 => whnf
      conv => whnf
      refine cond_go rfl ?_
      conv => whnf
      refine cond_s (fun w0 => ?_) (fun w0 => ?_)
      · obtain ⟨e0, hx0, hd0⟩ := ltx w0
        rw [hd0, tags_Index_Put_L0.eq_2] at hl0
        conv => whnf
        refine block_go rfl ?_
        conv => whnf
        refine RStep.ofN (index_addr rfl rfl (hasK (hp2_0.mono lk0).rd hx0) (nn _) (lt_ofN hx0) ?_)
        conv => whnf
        refine RStep.of (load_rd i0 0 _ _ (hp2_0.mono lk0).rd rfl (mp hx0) rfl rfl ?_)
        obtain ⟨x24, q24, hl0⟩ := bnd hl0
        conv => whnf
        refine call_fn (tags_good_ok q24) .nil ?_
        rintro _ K24 _ l24 ⟨rfl, rfl⟩
        conv => whnf
        refine un_not ?_
        conv => whnf
        refine cond_go rfl ?_
        conv => whnf
        refine cond_s (fun w25 => ?_) (fun w25 => ?_)
        · replace hl0 := ift (not_t (ni_t w25)) hl0
          conv => whnf
          refine mk_iface rfl ?_
          obtain rfl := si hl0
          replace hm := elr hm
          obtain rfl := si hm
          conv => whnf
          refine EndStep.mk _ (lk0.trans l24) ⟨mp0_0, wp0_0, rfl, (up0_0.mono (lk0.trans l24)), rfl⟩ (ConvH.of (.cons r0 (.cons r0 (.cons r0 .nil))))
        · replace hl0 := iff_ (not_f (ni_f w25)) hl0
          conv => whnf
          refine int_in (cntz hx0 hk0) ?_
          conv => whnf
          refine RoundStep.mk (i0 + 1) ⟨rfl, trivial⟩ (by repeat (first | exact trivial | refine And.intro rfl ?_)) (ConvH.of (.cons r0 (.cons r0 (.cons r0 .nil)))) (lk0.trans l24) (ltm hx0) hl0
      · rw [lty w0, tags_Index_Put_L0.eq_1] at hl0
        conv => whnf
        refine cond_T ?_
        conv => whnf
        refine MeetStep.mk (()) trivial (by repeat (first | exact trivial | refine And.intro rfl ?_)) (ConvH.of (.cons r0 (.cons r0 (.cons r0 .nil)))) lk0 (si hl0).symm
    · rintro t0 Kt0 lt0 rfl j0
      replace hm := elg hm
      obtain ⟨x29, q29, hm⟩ := bnd hm
      conv => whnf
      refine call_fn (slices_Clone_string_ok q29 (hp2_0.mono lt0) rfl) .nil ?_
      rintro _ K29 _ l29 ⟨a29_0, c29_0, rfl, h29_0, rfl⟩
      obtain ⟨x31, q31, hm⟩ := bnd hm
      conv => whnf
      refine call_fn (sort_string_ok q31 rfl) (.cons r0 .nil) ?_
      rintro _ K31 _ l31 ⟨rfl, rfl⟩
      conv => whnf
      refine draw_go ⟨⟨[], false⟩, _, [(_, _)]⟩ (by kernel_rfl) ⟨Hp.Le.refl _, (ConvH.of (.cons r1 .nil))⟩ ?_
      conv => whnf
      refine nil_check ?_
      conv => whnf
      refine field_addr rfl ?_
      conv => whnf
      refine load1_l m0 rfl rfl ?_
      obtain ⟨x38, q38, hm⟩ := bnd hm
      conv => whnf
      refine call_fn (compact_string_ok q38 (Eq.trans (rfl) (sortSM_len q31).symm)) (.cons r0 .nil) ?_
      rintro _ K38 _ l38 ⟨rfl, rfl⟩
      conv => whnf
      refine ⟨⟨l38, (ConvH.of (.cons r1 .nil))⟩, ?_⟩
      conv => whnf
      refine fW r0 fun Kfu139854349745344_0 lfu139854349745344_0 ffu139854349745344_0 => ?_
      refine update_rule (kenc := strK) (venc := vSl) (a29_0, c29_0, x38) rfl r1 rfl (key_str rfl) ?_
      conv => whnf
      refine ⟨⟨(l38.trans lfu139854349745344_0), (ConvH.of (.cons r1 .nil))⟩, ?_⟩
      obtain rfl := si hm
      conv => whnf
      refine EndStep.mk _ ((((lt0.trans l29).trans l31).trans l38).trans lfu139854349745344_0) ⟨mp0_0, (mset wp0_0 id (a29_0, c29_0, x38)), rfl, (MS.set (up0_0.mono ((((lt0.trans l29).trans l31).trans l38).trans lfu139854349745344_0)) id ffu139854349745344_0), rfl⟩ (ConvH.of (.cons r1 (.cons r0 (.cons r0 .nil))))

noncomputable def tags_Index_IDs_L0 (e0 : (Str × (List Str))) (y0_0 : (List Str)) : Option ((List Str)) :=
  (chk (y0_0.length + [e0.1].length ≤ lim)).bind fun _ =>
  some (y0_0 ++ [e0.1])
noncomputable def tags_Index_IDs (x : S_tags_Index) : Option ((List Str)) :=
  perms x.entries fun pl0 =>
  (mfold (fun e0 ss0 => tags_Index_IDs_L0 e0 ss0) pl0 []).bind fun t0 =>
  (sortSM t0).bind fun x21 =>
  some x21
set_option maxHeartbeats 8000000 in
theorem tags_Index_IDs_ok {x : S_tags_Index} {b0 : Nat} {mp0_0 : Nat} {wp0_0 : List (Str × SlD Str)} {K : Hp} {r : (List Str)}
    (hm : tags_Index_IDs x = some r) (up0_0 : MS eS 1 K wp0_0 x.entries) :
    Fn Try.prog 19 [.pointer (some ⟨b0, 0, none⟩)] K [Cells b0 59 [.map (some mp0_0)], MapE strK vSl mp0_0 wp0_0] (fun v K' H' => ∃ ar_0 : Option Addr, ∃ cr_0 : Nat, v = .slice ar_0 r.length cr_0 ∧ (0 < r.length → Has ar_0) ∧ H' = [OwnL eS ar_0 9 1 cr_0 r, Cells b0 59 [.map (some mp0_0)], MapE strK vSl mp0_0 wp0_0]) := by
  refine Fn.enter Try.func19 Try.call19 rfl fun F => ?_
  unfold tags_Index_IDs at hm
  conv => whnf
  refine eq_ptr_nil rfl ?_
  conv => whnf
  refine cond_go rfl ?_
  conv => whnf
  refine cond_F ?_
  conv => whnf
  refine nil_check ?_
  conv => whnf
  refine field_addr rfl ?_
  conv => whnf
  refine RStep.of (load1_s r0 rfl rfl ?_)
  conv => whnf
  refine range_rule r1 rfl fun rb11 => ?_
  have hP0 := perms_all hm
  conv => whnf
  refine nilC eS 9 1 ?_
  refine code_cut (σ := ((List Str)) × Option Addr × Nat) [3, 4, 12, 13, 14, 15, 16, 17, 18, 19] (fun (t0, t0_a0, t0_c0) => [(3, .slice t0_a0 t0.length t0_c0)]) (fun (t0, t0_a0, t0_c0) => [OwnL eS t0_a0 9 1 t0_c0 t0, MapE strK vSl mp0_0 wp0_0, Cells b0 59 [.map (some mp0_0)], F]) (fun zz K1 => match zz with | (t0, t0_a0, t0_c0) => (0 < t0.length → Has t0_a0) ∧ ∃ pl, pl.Perm x.entries ∧ mfold (fun e0 ss0 => tags_Index_IDs_L0 e0 ss0) pl [] = some t0) ?_ ?_
  · refine block_go rfl ?_
    conv => whnf
    refine loop_rule (σ := (List (Str × SlD Str)) × (List Str) × Option Addr × Nat) [3, 4, 12, 13, 14, 15, 16, 17, 18, 19] (fun (vis0, y0_0, y0_a0, y0_c0) => [(3, .slice y0_a0 y0_0.length y0_c0)]) (fun (vis0, y0_0, y0_a0, y0_c0) => [OwnL eS y0_a0 9 1 y0_c0 y0_0, MapIt strK vSl rb11 mp0_0 wp0_0 vis0, Cells b0 59 [.map (some mp0_0)], F]) (fun zz K1 => match zz with | (vis0, y0_0, y0_a0, y0_c0) => (0 < y0_0.length → Has y0_a0) ∧ mfold (fun e0 ss0 => tags_Index_IDs_L0 e0 ss0) (vis0.map pSl) [] = some y0_0) (fun zz => wp0_0.length - zz.1.length) ([], [], none, 0) rfl ⟨rfl, trivial⟩ (ConvH.of (.cons r0 (.cons r0 (.cons r0 (.cons r0 .nil))))) ⟨(fun h => by simp at h), rfl⟩ ?_
    rintro ⟨vis0, y0_0, y0_a0, y0_c0⟩ Kb0 lk0 ⟨y0_h0, hv0⟩ j0
    conv => whnf
    refine next_rule r1 (fun hp0 => ?_) (fun rp0 rs0 hp0 => ?_)
    · conv => whnf
      refine cond_go rfl ?_
      conv => whnf
      refine cond_F ?_
      conv => whnf
      refine cond_T ?_
      conv => whnf
      refine MeetStep.mk (y0_0, y0_a0, y0_c0) ⟨rfl, trivial⟩ (by repeat (first | exact trivial | refine And.intro rfl ?_)) (ConvH.of (.cons r1 (.cons r0 (.cons r0 (.cons r0 .nil))))) lk0 ⟨y0_h0, ⟨_, MS.perm0 up0_0 hp0, hv0⟩⟩
    · obtain ⟨z0, hB0⟩ := mnext hP0 hv0 (MS.perm up0_0 hp0)
      have hl0 : tags_Index_IDs_L0 (pSl rp0) y0_0 = some z0 := hB0
      unfold tags_Index_IDs_L0 at hl0
      conv => whnf
      refine cond_go rfl ?_
      conv => whnf
      refine cond_T ?_
      conv => whnf
      refine block_go rfl ?_
      conv => whnf
      refine RStep.of (entry_rule r0 ?_)
      conv => whnf
      refine bsO (len := 1) (enc := eS) (l := [(pSl rp0).1]) (cl := [str (pSl rp0).1]) elT31 rfl rfl (fun _ _ => rfl) rfl rfl rfl ?_ fun b18 => ?_
      · conv => whnf
        refine cond_T ?_
        conv => whnf
        first | done | rfl
      obtain ⟨h19, hl0⟩ := chkb hl0
      conv => whnf
      refine apE rfl r2 elT31 (src_own' rfl r0 rfl (fun _ => rfl) (fun _ => rfl)) h19 ?_
      intro a19 c19 o19
      conv => whnf
      refine RoundStep.mk (vis0 ++ [rp0], (y0_0 ++ [(pSl rp0).1]), a19, c19) ⟨rfl, trivial⟩ (by repeat (first | exact trivial | refine And.intro rfl ?_)) (ConvH.of (.cons r0 (.cons r1 (.cons r1 (.cons r1 .nil))))) lk0 (ltmap hp0) ⟨o19, (by rw [pSl_snoc]; exact (mfold_snoc hv0).trans (hB0.trans hl0.symm))⟩
  · rintro ⟨t0, t0_a0, t0_c0⟩ Kt0 lt0 ⟨t0_h0, hx0⟩ j0
    replace hm := mlast hP0 hx0
    obtain ⟨x21, q21, hm⟩ := bnd hm
    conv => whnf
    refine call_fn (sort_string_ok q21 rfl) (.cons r0 .nil) ?_
    rintro _ K21 _ l21 ⟨rfl, rfl⟩
    obtain rfl := si hm
    conv => whnf
    refine EndStep.mk _ (lt0.trans l21) ⟨t0_a0, t0_c0, (by rw [← (show x21.length = t0.length from Eq.symm ((Eq.trans (rfl) (sortSM_len q21).symm)))] <;> rfl), (fun h => t0_h0 (by rw [sortSM_len q21] at h; exact h)), rfl⟩ (ConvH.of (.cons r0 (.cons r1 (.cons r0 (.cons r0 .nil)))))

noncomputable def slices_Index_string_L0 (v' : Str) : List Str → Nat → Option (Fl (Int) (Unit))
  | [], _ => some (Fl.go ())
  | e0 :: xs0, i0 =>
    if decide (v' = e0) then
    some (Fl.ret (i0 : Int))
    else
    slices_Index_string_L0 v' xs0 (i0 + 1)
noncomputable def slices_Index_string (s : (List Str)) (v' : Str) : Option (Int) :=
  (chk (s.length ≤ szMax)).bind fun _ =>
  (slices_Index_string_L0 v' s 0).bind fun s0 => s0.el some fun t0 =>
  some (-1)
set_option maxHeartbeats 8000000 in
theorem slices_Index_string_ok {s : (List Str)} {v' : Str} {ap0_0 : Option Addr} {cp0_0 : Nat} {n0 : Nat} {K : Hp} {r : Int}
    (hm : slices_Index_string s v' = some r) (hp0_0 : RdC eS K ap0_0 cp0_0 1 s) (en0 : n0 = s.length) :
    Fn Try.prog 38 [.slice ap0_0 n0 cp0_0, str v'] K [] (fun v K' H' => v = .int .i64 r ∧ H' = []) := by
  subst en0
  refine Fn.enter Try.func38 Try.call38 rfl fun F => ?_
  unfold slices_Index_string at hm
  conv => whnf
  refine RStep.of (len_slice rfl ?_)
  obtain ⟨hk0, hm⟩ := chkb hm
  obtain ⟨s0, hl0, hm⟩ := bnd hm
  conv => whnf
  refine code_cut (σ := (Unit)) [4, 5, 8, 9, 10, 11, 12, 13, 14, 15, 16, 17, 18] (fun t0 => []) (fun t0 => [F]) (fun zz K1 => match zz with | t0 => s0 = Fl.go t0) ?_ ?_
  · refine block_go rfl ?_
    conv => whnf
    refine loop_rule (σ := Nat) [4, 5, 8, 9, 10, 11, 12, 13, 14, 15, 16, 17, 18] (fun i0 => [(8, .int .i64 (i0 : Int))]) (fun i0 => [F]) (fun zz K1 => match zz with | i0 => slices_Index_string_L0 v' (s.drop i0) i0 = some s0) (fun zz => s.length - zz) (0) rfl ⟨rfl, trivial⟩ (ConvH.of (.cons r0 .nil)) hl0 ?_
    clear hl0
    rintro i0 Kb0 lk0 hl0 j0
    conv at hl0 => whnf
    conv => whnf
    refine cond_go rfl ?_
    conv => whnf
    refine cond_s (fun w0 => ?_) (fun w0 => ?_)
    · obtain ⟨e0, hx0, hd0⟩ := ltx w0
      rw [hd0, slices_Index_string_L0.eq_2] at hl0
      conv => whnf
      refine block_go rfl ?_
      conv => whnf
      refine RStep.ofN (index_addr rfl rfl (hasK (hp0_0.mono lk0).rd hx0) (nn _) (lt_ofN hx0) ?_)
      conv => whnf
      refine RStep.of (load_rd i0 0 _ _ (hp0_0.mono lk0).rd rfl (mp hx0) rfl rfl ?_)
      conv => whnf
      refine eq_str ?_
      conv => whnf
      refine cond_go rfl ?_
      conv => whnf
      refine cond_s (fun w16 => ?_) (fun w16 => ?_)
      · replace hl0 := ift w16 hl0
        obtain rfl := si hl0
        replace hm := elr hm
        obtain rfl := si hm
        conv => whnf
        refine EndStep.mk _ lk0 ⟨rfl, rfl⟩ (ConvH.of (.cons r0 .nil))
      · replace hl0 := iff_ w16 hl0
        conv => whnf
        refine int_in (cntz hx0 hk0) ?_
        conv => whnf
        refine RoundStep.mk (i0 + 1) ⟨rfl, trivial⟩ (by repeat (first | exact trivial | refine And.intro rfl ?_)) (ConvH.of (.cons r0 .nil)) lk0 (ltm hx0) hl0
    · rw [lty w0, slices_Index_string_L0.eq_1] at hl0
      conv => whnf
      refine cond_T ?_
      conv => whnf
      refine MeetStep.mk (()) trivial (by repeat (first | exact trivial | refine And.intro rfl ?_)) (ConvH.of (.cons r0 .nil)) lk0 (si hl0).symm
  · rintro t0 Kt0 lt0 rfl j0
    replace hm := elg hm
    obtain rfl := si hm
    conv => whnf
    refine EndStep.mk _ lt0 ⟨rfl, rfl⟩ (ConvH.of (.cons r0 .nil))

noncomputable def slices_Contains_string (s : (List Str)) (v' : Str) : Option (Bool) :=
  (slices_Index_string s v').bind fun x7 =>
  some (decide (x7 ≥ 0))
set_option maxHeartbeats 8000000 in
theorem slices_Contains_string_ok {s : (List Str)} {v' : Str} {ap0_0 : Option Addr} {cp0_0 : Nat} {n0 : Nat} {K : Hp} {r : Bool}
    (hm : slices_Contains_string s v' = some r) (hp0_0 : RdC eS K ap0_0 cp0_0 1 s) (en0 : n0 = s.length) :
    Fn Try.prog 30 [.slice ap0_0 n0 cp0_0, str v'] K [] (fun v K' H' => v = .bool r ∧ H' = []) := by
  subst en0
  refine Fn.enter Try.func30 Try.call30 rfl fun F => ?_
  unfold slices_Contains_string at hm
  obtain ⟨x7, q7, hm⟩ := bnd hm
  conv => whnf
  refine call_fn (slices_Index_string_ok q7 hp0_0 rfl) .nil ?_
  rintro _ K7 _ l7 ⟨rfl, rfl⟩
  obtain rfl := si hm
  conv => whnf
  refine EndStep.mk _ l7 ⟨rfl, rfl⟩ (ConvH.of (.cons r0 .nil))

noncomputable def tags_Index_Find_L0 (x : S_tags_Index) (tag : Str) : List Str → Nat → (List Str) → Option ((List Str))
  | [], _, y0_0 => some y0_0
  | e0 :: xs0, i0, y0_0 =>
    (slices_Contains_string ((mget x.entries e0).getD []) tag).bind fun x22 =>
    if x22 then
    (chk (y0_0.length + [e0].length ≤ lim)).bind fun _ =>
    tags_Index_Find_L0 x tag xs0 (i0 + 1) (y0_0 ++ [e0])
    else
    tags_Index_Find_L0 x tag xs0 (i0 + 1) y0_0
noncomputable def tags_Index_Find (x : S_tags_Index) (tag : Str) : Option ((List Str)) :=
  (tags_Index_IDs x).bind fun x9 =>
  (chk (x9.length ≤ szMax)).bind fun _ =>
  (tags_Index_Find_L0 x tag x9 0 []).bind fun t0 =>
  some t0
set_option maxHeartbeats 8000000 in
theorem tags_Index_Find_ok {x : S_tags_Index} {tag : Str} {b0 : Nat} {mp0_0 : Nat} {wp0_0 : List (Str × SlD Str)} {K : Hp} {r : (List Str)}
    (hm : tags_Index_Find x tag = some r) (up0_0 : MS eS 1 K wp0_0 x.entries) :
    Fn Try.prog 14 [.pointer (some ⟨b0, 0, none⟩), str tag] K [Cells b0 59 [.map (some mp0_0)], MapE strK vSl mp0_0 wp0_0] (fun v K' H' => ∃ ar_0 : Option Addr, ∃ cr_0 : Nat, v = .slice ar_0 r.length cr_0 ∧ (0 < r.length → Has ar_0) ∧ H' = [OwnL eS ar_0 9 1 cr_0 r, Cells b0 59 [.map (some mp0_0)], MapE strK vSl mp0_0 wp0_0]) := by
  refine Fn.enter Try.func14 Try.call14 rfl fun F => ?_
  unfold tags_Index_Find at hm
  obtain ⟨x9, q9, hm⟩ := bnd hm
  conv => whnf
  refine call_fn (tags_Index_IDs_ok q9 up0_0) (.cons r0 (.cons r0 .nil)) ?_
  rintro _ K9 _ l9 ⟨a9_0, c9_0, rfl, h9_0, rfl⟩
  conv => whnf
  refine RStep.of (len_slice rfl ?_)
  obtain ⟨hk0, hm⟩ := chkb hm
  obtain ⟨s0, hl0, hm⟩ := bnd hm
  conv => whnf
  refine nilC eS 9 1 ?_
  refine code_cut (σ := ((List Str)) × Option Addr × Nat) [5, 7, 11, 12, 13, 14, 15, 16, 17, 18, 19, 20, 21, 22, 23, 24, 25, 26, 27] (fun (t0, t0_a0, t0_c0) => [(5, .slice t0_a0 t0.length t0_c0)]) (fun (t0, t0_a0, t0_c0) => [OwnL eS t0_a0 9 1 t0_c0 t0, OwnL eS a9_0 9 1 c9_0 x9, Cells b0 59 [.map (some mp0_0)], MapE strK vSl mp0_0 wp0_0, F]) (fun zz K1 => match zz with | (t0, t0_a0, t0_c0) => (0 < t0.length → Has t0_a0) ∧ t0 = s0) ?_ ?_
  · refine block_go rfl ?_
    conv => whnf
    refine loop_rule (σ := Nat × (List Str) × Option Addr × Nat) [5, 7, 11, 12, 13, 14, 15, 16, 17, 18, 19, 20, 21, 22, 23, 24, 25, 26, 27] (fun (i0, y0_0, y0_a0, y0_c0) => [(11, .int .i64 (i0 : Int)), (5, .slice y0_a0 y0_0.length y0_c0)]) (fun (i0, y0_0, y0_a0, y0_c0) => [OwnL eS y0_a0 9 1 y0_c0 y0_0, OwnL eS a9_0 9 1 c9_0 x9, Cells b0 59 [.map (some mp0_0)], MapE strK vSl mp0_0 wp0_0, F]) (fun zz K1 => match zz with | (i0, y0_0, y0_a0, y0_c0) => (0 < y0_0.length → Has y0_a0) ∧ tags_Index_Find_L0 x tag (x9.drop i0) i0 y0_0 = some s0) (fun zz => x9.length - zz.1) (0, [], none, 0) rfl ⟨rfl, rfl, trivial⟩ (ConvH.of (.cons r0 (.cons r0 (.cons r0 (.cons r0 (.cons r0 .nil)))))) ⟨(fun h => by simp at h), hl0⟩ ?_
    clear hl0
    rintro ⟨i0, y0_0, y0_a0, y0_c0⟩ Kb0 lk0 ⟨y0_h0, hl0⟩ j0
    conv => whnf
    refine cond_go rfl ?_
    conv => whnf
    refine cond_s (fun w0 => ?_) (fun w0 => ?_)
    · obtain ⟨e0, hx0, hd0⟩ := ltx w0
      rw [hd0, tags_Index_Find_L0.eq_2] at hl0
      conv => whnf
      refine block_go rfl ?_
      conv => whnf
      refine RStep.ofN (index_addr rfl rfl (hasO h9_0 hx0) (nn _) (lt_ofNE rfl hx0) ?_)
      conv => whnf
      refine RStep.of (ld_own (i := i0) (o := 0) r1 rfl hx0 rfl rfl ?_)
      conv => whnf
      refine nil_check ?_
      conv => whnf
      refine field_addr rfl ?_
      conv => whnf
      refine RStep.of (load1_s r2 rfl rfl ?_)
      conv => whnf
      refine RStep.of (lookupS (kenc := strK) r3 rfl rfl (key_str rfl) (up0_0.mono (l9.trans lk0)) fun a20 c20 h20 => ?_)
      obtain ⟨x22, q22, hl0⟩ := bnd hl0
      conv => whnf
      refine call_fn (slices_Contains_string_ok q22 h20 rfl) .nil ?_
      rintro _ K22 _ l22 ⟨rfl, rfl⟩
      conv => whnf
      refine cond_go rfl ?_
      conv => whnf
      refine cond_s (fun w22 => ?_) (fun w22 => ?_)
      · replace hl0 := ift w22 hl0
        conv => whnf
        refine bsO (len := 1) (enc := eS) (l := [e0]) (cl := [str e0]) elT31 rfl rfl (fun _ _ => rfl) rfl rfl rfl ?_ fun b25 => ?_
        · conv => whnf
          refine cond_T ?_
          conv => whnf
          first | done | rfl
        obtain ⟨h26, hl0⟩ := chkb hl0
        conv => whnf
        refine apE rfl r1 elT31 (src_own' rfl r0 rfl (fun _ => rfl) (fun _ => rfl)) h26 ?_
        intro a26 c26 o26
        conv => whnf
        refine int_in (cntz hx0 hk0) ?_
        conv => whnf
        refine RoundStep.mk (i0 + 1, (y0_0 ++ [e0]), a26, c26) ⟨rfl, rfl, trivial⟩ (by repeat (first | exact trivial | refine And.intro rfl ?_)) (ConvH.of (.cons r0 (.cons r1 (.cons r1 (.cons r1 (.cons r1 .nil)))))) (lk0.trans l22) (ltm hx0) ⟨o26, hl0⟩
      · replace hl0 := iff_ w22 hl0
        conv => whnf
        refine int_in (cntz hx0 hk0) ?_
        conv => whnf
        refine RoundStep.mk (i0 + 1, y0_0, y0_a0, y0_c0) ⟨rfl, rfl, trivial⟩ (by repeat (first | exact trivial | refine And.intro rfl ?_)) (ConvH.of (.cons r0 (.cons r0 (.cons r0 (.cons r0 (.cons r0 .nil)))))) (lk0.trans l22) (ltm hx0) ⟨y0_h0, hl0⟩
    · rw [lty w0, tags_Index_Find_L0.eq_1] at hl0
      conv => whnf
      refine cond_T ?_
      conv => whnf
      refine MeetStep.mk (y0_0, y0_a0, y0_c0) ⟨rfl, trivial⟩ (by repeat (first | exact trivial | refine And.intro rfl ?_)) (ConvH.of (.cons r0 (.cons r0 (.cons r0 (.cons r0 (.cons r0 .nil)))))) lk0 ⟨y0_h0, (si hl0)⟩
  · rintro ⟨t0, t0_a0, t0_c0⟩ Kt0 lt0 ⟨t0_h0, rfl⟩ j0
    obtain rfl := si hm
    conv => whnf
    refine EndStep.mk _ (l9.trans lt0) ⟨t0_a0, t0_c0, rfl, t0_h0, rfl⟩ (ConvH.of (.cons r0 (.cons r1 (.cons r1 (.cons r1 .nil)))))

noncomputable def law35_awake : Option (Bool) :=
  (tags_New).bind fun x3 =>
  (tags_Index_Put x3 ([97] : Str) ([([116] : Str)])).bind fun x9 =>
  if x9.1.isSome then
  some false
  else
  (tags_Index_Find x9.2 ([116] : Str)).bind fun x13 =>
  (if decide ((x13.length : Int) = 1) then (ix x13 0).bind fun x19 =>
  some (decide (x19 = ([97] : Str))) else some false).bind fun x22 =>
  some x22
set_option maxHeartbeats 8000000 in
theorem law35_awake_ok  {K : Hp} {r : Bool}
    (hm : law35_awake = some r)  :
    Fn Try.prog 9 [] K [] (fun v K' H' => v = .bool r ∧ H' = []) := by
  refine Fn.enter Try.func9 Try.call9 rfl fun F => ?_
  unfold law35_awake at hm
  obtain ⟨x3, q3, hm⟩ := bnd hm
  conv => whnf
  refine call_fn (tags_New_ok q3) .nil ?_
  rintro _ K3 _ l3 ⟨b3_0, m3_1, w3_1, rfl, u3_1, rfl⟩
  conv => whnf
  refine eq_ptr_nil rfl ?_
  conv => whnf
  refine cond_F ?_
  conv => whnf
  refine cond_F ?_
  conv => whnf
  refine bsO (len := 1) (enc := eS) (l := [([116] : Str)]) (cl := [str ([116] : Str)]) elT31 rfl rfl (fun _ _ => rfl) rfl rfl rfl ?_ fun b8 => ?_
  · conv => whnf
    refine cond_T ?_
    conv => whnf
    first | done | rfl
  conv => whnf
  refine cond_F ?_
  obtain ⟨x9, q9, hm⟩ := bnd hm
  conv => whnf
  refine fF Try.call18 r0 fun K9_2 l9_2 f9_2 => ?_
  refine call_fn (tags_Index_Put_ok q9 (u3_1.mono l9_2) f9_2 rfl) (.cons r0 (.cons r0 .nil)) ?_
  rintro _ K9 _ l9 ⟨m9_0, w9_0, rfl, u9_0, rfl⟩
  conv => whnf
  refine cond_F ?_
  conv => whnf
  refine neq_err rfl ?_
  conv => whnf
  refine cond_F ?_
  conv => whnf
  refine cond_go rfl ?_
  conv => whnf
  refine cond_s (fun w11 => ?_) (fun w11 => ?_)
  · replace hm := ift w11 hm
    obtain rfl := si hm
    conv => whnf
    refine EndStep.mk _ ((l3.trans l9_2).trans l9) ⟨rfl, rfl⟩ (ConvH.of (.cons r2 .nil))
  · replace hm := iff_ w11 hm
    obtain ⟨x13, q13, hm⟩ := bnd hm
    conv => whnf
    refine call_fn (tags_Index_Find_ok q13 u9_0) (.cons r0 (.cons r0 .nil)) ?_
    rintro _ K13 _ l13 ⟨a13_0, c13_0, rfl, h13_0, rfl⟩
    conv => whnf
    refine RStep.of (len_slice rfl ?_)
    conv => whnf
    refine eq_int ?_
    obtain ⟨x22, e22, hm⟩ := bnd hm
    conv => whnf
    refine cond_s (fun g17_5 => ?_) (fun g17_5 => ?_)
    · replace e22 := ift g17_5 e22
      conv => whnf
      refine cond_t g17_5 ?_
      obtain ⟨x19, l19, k19, e22⟩ := ixb e22
      conv => whnf
      refine RStep.ofN (index_addr rfl rfl (hasO h13_0 k19) l19 (lt_ofE rfl l19 k19) ?_)
      conv => whnf
      refine cond_t g17_5 ?_
      conv => whnf
      refine RStep.of (ld_own (i := (0 : Int).toNat) (o := 0) r0 rfl k19 rfl rfl ?_)
      conv => whnf
      refine cond_t g17_5 ?_
      conv => whnf
      refine eq_str ?_
      conv => whnf
      refine cond_t g17_5 ?_
      obtain rfl := si hm
      conv => whnf
      refine EndStep.mk _ (((l3.trans l9_2).trans l9).trans l13) ⟨(by rw [← (si e22)] <;> rfl), rfl⟩ (ConvH.of (.cons r3 .nil))
    · replace e22 := iff_ g17_5 e22
      conv => whnf
      refine cond_f g17_5 ?_
      conv => whnf
      refine cond_f g17_5 ?_
      conv => whnf
      refine cond_f g17_5 ?_
      conv => whnf
      refine cond_f g17_5 ?_
      obtain rfl := si hm
      conv => whnf
      refine EndStep.mk _ (((l3.trans l9_2).trans l9).trans l13) ⟨(by rw [← ((si e22).symm).symm] <;> rfl), rfl⟩ (ConvH.of (.cons r3 .nil))

noncomputable def law35_fits_L0 (acts : (List S_law35_Act)) : Nat → Int → Option (Fl (Bool) (Int))
  | 0, _ => none
  | xs0 + 1, y0_0 =>
    if decide (y0_0 < (acts.length : Int)) then
    (ix acts y0_0).bind fun x12 =>
    if decide ((x12.Tags.length : Int) > 40) then
    some (Fl.ret false)
    else
    (chk (InI (y0_0 + 1))).bind fun _ =>
    law35_fits_L0 acts xs0 (y0_0 + 1)
    else
    some (Fl.go y0_0)
noncomputable def law35_fits (n : Nat) (acts : (List S_law35_Act)) : Option (Bool) :=
  (law35_fits_L0 acts n 0).bind fun s0 => s0.el some fun t0 =>
  some (decide ((acts.length : Int) ≤ 40))
set_option maxHeartbeats 8000000 in
theorem law35_fits_ok {n : Nat} {acts : (List S_law35_Act)} {ap0_0 : Option Addr} {cp0_0 : Nat} {n0 : Nat} {K : Hp} {r : Bool}
    (hm : law35_fits n acts = some r) (hp0_0 : LiC S_law35_Act.R K ap0_0 cp0_0 3 acts) (en0 : n0 = acts.length) :
    Fn Try.prog 10 [.slice ap0_0 n0 cp0_0] K [] (fun v K' H' => v = .bool r ∧ H' = []) := by
  subst en0
  refine Fn.enter Try.func10 Try.call10 rfl fun F => ?_
  unfold law35_fits at hm
  obtain ⟨s0, hl0, hm⟩ := bnd hm
  conv => whnf
  refine code_cut (σ := (Int)) [2, 3, 4, 5, 6, 7, 8, 9, 10, 11, 12, 13, 14, 15, 16] (fun t0 => [(3, .int .i64 t0)]) (fun t0 => [F]) (fun zz K1 => match zz with | t0 => s0 = Fl.go t0) ?_ ?_
  · refine block_go rfl ?_
    conv => whnf
    refine loop_rule (σ := Nat × Int) [2, 3, 4, 5, 6, 7, 8, 9, 10, 11, 12, 13, 14, 15, 16] (fun (i0, y0_0) => [(3, .int .i64 y0_0)]) (fun (i0, y0_0) => [F]) (fun zz K1 => match zz with | (i0, y0_0) => law35_fits_L0 acts i0 y0_0 = some s0) (fun zz => zz.1) (n, 0) rfl ⟨rfl, trivial⟩ (ConvH.of (.cons r0 .nil)) hl0 ?_
    clear hl0
    rintro ⟨i0, y0_0⟩ Kb0 lk0 hl0 j0
    conv at hl0 => whnf
    cases i0 with
    | zero => rw [law35_fits_L0.eq_1] at hl0; cases hl0
    | succ i0 =>
      rw [law35_fits_L0.eq_2] at hl0
      conv => whnf
      refine RStep.of (len_slice rfl ?_)
      conv => whnf
      refine cond_go rfl ?_
      conv => whnf
      refine cond_s (fun w7 => ?_) (fun w7 => ?_)
      · replace hl0 := ift w7 hl0
        conv => whnf
        refine block_go rfl ?_
        obtain ⟨x12, l12, k12, hl0⟩ := ixb hl0
        conv => whnf
        refine RStep.ofN (index_addr rfl rfl (hasR (LiC.mono S_law35_Act.R_ok lk0 hp0_0).rd k12) l12 (lt_ofE rfl l12 k12) ?_)
        conv => whnf
        refine eptr_field rfl (hasR (LiC.mono S_law35_Act.R_ok lk0 hp0_0).rd k12) ?_
        obtain ⟨ss14, cc14, hr14, hc14, hR14⟩ := LiR.get (LiC.mono S_law35_Act.R_ok lk0 hp0_0).rd k12
        obtain ⟨a14_0, c14_0, rfl, h14_0⟩ := hR14
        conv => whnf
        refine RStep.of (load_rd ((y0_0).toNat) 2 _ _ hr14 rfl hc14 rfl rfl ?_)
        conv => whnf
        refine RStep.of (len_slice rfl ?_)
        conv => whnf
        refine cond_go rfl ?_
        conv => whnf
        refine cond_s (fun w16 => ?_) (fun w16 => ?_)
        · replace hl0 := ift w16 hl0
          obtain rfl := si hl0
          replace hm := elr hm
          obtain rfl := si hm
          conv => whnf
          refine EndStep.mk _ lk0 ⟨rfl, rfl⟩ (ConvH.of (.cons r0 .nil))
        · replace hl0 := iff_ w16 hl0
          obtain ⟨h9, hl0⟩ := chkb hl0
          conv => whnf
          refine int_in h9 ?_
          conv => whnf
          refine RoundStep.mk (i0, (y0_0 + 1)) ⟨rfl, trivial⟩ (by repeat (first | exact trivial | refine And.intro rfl ?_)) (ConvH.of (.cons r0 .nil)) lk0 (Nat.lt_succ_self _) hl0
      · replace hl0 := iff_ w7 hl0
        conv => whnf
        refine cond_T ?_
        conv => whnf
        refine MeetStep.mk (y0_0) ⟨rfl, trivial⟩ (by repeat (first | exact trivial | refine And.intro rfl ?_)) (ConvH.of (.cons r0 .nil)) lk0 (si hl0).symm
  · rintro t0 Kt0 lt0 rfl j0
    replace hm := elg hm
    conv => whnf
    refine RStep.of (len_slice rfl ?_)
    obtain rfl := si hm
    conv => whnf
    refine EndStep.mk _ lt0 ⟨rfl, rfl⟩ (ConvH.of (.cons r0 .nil))

noncomputable def tags_Index_Tags (x : S_tags_Index) (id : Str) : Option ((List Str)) :=
  (slices_Clone_string ((mget x.entries id).getD [])).bind fun x13 =>
  some x13
set_option maxHeartbeats 8000000 in
theorem tags_Index_Tags_ok {x : S_tags_Index} {id : Str} {b0 : Nat} {mp0_0 : Nat} {wp0_0 : List (Str × SlD Str)} {K : Hp} {r : (List Str)}
    (hm : tags_Index_Tags x id = some r) (up0_0 : MS eS 1 K wp0_0 x.entries) :
    Fn Try.prog 21 [.pointer (some ⟨b0, 0, none⟩), str id] K [Cells b0 59 [.map (some mp0_0)], MapE strK vSl mp0_0 wp0_0] (fun v K' H' => ∃ ar_0 : Option Addr, ∃ cr_0 : Nat, v = .slice ar_0 r.length cr_0 ∧ (0 < r.length → Has ar_0) ∧ H' = [OwnL eS ar_0 9 1 cr_0 r, Cells b0 59 [.map (some mp0_0)], MapE strK vSl mp0_0 wp0_0]) := by
  refine Fn.enter Try.func21 Try.call21 rfl fun F => ?_
  unfold tags_Index_Tags at hm
  conv => whnf
  refine eq_ptr_nil rfl ?_
  conv => whnf
  refine cond_go rfl ?_
  conv => whnf
  refine cond_F ?_
  conv => whnf
  refine nil_check ?_
  conv => whnf
  refine field_addr rfl ?_
  conv => whnf
  refine RStep.of (load1_s r0 rfl rfl ?_)
  conv => whnf
  refine RStep.of (lookupS (kenc := strK) r1 rfl rfl (key_str rfl) up0_0 fun a12 c12 h12 => ?_)
  obtain ⟨x13, q13, hm⟩ := bnd hm
  conv => whnf
  refine call_fn (slices_Clone_string_ok q13 h12 rfl) .nil ?_
  rintro _ K13 _ l13 ⟨a13_0, c13_0, rfl, h13_0, rfl⟩
  obtain rfl := si hm
  conv => whnf
  refine EndStep.mk _ l13 ⟨a13_0, c13_0, rfl, h13_0, rfl⟩ (ConvH.of (.cons r0 (.cons r0 (.cons r0 (.cons r0 .nil)))))

noncomputable def base_Texts_L0 (b : (List Str)) : List Str → Nat → Option (Fl (Bool) (Unit))
  | [], _ => some (Fl.go ())
  | e0 :: xs0, i0 =>
    (ix b (i0 : Int)).bind fun x22 =>
    if decide (e0 ≠ x22) then
    some (Fl.ret false)
    else
    base_Texts_L0 b xs0 (i0 + 1)
noncomputable def base_Texts (a : (List Str)) (b : (List Str)) : Option (Bool) :=
  if decide ((a.length : Int) ≠ (b.length : Int)) then
  some false
  else
  (chk (a.length ≤ szMax)).bind fun _ =>
  (base_Texts_L0 b a 0).bind fun s0 => s0.el some fun t0 =>
  some true
set_option maxHeartbeats 8000000 in
theorem base_Texts_ok {a : (List Str)} {b : (List Str)} {ap0_0 : Option Addr} {cp0_0 : Nat} {n0 : Nat} {ap1_0 : Option Addr} {cp1_0 : Nat} {n1 : Nat} {K : Hp} {r : Bool}
    (hm : base_Texts a b = some r) (hp0_0 : RdC eS K ap0_0 cp0_0 1 a) (en0 : n0 = a.length) (hp1_0 : RdC eS K ap1_0 cp1_0 1 b) (en1 : n1 = b.length) :
    Fn Try.prog 13 [.slice ap0_0 n0 cp0_0, .slice ap1_0 n1 cp1_0] K [] (fun v K' H' => v = .bool r ∧ H' = []) := by
  subst en0
  subst en1
  refine Fn.enter Try.func13 Try.call13 rfl fun F => ?_
  unfold base_Texts at hm
  conv => whnf
  refine RStep.of (len_slice rfl ?_)
  conv => whnf
  refine RStep.of (len_slice rfl ?_)
  conv => whnf
  refine neq_int ?_
  conv => whnf
  refine cond_go rfl ?_
  conv => whnf
  refine cond_s (fun w10 => ?_) (fun w10 => ?_)
  · replace hm := ift w10 hm
    obtain rfl := si hm
    conv => whnf
    refine EndStep.mk _ (Hp.Le.refl _) ⟨rfl, rfl⟩ (ConvH.of (.cons r0 .nil))
  · replace hm := iff_ w10 hm
    conv => whnf
    refine RStep.of (len_slice rfl ?_)
    obtain ⟨hk0, hm⟩ := chkb hm
    obtain ⟨s0, hl0, hm⟩ := bnd hm
    conv => whnf
    refine code_cut (σ := (Unit)) [4, 5, 13, 14, 15, 16, 17, 18, 19, 20, 21, 22, 23, 24, 25] (fun t0 => []) (fun t0 => [F]) (fun zz K1 => match zz with | t0 => s0 = Fl.go t0) ?_ ?_
    · refine block_go rfl ?_
      conv => whnf
      refine loop_rule (σ := Nat) [4, 5, 13, 14, 15, 16, 17, 18, 19, 20, 21, 22, 23, 24, 25] (fun i0 => [(13, .int .i64 (i0 : Int))]) (fun i0 => [F]) (fun zz K1 => match zz with | i0 => base_Texts_L0 b (a.drop i0) i0 = some s0) (fun zz => a.length - zz) (0) rfl ⟨rfl, trivial⟩ (ConvH.of (.cons r0 .nil)) hl0 ?_
      clear hl0
      rintro i0 Kb0 lk0 hl0 j0
      conv at hl0 => whnf
      conv => whnf
      refine cond_go rfl ?_
      conv => whnf
      refine cond_s (fun w0 => ?_) (fun w0 => ?_)
      · obtain ⟨e0, hx0, hd0⟩ := ltx w0
        rw [hd0, base_Texts_L0.eq_2] at hl0
        conv => whnf
        refine block_go rfl ?_
        conv => whnf
        refine draw_go ⟨⟨[], false⟩, _, []⟩ (by kernel_rfl) ⟨Hp.Le.refl _, (ConvH.of .nil)⟩ ?_
        conv => whnf
        refine index_addr rfl rfl (hasK (hp0_0.mono lk0).rd hx0) (nn _) (lt_ofN hx0) ?_
        conv => whnf
        refine load_rd_l i0 0 _ _ (hp0_0.mono lk0).rd rfl (mp hx0) rfl rfl ?_
        obtain ⟨x22, l22, k22, hl0⟩ := ixb hl0
        conv => whnf
        refine index_addr rfl rfl (hasK (hp1_0.mono lk0).rd k22) l22 (lt_ofE rfl l22 k22) ?_
        conv => whnf
        refine load_rd_l (((i0 : Int)).toNat) 0 _ _ (hp1_0.mono lk0).rd rfl (mp k22) rfl rfl ?_
        conv => whnf
        refine neq_str ?_
        conv => whnf
        refine cond_go rfl ?_
        conv => whnf
        refine cond_s (fun w24 => ?_) (fun w24 => ?_)
        · replace hl0 := ift w24 hl0
          obtain rfl := si hl0
          replace hm := elr hm
          obtain rfl := si hm
          conv => whnf
          refine EndStep.mk _ lk0 ⟨rfl, rfl⟩ (ConvH.of (.cons r0 .nil))
        · replace hl0 := iff_ w24 hl0
          conv => whnf
          refine int_in (cntz hx0 hk0) ?_
          conv => whnf
          refine RoundStep.mk (i0 + 1) ⟨rfl, trivial⟩ (by repeat (first | exact trivial | refine And.intro rfl ?_)) (ConvH.of (.cons r0 .nil)) lk0 (ltm hx0) hl0
      · rw [lty w0, base_Texts_L0.eq_1] at hl0
        conv => whnf
        refine cond_T ?_
        conv => whnf
        refine MeetStep.mk (()) trivial (by repeat (first | exact trivial | refine And.intro rfl ?_)) (ConvH.of (.cons r0 .nil)) lk0 (si hl0).symm
    · rintro t0 Kt0 lt0 rfl j0
      replace hm := elg hm
      obtain rfl := si hm
      conv => whnf
      refine EndStep.mk _ lt0 ⟨rfl, rfl⟩ (ConvH.of (.cons r0 .nil))

noncomputable def base_Num (e : Err) : Option (Int) :=
  if e.isNone then
  some 0
  else
  if (!e.isSome) then
  some (-1)
  else
  some (e.getD 0)
set_option maxHeartbeats 8000000 in
theorem base_Num_ok {e : Err} {K : Hp} {r : Int}
    (hm : base_Num e = some r)  :
    Fn Try.prog 25 [errV 46 e] K [] (fun v K' H' => v = .int .i64 r ∧ H' = []) := by
  refine Fn.enter Try.func25 Try.call25 rfl fun F => ?_
  unfold base_Num at hm
  conv => whnf
  refine eq_err rfl ?_
  conv => whnf
  refine cond_go rfl ?_
  conv => whnf
  refine cond_s (fun w6 => ?_) (fun w6 => ?_)
  · replace hm := ift w6 hm
    obtain rfl := si hm
    conv => whnf
    refine EndStep.mk _ (Hp.Le.refl _) ⟨rfl, rfl⟩ (ConvH.of (.cons r0 .nil))
  · replace hm := iff_ w6 hm
    conv => whnf
    refine asrt rfl rfl rfl ?_
    conv => whnf
    refine un_not ?_
    conv => whnf
    refine cond_go rfl ?_
    conv => whnf
    refine cond_s (fun w13 => ?_) (fun w13 => ?_)
    · replace hm := ift (not_t (ni_t w13)) hm
      obtain rfl := si hm
      conv => whnf
      refine EndStep.mk _ (Hp.Le.refl _) ⟨rfl, rfl⟩ (ConvH.of (.cons r0 .nil))
    · replace hm := iff_ (not_f (ni_f w13)) hm
      obtain rfl := si hm
      conv => whnf
      refine EndStep.mk _ (Hp.Le.refl _) ⟨rfl, rfl⟩ (ConvH.of (.cons r0 .nil))

noncomputable def base_Is (e : Err) (want : Int) : Option (Bool) :=
  (base_Num e).bind fun x6 =>
  some (decide (x6 = want) && decide (want ≠ 0))
set_option maxHeartbeats 8000000 in
theorem base_Is_ok {e : Err} {want : Int} {K : Hp} {r : Bool}
    (hm : base_Is e want = some r)  :
    Fn Try.prog 22 [errV 46 e, .int .i64 want] K [] (fun v K' H' => v = .bool r ∧ H' = []) := by
  refine Fn.enter Try.func22 Try.call22 rfl fun F => ?_
  unfold base_Is at hm
  obtain ⟨x6, q6, hm⟩ := bnd hm
  conv => whnf
  refine call_fn (base_Num_ok q6) .nil ?_
  rintro _ K6 _ l6 ⟨rfl, rfl⟩
  conv => whnf
  refine eq_int ?_
  conv => whnf
  refine cond_s (fun g9_1 => ?_) (fun g9_1 => ?_)
  · conv => whnf
    refine cond_t g9_1 ?_
    conv => whnf
    refine neq_int ?_
    conv => whnf
    refine cond_t g9_1 ?_
    obtain rfl := si hm
    conv => whnf
    refine EndStep.mk _ l6 ⟨(by rw [← (and_e (b := decide (want ≠ 0)) g9_1)] <;> rfl), rfl⟩ (ConvH.of (.cons r0 .nil))
  · conv => whnf
    refine cond_f g9_1 ?_
    conv => whnf
    refine cond_f g9_1 ?_
    obtain rfl := si hm
    conv => whnf
    refine EndStep.mk _ l6 ⟨(by rw [← ((and_f g9_1)).symm] <;> rfl), rfl⟩ (ConvH.of (.cons r0 .nil))

noncomputable def ref35_Has_L0 (l : (List Str)) (s : Str) : Nat → Int → Option (Fl (Bool) (Int))
  | 0, _ => none
  | xs0 + 1, y0_0 =>
    if decide (y0_0 < (l.length : Int)) then
    (ix l y0_0).bind fun x14 =>
    if decide (x14 = s) then
    some (Fl.ret true)
    else
    (chk (InI (y0_0 + 1))).bind fun _ =>
    ref35_Has_L0 l s xs0 (y0_0 + 1)
    else
    some (Fl.go y0_0)
noncomputable def ref35_Has (n : Nat) (l : (List Str)) (s : Str) : Option (Bool) :=
  (ref35_Has_L0 l s n 0).bind fun s0 => s0.el some fun t0 =>
  some false
set_option maxHeartbeats 8000000 in
theorem ref35_Has_ok {n : Nat} {l : (List Str)} {s : Str} {ap0_0 : Option Addr} {cp0_0 : Nat} {n0 : Nat} {K : Hp} {r : Bool}
    (hm : ref35_Has n l s = some r) (hp0_0 : RdC eS K ap0_0 cp0_0 1 l) (en0 : n0 = l.length) :
    Fn Try.prog 20 [.slice ap0_0 n0 cp0_0, str s] K [] (fun v K' H' => v = .bool r ∧ H' = []) := by
  subst en0
  refine Fn.enter Try.func20 Try.call20 rfl fun F => ?_
  unfold ref35_Has at hm
  obtain ⟨s0, hl0, hm⟩ := bnd hm
  conv => whnf
  refine code_cut (σ := (Int)) [4, 5, 6, 7, 8, 9, 10, 11, 12, 13, 14, 15, 16, 17] (fun t0 => [(5, .int .i64 t0)]) (fun t0 => [F]) (fun zz K1 => match zz with | t0 => s0 = Fl.go t0) ?_ ?_
  · refine block_go rfl ?_
    conv => whnf
    refine loop_rule (σ := Nat × Int) [4, 5, 6, 7, 8, 9, 10, 11, 12, 13, 14, 15, 16, 17] (fun (i0, y0_0) => [(5, .int .i64 y0_0)]) (fun (i0, y0_0) => [F]) (fun zz K1 => match zz with | (i0, y0_0) => ref35_Has_L0 l s i0 y0_0 = some s0) (fun zz => zz.1) (n, 0) rfl ⟨rfl, trivial⟩ (ConvH.of (.cons r0 .nil)) hl0 ?_
    clear hl0
    rintro ⟨i0, y0_0⟩ Kb0 lk0 hl0 j0
    conv at hl0 => whnf
    cases i0 with
    | zero => rw [ref35_Has_L0.eq_1] at hl0; cases hl0
    | succ i0 =>
      rw [ref35_Has_L0.eq_2] at hl0
      conv => whnf
      refine RStep.of (len_slice rfl ?_)
      conv => whnf
      refine cond_go rfl ?_
      conv => whnf
      refine cond_s (fun w9 => ?_) (fun w9 => ?_)
      · replace hl0 := ift w9 hl0
        conv => whnf
        refine block_go rfl ?_
        obtain ⟨x14, l14, k14, hl0⟩ := ixb hl0
        conv => whnf
        refine RStep.ofN (index_addr rfl rfl (hasK (hp0_0.mono lk0).rd k14) l14 (lt_ofE rfl l14 k14) ?_)
        conv => whnf
        refine RStep.of (load_rd ((y0_0).toNat) 0 _ _ (hp0_0.mono lk0).rd rfl (mp k14) rfl rfl ?_)
        conv => whnf
        refine eq_str ?_
        conv => whnf
        refine cond_go rfl ?_
        conv => whnf
        refine cond_s (fun w17 => ?_) (fun w17 => ?_)
        · replace hl0 := ift w17 hl0
          obtain rfl := si hl0
          replace hm := elr hm
          obtain rfl := si hm
          conv => whnf
          refine EndStep.mk _ lk0 ⟨rfl, rfl⟩ (ConvH.of (.cons r0 .nil))
        · replace hl0 := iff_ w17 hl0
          obtain ⟨h11, hl0⟩ := chkb hl0
          conv => whnf
          refine int_in h11 ?_
          conv => whnf
          refine RoundStep.mk (i0, (y0_0 + 1)) ⟨rfl, trivial⟩ (by repeat (first | exact trivial | refine And.intro rfl ?_)) (ConvH.of (.cons r0 .nil)) lk0 (Nat.lt_succ_self _) hl0
      · replace hl0 := iff_ w9 hl0
        conv => whnf
        refine cond_T ?_
        conv => whnf
        refine MeetStep.mk (y0_0) ⟨rfl, trivial⟩ (by repeat (first | exact trivial | refine And.intro rfl ?_)) (ConvH.of (.cons r0 .nil)) lk0 (si hl0).symm
  · rintro t0 Kt0 lt0 rfl j0
    replace hm := elg hm
    obtain rfl := si hm
    conv => whnf
    refine EndStep.mk _ lt0 ⟨rfl, rfl⟩ (ConvH.of (.cons r0 .nil))

noncomputable def tags_Index_Remove (x : S_tags_Index) (id : Str) : Option (Bool × S_tags_Index) :=
  some ((mget x.entries id).isSome, (⟨(mdel x.entries id)⟩ : S_tags_Index))
set_option maxHeartbeats 8000000 in
theorem tags_Index_Remove_ok {x : S_tags_Index} {id : Str} {b0 : Nat} {mp0_0 : Nat} {wp0_0 : List (Str × SlD Str)} {K : Hp} {r : Bool × S_tags_Index}
    (hm : tags_Index_Remove x id = some r) (up0_0 : MS eS 1 K wp0_0 x.entries) :
    Fn Try.prog 17 [.pointer (some ⟨b0, 0, none⟩), str id] K [Cells b0 59 [.map (some mp0_0)], MapE strK vSl mp0_0 wp0_0] (fun v K' H' => ∃ mr_0 : Nat, ∃ wr_0 : List (Str × SlD Str), v = .bool r.1 ∧ MS eS 1 K' wr_0 r.2.entries ∧ H' = [Cells b0 59 [.map (some mr_0)], MapE strK vSl mr_0 wr_0]) := by
  refine Fn.enter Try.func17 Try.call17 rfl fun F => ?_
  unfold tags_Index_Remove at hm
  conv => whnf
  refine eq_ptr_nil rfl ?_
  conv => whnf
  refine cond_go rfl ?_
  conv => whnf
  refine cond_F ?_
  conv => whnf
  refine nil_check ?_
  conv => whnf
  refine field_addr rfl ?_
  conv => whnf
  refine RStep.of (load1_s r0 rfl rfl ?_)
  conv => whnf
  refine RStep.of (lookupS_ok (kenc := strK) r1 rfl rfl (key_str rfl) up0_0 fun a15 c15 h15 => ?_)
  conv => whnf
  refine nil_check ?_
  conv => whnf
  refine field_addr rfl ?_
  conv => whnf
  refine RStep.of (load1_s r0 rfl rfl ?_)
  conv => whnf
  refine delete_rule (kenc := strK) (venc := vSl) r1 rfl rfl (key_str rfl) ?_
  obtain rfl := si hm
  conv => whnf
  refine EndStep.mk _ (Hp.Le.refl _) ⟨mp0_0, (mdel wp0_0 id), rfl, (MS.del up0_0 id), rfl⟩ (ConvH.of (.cons r1 (.cons r0 (.cons r0 .nil))))

noncomputable def law35_TagsPuts_L0 (acts : (List S_law35_Act)) : Nat → Int → S_tags_Index → Option (Int × S_tags_Index)
  | 0, _, _ => none
  | xs0 + 1, y0_0, y0_1 =>
    if decide (y0_0 < (acts.length : Int)) then
    (ix acts y0_0).bind fun x39 =>
    (ix acts y0_0).bind fun x44 =>
    (tags_Index_Put y0_1 x39.ID x44.Tags).bind fun x47 =>
    (chk (InI (y0_0 + 1))).bind fun _ =>
    law35_TagsPuts_L0 acts xs0 (y0_0 + 1) x47.2
    else
    some (y0_0, y0_1)
noncomputable def law35_TagsPuts_L2 (x49 : (List Str)) (t0 : Int × S_tags_Index) : Nat → (List (List Str)) → Int → Option ((List (List Str)) × Int)
  | 0, _, _ => none
  | xs2 + 1, y2_0, y2_1 =>
    if decide (y2_1 < (x49.length : Int)) then
    (ix x49 y2_1).bind fun x60 =>
    (tags_Index_Tags t0.2 x60).bind fun x62 =>
    (chk (y2_0.length + [x62].length ≤ lim)).bind fun _ =>
    (chk (InI (y2_1 + 1))).bind fun _ =>
    law35_TagsPuts_L2 x49 t0 xs2 (y2_0 ++ [x62]) (y2_1 + 1)
    else
    some (y2_0, y2_1)
noncomputable def law35_TagsPuts_L4 (x49 : (List Str)) (a : S_law35_Act) (x70 : Err × S_tags_Index) (t2 : (List (List Str)) × Int) : Nat → Int → Option (Fl (Bool) (Int))
  | 0, _ => none
  | xs4 + 1, y4_0 =>
    if decide (y4_0 < (x49.length : Int)) then
    (ix x49 y4_0).bind fun x79 =>
    (if (decide (x79 ≠ a.ID) || x70.1.isSome) then (ix x49 y4_0).bind fun x92 =>
    (tags_Index_Tags x70.2 x92).bind fun x94 =>
    (ix t2.1 y4_0).bind fun x97 =>
    (base_Texts x94 x97).bind fun x99 =>
    some (!x99) else some false).bind fun x101 =>
    if x101 then
    some (Fl.ret false)
    else
    (chk (InI (y4_0 + 1))).bind fun _ =>
    law35_TagsPuts_L4 x49 a x70 t2 xs4 (y4_0 + 1)
    else
    some (Fl.go y4_0)
noncomputable def law35_TagsPuts_L6 (a : S_law35_Act) (n : Nat) (x125 : (List Str)) : Nat → Int → Option (Fl (Bool) (Int))
  | 0, _ => none
  | xs6 + 1, y6_0 =>
    if decide (y6_0 < (a.Tags.length : Int)) then
    (ix a.Tags y6_0).bind fun x137 =>
    (ref35_Has n x125 x137).bind fun x139 =>
    if (!x139) then
    some (Fl.ret false)
    else
    (chk (InI (y6_0 + 1))).bind fun _ =>
    law35_TagsPuts_L6 a n x125 xs6 (y6_0 + 1)
    else
    some (Fl.go y6_0)
noncomputable def law35_TagsPuts_L8 (x125 : (List Str)) (n : Nat) (a : S_law35_Act) : Nat → Int → Option (Fl (Bool) (Int))
  | 0, _ => none
  | xs8 + 1, y8_0 =>
    if decide (y8_0 < (x125.length : Int)) then
    (ix x125 y8_0).bind fun x151 =>
    (ref35_Has n a.Tags x151).bind fun x153 =>
    if (!x153) then
    some (Fl.ret false)
    else
    (chk (InI (y8_0 + 1))).bind fun _ =>
    law35_TagsPuts_L8 x125 n a xs8 (y8_0 + 1)
    else
    some (Fl.go y8_0)
noncomputable def law35_TagsPuts (n : Nat) (acts : (List S_law35_Act)) (a : S_law35_Act) : Option (Bool) :=
  (law35_awake).bind fun x15 =>
  (if (!x15) then some true else (law35_fits n acts).bind fun x19 =>
  some (!x19)).bind fun x21 =>
  (if x21 then some true else (law35_fits n [a]).bind fun x25 =>
  some (!x25)).bind fun x27 =>
  if x27 then
  (law35_awake).bind fun x28 =>
  some x28
  else
  (tags_New).bind fun x29 =>
  (law35_TagsPuts_L0 acts n 0 x29).bind fun t0 =>
  (tags_Index_IDs t0.2).bind fun x49 =>
  (law35_TagsPuts_L2 x49 t0 n [] 0).bind fun t2 =>
  (tags_Index_Put t0.2 a.ID a.Tags).bind fun x70 =>
  (law35_TagsPuts_L4 x49 a x70 t2 n 0).bind fun s4 => s4.el some fun t4 =>
  if x70.1.isSome then
  (base_Is x70.1 5).bind fun x105 =>
  (if (x105 && decide ((a.Tags.length : Int) > 16)) then some true else (base_Is x70.1 2).bind fun x114 =>
  some x114).bind fun x115 =>
  (if x115 then (tags_Index_IDs x70.2).bind fun x118 =>
  (base_Texts x118 x49).bind fun x120 =>
  some x120 else some false).bind fun x121 =>
  some x121
  else
  (tags_Index_Tags x70.2 a.ID).bind fun x125 =>
  (law35_TagsPuts_L6 a n x125 n 0).bind fun s6 => s6.el some fun t6 =>
  (law35_TagsPuts_L8 x125 n a n 0).bind fun s8 => s8.el some fun t8 =>
  (tags_Index_Remove x70.2 a.ID).bind fun x158 =>
  if x158.1 then
  (tags_Index_Remove x158.2 a.ID).bind fun x163 =>
  (if (!x163.1) then (tags_Index_Tags x163.2 a.ID).bind fun x170 =>
  some (decide ((x170.length : Int) = 0)) else some false).bind fun x173 =>
  (if x173 then (tags_Index_IDs x163.2).bind fun x176 =>
  (ref35_Has n x176 a.ID).bind fun x179 =>
  some (!x179) else some false).bind fun x181 =>
  some x181
  else
  some false
set_option maxHeartbeats 8000000 in
theorem law35_TagsPuts_ok {n : Nat} {acts : (List S_law35_Act)} {a : S_law35_Act} {ap0_0 : Option Addr} {cp0_0 : Nat} {n0 : Nat} {ap1_0 : Option Addr} {cp1_0 : Nat} {K : Hp} {r : Bool}
    (hm : law35_TagsPuts n acts a = some r) (hp0_0 : LiC S_law35_Act.R K ap0_0 cp0_0 3 acts) (en0 : n0 = acts.length) (hp1_0 : RdC eS K ap1_0 cp1_0 1 a.Tags) :
    Fn Try.prog 5 [.slice ap0_0 n0 cp0_0, .agg #[.bool a.Remove, str a.ID, .slice ap1_0 a.Tags.length cp1_0]] K [] (fun v K' H' => v = .bool r ∧ H' = []) := by
  subst en0
  refine Fn.enter Try.func5 Try.call5 rfl fun F => ?_
  unfold law35_TagsPuts at hm
  conv => whnf
  refine box_rule ?_
  intro b3
  obtain ⟨x15, q15, hm⟩ := bnd hm
  conv => whnf
  refine call_fn (law35_awake_ok q15) .nil ?_
  rintro _ K15 _ l15 ⟨rfl, rfl⟩
  conv => whnf
  refine un_not ?_
  obtain ⟨x21, e21, hm⟩ := bnd hm
  conv => whnf
  refine cond_s (fun g17_1 => ?_) (fun g17_1 => ?_)
  · replace e21 := ift (not_t (ni_t g17_1)) e21
    conv => whnf
    refine cond_t g17_1 ?_
    conv => whnf
    refine cond_t g17_1 ?_
    conv => whnf
    refine cond_t g17_1 ?_
    obtain ⟨x27, e27, hm⟩ := bnd hm
    replace e27 := ift (si e21).symm e27
    conv => whnf
    refine cond_T ?_
    conv => whnf
    refine cond_T ?_
    conv => whnf
    refine cond_T ?_
    conv => whnf
    refine cond_T ?_
    conv => whnf
    refine cond_T ?_
    conv => whnf
    refine cond_go rfl ?_
    conv => whnf
    refine cond_T ?_
    replace hm := ift (si e27).symm hm
    obtain ⟨x28, q28, hm⟩ := bnd hm
    conv => whnf
    refine call_fn (law35_awake_ok q28) .nil ?_
    rintro _ K28 _ l28 ⟨rfl, rfl⟩
    obtain rfl := si hm
    conv => whnf
    refine EndStep.mk _ (l15.trans l28) ⟨rfl, rfl⟩ (ConvH.of (.cons r1 .nil))
  · replace e21 := iff_ (not_f (ni_f g17_1)) e21
    conv => whnf
    refine cond_f g17_1 ?_
    obtain ⟨x19, q19, e21⟩ := bnd e21
    conv => whnf
    refine call_fn (law35_fits_ok q19 (LiC.mono S_law35_Act.R_ok l15 hp0_0) rfl) .nil ?_
    rintro _ K19 _ l19 ⟨rfl, rfl⟩
    conv => whnf
    refine cond_f g17_1 ?_
    conv => whnf
    refine un_not ?_
    conv => whnf
    refine cond_f g17_1 ?_
    obtain ⟨x27, e27, hm⟩ := bnd hm
    conv => whnf
    refine cond_s (fun g22_1 => ?_) (fun g22_1 => ?_)
    · replace e27 := ift ((si e21).symm.trans (not_t (ni_t g22_1))) e27
      conv => whnf
      refine cond_t g22_1 ?_
      conv => whnf
      refine cond_t g22_1 ?_
      conv => whnf
      refine cond_t g22_1 ?_
      conv => whnf
      refine cond_t g22_1 ?_
      conv => whnf
      refine cond_go rfl ?_
      conv => whnf
      refine cond_T ?_
      replace hm := ift (si e27).symm hm
      obtain ⟨x28, q28, hm⟩ := bnd hm
      conv => whnf
      refine call_fn (law35_awake_ok q28) .nil ?_
      rintro _ K28 _ l28 ⟨rfl, rfl⟩
      obtain rfl := si hm
      conv => whnf
      refine EndStep.mk _ ((l15.trans l19).trans l28) ⟨rfl, rfl⟩ (ConvH.of (.cons r1 .nil))
    · replace e27 := iff_ ((si e21).symm.trans (not_f (ni_f g22_1))) e27
      conv => whnf
      refine RStep.of (loadn_s r0 rfl (Nat.le_of_ble_eq_true rfl) ?_)
      conv => whnf
      refine cond_f g22_1 ?_
      conv => whnf
      refine bsOR (len := 1) (l := [a]) (css := [[.bool a.Remove, str a.ID, .slice ap1_0 a.Tags.length cp1_0]]) (cl := [.bool a.Remove, str a.ID, .slice ap1_0 a.Tags.length cp1_0]) S_law35_Act.R_ok elT22 rfl rfl (LR.snoc LR.nil ⟨ap1_0, cp1_0, rfl, (hp1_0.mono (l15.trans l19))⟩) rfl rfl rfl ?_ fun b24 => ?_
      · conv => whnf
        refine cond_T ?_
        conv => whnf
        first | done | rfl
      conv => whnf
      refine cond_f g22_1 ?_
      obtain ⟨x25, q25, e27⟩ := bnd e27
      conv => whnf
      refine call_fn (Fn.lendR S_law35_Act.R_ok (show LR S_law35_Act.R _ [[.bool a.Remove, str a.ID, .slice ap1_0 a.Tags.length cp1_0]] [a] from (LR.snoc LR.nil ⟨ap1_0, cp1_0, rfl, (hp1_0.mono (l15.trans l19))⟩)) Try.call10 (fun K25_0 l25_0 f25_0 => (law35_fits_ok q25 f25_0 rfl)) (by exact fun _ _ _ _ h => h)) (.cons r0 .nil) ?_
      rintro _ K25 _ l25 ⟨_, rfl, rfl, rfl⟩
      conv => whnf
      refine cond_f g22_1 ?_
      conv => whnf
      refine un_not ?_
      conv => whnf
      refine cond_f g22_1 ?_
      conv => whnf
      refine cond_go rfl ?_
      conv => whnf
      refine cond_s (fun w27 => ?_) (fun w27 => ?_)
      · replace hm := ift ((si e27).symm.trans (not_t (ni_t w27))) hm
        obtain ⟨x28, q28, hm⟩ := bnd hm
        conv => whnf
        refine call_fn (law35_awake_ok q28) .nil ?_
        rintro _ K28 _ l28 ⟨rfl, rfl⟩
        obtain rfl := si hm
        conv => whnf
        refine EndStep.mk _ (((l15.trans l19).trans l25).trans l28) ⟨rfl, rfl⟩ (ConvH.of (.cons r2 .nil))
      · replace hm := iff_ ((si e27).symm.trans (not_f (ni_f w27))) hm
        obtain ⟨x29, q29, hm⟩ := bnd hm
        conv => whnf
        refine call_fn (tags_New_ok q29) .nil ?_
        rintro _ K29 _ l29 ⟨b29_0, m29_1, w29_1, rfl, u29_1, rfl⟩
        obtain ⟨s0, hl0, hm⟩ := bnd hm
        conv => whnf
        refine code_cut (σ := (Int × S_tags_Index) × Nat × List (Str × SlD Str)) [6, 30, 31, 32, 33, 34, 35, 36, 37, 38, 39, 40, 41, 42, 43, 44, 45, 46, 47] (fun (t0, mt0_1_0, wt0_1_0) => [(6, .int .i64 t0.1)]) (fun (t0, mt0_1_0, wt0_1_0) => [Cells b29_0 59 [.map (some mt0_1_0)], MapE strK vSl mt0_1_0 wt0_1_0, OwnA (some ⟨b24, 0, none⟩) 35 3 1 ([[.bool a.Remove, str a.ID, .slice ap1_0 a.Tags.length cp1_0]]), Cells b3 35 [.bool a.Remove, str a.ID, .slice ap1_0 a.Tags.length cp1_0], F]) (fun zz K1 => match zz with | (t0, mt0_1_0, wt0_1_0) => MS eS 1 K1 wt0_1_0 t0.2.entries ∧ t0 = s0) ?_ ?_
        · refine block_go rfl ?_
          conv => whnf
          refine loop_rule (σ := Nat × Int × S_tags_Index × Nat × List (Str × SlD Str)) [6, 30, 31, 32, 33, 34, 35, 36, 37, 38, 39, 40, 41, 42, 43, 44, 45, 46, 47] (fun (i0, y0_0, y0_1, my0_1_0, wy0_1_0) => [(6, .int .i64 y0_0)]) (fun (i0, y0_0, y0_1, my0_1_0, wy0_1_0) => [Cells b29_0 59 [.map (some my0_1_0)], MapE strK vSl my0_1_0 wy0_1_0, OwnA (some ⟨b24, 0, none⟩) 35 3 1 ([[.bool a.Remove, str a.ID, .slice ap1_0 a.Tags.length cp1_0]]), Cells b3 35 [.bool a.Remove, str a.ID, .slice ap1_0 a.Tags.length cp1_0], F]) (fun zz K1 => match zz with | (i0, y0_0, y0_1, my0_1_0, wy0_1_0) => MS eS 1 K1 wy0_1_0 y0_1.entries ∧ law35_TagsPuts_L0 acts i0 y0_0 y0_1 = some s0) (fun zz => zz.1) (n, 0, x29, m29_1, w29_1) rfl ⟨rfl, trivial⟩ (ConvH.of (.cons r0 (.cons r0 (.cons r0 (.cons r0 (.cons r0 .nil)))))) ⟨u29_1, hl0⟩ ?_
          clear hl0
          rintro ⟨i0, y0_0, y0_1, my0_1_0, wy0_1_0⟩ Kb0 lk0 ⟨uy0_1_0, hl0⟩ j0
          cases i0 with
          | zero => rw [law35_TagsPuts_L0.eq_1] at hl0; cases hl0
          | succ i0 =>
            rw [law35_TagsPuts_L0.eq_2] at hl0
            conv => whnf
            refine RStep.of (len_slice rfl ?_)
            conv => whnf
            refine cond_go rfl ?_
            conv => whnf
            refine cond_s (fun w33 => ?_) (fun w33 => ?_)
            · replace hl0 := ift w33 hl0
              conv => whnf
              refine block_go rfl ?_
              conv => whnf
              refine draw_go ⟨⟨[], false⟩, _, []⟩ (by kernel_rfl) ⟨Hp.Le.refl _, (ConvH.of .nil)⟩ ?_
              obtain ⟨x39, l39, k39, hl0⟩ := ixb hl0
              conv => whnf
              refine index_addr rfl rfl (hasR (LiC.mono S_law35_Act.R_ok ((((l15.trans l19).trans l25).trans l29).trans lk0) hp0_0).rd k39) l39 (lt_ofE rfl l39 k39) ?_
              conv => whnf
              refine eptr_field rfl (hasR (LiC.mono S_law35_Act.R_ok ((((l15.trans l19).trans l25).trans l29).trans lk0) hp0_0).rd k39) ?_
              obtain ⟨ss41, cc41, hr41, hc41, hR41⟩ := LiR.get (LiC.mono S_law35_Act.R_ok ((((l15.trans l19).trans l25).trans l29).trans lk0) hp0_0).rd k39
              obtain ⟨a41_0, c41_0, rfl, h41_0⟩ := hR41
              conv => whnf
              refine load_rd_l ((y0_0).toNat) 1 _ _ hr41 rfl hc41 rfl rfl ?_
              obtain ⟨x44, l44, k44, hl0⟩ := ixb hl0
              conv => whnf
              refine index_addr rfl rfl (hasR (LiC.mono S_law35_Act.R_ok ((((l15.trans l19).trans l25).trans l29).trans lk0) hp0_0).rd k44) l44 (lt_ofE rfl l44 k44) ?_
              conv => whnf
              refine eptr_field rfl (hasR (LiC.mono S_law35_Act.R_ok ((((l15.trans l19).trans l25).trans l29).trans lk0) hp0_0).rd k44) ?_
              obtain ⟨ss46, cc46, hr46, hc46, hR46⟩ := LiR.get (LiC.mono S_law35_Act.R_ok ((((l15.trans l19).trans l25).trans l29).trans lk0) hp0_0).rd k44
              obtain ⟨a46_0, c46_0, rfl, h46_0⟩ := hR46
              conv => whnf
              refine load_rd_l ((y0_0).toNat) 2 _ _ hr46 rfl hc46 rfl rfl ?_
              obtain ⟨x47, q47, hl0⟩ := bnd hl0
              conv => whnf
              refine call_fn (tags_Index_Put_ok q47 uy0_1_0 h46_0 rfl) (.cons r0 (.cons r0 .nil)) ?_
              rintro _ K47 _ l47 ⟨m47_0, w47_0, rfl, u47_0, rfl⟩
              conv => whnf
              refine ⟨⟨l47, (ConvH.of .nil)⟩, ?_⟩
              obtain ⟨h35, hl0⟩ := chkb hl0
              conv => whnf
              refine int_in h35 ?_
              conv => whnf
              refine RoundStep.mk (i0, (y0_0 + 1), x47.2, m47_0, w47_0) ⟨rfl, trivial⟩ (by repeat (first | exact trivial | refine And.intro rfl ?_)) (ConvH.of (.cons r0 (.cons r0 (.cons r0 (.cons r0 (.cons r0 .nil)))))) (lk0.trans l47) (Nat.lt_succ_self _) ⟨u47_0, hl0⟩
            · replace hl0 := iff_ w33 hl0
              conv => whnf
              refine cond_T ?_
              conv => whnf
              refine MeetStep.mk ((y0_0, y0_1), my0_1_0, wy0_1_0) ⟨rfl, trivial⟩ (by repeat (first | exact trivial | refine And.intro rfl ?_)) (ConvH.of (.cons r0 (.cons r0 (.cons r0 (.cons r0 (.cons r0 .nil)))))) lk0 ⟨uy0_1_0, (si hl0)⟩
        · rintro ⟨t0, mt0_1_0, wt0_1_0⟩ Kt0 lt0 ⟨ut0_1_0, rfl⟩ j0
          obtain ⟨x49, q49, hm⟩ := bnd hm
          conv => whnf
          refine call_fn (tags_Index_IDs_ok q49 ut0_1_0) (.cons r0 (.cons r0 .nil)) ?_
          rintro _ K49 _ l49 ⟨a49_0, c49_0, rfl, h49_0, rfl⟩
          obtain ⟨s2, hl2, hm⟩ := bnd hm
          conv => whnf
          refine nilC (fun _ : (List Str) => []) 31 1 ?_
          refine code_cut (σ := ((List (List Str)) × Int) × Option Addr × Nat × List (List Value)) [7, 9, 50, 51, 52, 53, 54, 55, 56, 57, 58, 59, 60, 61, 62, 63, 64] (fun (t2, t2_a0, t2_c0, t2_s0) => [(7, .slice t2_a0 t2.1.length t2_c0), (9, .int .i64 t2.2)]) (fun (t2, t2_a0, t2_c0, t2_s0) => [OwnA t2_a0 31 1 t2_c0 t2_s0, OwnL eS a49_0 9 1 c49_0 x49, Cells b29_0 59 [.map (some mt0_1_0)], MapE strK vSl mt0_1_0 wt0_1_0, OwnA (some ⟨b24, 0, none⟩) 35 3 1 ([[.bool a.Remove, str a.ID, .slice ap1_0 a.Tags.length cp1_0]]), Cells b3 35 [.bool a.Remove, str a.ID, .slice ap1_0 a.Tags.length cp1_0], F]) (fun zz K1 => match zz with | (t2, t2_a0, t2_c0, t2_s0) => LR (sliL eS 1) K1 t2_s0 t2.1 ∧ (0 < t2.1.length → Has t2_a0) ∧ t2 = s2) ?_ ?_
          · refine block_go rfl ?_
            conv => whnf
            refine loop_rule (σ := Nat × (List (List Str)) × Int × Option Addr × Nat × List (List Value)) [7, 9, 50, 51, 52, 53, 54, 55, 56, 57, 58, 59, 60, 61, 62, 63, 64] (fun (i2, y2_0, y2_1, y2_a0, y2_c0, y2_s0) => [(7, .slice y2_a0 y2_0.length y2_c0), (9, .int .i64 y2_1)]) (fun (i2, y2_0, y2_1, y2_a0, y2_c0, y2_s0) => [OwnA y2_a0 31 1 y2_c0 y2_s0, OwnL eS a49_0 9 1 c49_0 x49, Cells b29_0 59 [.map (some mt0_1_0)], MapE strK vSl mt0_1_0 wt0_1_0, OwnA (some ⟨b24, 0, none⟩) 35 3 1 ([[.bool a.Remove, str a.ID, .slice ap1_0 a.Tags.length cp1_0]]), Cells b3 35 [.bool a.Remove, str a.ID, .slice ap1_0 a.Tags.length cp1_0], F]) (fun zz K1 => match zz with | (i2, y2_0, y2_1, y2_a0, y2_c0, y2_s0) => LR (sliL eS 1) K1 y2_s0 y2_0 ∧ (0 < y2_0.length → Has y2_a0) ∧ law35_TagsPuts_L2 x49 t0 i2 y2_0 y2_1 = some s2) (fun zz => zz.1) (n, [], 0, none, 0, []) rfl ⟨rfl, rfl, trivial⟩ (ConvH.of (.cons r0 (.cons r0 (.cons r0 (.cons r0 (.cons r0 (.cons r0 (.cons r0 .nil)))))))) ⟨LR.nil, (fun h => by simp at h), hl2⟩ ?_
            clear hl2
            rintro ⟨i2, y2_0, y2_1, y2_a0, y2_c0, y2_s0⟩ Kb2 lk2 ⟨y2_r0, y2_h0, hl2⟩ j2
            cases i2 with
            | zero => rw [law35_TagsPuts_L2.eq_1] at hl2; cases hl2
            | succ i2 =>
              rw [law35_TagsPuts_L2.eq_2] at hl2
              conv => whnf
              refine RStep.of (len_slice rfl ?_)
              conv => whnf
              refine cond_go rfl ?_
              conv => whnf
              refine cond_s (fun w53 => ?_) (fun w53 => ?_)
              · replace hl2 := ift w53 hl2
                conv => whnf
                refine block_go rfl ?_
                obtain ⟨x60, l60, k60, hl2⟩ := ixb hl2
                conv => whnf
                refine RStep.ofN (index_addr rfl rfl (hasO h49_0 k60) l60 (lt_ofE rfl l60 k60) ?_)
                conv => whnf
                refine RStep.of (ld_own (i := (y2_1).toNat) (o := 0) r1 rfl k60 rfl rfl ?_)
                obtain ⟨x62, q62, hl2⟩ := bnd hl2
                conv => whnf
                refine call_fn (tags_Index_Tags_ok q62 (ut0_1_0.mono (l49.trans lk2))) (.cons r2 (.cons r2 .nil)) ?_
                rintro _ K62 _ l62 ⟨a62_0, c62_0, rfl, h62_0, rfl⟩
                conv => whnf
                refine fW r0 fun Kf63_0_0 lf63_0_0 ff63_0_0 => ?_
                refine bsOR (len := 1) (l := [x62]) (css := [[.slice a62_0 x62.length c62_0]]) (cl := [.slice a62_0 x62.length c62_0]) sliL_ok elT44 rfl rfl (LR.snoc LR.nil ⟨a62_0, c62_0, rfl, ff63_0_0⟩) rfl rfl rfl ?_ fun b63 => ?_
                · conv => whnf
                  refine cond_T ?_
                  conv => whnf
                  first | done | rfl
                obtain ⟨h64, hl2⟩ := chkb hl2
                conv => whnf
                refine apRl r3 (LR.mono sliL_ok (l62.trans lf63_0_0) y2_r0) rfl elT44 (src_ownR rfl r0 rfl sliL_ok (show LR (sliL eS 1) _ [[.slice a62_0 x62.length c62_0]] [x62] from (LR.snoc LR.nil ⟨a62_0, c62_0, rfl, ff63_0_0⟩))) (show LR (sliL eS 1) _ [[.slice a62_0 x62.length c62_0]] [x62] from (LR.snoc LR.nil ⟨a62_0, c62_0, rfl, ff63_0_0⟩)) h64 ?_
                intro a64 c64 s64 r_64 o64
                obtain ⟨h55, hl2⟩ := chkb hl2
                conv => whnf
                refine int_in h55 ?_
                conv => whnf
                refine RoundStep.mk (i2, (y2_0 ++ [x62]), (y2_1 + 1), a64, c64, s64) ⟨rfl, rfl, trivial⟩ (by repeat (first | exact trivial | refine And.intro rfl ?_)) (ConvH.of (.cons r0 (.cons r3 (.cons r1 (.cons r1 (.cons r1 (.cons r1 (.cons r1 .nil)))))))) ((lk2.trans l62).trans lf63_0_0) (Nat.lt_succ_self _) ⟨r_64, o64, hl2⟩
              · replace hl2 := iff_ w53 hl2
                conv => whnf
                refine cond_T ?_
                conv => whnf
                refine MeetStep.mk ((y2_0, y2_1), y2_a0, y2_c0, y2_s0) ⟨rfl, rfl, trivial⟩ (by repeat (first | exact trivial | refine And.intro rfl ?_)) (ConvH.of (.cons r0 (.cons r0 (.cons r0 (.cons r0 (.cons r0 (.cons r0 (.cons r0 .nil)))))))) lk2 ⟨y2_r0, y2_h0, (si hl2)⟩
          · rintro ⟨t2, t2_a0, t2_c0, t2_s0⟩ Kt2 lt2 ⟨t2_r0, t2_h0, rfl⟩ j2
            conv => whnf
            refine field_addr rfl ?_
            conv => whnf
            refine RStep.of (load1_s r5 rfl rfl ?_)
            conv => whnf
            refine field_addr rfl ?_
            conv => whnf
            refine RStep.of (load1_s r5 rfl rfl ?_)
            obtain ⟨x70, q70, hm⟩ := bnd hm
            conv => whnf
            refine call_fn (tags_Index_Put_ok q70 (ut0_1_0.mono (l49.trans lt2)) (hp1_0.mono ((((((l15.trans l19).trans l25).trans l29).trans lt0).trans l49).trans lt2)) rfl) (.cons r2 (.cons r2 .nil)) ?_
            rintro _ K70 _ l70 ⟨m70_0, w70_0, rfl, u70_0, rfl⟩
            obtain ⟨s4, hl4, hm⟩ := bnd hm
            conv => whnf
            refine fzCR sliL_ok r2 (LR.mono sliL_ok l70 t2_r0) fun Kd4_0 ld4_0 fd4_0 => ?_
            refine fC r2 fun Kd4_1 ld4_1 fd4_1 => ?_
            refine code_cut (σ := (Int)) [4, 11, 71, 72, 73, 74, 75, 76, 77, 78, 79, 80, 81, 82, 83, 84, 85, 86, 87, 88, 89, 90, 91, 92, 93, 94, 95, 96, 97, 98, 99, 100, 101] (fun t4 => [(11, .int .i64 t4)]) (fun t4 => [Cells b29_0 59 [.map (some m70_0)], MapE strK vSl m70_0 w70_0, OwnA (some ⟨b24, 0, none⟩) 35 3 1 ([[.bool a.Remove, str a.ID, .slice ap1_0 a.Tags.length cp1_0]]), Cells b3 35 [.bool a.Remove, str a.ID, .slice ap1_0 a.Tags.length cp1_0], F]) (fun zz K1 => match zz with | t4 => s4 = Fl.go t4) ?_ ?_
            · refine block_go rfl ?_
              conv => whnf
              refine loop_rule (σ := Nat × Int) [4, 11, 71, 72, 73, 74, 75, 76, 77, 78, 79, 80, 81, 82, 83, 84, 85, 86, 87, 88, 89, 90, 91, 92, 93, 94, 95, 96, 97, 98, 99, 100, 101] (fun (i4, y4_0) => [(11, .int .i64 y4_0)]) (fun (i4, y4_0) => [Cells b29_0 59 [.map (some m70_0)], MapE strK vSl m70_0 w70_0, OwnA (some ⟨b24, 0, none⟩) 35 3 1 ([[.bool a.Remove, str a.ID, .slice ap1_0 a.Tags.length cp1_0]]), Cells b3 35 [.bool a.Remove, str a.ID, .slice ap1_0 a.Tags.length cp1_0], F]) (fun zz K1 => match zz with | (i4, y4_0) => law35_TagsPuts_L4 x49 a x70 t2 i4 y4_0 = some s4) (fun zz => zz.1) (n, 0) rfl ⟨rfl, trivial⟩ (ConvH.of (.cons r0 (.cons r0 (.cons r0 (.cons r0 (.cons r0 .nil)))))) hl4 ?_
              clear hl4
              rintro ⟨i4, y4_0⟩ Kb4 lk4 hl4 j4
              conv at hl4 => whnf
              cases i4 with
              | zero => rw [law35_TagsPuts_L4.eq_1] at hl4; cases hl4
              | succ i4 =>
                rw [law35_TagsPuts_L4.eq_2] at hl4
                conv => whnf
                refine RStep.of (len_slice rfl ?_)
                conv => whnf
                refine cond_go rfl ?_
                conv => whnf
                refine cond_s (fun w74 => ?_) (fun w74 => ?_)
                · replace hl4 := ift w74 hl4
                  conv => whnf
                  refine block_go rfl ?_
                  conv => whnf
                  refine draw_go ⟨⟨[], false⟩, _, [(_, _)]⟩ (by kernel_rfl) ⟨Hp.Le.refl _, (ConvH.of (.cons r3 .nil))⟩ ?_
                  obtain ⟨x79, l79, k79, hl4⟩ := ixb hl4
                  conv => whnf
                  refine index_addr rfl rfl (hasK (fd4_1.mono lk4).rd k79) l79 (lt_ofE rfl l79 k79) ?_
                  conv => whnf
                  refine load_rd_l ((y4_0).toNat) 0 _ _ (fd4_1.mono lk4).rd rfl (mp k79) rfl rfl ?_
                  conv => whnf
                  refine field_addr rfl ?_
                  conv => whnf
                  refine load1_l m0 rfl rfl ?_
                  conv => whnf
                  refine neq_str ?_
                  conv => whnf
                  refine cond_s (fun g84_18 => ?_) (fun g84_18 => ?_)
                  · conv => whnf
                    refine cond_t g84_18 ?_
                    conv => whnf
                    refine cond_t g84_18 ?_
                    obtain ⟨x101, e101, hl4⟩ := bnd hl4
                    replace e101 := ift (or_t g84_18) e101
                    conv => whnf
                    refine cond_T ?_
                    conv => whnf
                    refine cond_T ?_
                    conv => whnf
                    refine cond_T ?_
                    conv => whnf
                    refine cond_T ?_
                    obtain ⟨x92, l92, k92, e101⟩ := ixb e101
                    conv => whnf
                    refine index_addr rfl rfl (hasK (fd4_1.mono lk4).rd k92) l92 (lt_ofE rfl l92 k92) ?_
                    conv => whnf
                    refine cond_T ?_
                    conv => whnf
                    refine load_rd_l ((y4_0).toNat) 0 _ _ (fd4_1.mono lk4).rd rfl (mp k92) rfl rfl ?_
                    conv => whnf
                    refine cond_T ?_
                    obtain ⟨x94, q94, e101⟩ := bnd e101
                    conv => whnf
                    refine call_fn (tags_Index_Tags_ok q94 (u70_0.mono ((ld4_0.trans ld4_1).trans lk4))) (.cons r0 (.cons r0 .nil)) ?_
                    rintro _ K94 _ l94 ⟨a94_0, c94_0, rfl, h94_0, rfl⟩
                    conv => whnf
                    refine ⟨⟨l94, (ConvH.of (.cons r4 .nil))⟩, ?_⟩
                    conv => whnf
                    refine cond_T ?_
                    conv => whnf
                    refine cond_T ?_
                    conv => whnf
                    refine cond_T ?_
                    obtain ⟨x97, l97, k97, e101⟩ := ixb e101
                    conv => whnf
                    refine index_addr rfl rfl (hasR (LiC.mono sliL_ok ((ld4_1.trans lk4).trans l94) fd4_0).rd k97) l97 (lt_ofE rfl l97 k97) ?_
                    conv => whnf
                    refine cond_T ?_
                    obtain ⟨ss98, cc98, hr98, hc98, hR98⟩ := LiR.get (LiC.mono sliL_ok (ld4_1.trans lk4) fd4_0).rd k97
                    obtain ⟨a98_0, c98_0, rfl, h98_0⟩ := hR98
                    conv => whnf
                    refine load_rd_l ((y4_0).toNat) 0 _ _ hr98 rfl hc98 rfl rfl ?_
                    conv => whnf
                    refine cond_T ?_
                    obtain ⟨x99, q99, e101⟩ := bnd e101
                    conv => whnf
                    refine call_fn (Fn.lend Try.call13 (fun K99_0 l99_0 f99_0 => (base_Texts_ok q99 f99_0 rfl (h98_0.mono (l94.trans l99_0)) rfl)) (by exact fun _ _ _ _ h => h)) (.cons r0 .nil) ?_
                    rintro _ K99 _ l99 ⟨_, rfl, rfl, rfl⟩
                    conv => whnf
                    refine ⟨⟨(l94.trans l99), (ConvH.of (.cons r4 .nil))⟩, ?_⟩
                    conv => whnf
                    refine cond_T ?_
                    conv => whnf
                    refine un_not ?_
                    conv => whnf
                    refine cond_T ?_
                    conv => whnf
                    refine cond_go rfl ?_
                    conv => whnf
                    refine cond_s (fun w101 => ?_) (fun w101 => ?_)
                    · replace hl4 := ift ((si e101).symm.trans (not_t (ni_t w101))) hl4
                      obtain rfl := si hl4
                      replace hm := elr hm
                      obtain rfl := si hm
                      conv => whnf
                      refine EndStep.mk _ ((((((((((((l15.trans l19).trans l25).trans l29).trans lt0).trans l49).trans lt2).trans l70).trans ld4_0).trans ld4_1).trans lk4).trans l94).trans l99) ⟨rfl, rfl⟩ (ConvH.of (.cons r5 .nil))
                    · replace hl4 := iff_ ((si e101).symm.trans (not_f (ni_f w101))) hl4
                      obtain ⟨h76, hl4⟩ := chkb hl4
                      conv => whnf
                      refine int_in h76 ?_
                      conv => whnf
                      refine RoundStep.mk (i4, (y4_0 + 1)) ⟨rfl, trivial⟩ (by repeat (first | exact trivial | refine And.intro rfl ?_)) (ConvH.of (.cons r1 (.cons r1 (.cons r1 (.cons r1 (.cons r1 .nil)))))) ((lk4.trans l94).trans l99) (Nat.lt_succ_self _) hl4
                  · conv => whnf
                    refine cond_f g84_18 ?_
                    conv => whnf
                    refine neq_err rfl ?_
                    conv => whnf
                    refine cond_f g84_18 ?_
                    obtain ⟨x101, e101, hl4⟩ := bnd hl4
                    conv => whnf
                    refine cond_s (fun g88_18 => ?_) (fun g88_18 => ?_)
                    · replace e101 := ift (or_u g84_18 g88_18) e101
                      conv => whnf
                      refine cond_t g88_18 ?_
                      conv => whnf
                      refine cond_t g88_18 ?_
                      conv => whnf
                      refine cond_t g88_18 ?_
                      obtain ⟨x92, l92, k92, e101⟩ := ixb e101
                      conv => whnf
                      refine index_addr rfl rfl (hasK (fd4_1.mono lk4).rd k92) l92 (lt_ofE rfl l92 k92) ?_
                      conv => whnf
                      refine cond_t g88_18 ?_
                      conv => whnf
                      refine load_rd_l ((y4_0).toNat) 0 _ _ (fd4_1.mono lk4).rd rfl (mp k92) rfl rfl ?_
                      conv => whnf
                      refine cond_t g88_18 ?_
                      obtain ⟨x94, q94, e101⟩ := bnd e101
                      conv => whnf
                      refine call_fn (tags_Index_Tags_ok q94 (u70_0.mono ((ld4_0.trans ld4_1).trans lk4))) (.cons r0 (.cons r0 .nil)) ?_
                      rintro _ K94 _ l94 ⟨a94_0, c94_0, rfl, h94_0, rfl⟩
                      conv => whnf
                      refine ⟨⟨l94, (ConvH.of (.cons r4 .nil))⟩, ?_⟩
                      conv => whnf
                      refine cond_t g88_18 ?_
                      conv => whnf
                      refine cond_t g88_18 ?_
                      conv => whnf
                      refine cond_t g88_18 ?_
                      obtain ⟨x97, l97, k97, e101⟩ := ixb e101
                      conv => whnf
                      refine index_addr rfl rfl (hasR (LiC.mono sliL_ok ((ld4_1.trans lk4).trans l94) fd4_0).rd k97) l97 (lt_ofE rfl l97 k97) ?_
                      conv => whnf
                      refine cond_t g88_18 ?_
                      obtain ⟨ss98, cc98, hr98, hc98, hR98⟩ := LiR.get (LiC.mono sliL_ok (ld4_1.trans lk4) fd4_0).rd k97
                      obtain ⟨a98_0, c98_0, rfl, h98_0⟩ := hR98
                      conv => whnf
                      refine load_rd_l ((y4_0).toNat) 0 _ _ hr98 rfl hc98 rfl rfl ?_
                      conv => whnf
                      refine cond_t g88_18 ?_
                      obtain ⟨x99, q99, e101⟩ := bnd e101
                      conv => whnf
                      refine call_fn (Fn.lend Try.call13 (fun K99_0 l99_0 f99_0 => (base_Texts_ok q99 f99_0 rfl (h98_0.mono (l94.trans l99_0)) rfl)) (by exact fun _ _ _ _ h => h)) (.cons r0 .nil) ?_
                      rintro _ K99 _ l99 ⟨_, rfl, rfl, rfl⟩
                      conv => whnf
                      refine ⟨⟨(l94.trans l99), (ConvH.of (.cons r4 .nil))⟩, ?_⟩
                      conv => whnf
                      refine cond_t g88_18 ?_
                      conv => whnf
                      refine un_not ?_
                      conv => whnf
                      refine cond_t g88_18 ?_
                      conv => whnf
                      refine cond_go rfl ?_
                      conv => whnf
                      refine cond_s (fun w101 => ?_) (fun w101 => ?_)
                      · replace hl4 := ift ((si e101).symm.trans (not_t (ni_t w101))) hl4
                        obtain rfl := si hl4
                        replace hm := elr hm
                        obtain rfl := si hm
                        conv => whnf
                        refine EndStep.mk _ ((((((((((((l15.trans l19).trans l25).trans l29).trans lt0).trans l49).trans lt2).trans l70).trans ld4_0).trans ld4_1).trans lk4).trans l94).trans l99) ⟨rfl, rfl⟩ (ConvH.of (.cons r5 .nil))
                      · replace hl4 := iff_ ((si e101).symm.trans (not_f (ni_f w101))) hl4
                        obtain ⟨h76, hl4⟩ := chkb hl4
                        conv => whnf
                        refine int_in h76 ?_
                        conv => whnf
                        refine RoundStep.mk (i4, (y4_0 + 1)) ⟨rfl, trivial⟩ (by repeat (first | exact trivial | refine And.intro rfl ?_)) (ConvH.of (.cons r1 (.cons r1 (.cons r1 (.cons r1 (.cons r1 .nil)))))) ((lk4.trans l94).trans l99) (Nat.lt_succ_self _) hl4
                    · replace e101 := iff_ (or_f g84_18 g88_18) e101
                      conv => whnf
                      refine cond_f g88_18 ?_
                      conv => whnf
                      refine cond_f g88_18 ?_
                      conv => whnf
                      refine cond_f g88_18 ?_
                      conv => whnf
                      refine cond_f g88_18 ?_
                      conv => whnf
                      refine cond_f g88_18 ?_
                      conv => whnf
                      refine cond_f g88_18 ?_
                      conv => whnf
                      refine cond_f g88_18 ?_
                      conv => whnf
                      refine cond_f g88_18 ?_
                      conv => whnf
                      refine cond_f g88_18 ?_
                      conv => whnf
                      refine cond_f g88_18 ?_
                      conv => whnf
                      refine cond_f g88_18 ?_
                      conv => whnf
                      refine cond_f g88_18 ?_
                      conv => whnf
                      refine cond_go rfl ?_
                      conv => whnf
                      refine cond_F ?_
                      replace hl4 := iff_ (si e101).symm hl4
                      obtain ⟨h76, hl4⟩ := chkb hl4
                      conv => whnf
                      refine int_in h76 ?_
                      conv => whnf
                      refine RoundStep.mk (i4, (y4_0 + 1)) ⟨rfl, trivial⟩ (by repeat (first | exact trivial | refine And.intro rfl ?_)) (ConvH.of (.cons r0 (.cons r0 (.cons r0 (.cons r0 (.cons r0 .nil)))))) lk4 (Nat.lt_succ_self _) hl4
                · replace hl4 := iff_ w74 hl4
                  conv => whnf
                  refine cond_T ?_
                  conv => whnf
                  refine MeetStep.mk (y4_0) ⟨rfl, trivial⟩ (by repeat (first | exact trivial | refine And.intro rfl ?_)) (ConvH.of (.cons r0 (.cons r0 (.cons r0 (.cons r0 (.cons r0 .nil)))))) lk4 (si hl4).symm
            · rintro t4 Kt4 lt4 rfl j4
              replace hm := elg hm
              conv => whnf
              refine neq_err rfl ?_
              conv => whnf
              refine cond_go rfl ?_
              conv => whnf
              refine cond_s (fun w103 => ?_) (fun w103 => ?_)
              · replace hm := ift w103 hm
                obtain ⟨x105, q105, hm⟩ := bnd hm
                conv => whnf
                refine call_fn (base_Is_ok q105) .nil ?_
                rintro _ K105 _ l105 ⟨rfl, rfl⟩
                conv => whnf
                refine cond_s (fun g106_21 => ?_) (fun g106_21 => ?_)
                · conv => whnf
                  refine field_addr rfl ?_
                  conv => whnf
                  refine cond_t g106_21 ?_
                  conv => whnf
                  refine RStep.of (load1_s r3 rfl rfl ?_)
                  conv => whnf
                  refine cond_t g106_21 ?_
                  conv => whnf
                  refine RStep.of (len_slice rfl ?_)
                  conv => whnf
                  refine cond_t g106_21 ?_
                  conv => whnf
                  refine cond_t g106_21 ?_
                  obtain ⟨x115, e115, hm⟩ := bnd hm
                  conv => whnf
                  refine cond_s (fun g112_21 => ?_) (fun g112_21 => ?_)
                  · replace e115 := ift (and_t g106_21 g112_21) e115
                    conv => whnf
                    refine cond_t g112_21 ?_
                    conv => whnf
                    refine cond_t g112_21 ?_
                    obtain ⟨x121, e121, hm⟩ := bnd hm
                    replace e121 := ift (si e115).symm e121
                    conv => whnf
                    refine cond_T ?_
                    conv => whnf
                    refine cond_T ?_
                    obtain ⟨x118, q118, e121⟩ := bnd e121
                    conv => whnf
                    refine call_fn (tags_Index_IDs_ok q118 (u70_0.mono (((ld4_0.trans ld4_1).trans lt4).trans l105))) (.cons r0 (.cons r0 .nil)) ?_
                    rintro _ K118 _ l118 ⟨a118_0, c118_0, rfl, h118_0, rfl⟩
                    conv => whnf
                    refine cond_T ?_
                    conv => whnf
                    refine cond_T ?_
                    obtain ⟨x120, q120, e121⟩ := bnd e121
                    conv => whnf
                    refine call_fn (Fn.lend Try.call13 (fun K120_0 l120_0 f120_0 => (base_Texts_ok q120 f120_0 rfl (fd4_1.mono (((lt4.trans l105).trans l118).trans l120_0)) rfl)) (by exact fun _ _ _ _ h => h)) (.cons r0 .nil) ?_
                    rintro _ K120 _ l120 ⟨_, rfl, rfl, rfl⟩
                    conv => whnf
                    refine cond_T ?_
                    obtain rfl := si hm
                    conv => whnf
                    refine EndStep.mk _ (((((((((((((l15.trans l19).trans l25).trans l29).trans lt0).trans l49).trans lt2).trans l70).trans ld4_0).trans ld4_1).trans lt4).trans l105).trans l118).trans l120) ⟨(by rw [← (si e121)] <;> rfl), rfl⟩ (ConvH.of (.cons r5 .nil))
                  · replace e115 := iff_ (and_g g106_21 g112_21) e115
                    conv => whnf
                    refine cond_f g112_21 ?_
                    obtain ⟨x114, q114, e115⟩ := bnd e115
                    conv => whnf
                    refine call_fn (base_Is_ok q114) .nil ?_
                    rintro _ K114 _ l114 ⟨rfl, rfl⟩
                    conv => whnf
                    refine cond_f g112_21 ?_
                    obtain ⟨x121, e121, hm⟩ := bnd hm
                    conv => whnf
                    refine cond_s (fun g116_21 => ?_) (fun g116_21 => ?_)
                    · replace e121 := ift ((si e115).symm.trans g116_21) e121
                      conv => whnf
                      refine cond_t g116_21 ?_
                      obtain ⟨x118, q118, e121⟩ := bnd e121
                      conv => whnf
                      refine call_fn (tags_Index_IDs_ok q118 (u70_0.mono ((((ld4_0.trans ld4_1).trans lt4).trans l105).trans l114))) (.cons r0 (.cons r0 .nil)) ?_
                      rintro _ K118 _ l118 ⟨a118_0, c118_0, rfl, h118_0, rfl⟩
                      conv => whnf
                      refine cond_t g116_21 ?_
                      conv => whnf
                      refine cond_t g116_21 ?_
                      obtain ⟨x120, q120, e121⟩ := bnd e121
                      conv => whnf
                      refine call_fn (Fn.lend Try.call13 (fun K120_0 l120_0 f120_0 => (base_Texts_ok q120 f120_0 rfl (fd4_1.mono ((((lt4.trans l105).trans l114).trans l118).trans l120_0)) rfl)) (by exact fun _ _ _ _ h => h)) (.cons r0 .nil) ?_
                      rintro _ K120 _ l120 ⟨_, rfl, rfl, rfl⟩
                      conv => whnf
                      refine cond_t g116_21 ?_
                      obtain rfl := si hm
                      conv => whnf
                      refine EndStep.mk _ ((((((((((((((l15.trans l19).trans l25).trans l29).trans lt0).trans l49).trans lt2).trans l70).trans ld4_0).trans ld4_1).trans lt4).trans l105).trans l114).trans l118).trans l120) ⟨(by rw [← (si e121)] <;> rfl), rfl⟩ (ConvH.of (.cons r5 .nil))
                    · replace e121 := iff_ ((si e115).symm.trans g116_21) e121
                      conv => whnf
                      refine cond_f g116_21 ?_
                      conv => whnf
                      refine cond_f g116_21 ?_
                      conv => whnf
                      refine cond_f g116_21 ?_
                      conv => whnf
                      refine cond_f g116_21 ?_
                      obtain rfl := si hm
                      conv => whnf
                      refine EndStep.mk _ ((((((((((((l15.trans l19).trans l25).trans l29).trans lt0).trans l49).trans lt2).trans l70).trans ld4_0).trans ld4_1).trans lt4).trans l105).trans l114) ⟨(by rw [← ((si e121).symm).symm] <;> rfl), rfl⟩ (ConvH.of (.cons r4 .nil))
                · conv => whnf
                  refine cond_f g106_21 ?_
                  conv => whnf
                  refine cond_f g106_21 ?_
                  conv => whnf
                  refine cond_f g106_21 ?_
                  conv => whnf
                  refine cond_f g106_21 ?_
                  obtain ⟨x115, e115, hm⟩ := bnd hm
                  replace e115 := iff_ (and_f g106_21) e115
                  conv => whnf
                  refine cond_F ?_
                  conv => whnf
                  refine cond_F ?_
                  obtain ⟨x114, q114, e115⟩ := bnd e115
                  conv => whnf
                  refine call_fn (base_Is_ok q114) .nil ?_
                  rintro _ K114 _ l114 ⟨rfl, rfl⟩
                  conv => whnf
                  refine cond_F ?_
                  obtain ⟨x121, e121, hm⟩ := bnd hm
                  conv => whnf
                  refine cond_s (fun g116_21 => ?_) (fun g116_21 => ?_)
                  · replace e121 := ift ((si e115).symm.trans g116_21) e121
                    conv => whnf
                    refine cond_t g116_21 ?_
                    obtain ⟨x118, q118, e121⟩ := bnd e121
                    conv => whnf
                    refine call_fn (tags_Index_IDs_ok q118 (u70_0.mono ((((ld4_0.trans ld4_1).trans lt4).trans l105).trans l114))) (.cons r0 (.cons r0 .nil)) ?_
                    rintro _ K118 _ l118 ⟨a118_0, c118_0, rfl, h118_0, rfl⟩
                    conv => whnf
                    refine cond_t g116_21 ?_
                    conv => whnf
                    refine cond_t g116_21 ?_
                    obtain ⟨x120, q120, e121⟩ := bnd e121
                    conv => whnf
                    refine call_fn (Fn.lend Try.call13 (fun K120_0 l120_0 f120_0 => (base_Texts_ok q120 f120_0 rfl (fd4_1.mono ((((lt4.trans l105).trans l114).trans l118).trans l120_0)) rfl)) (by exact fun _ _ _ _ h => h)) (.cons r0 .nil) ?_
                    rintro _ K120 _ l120 ⟨_, rfl, rfl, rfl⟩
                    conv => whnf
                    refine cond_t g116_21 ?_
                    obtain rfl := si hm
                    conv => whnf
                    refine EndStep.mk _ ((((((((((((((l15.trans l19).trans l25).trans l29).trans lt0).trans l49).trans lt2).trans l70).trans ld4_0).trans ld4_1).trans lt4).trans l105).trans l114).trans l118).trans l120) ⟨(by rw [← (si e121)] <;> rfl), rfl⟩ (ConvH.of (.cons r5 .nil))
                  · replace e121 := iff_ ((si e115).symm.trans g116_21) e121
                    conv => whnf
                    refine cond_f g116_21 ?_
                    conv => whnf
                    refine cond_f g116_21 ?_
                    conv => whnf
                    refine cond_f g116_21 ?_
                    conv => whnf
                    refine cond_f g116_21 ?_
                    obtain rfl := si hm
                    conv => whnf
                    refine EndStep.mk _ ((((((((((((l15.trans l19).trans l25).trans l29).trans lt0).trans l49).trans lt2).trans l70).trans ld4_0).trans ld4_1).trans lt4).trans l105).trans l114) ⟨(by rw [← ((si e121).symm).symm] <;> rfl), rfl⟩ (ConvH.of (.cons r4 .nil))
              · replace hm := iff_ w103 hm
                conv => whnf
                refine field_addr rfl ?_
                conv => whnf
                refine RStep.of (load1_s r3 rfl rfl ?_)
                obtain ⟨x125, q125, hm⟩ := bnd hm
                conv => whnf
                refine call_fn (tags_Index_Tags_ok q125 (u70_0.mono ((ld4_0.trans ld4_1).trans lt4))) (.cons r0 (.cons r0 .nil)) ?_
                rintro _ K125 _ l125 ⟨a125_0, c125_0, rfl, h125_0, rfl⟩
                obtain ⟨s6, hl6, hm⟩ := bnd hm
                conv => whnf
                refine code_cut (σ := (Int)) [4, 13, 126, 127, 128, 129, 130, 131, 132, 133, 134, 135, 136, 137, 138, 139, 140] (fun t6 => [(13, .int .i64 t6)]) (fun t6 => [OwnL eS a125_0 9 1 c125_0 x125, Cells b29_0 59 [.map (some m70_0)], MapE strK vSl m70_0 w70_0, OwnA (some ⟨b24, 0, none⟩) 35 3 1 ([[.bool a.Remove, str a.ID, .slice ap1_0 a.Tags.length cp1_0]]), Cells b3 35 [.bool a.Remove, str a.ID, .slice ap1_0 a.Tags.length cp1_0], F]) (fun zz K1 => match zz with | t6 => s6 = Fl.go t6) ?_ ?_
                · refine block_go rfl ?_
                  conv => whnf
                  refine loop_rule (σ := Nat × Int) [4, 13, 126, 127, 128, 129, 130, 131, 132, 133, 134, 135, 136, 137, 138, 139, 140] (fun (i6, y6_0) => [(13, .int .i64 y6_0)]) (fun (i6, y6_0) => [OwnL eS a125_0 9 1 c125_0 x125, Cells b29_0 59 [.map (some m70_0)], MapE strK vSl m70_0 w70_0, OwnA (some ⟨b24, 0, none⟩) 35 3 1 ([[.bool a.Remove, str a.ID, .slice ap1_0 a.Tags.length cp1_0]]), Cells b3 35 [.bool a.Remove, str a.ID, .slice ap1_0 a.Tags.length cp1_0], F]) (fun zz K1 => match zz with | (i6, y6_0) => law35_TagsPuts_L6 a n x125 i6 y6_0 = some s6) (fun zz => zz.1) (n, 0) rfl ⟨rfl, trivial⟩ (ConvH.of (.cons r0 (.cons r0 (.cons r0 (.cons r0 (.cons r0 (.cons r0 .nil))))))) hl6 ?_
                  clear hl6
                  rintro ⟨i6, y6_0⟩ Kb6 lk6 hl6 j6
                  conv at hl6 => whnf
                  cases i6 with
                  | zero => rw [law35_TagsPuts_L6.eq_1] at hl6; cases hl6
                  | succ i6 =>
                    rw [law35_TagsPuts_L6.eq_2] at hl6
                    conv => whnf
                    refine field_addr rfl ?_
                    conv => whnf
                    refine RStep.of (load1_s r4 rfl rfl ?_)
                    conv => whnf
                    refine RStep.of (len_slice rfl ?_)
                    conv => whnf
                    refine cond_go rfl ?_
                    conv => whnf
                    refine cond_s (fun w130 => ?_) (fun w130 => ?_)
                    · replace hl6 := ift w130 hl6
                      conv => whnf
                      refine block_go rfl ?_
                      conv => whnf
                      refine field_addr rfl ?_
                      conv => whnf
                      refine RStep.of (load1_s r4 rfl rfl ?_)
                      obtain ⟨x137, l137, k137, hl6⟩ := ixb hl6
                      conv => whnf
                      refine RStep.ofN (index_addr rfl rfl (hasK (hp1_0.mono ((((((((((((l15.trans l19).trans l25).trans l29).trans lt0).trans l49).trans lt2).trans l70).trans ld4_0).trans ld4_1).trans lt4).trans l125).trans lk6)).rd k137) l137 (lt_ofE rfl l137 k137) ?_)
                      conv => whnf
                      refine RStep.of (load_rd ((y6_0).toNat) 0 _ _ (hp1_0.mono ((((((((((((l15.trans l19).trans l25).trans l29).trans lt0).trans l49).trans lt2).trans l70).trans ld4_0).trans ld4_1).trans lt4).trans l125).trans lk6)).rd rfl (mp k137) rfl rfl ?_)
                      obtain ⟨x139, q139, hl6⟩ := bnd hl6
                      conv => whnf
                      refine call_fn (Fn.lend Try.call20 (fun K139_0 l139_0 f139_0 => (ref35_Has_ok q139 f139_0 rfl)) (by exact fun _ _ _ _ h => h)) (.cons r0 .nil) ?_
                      rintro _ K139 _ l139 ⟨_, rfl, rfl, rfl⟩
                      conv => whnf
                      refine un_not ?_
                      conv => whnf
                      refine cond_go rfl ?_
                      conv => whnf
                      refine cond_s (fun w140 => ?_) (fun w140 => ?_)
                      · replace hl6 := ift (not_t (ni_t w140)) hl6
                        obtain rfl := si hl6
                        replace hm := elr hm
                        obtain rfl := si hm
                        conv => whnf
                        refine EndStep.mk _ (((((((((((((l15.trans l19).trans l25).trans l29).trans lt0).trans l49).trans lt2).trans l70).trans ld4_0).trans ld4_1).trans lt4).trans l125).trans lk6).trans l139) ⟨rfl, rfl⟩ (ConvH.of (.cons r5 .nil))
                      · replace hl6 := iff_ (not_f (ni_f w140)) hl6
                        obtain ⟨h132, hl6⟩ := chkb hl6
                        conv => whnf
                        refine int_in h132 ?_
                        conv => whnf
                        refine RoundStep.mk (i6, (y6_0 + 1)) ⟨rfl, trivial⟩ (by repeat (first | exact trivial | refine And.intro rfl ?_)) (ConvH.of (.cons r0 (.cons r0 (.cons r0 (.cons r0 (.cons r0 (.cons r0 .nil))))))) (lk6.trans l139) (Nat.lt_succ_self _) hl6
                    · replace hl6 := iff_ w130 hl6
                      conv => whnf
                      refine cond_T ?_
                      conv => whnf
                      refine MeetStep.mk (y6_0) ⟨rfl, trivial⟩ (by repeat (first | exact trivial | refine And.intro rfl ?_)) (ConvH.of (.cons r0 (.cons r0 (.cons r0 (.cons r0 (.cons r0 (.cons r0 .nil))))))) lk6 (si hl6).symm
                · rintro t6 Kt6 lt6 rfl j6
                  replace hm := elg hm
                  obtain ⟨s8, hl8, hm⟩ := bnd hm
                  conv => whnf
                  refine code_cut (σ := (Int)) [4, 14, 141, 142, 143, 144, 145, 146, 147, 148, 149, 150, 151, 152, 153, 154] (fun t8 => [(14, .int .i64 t8)]) (fun t8 => [OwnL eS a125_0 9 1 c125_0 x125, Cells b29_0 59 [.map (some m70_0)], MapE strK vSl m70_0 w70_0, OwnA (some ⟨b24, 0, none⟩) 35 3 1 ([[.bool a.Remove, str a.ID, .slice ap1_0 a.Tags.length cp1_0]]), Cells b3 35 [.bool a.Remove, str a.ID, .slice ap1_0 a.Tags.length cp1_0], F]) (fun zz K1 => match zz with | t8 => s8 = Fl.go t8) ?_ ?_
                  · refine block_go rfl ?_
                    conv => whnf
                    refine loop_rule (σ := Nat × Int) [4, 14, 141, 142, 143, 144, 145, 146, 147, 148, 149, 150, 151, 152, 153, 154] (fun (i8, y8_0) => [(14, .int .i64 y8_0)]) (fun (i8, y8_0) => [OwnL eS a125_0 9 1 c125_0 x125, Cells b29_0 59 [.map (some m70_0)], MapE strK vSl m70_0 w70_0, OwnA (some ⟨b24, 0, none⟩) 35 3 1 ([[.bool a.Remove, str a.ID, .slice ap1_0 a.Tags.length cp1_0]]), Cells b3 35 [.bool a.Remove, str a.ID, .slice ap1_0 a.Tags.length cp1_0], F]) (fun zz K1 => match zz with | (i8, y8_0) => law35_TagsPuts_L8 x125 n a i8 y8_0 = some s8) (fun zz => zz.1) (n, 0) rfl ⟨rfl, trivial⟩ (ConvH.of (.cons r0 (.cons r0 (.cons r0 (.cons r0 (.cons r0 (.cons r0 .nil))))))) hl8 ?_
                    clear hl8
                    rintro ⟨i8, y8_0⟩ Kb8 lk8 hl8 j8
                    conv at hl8 => whnf
                    cases i8 with
                    | zero => rw [law35_TagsPuts_L8.eq_1] at hl8; cases hl8
                    | succ i8 =>
                      rw [law35_TagsPuts_L8.eq_2] at hl8
                      conv => whnf
                      refine RStep.of (len_slice rfl ?_)
                      conv => whnf
                      refine cond_go rfl ?_
                      conv => whnf
                      refine cond_s (fun w144 => ?_) (fun w144 => ?_)
                      · replace hl8 := ift w144 hl8
                        conv => whnf
                        refine block_go rfl ?_
                        conv => whnf
                        refine draw_go ⟨⟨[], true⟩, _, []⟩ (by kernel_rfl) ⟨Hp.Le.refl _, (ConvH.of .nil)⟩ ?_
                        conv => whnf
                        refine field_addr rfl ?_
                        conv => whnf
                        refine load1_s r4 rfl rfl ?_
                        obtain ⟨x151, l151, k151, hl8⟩ := ixb hl8
                        conv => whnf
                        refine index_addr rfl rfl (hasO h125_0 k151) l151 (lt_ofE rfl l151 k151) ?_
                        conv => whnf
                        refine ld_own (i := (y8_0).toNat) (o := 0) r0 rfl k151 rfl rfl ?_
                        obtain ⟨x153, q153, hl8⟩ := bnd hl8
                        conv => whnf
                        refine call_fn (ref35_Has_ok q153 (hp1_0.mono (((((((((((((l15.trans l19).trans l25).trans l29).trans lt0).trans l49).trans lt2).trans l70).trans ld4_0).trans ld4_1).trans lt4).trans l125).trans lt6).trans lk8)) rfl) .nil ?_
                        rintro _ K153 _ l153 ⟨rfl, rfl⟩
                        conv => whnf
                        refine ⟨⟨l153, (ConvH.of .nil)⟩, ?_⟩
                        conv => whnf
                        refine un_not ?_
                        conv => whnf
                        refine cond_go rfl ?_
                        conv => whnf
                        refine cond_s (fun w154 => ?_) (fun w154 => ?_)
                        · replace hl8 := ift (not_t (ni_t w154)) hl8
                          obtain rfl := si hl8
                          replace hm := elr hm
                          obtain rfl := si hm
                          conv => whnf
                          refine EndStep.mk _ ((((((((((((((l15.trans l19).trans l25).trans l29).trans lt0).trans l49).trans lt2).trans l70).trans ld4_0).trans ld4_1).trans lt4).trans l125).trans lt6).trans lk8).trans l153) ⟨rfl, rfl⟩ (ConvH.of (.cons r5 .nil))
                        · replace hl8 := iff_ (not_f (ni_f w154)) hl8
                          obtain ⟨h146, hl8⟩ := chkb hl8
                          conv => whnf
                          refine int_in h146 ?_
                          conv => whnf
                          refine RoundStep.mk (i8, (y8_0 + 1)) ⟨rfl, trivial⟩ (by repeat (first | exact trivial | refine And.intro rfl ?_)) (ConvH.of (.cons r0 (.cons r0 (.cons r0 (.cons r0 (.cons r0 (.cons r0 .nil))))))) (lk8.trans l153) (Nat.lt_succ_self _) hl8
                      · replace hl8 := iff_ w144 hl8
                        conv => whnf
                        refine cond_T ?_
                        conv => whnf
                        refine MeetStep.mk (y8_0) ⟨rfl, trivial⟩ (by repeat (first | exact trivial | refine And.intro rfl ?_)) (ConvH.of (.cons r0 (.cons r0 (.cons r0 (.cons r0 (.cons r0 (.cons r0 .nil))))))) lk8 (si hl8).symm
                  · rintro t8 Kt8 lt8 rfl j8
                    replace hm := elg hm
                    conv => whnf
                    refine draw_go ⟨⟨[], false⟩, _, [(_, _)]⟩ (by kernel_rfl) ⟨Hp.Le.refl _, (ConvH.of (.cons r4 .nil))⟩ ?_
                    conv => whnf
                    refine field_addr rfl ?_
                    conv => whnf
                    refine load1_l m0 rfl rfl ?_
                    obtain ⟨x158, q158, hm⟩ := bnd hm
                    conv => whnf
                    refine call_fn (tags_Index_Remove_ok q158 (u70_0.mono (((((ld4_0.trans ld4_1).trans lt4).trans l125).trans lt6).trans lt8))) (.cons r1 (.cons r1 .nil)) ?_
                    rintro _ K158 _ l158 ⟨m158_0, w158_0, rfl, u158_0, rfl⟩
                    conv => whnf
                    refine ⟨⟨l158, (ConvH.of (.cons r4 .nil))⟩, ?_⟩
                    conv => whnf
                    refine cond_s (fun g159_33 => ?_) (fun g159_33 => ?_)
                    · replace hm := ift g159_33 hm
                      conv => whnf
                      refine cond_t g159_33 ?_
                      conv => whnf
                      refine field_addr rfl ?_
                      conv => whnf
                      refine cond_t g159_33 ?_
                      conv => whnf
                      refine load1_l m0 rfl rfl ?_
                      conv => whnf
                      refine cond_t g159_33 ?_
                      obtain ⟨x163, q163, hm⟩ := bnd hm
                      conv => whnf
                      refine call_fn (tags_Index_Remove_ok q163 u158_0) (.cons r0 (.cons r0 .nil)) ?_
                      rintro _ K163 _ l163 ⟨m163_0, w163_0, rfl, u163_0, rfl⟩
                      conv => whnf
                      refine ⟨⟨(l158.trans l163), (ConvH.of (.cons r4 .nil))⟩, ?_⟩
                      conv => whnf
                      refine cond_t g159_33 ?_
                      conv => whnf
                      refine un_not ?_
                      conv => whnf
                      refine cond_t g159_33 ?_
                      obtain ⟨x173, e173, hm⟩ := bnd hm
                      conv => whnf
                      refine cond_s (fun g166_33 => ?_) (fun g166_33 => ?_)
                      · replace e173 := ift (not_t (ni_t g166_33)) e173
                        conv => whnf
                        refine cond_t g166_33 ?_
                        conv => whnf
                        refine field_addr rfl ?_
                        conv => whnf
                        refine cond_t g166_33 ?_
                        conv => whnf
                        refine load1_l m0 rfl rfl ?_
                        conv => whnf
                        refine cond_t g166_33 ?_
                        obtain ⟨x170, q170, e173⟩ := bnd e173
                        conv => whnf
                        refine call_fn (tags_Index_Tags_ok q170 u163_0) (.cons r0 (.cons r0 .nil)) ?_
                        rintro _ K170 _ l170 ⟨a170_0, c170_0, rfl, h170_0, rfl⟩
                        conv => whnf
                        refine ⟨⟨((l158.trans l163).trans l170), (ConvH.of (.cons r5 .nil))⟩, ?_⟩
                        conv => whnf
                        refine cond_t g166_33 ?_
                        conv => whnf
                        refine len_sliceN rfl ?_
                        conv => whnf
                        refine cond_t g166_33 ?_
                        conv => whnf
                        refine eq_int ?_
                        conv => whnf
                        refine cond_t g166_33 ?_
                        obtain ⟨x181, e181, hm⟩ := bnd hm
                        conv => whnf
                        refine cond_s (fun g174_33 => ?_) (fun g174_33 => ?_)
                        · replace e181 := ift ((si e173).symm.trans g174_33) e181
                          conv => whnf
                          refine cond_t g174_33 ?_
                          obtain ⟨x176, q176, e181⟩ := bnd e181
                          conv => whnf
                          refine call_fn (tags_Index_IDs_ok q176 (u163_0.mono l170)) (.cons r1 (.cons r1 .nil)) ?_
                          rintro _ K176 _ l176 ⟨a176_0, c176_0, rfl, h176_0, rfl⟩
                          conv => whnf
                          refine ⟨⟨(((l158.trans l163).trans l170).trans l176), (ConvH.of (.cons r6 .nil))⟩, ?_⟩
                          conv => whnf
                          refine cond_t g174_33 ?_
                          conv => whnf
                          refine field_addr rfl ?_
                          conv => whnf
                          refine cond_t g174_33 ?_
                          conv => whnf
                          refine load1_l m0 rfl rfl ?_
                          conv => whnf
                          refine cond_t g174_33 ?_
                          obtain ⟨x179, q179, e181⟩ := bnd e181
                          conv => whnf
                          refine call_fn (Fn.lend Try.call20 (fun K179_0 l179_0 f179_0 => (ref35_Has_ok q179 f179_0 rfl)) (by exact fun _ _ _ _ h => h)) (.cons r0 .nil) ?_
                          rintro _ K179 _ l179 ⟨_, rfl, rfl, rfl⟩
                          conv => whnf
                          refine ⟨⟨((((l158.trans l163).trans l170).trans l176).trans l179), (ConvH.of (.cons r6 .nil))⟩, ?_⟩
                          conv => whnf
                          refine cond_t g174_33 ?_
                          conv => whnf
                          refine un_not ?_
                          conv => whnf
                          refine cond_t g174_33 ?_
                          obtain rfl := si hm
                          conv => whnf
                          refine EndStep.mk _ ((((((((((((((((((l15.trans l19).trans l25).trans l29).trans lt0).trans l49).trans lt2).trans l70).trans ld4_0).trans ld4_1).trans lt4).trans l125).trans lt6).trans lt8).trans l158).trans l163).trans l170).trans l176).trans l179) ⟨(by rw [← (si e181)] <;> rfl), rfl⟩ (ConvH.of (.cons r7 .nil))
                        · replace e181 := iff_ ((si e173).symm.trans g174_33) e181
                          conv => whnf
                          refine cond_f g174_33 ?_
                          conv => whnf
                          refine cond_f g174_33 ?_
                          conv => whnf
                          refine cond_f g174_33 ?_
                          conv => whnf
                          refine cond_f g174_33 ?_
                          conv => whnf
                          refine cond_f g174_33 ?_
                          conv => whnf
                          refine cond_f g174_33 ?_
                          obtain rfl := si hm
                          conv => whnf
                          refine EndStep.mk _ ((((((((((((((((l15.trans l19).trans l25).trans l29).trans lt0).trans l49).trans lt2).trans l70).trans ld4_0).trans ld4_1).trans lt4).trans l125).trans lt6).trans lt8).trans l158).trans l163).trans l170) ⟨(by rw [← ((si e181).symm).symm] <;> rfl), rfl⟩ (ConvH.of (.cons r6 .nil))
                      · replace e173 := iff_ (not_f (ni_f g166_33)) e173
                        conv => whnf
                        refine cond_f g166_33 ?_
                        conv => whnf
                        refine cond_f g166_33 ?_
                        conv => whnf
                        refine cond_f g166_33 ?_
                        conv => whnf
                        refine cond_f g166_33 ?_
                        conv => whnf
                        refine cond_f g166_33 ?_
                        conv => whnf
                        refine cond_f g166_33 ?_
                        obtain ⟨x181, e181, hm⟩ := bnd hm
                        replace e181 := iff_ (si e173).symm e181
                        conv => whnf
                        refine cond_F ?_
                        conv => whnf
                        refine cond_F ?_
                        conv => whnf
                        refine cond_F ?_
                        conv => whnf
                        refine cond_F ?_
                        conv => whnf
                        refine cond_F ?_
                        conv => whnf
                        refine cond_F ?_
                        conv => whnf
                        refine cond_F ?_
                        obtain rfl := si hm
                        conv => whnf
                        refine EndStep.mk _ (((((((((((((((l15.trans l19).trans l25).trans l29).trans lt0).trans l49).trans lt2).trans l70).trans ld4_0).trans ld4_1).trans lt4).trans l125).trans lt6).trans lt8).trans l158).trans l163) ⟨(by rw [← ((si e181).symm).symm] <;> rfl), rfl⟩ (ConvH.of (.cons r5 .nil))
                    · replace hm := iff_ g159_33 hm
                      conv => whnf
                      refine cond_f g159_33 ?_
                      conv => whnf
                      refine cond_f g159_33 ?_
                      conv => whnf
                      refine cond_f g159_33 ?_
                      conv => whnf
                      refine cond_f g159_33 ?_
                      conv => whnf
                      refine cond_f g159_33 ?_
                      conv => whnf
                      refine cond_F ?_
                      conv => whnf
                      refine cond_F ?_
                      conv => whnf
                      refine cond_F ?_
                      conv => whnf
                      refine cond_F ?_
                      conv => whnf
                      refine cond_F ?_
                      conv => whnf
                      refine cond_F ?_
                      conv => whnf
                      refine cond_F ?_
                      conv => whnf
                      refine cond_F ?_
                      conv => whnf
                      refine cond_F ?_
                      conv => whnf
                      refine cond_F ?_
                      conv => whnf
                      refine cond_F ?_
                      conv => whnf
                      refine cond_F ?_
                      conv => whnf
                      refine cond_F ?_
                      conv => whnf
                      refine cond_F ?_
                      obtain rfl := si hm
                      conv => whnf
                      refine EndStep.mk _ ((((((((((((((l15.trans l19).trans l25).trans l29).trans lt0).trans l49).trans lt2).trans l70).trans ld4_0).trans ld4_1).trans lt4).trans l125).trans lt6).trans lt8).trans l158) ⟨rfl, rfl⟩ (ConvH.of (.cons r5 .nil))
