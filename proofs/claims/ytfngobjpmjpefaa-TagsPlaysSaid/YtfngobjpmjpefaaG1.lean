/- Functions of the program: mirrors, and that a call returns what the mirror says. Printed by gen.py. -/
import Derived.Test.YtfngobjpmjpefaaShelf
import Derived.Test.YtfngobjpmjpefaaSL24
import Derived.KernelRfl
import Derived.Test.YtfngobjpmjpefaaProg
set_option linter.unusedVariables false
set_option linter.unusedSimpArgs false
open Go Go.SL Go.Proofs
set_option maxRecDepth 1000000
structure S_law35_Act where
  Remove : Bool
  ID : Str
  Tags : (List Str)
def S_law35_Act.R : Rp S_law35_Act := fun K cs x => ∃ a_0 : Option Addr, ∃ c_0 : Nat, cs = [.bool x.Remove, str x.ID, .slice a_0 x.Tags.length c_0] ∧ RdC eS K a_0 c_0 1 x.Tags
theorem S_law35_Act.R_ok : RpOK 3 S_law35_Act.R :=
  ⟨fun hk ⟨a_0, c_0, e, h_0⟩ => ⟨a_0, c_0, e, (h_0.mono hk)⟩, fun ⟨a_0, c_0, e, h_0⟩ => by simp [e], fun ⟨a_0, c_0, e, h_0⟩ v hv => by rw [e] at hv; simp at hv; rcases hv with rfl | rfl | rfl <;> rfl⟩
structure S_tags_Index where
  entries : (List (Str × (List Str)))
structure S_ref35_Entry where
  ID : Str
  Tags : (List Str)
def S_ref35_Entry.R : Rp S_ref35_Entry := fun K cs x => ∃ a_0 : Option Addr, ∃ c_0 : Nat, cs = [str x.ID, .slice a_0 x.Tags.length c_0] ∧ RdC eS K a_0 c_0 1 x.Tags
theorem S_ref35_Entry.R_ok : RpOK 2 S_ref35_Entry.R :=
  ⟨fun hk ⟨a_0, c_0, e, h_0⟩ => ⟨a_0, c_0, e, (h_0.mono hk)⟩, fun ⟨a_0, c_0, e, h_0⟩ => by simp [e], fun ⟨a_0, c_0, e, h_0⟩ v hv => by rw [e] at hv; simp at hv; rcases hv with rfl | rfl <;> rfl⟩
theorem elT31 : ElT Try.prog 31 9 1 := ElT.mk' rfl rfl rfl rfl rfl
theorem elT26 : ElT Try.prog 26 61 2 := ElT.mk' rfl rfl rfl rfl rfl
noncomputable def tags_New : Option (S_tags_Index) :=
  some (⟨[]⟩ : S_tags_Index)
set_option maxHeartbeats 8000000 in
theorem tags_New_ok  {K : Hp} {r : S_tags_Index}
    (hm : tags_New = some r)  :
    Fn Try.prog 16 [] K [] (fun v K' H' => ∃ br_0 : Nat, ∃ mr_1 : Nat, ∃ wr_1 : List (Str × SlD Str), v = .pointer (some ⟨br_0, 0, none⟩) ∧ MS eS 1 K' wr_1 r.entries ∧ H' = [Cells br_0 59 [.map (some mr_1)], MapE strK vSl mr_1 wr_1]) := by
  refine Fn.enter Try.func16 Try.call16 rfl fun F => ?_
  unfold tags_New at hm
  conv => whnf
  refine makeMap_rule strK (venc := (vSl : SlD Str → Value)) fun b1 => ?_
  conv => whnf
  refine build_struct rfl rfl ?_
  conv => whnf
  refine cond_T ?_
  conv => whnf
  refine box_rule ?_
  intro b3
  obtain rfl := si hm
  conv => whnf
  refine EndStep.mk _ (Hp.Le.refl _) ⟨b3, b1, ([] : List (Str × SlD Str)), rfl, MS.nil, rfl⟩ (ConvH.of (.cons r0 (.cons r0 (.cons r0 .nil))))

noncomputable def tags_good_L0 : List UInt8 → Nat → Option (Fl (Bool) (Unit))
  | [], _ => some (Fl.go ())
  | e0 :: xs0, i0 =>
    (if decide ((e0.toNat : Int) < 33) then some true else some (decide ((e0.toNat : Int) > 126))).bind fun x26 =>
    if x26 then
    some (Fl.ret false)
    else
    tags_good_L0 xs0 (i0 + 1)
noncomputable def tags_good (s : Str) : Option (Bool) :=
  if (decide ((s.length : Int) < 1) || decide ((s.length : Int) > 32)) then
  some false
  else
  (chk (s.length ≤ szMax)).bind fun _ =>
  (tags_good_L0 s 0).bind fun s0 => s0.el some fun t0 =>
  some true
set_option maxHeartbeats 8000000 in
theorem tags_good_ok {s : Str} {K : Hp} {r : Bool}
    (hm : tags_good s = some r)  :
    Fn Try.prog 32 [str s] K [] (fun v K' H' => v = .bool r ∧ H' = []) := by
  refine Fn.enter Try.func32 Try.call32 rfl fun F => ?_
  unfold tags_good at hm
  conv => whnf
  refine RStep.of (len_str rfl ?_)
  conv => whnf
  refine cond_s (fun g7_1 => ?_) (fun g7_1 => ?_)
  · conv => whnf
    refine cond_t g7_1 ?_
    conv => whnf
    refine cond_t g7_1 ?_
    conv => whnf
    refine cond_t g7_1 ?_
    conv => whnf
    refine cond_go rfl ?_
    conv => whnf
    refine cond_T ?_
    replace hm := ift (or_t g7_1) hm
    obtain rfl := si hm
    conv => whnf
    refine EndStep.mk _ (Hp.Le.refl _) ⟨rfl, rfl⟩ (ConvH.of (.cons r0 .nil))
  · conv => whnf
    refine cond_f g7_1 ?_
    conv => whnf
    refine RStep.of (len_str rfl ?_)
    conv => whnf
    refine cond_f g7_1 ?_
    conv => whnf
    refine cond_f g7_1 ?_
    conv => whnf
    refine cond_go rfl ?_
    conv => whnf
    refine cond_s (fun w11 => ?_) (fun w11 => ?_)
    · replace hm := ift (or_u g7_1 w11) hm
      obtain rfl := si hm
      conv => whnf
      refine EndStep.mk _ (Hp.Le.refl _) ⟨rfl, rfl⟩ (ConvH.of (.cons r0 .nil))
    · replace hm := iff_ (or_f g7_1 w11) hm
      conv => whnf
      refine RStep.of (len_str rfl ?_)
      obtain ⟨hk0, hm⟩ := chkb hm
      obtain ⟨s0, hl0, hm⟩ := bnd hm
      conv => whnf
      refine code_cut (σ := (Unit)) [2, 3, 14, 15, 16, 17, 18, 19, 20, 21, 22, 23, 24, 25, 26, 27] (fun t0 => []) (fun t0 => [F]) (fun zz K1 => match zz with | t0 => s0 = Fl.go t0) ?_ ?_
      · refine block_go rfl ?_
        conv => whnf
        refine loop_rule (σ := Nat) [2, 3, 14, 15, 16, 17, 18, 19, 20, 21, 22, 23, 24, 25, 26, 27] (fun i0 => [(14, .int .i64 (i0 : Int))]) (fun i0 => [F]) (fun zz K1 => match zz with | i0 => tags_good_L0 (s.drop i0) i0 = some s0) (fun zz => s.length - zz) (0) rfl ⟨rfl, trivial⟩ (ConvH.of (.cons r0 .nil)) hl0 ?_
        clear hl0
        rintro i0 Kb0 lk0 hl0 j0
        conv at hl0 => whnf
        conv => whnf
        refine cond_go rfl ?_
        conv => whnf
        refine cond_s (fun w0 => ?_) (fun w0 => ?_)
        · obtain ⟨e0, hx0, hd0⟩ := ltx w0
          rw [hd0, tags_good_L0.eq_2] at hl0
          conv => whnf
          refine block_go rfl ?_
          conv => whnf
          refine idx_str rfl (nn _) hx0 ?_
          obtain ⟨x26, e26, hl0⟩ := bnd hl0
          conv => whnf
          refine cond_s (fun g21_6 => ?_) (fun g21_6 => ?_)
          · replace e26 := ift g21_6 e26
            conv => whnf
            refine cond_t g21_6 ?_
            conv => whnf
            refine cond_t g21_6 ?_
            conv => whnf
            refine cond_t g21_6 ?_
            conv => whnf
            refine cond_t g21_6 ?_
            conv => whnf
            refine cond_go rfl ?_
            conv => whnf
            refine cond_T ?_
            replace hl0 := ift (si e26).symm hl0
            obtain rfl := si hl0
            replace hm := elr hm
            obtain rfl := si hm
            conv => whnf
            refine EndStep.mk _ lk0 ⟨rfl, rfl⟩ (ConvH.of (.cons r0 .nil))
          · replace e26 := iff_ g21_6 e26
            conv => whnf
            refine cond_f g21_6 ?_
            conv => whnf
            refine cond_f g21_6 ?_
            conv => whnf
            refine idx_str rfl (nn _) hx0 ?_
            conv => whnf
            refine cond_f g21_6 ?_
            conv => whnf
            refine cond_f g21_6 ?_
            conv => whnf
            refine cond_go rfl ?_
            conv => whnf
            refine cond_s (fun w26 => ?_) (fun w26 => ?_)
            · replace hl0 := ift ((si e26).symm.trans w26) hl0
              obtain rfl := si hl0
              replace hm := elr hm
              obtain rfl := si hm
              conv => whnf
              refine EndStep.mk _ lk0 ⟨rfl, rfl⟩ (ConvH.of (.cons r0 .nil))
            · replace hl0 := iff_ ((si e26).symm.trans w26) hl0
              conv => whnf
              refine int_in (cntz hx0 hk0) ?_
              conv => whnf
              refine RoundStep.mk (i0 + 1) ⟨rfl, trivial⟩ (by repeat (first | exact trivial | refine And.intro rfl ?_)) (ConvH.of (.cons r0 .nil)) lk0 (ltm hx0) hl0
        · rw [lty w0, tags_good_L0.eq_1] at hl0
          conv => whnf
          refine cond_T ?_
          conv => whnf
          refine MeetStep.mk (()) trivial (by repeat (first | exact trivial | refine And.intro rfl ?_)) (ConvH.of (.cons r0 .nil)) lk0 (si hl0).symm
      · rintro t0 Kt0 lt0 rfl j0
        replace hm := elg hm
        obtain rfl := si hm
        conv => whnf
        refine EndStep.mk _ lt0 ⟨rfl, rfl⟩ (ConvH.of (.cons r0 .nil))

noncomputable def slices_Clone_string (s : (List Str)) : Option ((List Str)) :=
  (chk (([] : List Str).length + s.length ≤ lim)).bind fun _ =>
  some (([] : List Str) ++ s)
set_option maxHeartbeats 8000000 in
theorem slices_Clone_string_ok {s : (List Str)} {ap0_0 : Option Addr} {cp0_0 : Nat} {n0 : Nat} {K : Hp} {r : (List Str)}
    (hm : slices_Clone_string s = some r) (hp0_0 : RdC eS K ap0_0 cp0_0 1 s) (en0 : n0 = s.length) :
    Fn Try.prog 33 [.slice ap0_0 n0 cp0_0] K [] (fun v K' H' => ∃ ar_0 : Option Addr, ∃ cr_0 : Nat, v = .slice ar_0 r.length cr_0 ∧ (0 < r.length → Has ar_0) ∧ H' = [OwnL eS ar_0 9 1 cr_0 r]) := by
  subst en0
  refine Fn.enter Try.func33 Try.call33 rfl fun F => ?_
  unfold slices_Clone_string at hm
  rcases Classical.em (ap0_0 = none) with hz | hz
  · subst hz
    obtain rfl := RdC.none_nil hp0_0
    obtain ⟨_, hm⟩ := chkb hm
    obtain rfl := si hm
    conv => whnf
    refine eq_snil_nil rfl ?_
    conv => whnf
    refine cond_go rfl ?_
    conv => whnf
    refine cond_T ?_
    conv => whnf
    refine nilE eS 9 1 ?_
    refine EndStep.mk _ (Hp.Le.refl _) ⟨none, 0, rfl, (fun h => by simp at h), rfl⟩ (ConvH.of (.cons r0 (.cons r0 .nil)))
  · conv => whnf
    refine eq_slice_ne hz rfl ?_
    conv => whnf
    refine cond_go rfl ?_
    conv => whnf
    refine cond_F ?_
    conv => whnf
    refine bsO (len := 0) (enc := eS) (l := ([] : List Str)) (cl := []) elT31 rfl rfl (fun _ _ => rfl) rfl rfl rfl ?_ fun b5 => ?_
    · conv => whnf
      first | done | rfl
    obtain ⟨h7, hm⟩ := chkb hm
    conv => whnf
    refine apE rfl r0 elT31 (src_k rfl hp0_0.rd rfl) h7 ?_
    intro a7 c7 o7
    obtain rfl := si hm
    conv => whnf
    refine EndStep.mk _ (Hp.Le.refl _) ⟨a7, c7, rfl, o7, rfl⟩ (ConvH.of (.cons r0 (.cons r0 .nil)))

noncomputable def tags_Index_Put_bor_L0 (x : S_tags_Index) : List Str → Nat → Option (Fl (Err × S_tags_Index) (Unit))
  | [], _ => some (Fl.go ())
  | e0 :: xs0, i0 =>
    (tags_good e0).bind fun x24 =>
    if (!x24) then
    some (Fl.ret ((some 2), x))
    else
    tags_Index_Put_bor_L0 x xs0 (i0 + 1)
noncomputable def tags_Index_Put_bor (x : S_tags_Index) (id : Str) (tags : (List Str)) : Option (Err × S_tags_Index) :=
  if decide ((tags.length : Int) > 16) then
  some ((some 5), x)
  else
  (chk (tags.length ≤ szMax)).bind fun _ =>
  (tags_Index_Put_bor_L0 x tags 0).bind fun s0 => s0.el some fun t0 =>
  (slices_Clone_string tags).bind fun x29 =>
  (sortSM x29).bind fun x31 =>
  (compactM x31).bind fun x38 =>
  some (none, (⟨(mset x.entries id x38)⟩ : S_tags_Index))
set_option maxHeartbeats 8000000 in
theorem tags_Index_Put_bor_ok {x : S_tags_Index} {id : Str} {tags : (List Str)} {b0 : Nat} {mp0_0 : Nat} {wp0_0 : List (Str × SlD Str)} {ap2_0 : Option Addr} {cp2_0 : Nat} {n2 : Nat} {K : Hp} {r : Err × S_tags_Index}
    (hm : tags_Index_Put_bor x id tags = some r) (up0_0 : MS eS 1 K wp0_0 x.entries) (hp2_0 : (0 < tags.length → Has ap2_0)) (en2 : n2 = tags.length) :
    Fn Try.prog 18 [.pointer (some ⟨b0, 0, none⟩), str id, .slice ap2_0 n2 cp2_0] K [Cells b0 59 [.map (some mp0_0)], MapE strK vSl mp0_0 wp0_0, OwnL eS ap2_0 9 1 cp2_0 tags] (fun v K' H' => ∃ mr_0 : Nat, ∃ wr_0 : List (Str × SlD Str), v = errV 46 r.1 ∧ MS eS 1 K' wr_0 r.2.entries ∧ H' = [Cells b0 59 [.map (some mr_0)], MapE strK vSl mr_0 wr_0, OwnL eS ap2_0 9 1 cp2_0 tags]) := by
  subst en2
  refine Fn.enter Try.func18 Try.call18 rfl fun F => ?_
  unfold tags_Index_Put_bor at hm
  conv => whnf
  refine eq_ptr_nil rfl ?_
  conv => whnf
  refine cond_go rfl ?_
  conv => whnf
  refine cond_F ?_
  conv => whnf
  refine RStep.of (len_slice rfl ?_)
  conv => whnf
  refine cond_go rfl ?_
  conv => whnf
  refine cond_s (fun w15 => ?_) (fun w15 => ?_)
  · replace hm := ift w15 hm
    conv => whnf
    refine mk_iface rfl ?_
    obtain rfl := si hm
    conv => whnf
    refine EndStep.mk _ (Hp.Le.refl _) ⟨mp0_0, wp0_0, rfl, up0_0, rfl⟩ (ConvH.of (.cons r0 (.cons r0 (.cons r0 (.cons r0 .nil)))))
  · replace hm := iff_ w15 hm
    conv => whnf
    refine RStep.of (len_slice rfl ?_)
    obtain ⟨hk0, hm⟩ := chkb hm
    obtain ⟨s0, hl0, hm⟩ := bnd hm
    conv => whnf
    refine code_cut (σ := (Unit)) [6, 8, 19, 20, 21, 22, 23, 24, 25, 26, 27] (fun t0 => []) (fun t0 => [Cells b0 59 [.map (some mp0_0)], MapE strK vSl mp0_0 wp0_0, OwnL eS ap2_0 9 1 cp2_0 tags, F]) (fun zz K1 => match zz with | t0 => s0 = Fl.go t0) ?_ ?_
    · refine block_go rfl ?_
      conv => whnf
      refine loop_rule (σ := Nat) [6, 8, 19, 20, 21, 22, 23, 24, 25, 26, 27] (fun i0 => [(19, .int .i64 (i0 : Int))]) (fun i0 => [Cells b0 59 [.map (some mp0_0)], MapE strK vSl mp0_0 wp0_0, OwnL eS ap2_0 9 1 cp2_0 tags, F]) (fun zz K1 => match zz with | i0 => tags_Index_Put_bor_L0 x (tags.drop i0) i0 = some s0) (fun zz => tags.length - zz) (0) rfl ⟨rfl, trivial⟩ (ConvH.of (.cons r0 (.cons r0 (.cons r0 (.cons r0 .nil))))) hl0 ?_
      clear hl0
      rintro i0 Kb0 lk0 hl0 j0
      conv at hl0 => whnf
      conv => whnf
      refine cond_go rfl ?_
      conv => whnf
      refine cond_s (fun w0 => ?_) (fun w0 => ?_)
      · obtain ⟨e0, hx0, hd0⟩ := ltx w0
        rw [hd0, tags_Index_Put_bor_L0.eq_2] at hl0
        conv => whnf
        refine block_go rfl ?_
        conv => whnf
        refine RStep.ofN (index_addr rfl rfl (hasO hp2_0 hx0) (nn _) (lt_ofNE rfl hx0) ?_)
        conv => whnf
        refine RStep.of (ld_own (i := i0) (o := 0) r2 rfl hx0 rfl rfl ?_)
        obtain ⟨x24, q24, hl0⟩ := bnd hl0
        conv => whnf
        refine call_fn (tags_good_ok q24) .nil ?_
        rintro _ K24 _ l24 ⟨rfl, rfl⟩
        conv => whnf
        refine un_not ?_
        conv => whnf
        refine cond_go rfl ?_
        conv => whnf
        refine cond_s (fun w25 => ?_) (fun w25 => ?_)
        · replace hl0 := ift (not_t (ni_t w25)) hl0
          conv => whnf
          refine mk_iface rfl ?_
          obtain rfl := si hl0
          replace hm := elr hm
          obtain rfl := si hm
          conv => whnf
          refine EndStep.mk _ (lk0.trans l24) ⟨mp0_0, wp0_0, rfl, (up0_0.mono (lk0.trans l24)), rfl⟩ (ConvH.of (.cons r0 (.cons r0 (.cons r0 (.cons r0 .nil)))))
        · replace hl0 := iff_ (not_f (ni_f w25)) hl0
          conv => whnf
          refine int_in (cntz hx0 hk0) ?_
          conv => whnf
          refine RoundStep.mk (i0 + 1) ⟨rfl, trivial⟩ (by repeat (first | exact trivial | refine And.intro rfl ?_)) (ConvH.of (.cons r0 (.cons r0 (.cons r0 (.cons r0 .nil))))) (lk0.trans l24) (ltm hx0) hl0
      · rw [lty w0, tags_Index_Put_bor_L0.eq_1] at hl0
        conv => whnf
        refine cond_T ?_
        conv => whnf
        refine MeetStep.mk (()) trivial (by repeat (first | exact trivial | refine And.intro rfl ?_)) (ConvH.of (.cons r0 (.cons r0 (.cons r0 (.cons r0 .nil))))) lk0 (si hl0).symm
    · rintro t0 Kt0 lt0 rfl j0
      replace hm := elg hm
      obtain ⟨x29, q29, hm⟩ := bnd hm
      conv => whnf
      refine call_fn (Fn.lend Try.call33 (fun K29_0 l29_0 f29_0 => (slices_Clone_string_ok q29 f29_0 rfl)) (by exact fun _ _ _ _ h => h)) (.cons r2 .nil) ?_
      rintro _ K29 _ l29 ⟨_, rfl, a29_0, c29_0, rfl, h29_0, rfl⟩
      obtain ⟨x31, q31, hm⟩ := bnd hm
      conv => whnf
      refine call_fn (sort_string_ok q31 rfl) (.cons r1 .nil) ?_
      rintro _ K31 _ l31 ⟨rfl, rfl⟩
      conv => whnf
      refine draw_go ⟨⟨[], false⟩, _, [(_, _)]⟩ (by kernel_rfl) ⟨Hp.Le.refl _, (ConvH.of (.cons r2 .nil))⟩ ?_
      conv => whnf
      refine nil_check ?_
      conv => whnf
      refine field_addr rfl ?_
      conv => whnf
      refine load1_l m0 rfl rfl ?_
      obtain ⟨x38, q38, hm⟩ := bnd hm
      conv => whnf
      refine call_fn (compact_string_ok q38 (Eq.trans (rfl) (sortSM_len q31).symm)) (.cons r0 .nil) ?_
      rintro _ K38 _ l38 ⟨rfl, rfl⟩
      conv => whnf
      refine ⟨⟨l38, (ConvH.of (.cons r2 .nil))⟩, ?_⟩
      conv => whnf
      refine fW r0 fun Kfu140083019480896_0 lfu140083019480896_0 ffu140083019480896_0 => ?_
      refine update_rule (kenc := strK) (venc := vSl) (a29_0, c29_0, x38) rfl r2 rfl (key_str rfl) ?_
      conv => whnf
      refine ⟨⟨(l38.trans lfu140083019480896_0), (ConvH.of (.cons r2 .nil))⟩, ?_⟩
      obtain rfl := si hm
      conv => whnf
      refine EndStep.mk _ ((((lt0.trans l29).trans l31).trans l38).trans lfu140083019480896_0) ⟨mp0_0, (mset wp0_0 id (a29_0, c29_0, x38)), rfl, (MS.set (up0_0.mono ((((lt0.trans l29).trans l31).trans l38).trans lfu140083019480896_0)) id ffu140083019480896_0), rfl⟩ (ConvH.of (.cons r2 (.cons r0 (.cons r0 (.cons r0 .nil)))))

noncomputable def tags_Index_IDs_L0 (e0 : (Str × (List Str))) (y0_0 : (List Str)) : Option ((List Str)) :=
  (chk (y0_0.length + [e0.1].length ≤ lim)).bind fun _ =>
  some (y0_0 ++ [e0.1])
noncomputable def tags_Index_IDs (x : S_tags_Index) : Option ((List Str)) :=
  perms x.entries fun pl0 =>
  (mfold (fun e0 ss0 => tags_Index_IDs_L0 e0 ss0) pl0 []).bind fun t0 =>
  (sortSM t0).bind fun x21 =>
  some x21
set_option maxHeartbeats 8000000 in
theorem tags_Index_IDs_ok {x : S_tags_Index} {b0 : Nat} {mp0_0 : Nat} {wp0_0 : List (Str × SlD Str)} {K : Hp} {r : (List Str)}
    (hm : tags_Index_IDs x = some r) (up0_0 : MS eS 1 K wp0_0 x.entries) :
    Fn Try.prog 19 [.pointer (some ⟨b0, 0, none⟩)] K [Cells b0 59 [.map (some mp0_0)], MapE strK vSl mp0_0 wp0_0] (fun v K' H' => ∃ ar_0 : Option Addr, ∃ cr_0 : Nat, v = .slice ar_0 r.length cr_0 ∧ (0 < r.length → Has ar_0) ∧ H' = [OwnL eS ar_0 9 1 cr_0 r, Cells b0 59 [.map (some mp0_0)], MapE strK vSl mp0_0 wp0_0]) := by
  refine Fn.enter Try.func19 Try.call19 rfl fun F => ?_
  unfold tags_Index_IDs at hm
  conv => whnf
  refine eq_ptr_nil rfl ?_
  conv => whnf
  refine cond_go rfl ?_
  conv => whnf
  refine cond_F ?_
  conv => whnf
  refine nil_check ?_
  conv => whnf
  refine field_addr rfl ?_
  conv => whnf
  refine RStep.of (load1_s r0 rfl rfl ?_)
  conv => whnf
  refine range_rule r1 rfl fun rb11 => ?_
  have hP0 := perms_all hm
  conv => whnf
  refine nilC eS 9 1 ?_
  refine code_cut (σ := ((List Str)) × Option Addr × Nat) [3, 4, 12, 13, 14, 15, 16, 17, 18, 19] (fun (t0, t0_a0, t0_c0) => [(3, .slice t0_a0 t0.length t0_c0)]) (fun (t0, t0_a0, t0_c0) => [OwnL eS t0_a0 9 1 t0_c0 t0, MapE strK vSl mp0_0 wp0_0, Cells b0 59 [.map (some mp0_0)], F]) (fun zz K1 => match zz with | (t0, t0_a0, t0_c0) => (0 < t0.length → Has t0_a0) ∧ ∃ pl, pl.Perm x.entries ∧ mfold (fun e0 ss0 => tags_Index_IDs_L0 e0 ss0) pl [] = some t0) ?_ ?_
  · refine block_go rfl ?_
    conv => whnf
    refine loop_rule (σ := (List (Str × SlD Str)) × (List Str) × Option Addr × Nat) [3, 4, 12, 13, 14, 15, 16, 17, 18, 19] (fun (vis0, y0_0, y0_a0, y0_c0) => [(3, .slice y0_a0 y0_0.length y0_c0)]) (fun (vis0, y0_0, y0_a0, y0_c0) => [OwnL eS y0_a0 9 1 y0_c0 y0_0, MapIt strK vSl rb11 mp0_0 wp0_0 vis0, Cells b0 59 [.map (some mp0_0)], F]) (fun zz K1 => match zz with | (vis0, y0_0, y0_a0, y0_c0) => (0 < y0_0.length → Has y0_a0) ∧ mfold (fun e0 ss0 => tags_Index_IDs_L0 e0 ss0) (vis0.map pSl) [] = some y0_0) (fun zz => wp0_0.length - zz.1.length) ([], [], none, 0) rfl ⟨rfl, trivial⟩ (ConvH.of (.cons r0 (.cons r0 (.cons r0 (.cons r0 .nil))))) ⟨(fun h => by simp at h), rfl⟩ ?_
    rintro ⟨vis0, y0_0, y0_a0, y0_c0⟩ Kb0 lk0 ⟨y0_h0, hv0⟩ j0
    conv => whnf
    refine next_rule r1 (fun hp0 => ?_) (fun rp0 rs0 hp0 => ?_)
    · conv => whnf
      refine cond_go rfl ?_
      conv => whnf
      refine cond_F ?_
      conv => whnf
      refine cond_T ?_
      conv => whnf
      refine MeetStep.mk (y0_0, y0_a0, y0_c0) ⟨rfl, trivial⟩ (by repeat (first | exact trivial | refine And.intro rfl ?_)) (ConvH.of (.cons r1 (.cons r0 (.cons r0 (.cons r0 .nil))))) lk0 ⟨y0_h0, ⟨_, MS.perm0 up0_0 hp0, hv0⟩⟩
    · obtain ⟨z0, hB0⟩ := mnext hP0 hv0 (MS.perm up0_0 hp0)
      have hl0 : tags_Index_IDs_L0 (pSl rp0) y0_0 = some z0 := hB0
      unfold tags_Index_IDs_L0 at hl0
      conv => whnf
      refine cond_go rfl ?_
      conv => whnf
      refine cond_T ?_
      conv => whnf
      refine block_go rfl ?_
      conv => whnf
      refine RStep.of (entry_rule r0 ?_)
      conv => whnf
      refine bsO (len := 1) (enc := eS) (l := [(pSl rp0).1]) (cl := [str (pSl rp0).1]) elT31 rfl rfl (fun _ _ => rfl) rfl rfl rfl ?_ fun b18 => ?_
      · conv => whnf
        refine cond_T ?_
        conv => whnf
        first | done | rfl
      obtain ⟨h19, hl0⟩ := chkb hl0
      conv => whnf
      refine apE rfl r2 elT31 (src_own' rfl r0 rfl (fun _ => rfl) (fun _ => rfl)) h19 ?_
      intro a19 c19 o19
      conv => whnf
      refine RoundStep.mk (vis0 ++ [rp0], (y0_0 ++ [(pSl rp0).1]), a19, c19) ⟨rfl, trivial⟩ (by repeat (first | exact trivial | refine And.intro rfl ?_)) (ConvH.of (.cons r0 (.cons r1 (.cons r1 (.cons r1 .nil))))) lk0 (ltmap hp0) ⟨o19, (by rw [pSl_snoc]; exact (mfold_snoc hv0).trans (hB0.trans hl0.symm))⟩
  · rintro ⟨t0, t0_a0, t0_c0⟩ Kt0 lt0 ⟨t0_h0, hx0⟩ j0
    replace hm := mlast hP0 hx0
    obtain ⟨x21, q21, hm⟩ := bnd hm
    conv => whnf
    refine call_fn (sort_string_ok q21 rfl) (.cons r0 .nil) ?_
    rintro _ K21 _ l21 ⟨rfl, rfl⟩
    obtain rfl := si hm
    conv => whnf
    refine EndStep.mk _ (lt0.trans l21) ⟨t0_a0, t0_c0, (by rw [← (show x21.length = t0.length from Eq.symm ((Eq.trans (rfl) (sortSM_len q21).symm)))] <;> rfl), (fun h => t0_h0 (by rw [sortSM_len q21] at h; exact h)), rfl⟩ (ConvH.of (.cons r0 (.cons r1 (.cons r0 (.cons r0 .nil)))))

noncomputable def slices_Index_string_L0 (v' : Str) : List Str → Nat → Option (Fl (Int) (Unit))
  | [], _ => some (Fl.go ())
  | e0 :: xs0, i0 =>
    if decide (v' = e0) then
    some (Fl.ret (i0 : Int))
    else
    slices_Index_string_L0 v' xs0 (i0 + 1)
noncomputable def slices_Index_string (s : (List Str)) (v' : Str) : Option (Int) :=
  (chk (s.length ≤ szMax)).bind fun _ =>
  (slices_Index_string_L0 v' s 0).bind fun s0 => s0.el some fun t0 =>
  some (-1)
set_option maxHeartbeats 8000000 in
theorem slices_Index_string_ok {s : (List Str)} {v' : Str} {ap0_0 : Option Addr} {cp0_0 : Nat} {n0 : Nat} {K : Hp} {r : Int}
    (hm : slices_Index_string s v' = some r) (hp0_0 : RdC eS K ap0_0 cp0_0 1 s) (en0 : n0 = s.length) :
    Fn Try.prog 38 [.slice ap0_0 n0 cp0_0, str v'] K [] (fun v K' H' => v = .int .i64 r ∧ H' = []) := by
  subst en0
  refine Fn.enter Try.func38 Try.call38 rfl fun F => ?_
  unfold slices_Index_string at hm
  conv => whnf
  refine RStep.of (len_slice rfl ?_)
  obtain ⟨hk0, hm⟩ := chkb hm
  obtain ⟨s0, hl0, hm⟩ := bnd hm
  conv => whnf
  refine code_cut (σ := (Unit)) [4, 5, 8, 9, 10, 11, 12, 13, 14, 15, 16, 17, 18] (fun t0 => []) (fun t0 => [F]) (fun zz K1 => match zz with | t0 => s0 = Fl.go t0) ?_ ?_
  · refine block_go rfl ?_
    conv => whnf
    refine loop_rule (σ := Nat) [4, 5, 8, 9, 10, 11, 12, 13, 14, 15, 16, 17, 18] (fun i0 => [(8, .int .i64 (i0 : Int))]) (fun i0 => [F]) (fun zz K1 => match zz with | i0 => slices_Index_string_L0 v' (s.drop i0) i0 = some s0) (fun zz => s.length - zz) (0) rfl ⟨rfl, trivial⟩ (ConvH.of (.cons r0 .nil)) hl0 ?_
    clear hl0
    rintro i0 Kb0 lk0 hl0 j0
    conv at hl0 => whnf
    conv => whnf
    refine cond_go rfl ?_
    conv => whnf
    refine cond_s (fun w0 => ?_) (fun w0 => ?_)
    · obtain ⟨e0, hx0, hd0⟩ := ltx w0
      rw [hd0, slices_Index_string_L0.eq_2] at hl0
      conv => whnf
      refine block_go rfl ?_
      conv => whnf
      refine RStep.ofN (index_addr rfl rfl (hasK (hp0_0.mono lk0).rd hx0) (nn _) (lt_ofN hx0) ?_)
      conv => whnf
      refine RStep.of (load_rd i0 0 _ _ (hp0_0.mono lk0).rd rfl (mp hx0) rfl rfl ?_)
      conv => whnf
      refine eq_str ?_
      conv => whnf
      refine cond_go rfl ?_
      conv => whnf
      refine cond_s (fun w16 => ?_) (fun w16 => ?_)
      · replace hl0 := ift w16 hl0
        obtain rfl := si hl0
        replace hm := elr hm
        obtain rfl := si hm
        conv => whnf
        refine EndStep.mk _ lk0 ⟨rfl, rfl⟩ (ConvH.of (.cons r0 .nil))
      · replace hl0 := iff_ w16 hl0
        conv => whnf
        refine int_in (cntz hx0 hk0) ?_
        conv => whnf
        refine RoundStep.mk (i0 + 1) ⟨rfl, trivial⟩ (by repeat (first | exact trivial | refine And.intro rfl ?_)) (ConvH.of (.cons r0 .nil)) lk0 (ltm hx0) hl0
    · rw [lty w0, slices_Index_string_L0.eq_1] at hl0
      conv => whnf
      refine cond_T ?_
      conv => whnf
      refine MeetStep.mk (()) trivial (by repeat (first | exact trivial | refine And.intro rfl ?_)) (ConvH.of (.cons r0 .nil)) lk0 (si hl0).symm
  · rintro t0 Kt0 lt0 rfl j0
    replace hm := elg hm
    obtain rfl := si hm
    conv => whnf
    refine EndStep.mk _ lt0 ⟨rfl, rfl⟩ (ConvH.of (.cons r0 .nil))

noncomputable def slices_Contains_string (s : (List Str)) (v' : Str) : Option (Bool) :=
  (slices_Index_string s v').bind fun x7 =>
  some (decide (x7 ≥ 0))
set_option maxHeartbeats 8000000 in
theorem slices_Contains_string_ok {s : (List Str)} {v' : Str} {ap0_0 : Option Addr} {cp0_0 : Nat} {n0 : Nat} {K : Hp} {r : Bool}
    (hm : slices_Contains_string s v' = some r) (hp0_0 : RdC eS K ap0_0 cp0_0 1 s) (en0 : n0 = s.length) :
    Fn Try.prog 30 [.slice ap0_0 n0 cp0_0, str v'] K [] (fun v K' H' => v = .bool r ∧ H' = []) := by
  subst en0
  refine Fn.enter Try.func30 Try.call30 rfl fun F => ?_
  unfold slices_Contains_string at hm
  obtain ⟨x7, q7, hm⟩ := bnd hm
  conv => whnf
  refine call_fn (slices_Index_string_ok q7 hp0_0 rfl) .nil ?_
  rintro _ K7 _ l7 ⟨rfl, rfl⟩
  obtain rfl := si hm
  conv => whnf
  refine EndStep.mk _ l7 ⟨rfl, rfl⟩ (ConvH.of (.cons r0 .nil))

noncomputable def tags_Index_Find_L0 (x : S_tags_Index) (tag : Str) : List Str → Nat → (List Str) → Option ((List Str))
  | [], _, y0_0 => some y0_0
  | e0 :: xs0, i0, y0_0 =>
    (slices_Contains_string ((mget x.entries e0).getD []) tag).bind fun x22 =>
    if x22 then
    (chk (y0_0.length + [e0].length ≤ lim)).bind fun _ =>
    tags_Index_Find_L0 x tag xs0 (i0 + 1) (y0_0 ++ [e0])
    else
    tags_Index_Find_L0 x tag xs0 (i0 + 1) y0_0
noncomputable def tags_Index_Find (x : S_tags_Index) (tag : Str) : Option ((List Str)) :=
  (tags_Index_IDs x).bind fun x9 =>
  (chk (x9.length ≤ szMax)).bind fun _ =>
  (tags_Index_Find_L0 x tag x9 0 []).bind fun t0 =>
  some t0
set_option maxHeartbeats 8000000 in
theorem tags_Index_Find_ok {x : S_tags_Index} {tag : Str} {b0 : Nat} {mp0_0 : Nat} {wp0_0 : List (Str × SlD Str)} {K : Hp} {r : (List Str)}
    (hm : tags_Index_Find x tag = some r) (up0_0 : MS eS 1 K wp0_0 x.entries) :
    Fn Try.prog 14 [.pointer (some ⟨b0, 0, none⟩), str tag] K [Cells b0 59 [.map (some mp0_0)], MapE strK vSl mp0_0 wp0_0] (fun v K' H' => ∃ ar_0 : Option Addr, ∃ cr_0 : Nat, v = .slice ar_0 r.length cr_0 ∧ (0 < r.length → Has ar_0) ∧ H' = [OwnL eS ar_0 9 1 cr_0 r, Cells b0 59 [.map (some mp0_0)], MapE strK vSl mp0_0 wp0_0]) := by
  refine Fn.enter Try.func14 Try.call14 rfl fun F => ?_
  unfold tags_Index_Find at hm
  obtain ⟨x9, q9, hm⟩ := bnd hm
  conv => whnf
  refine call_fn (tags_Index_IDs_ok q9 up0_0) (.cons r0 (.cons r0 .nil)) ?_
  rintro _ K9 _ l9 ⟨a9_0, c9_0, rfl, h9_0, rfl⟩
  conv => whnf
  refine RStep.of (len_slice rfl ?_)
  obtain ⟨hk0, hm⟩ := chkb hm
  obtain ⟨s0, hl0, hm⟩ := bnd hm
  conv => whnf
  refine nilC eS 9 1 ?_
  refine code_cut (σ := ((List Str)) × Option Addr × Nat) [5, 7, 11, 12, 13, 14, 15, 16, 17, 18, 19, 20, 21, 22, 23, 24, 25, 26, 27] (fun (t0, t0_a0, t0_c0) => [(5, .slice t0_a0 t0.length t0_c0)]) (fun (t0, t0_a0, t0_c0) => [OwnL eS t0_a0 9 1 t0_c0 t0, OwnL eS a9_0 9 1 c9_0 x9, Cells b0 59 [.map (some mp0_0)], MapE strK vSl mp0_0 wp0_0, F]) (fun zz K1 => match zz with | (t0, t0_a0, t0_c0) => (0 < t0.length → Has t0_a0) ∧ t0 = s0) ?_ ?_
  · refine block_go rfl ?_
    conv => whnf
    refine loop_rule (σ := Nat × (List Str) × Option Addr × Nat) [5, 7, 11, 12, 13, 14, 15, 16, 17, 18, 19, 20, 21, 22, 23, 24, 25, 26, 27] (fun (i0, y0_0, y0_a0, y0_c0) => [(11, .int .i64 (i0 : Int)), (5, .slice y0_a0 y0_0.length y0_c0)]) (fun (i0, y0_0, y0_a0, y0_c0) => [OwnL eS y0_a0 9 1 y0_c0 y0_0, OwnL eS a9_0 9 1 c9_0 x9, Cells b0 59 [.map (some mp0_0)], MapE strK vSl mp0_0 wp0_0, F]) (fun zz K1 => match zz with | (i0, y0_0, y0_a0, y0_c0) => (0 < y0_0.length → Has y0_a0) ∧ tags_Index_Find_L0 x tag (x9.drop i0) i0 y0_0 = some s0) (fun zz => x9.length - zz.1) (0, [], none, 0) rfl ⟨rfl, rfl, trivial⟩ (ConvH.of (.cons r0 (.cons r0 (.cons r0 (.cons r0 (.cons r0 .nil)))))) ⟨(fun h => by simp at h), hl0⟩ ?_
    clear hl0
    rintro ⟨i0, y0_0, y0_a0, y0_c0⟩ Kb0 lk0 ⟨y0_h0, hl0⟩ j0
    conv => whnf
    refine cond_go rfl ?_
    conv => whnf
    refine cond_s (fun w0 => ?_) (fun w0 => ?_)
    · obtain ⟨e0, hx0, hd0⟩ := ltx w0
      rw [hd0, tags_Index_Find_L0.eq_2] at hl0
      conv => whnf
      refine block_go rfl ?_
      conv => whnf
      refine RStep.ofN (index_addr rfl rfl (hasO h9_0 hx0) (nn _) (lt_ofNE rfl hx0) ?_)
      conv => whnf
      refine RStep.of (ld_own (i := i0) (o := 0) r1 rfl hx0 rfl rfl ?_)
      conv => whnf
      refine nil_check ?_
      conv => whnf
      refine field_addr rfl ?_
      conv => whnf
      refine RStep.of (load1_s r2 rfl rfl ?_)
      conv => whnf
      refine RStep.of (lookupS (kenc := strK) r3 rfl rfl (key_str rfl) (up0_0.mono (l9.trans lk0)) fun a20 c20 h20 => ?_)
      obtain ⟨x22, q22, hl0⟩ := bnd hl0
      conv => whnf
      refine call_fn (slices_Contains_string_ok q22 h20 rfl) .nil ?_
      rintro _ K22 _ l22 ⟨rfl, rfl⟩
      conv => whnf
      refine cond_go rfl ?_
      conv => whnf
      refine cond_s (fun w22 => ?_) (fun w22 => ?_)
      · replace hl0 := ift w22 hl0
        conv => whnf
        refine bsO (len := 1) (enc := eS) (l := [e0]) (cl := [str e0]) elT31 rfl rfl (fun _ _ => rfl) rfl rfl rfl ?_ fun b25 => ?_
        · conv => whnf
          refine cond_T ?_
          conv => whnf
          first | done | rfl
        obtain ⟨h26, hl0⟩ := chkb hl0
        conv => whnf
        refine apE rfl r1 elT31 (src_own' rfl r0 rfl (fun _ => rfl) (fun _ => rfl)) h26 ?_
        intro a26 c26 o26
        conv => whnf
        refine int_in (cntz hx0 hk0) ?_
        conv => whnf
        refine RoundStep.mk (i0 + 1, (y0_0 ++ [e0]), a26, c26) ⟨rfl, rfl, trivial⟩ (by repeat (first | exact trivial | refine And.intro rfl ?_)) (ConvH.of (.cons r0 (.cons r1 (.cons r1 (.cons r1 (.cons r1 .nil)))))) (lk0.trans l22) (ltm hx0) ⟨o26, hl0⟩
      · replace hl0 := iff_ w22 hl0
        conv => whnf
        refine int_in (cntz hx0 hk0) ?_
        conv => whnf
        refine RoundStep.mk (i0 + 1, y0_0, y0_a0, y0_c0) ⟨rfl, rfl, trivial⟩ (by repeat (first | exact trivial | refine And.intro rfl ?_)) (ConvH.of (.cons r0 (.cons r0 (.cons r0 (.cons r0 (.cons r0 .nil)))))) (lk0.trans l22) (ltm hx0) ⟨y0_h0, hl0⟩
    · rw [lty w0, tags_Index_Find_L0.eq_1] at hl0
      conv => whnf
      refine cond_T ?_
      conv => whnf
      refine MeetStep.mk (y0_0, y0_a0, y0_c0) ⟨rfl, trivial⟩ (by repeat (first | exact trivial | refine And.intro rfl ?_)) (ConvH.of (.cons r0 (.cons r0 (.cons r0 (.cons r0 (.cons r0 .nil)))))) lk0 ⟨y0_h0, (si hl0)⟩
  · rintro ⟨t0, t0_a0, t0_c0⟩ Kt0 lt0 ⟨t0_h0, rfl⟩ j0
    obtain rfl := si hm
    conv => whnf
    refine EndStep.mk _ (l9.trans lt0) ⟨t0_a0, t0_c0, rfl, t0_h0, rfl⟩ (ConvH.of (.cons r0 (.cons r1 (.cons r1 (.cons r1 .nil)))))

noncomputable def law35_awake : Option (Bool) :=
  (tags_New).bind fun x3 =>
  (tags_Index_Put_bor x3 ([97] : Str) ([([116] : Str)])).bind fun x9 =>
  if x9.1.isSome then
  some false
  else
  (tags_Index_Find x9.2 ([116] : Str)).bind fun x13 =>
  (if decide ((x13.length : Int) = 1) then (ix x13 0).bind fun x19 =>
  some (decide (x19 = ([97] : Str))) else some false).bind fun x22 =>
  some x22
set_option maxHeartbeats 8000000 in
theorem law35_awake_ok  {K : Hp} {r : Bool}
    (hm : law35_awake = some r)  :
    Fn Try.prog 9 [] K [] (fun v K' H' => v = .bool r ∧ H' = []) := by
  refine Fn.enter Try.func9 Try.call9 rfl fun F => ?_
  unfold law35_awake at hm
  obtain ⟨x3, q3, hm⟩ := bnd hm
  conv => whnf
  refine call_fn (tags_New_ok q3) .nil ?_
  rintro _ K3 _ l3 ⟨b3_0, m3_1, w3_1, rfl, u3_1, rfl⟩
  conv => whnf
  refine eq_ptr_nil rfl ?_
  conv => whnf
  refine cond_F ?_
  conv => whnf
  refine cond_F ?_
  conv => whnf
  refine bsO (len := 1) (enc := eS) (l := [([116] : Str)]) (cl := [str ([116] : Str)]) elT31 rfl rfl (fun _ _ => rfl) rfl rfl rfl ?_ fun b8 => ?_
  · conv => whnf
    refine cond_T ?_
    conv => whnf
    first | done | rfl
  conv => whnf
  refine cond_F ?_
  obtain ⟨x9, q9, hm⟩ := bnd hm
  conv => whnf
  refine call_fn (tags_Index_Put_bor_ok q9 u3_1 (fun _ => ⟨_, _, rfl⟩) rfl) (.cons r1 (.cons r1 (.cons r0 .nil))) ?_
  rintro _ K9 _ l9 ⟨m9_0, w9_0, rfl, u9_0, rfl⟩
  conv => whnf
  refine cond_F ?_
  conv => whnf
  refine neq_err rfl ?_
  conv => whnf
  refine cond_F ?_
  conv => whnf
  refine cond_go rfl ?_
  conv => whnf
  refine cond_s (fun w11 => ?_) (fun w11 => ?_)
  · replace hm := ift w11 hm
    obtain rfl := si hm
    conv => whnf
    refine EndStep.mk _ (l3.trans l9) ⟨rfl, rfl⟩ (ConvH.of (.cons r3 .nil))
  · replace hm := iff_ w11 hm
    obtain ⟨x13, q13, hm⟩ := bnd hm
    conv => whnf
    refine call_fn (tags_Index_Find_ok q13 u9_0) (.cons r0 (.cons r0 .nil)) ?_
    rintro _ K13 _ l13 ⟨a13_0, c13_0, rfl, h13_0, rfl⟩
    conv => whnf
    refine RStep.of (len_slice rfl ?_)
    conv => whnf
    refine eq_int ?_
    obtain ⟨x22, e22, hm⟩ := bnd hm
    conv => whnf
    refine cond_s (fun g17_5 => ?_) (fun g17_5 => ?_)
    · replace e22 := ift g17_5 e22
      conv => whnf
      refine cond_t g17_5 ?_
      obtain ⟨x19, l19, k19, e22⟩ := ixb e22
      conv => whnf
      refine RStep.ofN (index_addr rfl rfl (hasO h13_0 k19) l19 (lt_ofE rfl l19 k19) ?_)
      conv => whnf
      refine cond_t g17_5 ?_
      conv => whnf
      refine RStep.of (ld_own (i := (0 : Int).toNat) (o := 0) r0 rfl k19 rfl rfl ?_)
      conv => whnf
      refine cond_t g17_5 ?_
      conv => whnf
      refine eq_str ?_
      conv => whnf
      refine cond_t g17_5 ?_
      obtain rfl := si hm
      conv => whnf
      refine EndStep.mk _ ((l3.trans l9).trans l13) ⟨(by rw [← (si e22)] <;> rfl), rfl⟩ (ConvH.of (.cons r4 .nil))
    · replace e22 := iff_ g17_5 e22
      conv => whnf
      refine cond_f g17_5 ?_
      conv => whnf
      refine cond_f g17_5 ?_
      conv => whnf
      refine cond_f g17_5 ?_
      conv => whnf
      refine cond_f g17_5 ?_
      obtain rfl := si hm
      conv => whnf
      refine EndStep.mk _ ((l3.trans l9).trans l13) ⟨(by rw [← ((si e22).symm).symm] <;> rfl), rfl⟩ (ConvH.of (.cons r4 .nil))

noncomputable def law35_fits_L0 (acts : (List S_law35_Act)) : Nat → Int → Option (Fl (Bool) (Int))
  | 0, _ => none
  | xs0 + 1, y0_0 =>
    if decide (y0_0 < (acts.length : Int)) then
    (ix acts y0_0).bind fun x12 =>
    if decide ((x12.Tags.length : Int) > 40) then
    some (Fl.ret false)
    else
    (chk (InI (y0_0 + 1))).bind fun _ =>
    law35_fits_L0 acts xs0 (y0_0 + 1)
    else
    some (Fl.go y0_0)
noncomputable def law35_fits (n : Nat) (acts : (List S_law35_Act)) : Option (Bool) :=
  (law35_fits_L0 acts n 0).bind fun s0 => s0.el some fun t0 =>
  some (decide ((acts.length : Int) ≤ 40))
set_option maxHeartbeats 8000000 in
theorem law35_fits_ok {n : Nat} {acts : (List S_law35_Act)} {ap0_0 : Option Addr} {cp0_0 : Nat} {n0 : Nat} {K : Hp} {r : Bool}
    (hm : law35_fits n acts = some r) (hp0_0 : LiC S_law35_Act.R K ap0_0 cp0_0 3 acts) (en0 : n0 = acts.length) :
    Fn Try.prog 10 [.slice ap0_0 n0 cp0_0] K [] (fun v K' H' => v = .bool r ∧ H' = []) := by
  subst en0
  refine Fn.enter Try.func10 Try.call10 rfl fun F => ?_
  unfold law35_fits at hm
  obtain ⟨s0, hl0, hm⟩ := bnd hm
  conv => whnf
  refine code_cut (σ := (Int)) [2, 3, 4, 5, 6, 7, 8, 9, 10, 11, 12, 13, 14, 15, 16] (fun t0 => [(3, .int .i64 t0)]) (fun t0 => [F]) (fun zz K1 => match zz with | t0 => s0 = Fl.go t0) ?_ ?_
  · refine block_go rfl ?_
    conv => whnf
    refine loop_rule (σ := Nat × Int) [2, 3, 4, 5, 6, 7, 8, 9, 10, 11, 12, 13, 14, 15, 16] (fun (i0, y0_0) => [(3, .int .i64 y0_0)]) (fun (i0, y0_0) => [F]) (fun zz K1 => match zz with | (i0, y0_0) => law35_fits_L0 acts i0 y0_0 = some s0) (fun zz => zz.1) (n, 0) rfl ⟨rfl, trivial⟩ (ConvH.of (.cons r0 .nil)) hl0 ?_
    clear hl0
    rintro ⟨i0, y0_0⟩ Kb0 lk0 hl0 j0
    conv at hl0 => whnf
    cases i0 with
    | zero => rw [law35_fits_L0.eq_1] at hl0; cases hl0
    | succ i0 =>
      rw [law35_fits_L0.eq_2] at hl0
      conv => whnf
      refine RStep.of (len_slice rfl ?_)
      conv => whnf
      refine cond_go rfl ?_
      conv => whnf
      refine cond_s (fun w7 => ?_) (fun w7 => ?_)
      · replace hl0 := ift w7 hl0
        conv => whnf
        refine block_go rfl ?_
        obtain ⟨x12, l12, k12, hl0⟩ := ixb hl0
        conv => whnf
        refine RStep.ofN (index_addr rfl rfl (hasR (LiC.mono S_law35_Act.R_ok lk0 hp0_0).rd k12) l12 (lt_ofE rfl l12 k12) ?_)
        conv => whnf
        refine eptr_field rfl (hasR (LiC.mono S_law35_Act.R_ok lk0 hp0_0).rd k12) ?_
        obtain ⟨ss14, cc14, hr14, hc14, hR14⟩ := LiR.get (LiC.mono S_law35_Act.R_ok lk0 hp0_0).rd k12
        obtain ⟨a14_0, c14_0, rfl, h14_0⟩ := hR14
        conv => whnf
        refine RStep.of (load_rd ((y0_0).toNat) 2 _ _ hr14 rfl hc14 rfl rfl ?_)
        conv => whnf
        refine RStep.of (len_slice rfl ?_)
        conv => whnf
        refine cond_go rfl ?_
        conv => whnf
        refine cond_s (fun w16 => ?_) (fun w16 => ?_)
        · replace hl0 := ift w16 hl0
          obtain rfl := si hl0
          replace hm := elr hm
          obtain rfl := si hm
          conv => whnf
          refine EndStep.mk _ lk0 ⟨rfl, rfl⟩ (ConvH.of (.cons r0 .nil))
        · replace hl0 := iff_ w16 hl0
          obtain ⟨h9, hl0⟩ := chkb hl0
          conv => whnf
          refine int_in h9 ?_
          conv => whnf
          refine RoundStep.mk (i0, (y0_0 + 1)) ⟨rfl, trivial⟩ (by repeat (first | exact trivial | refine And.intro rfl ?_)) (ConvH.of (.cons r0 .nil)) lk0 (Nat.lt_succ_self _) hl0
      · replace hl0 := iff_ w7 hl0
        conv => whnf
        refine cond_T ?_
        conv => whnf
        refine MeetStep.mk (y0_0) ⟨rfl, trivial⟩ (by repeat (first | exact trivial | refine And.intro rfl ?_)) (ConvH.of (.cons r0 .nil)) lk0 (si hl0).symm
  · rintro t0 Kt0 lt0 rfl j0
    replace hm := elg hm
    conv => whnf
    refine RStep.of (len_slice rfl ?_)
    obtain rfl := si hm
    conv => whnf
    refine EndStep.mk _ lt0 ⟨rfl, rfl⟩ (ConvH.of (.cons r0 .nil))

noncomputable def ref35_Remove_L0 (x : (List S_ref35_Entry)) (id : Str) : Nat → (List S_ref35_Entry) → Int → Option ((List S_ref35_Entry) × Int)
  | 0, _, _ => none
  | xs0 + 1, y0_0, y0_1 =>
    if decide (y0_1 < (x.length : Int)) then
    (ix x y0_1).bind fun x15 =>
    if decide (x15.ID ≠ id) then
    (ix x y0_1).bind fun x23 =>
    (chk (y0_0.length + [x23].length ≤ lim)).bind fun _ =>
    (chk (InI (y0_1 + 1))).bind fun _ =>
    ref35_Remove_L0 x id xs0 (y0_0 ++ [x23]) (y0_1 + 1)
    else
    (chk (InI (y0_1 + 1))).bind fun _ =>
    ref35_Remove_L0 x id xs0 y0_0 (y0_1 + 1)
    else
    some (y0_0, y0_1)
noncomputable def ref35_Remove (n : Nat) (x : (List S_ref35_Entry)) (id : Str) : Option ((List S_ref35_Entry)) :=
  (ref35_Remove_L0 x id n [] 0).bind fun t0 =>
  some t0.1
set_option maxHeartbeats 8000000 in
theorem ref35_Remove_ok {n : Nat} {x : (List S_ref35_Entry)} {id : Str} {ap0_0 : Option Addr} {cp0_0 : Nat} {n0 : Nat} {K : Hp} {r : (List S_ref35_Entry)}
    (hm : ref35_Remove n x id = some r) (hp0_0 : LiC S_ref35_Entry.R K ap0_0 cp0_0 2 x) (en0 : n0 = x.length) :
    Fn Try.prog 26 [.slice ap0_0 n0 cp0_0, str id] K [] (fun v K' H' => ∃ ar_0 : Option Addr, ∃ cr_0 : Nat, ∃ sr_0 : List (List Value), v = .slice ar_0 r.length cr_0 ∧ (0 < r.length → Has ar_0) ∧ LR S_ref35_Entry.R K' sr_0 r ∧ H' = [OwnA ar_0 61 2 cr_0 sr_0]) := by
  subst en0
  refine Fn.enter Try.func26 Try.call26 rfl fun F => ?_
  unfold ref35_Remove at hm
  obtain ⟨s0, hl0, hm⟩ := bnd hm
  conv => whnf
  refine nilC (fun _ : S_ref35_Entry => []) 61 2 ?_
  refine code_cut (σ := ((List S_ref35_Entry) × Int) × Option Addr × Nat × List (List Value)) [5, 6, 7, 8, 9, 10, 11, 12, 13, 14, 15, 16, 17, 18, 19, 20, 21, 22, 23, 24, 25, 26] (fun (t0, t0_a0, t0_c0, t0_s0) => [(5, .slice t0_a0 t0.1.length t0_c0), (6, .int .i64 t0.2)]) (fun (t0, t0_a0, t0_c0, t0_s0) => [OwnA t0_a0 61 2 t0_c0 t0_s0, F]) (fun zz K1 => match zz with | (t0, t0_a0, t0_c0, t0_s0) => LR S_ref35_Entry.R K1 t0_s0 t0.1 ∧ (0 < t0.1.length → Has t0_a0) ∧ t0 = s0) ?_ ?_
  · refine block_go rfl ?_
    conv => whnf
    refine loop_rule (σ := Nat × (List S_ref35_Entry) × Int × Option Addr × Nat × List (List Value)) [5, 6, 7, 8, 9, 10, 11, 12, 13, 14, 15, 16, 17, 18, 19, 20, 21, 22, 23, 24, 25, 26] (fun (i0, y0_0, y0_1, y0_a0, y0_c0, y0_s0) => [(5, .slice y0_a0 y0_0.length y0_c0), (6, .int .i64 y0_1)]) (fun (i0, y0_0, y0_1, y0_a0, y0_c0, y0_s0) => [OwnA y0_a0 61 2 y0_c0 y0_s0, F]) (fun zz K1 => match zz with | (i0, y0_0, y0_1, y0_a0, y0_c0, y0_s0) => LR S_ref35_Entry.R K1 y0_s0 y0_0 ∧ (0 < y0_0.length → Has y0_a0) ∧ ref35_Remove_L0 x id i0 y0_0 y0_1 = some s0) (fun zz => zz.1) (n, [], 0, none, 0, []) rfl ⟨rfl, rfl, trivial⟩ (ConvH.of (.cons r0 (.cons r0 .nil))) ⟨LR.nil, (fun h => by simp at h), hl0⟩ ?_
    clear hl0
    rintro ⟨i0, y0_0, y0_1, y0_a0, y0_c0, y0_s0⟩ Kb0 lk0 ⟨y0_r0, y0_h0, hl0⟩ j0
    cases i0 with
    | zero => rw [ref35_Remove_L0.eq_1] at hl0; cases hl0
    | succ i0 =>
      rw [ref35_Remove_L0.eq_2] at hl0
      conv => whnf
      refine RStep.of (len_slice rfl ?_)
      conv => whnf
      refine cond_go rfl ?_
      conv => whnf
      refine cond_s (fun w10 => ?_) (fun w10 => ?_)
      · replace hl0 := ift w10 hl0
        conv => whnf
        refine block_go rfl ?_
        obtain ⟨x15, l15, k15, hl0⟩ := ixb hl0
        conv => whnf
        refine RStep.ofN (index_addr rfl rfl (hasR (LiC.mono S_ref35_Entry.R_ok lk0 hp0_0).rd k15) l15 (lt_ofE rfl l15 k15) ?_)
        conv => whnf
        refine eptr_field rfl (hasR (LiC.mono S_ref35_Entry.R_ok lk0 hp0_0).rd k15) ?_
        obtain ⟨ss17, cc17, hr17, hc17, hR17⟩ := LiR.get (LiC.mono S_ref35_Entry.R_ok lk0 hp0_0).rd k15
        obtain ⟨a17_0, c17_0, rfl, h17_0⟩ := hR17
        conv => whnf
        refine RStep.of (load_rd ((y0_1).toNat) 0 _ _ hr17 rfl hc17 rfl rfl ?_)
        conv => whnf
        refine neq_str ?_
        conv => whnf
        refine cond_go rfl ?_
        conv => whnf
        refine cond_s (fun w19 => ?_) (fun w19 => ?_)
        · replace hl0 := ift w19 hl0
          obtain ⟨x23, l23, k23, hl0⟩ := ixb hl0
          conv => whnf
          refine RStep.ofN (index_addr rfl rfl (hasR (LiC.mono S_ref35_Entry.R_ok lk0 hp0_0).rd k23) l23 (lt_ofE rfl l23 k23) ?_)
          obtain ⟨ss24, cc24, hr24, hc24, hR24⟩ := LiR.get (LiC.mono S_ref35_Entry.R_ok lk0 hp0_0).rd k23
          obtain ⟨a24_0, c24_0, rfl, h24_0⟩ := hR24
          conv => whnf
          refine RStep.of (load_rd_agg ((y0_1).toNat) _ hr24 rfl hc24 rfl ?_)
          conv => whnf
          refine bsOR (len := 1) (l := [x23]) (css := [[str x23.ID, .slice a24_0 x23.Tags.length c24_0]]) (cl := [str x23.ID, .slice a24_0 x23.Tags.length c24_0]) S_ref35_Entry.R_ok elT26 rfl rfl (LR.snoc LR.nil ⟨a24_0, c24_0, rfl, h24_0⟩) rfl rfl rfl ?_ fun b25 => ?_
          · conv => whnf
            refine cond_T ?_
            conv => whnf
            first | done | rfl
          obtain ⟨h26, hl0⟩ := chkb hl0
          conv => whnf
          refine apRl r1 y0_r0 rfl elT26 (src_ownR rfl r0 rfl S_ref35_Entry.R_ok (show LR S_ref35_Entry.R _ [[str x23.ID, .slice a24_0 x23.Tags.length c24_0]] [x23] from (LR.snoc LR.nil ⟨a24_0, c24_0, rfl, h24_0⟩))) (show LR S_ref35_Entry.R _ [[str x23.ID, .slice a24_0 x23.Tags.length c24_0]] [x23] from (LR.snoc LR.nil ⟨a24_0, c24_0, rfl, h24_0⟩)) h26 ?_
          intro a26 c26 s26 r_26 o26
          obtain ⟨h12, hl0⟩ := chkb hl0
          conv => whnf
          refine int_in h12 ?_
          conv => whnf
          refine RoundStep.mk (i0, (y0_0 ++ [x23]), (y0_1 + 1), a26, c26, s26) ⟨rfl, rfl, trivial⟩ (by repeat (first | exact trivial | refine And.intro rfl ?_)) (ConvH.of (.cons r0 (.cons r1 .nil))) lk0 (Nat.lt_succ_self _) ⟨r_26, o26, hl0⟩
        · replace hl0 := iff_ w19 hl0
          obtain ⟨h12, hl0⟩ := chkb hl0
          conv => whnf
          refine int_in h12 ?_
          conv => whnf
          refine RoundStep.mk (i0, y0_0, (y0_1 + 1), y0_a0, y0_c0, y0_s0) ⟨rfl, rfl, trivial⟩ (by repeat (first | exact trivial | refine And.intro rfl ?_)) (ConvH.of (.cons r0 (.cons r0 .nil))) lk0 (Nat.lt_succ_self _) ⟨y0_r0, y0_h0, hl0⟩
      · replace hl0 := iff_ w10 hl0
        conv => whnf
        refine cond_T ?_
        conv => whnf
        refine MeetStep.mk ((y0_0, y0_1), y0_a0, y0_c0, y0_s0) ⟨rfl, rfl, trivial⟩ (by repeat (first | exact trivial | refine And.intro rfl ?_)) (ConvH.of (.cons r0 (.cons r0 .nil))) lk0 ⟨y0_r0, y0_h0, (si hl0)⟩
  · rintro ⟨t0, t0_a0, t0_c0, t0_s0⟩ Kt0 lt0 ⟨t0_r0, t0_h0, rfl⟩ j0
    obtain rfl := si hm
    conv => whnf
    refine EndStep.mk _ lt0 ⟨t0_a0, t0_c0, t0_s0, rfl, t0_h0, t0_r0, rfl⟩ (ConvH.of (.cons r0 (.cons r0 .nil)))

noncomputable def tags_Index_Remove (x : S_tags_Index) (id : Str) : Option (Bool × S_tags_Index) :=
  some ((mget x.entries id).isSome, (⟨(mdel x.entries id)⟩ : S_tags_Index))
set_option maxHeartbeats 8000000 in
theorem tags_Index_Remove_ok {x : S_tags_Index} {id : Str} {b0 : Nat} {mp0_0 : Nat} {wp0_0 : List (Str × SlD Str)} {K : Hp} {r : Bool × S_tags_Index}
    (hm : tags_Index_Remove x id = some r) (up0_0 : MS eS 1 K wp0_0 x.entries) :
    Fn Try.prog 17 [.pointer (some ⟨b0, 0, none⟩), str id] K [Cells b0 59 [.map (some mp0_0)], MapE strK vSl mp0_0 wp0_0] (fun v K' H' => ∃ mr_0 : Nat, ∃ wr_0 : List (Str × SlD Str), v = .bool r.1 ∧ MS eS 1 K' wr_0 r.2.entries ∧ H' = [Cells b0 59 [.map (some mr_0)], MapE strK vSl mr_0 wr_0]) := by
  refine Fn.enter Try.func17 Try.call17 rfl fun F => ?_
  unfold tags_Index_Remove at hm
  conv => whnf
  refine eq_ptr_nil rfl ?_
  conv => whnf
  refine cond_go rfl ?_
  conv => whnf
  refine cond_F ?_
  conv => whnf
  refine nil_check ?_
  conv => whnf
  refine field_addr rfl ?_
  conv => whnf
  refine RStep.of (load1_s r0 rfl rfl ?_)
  conv => whnf
  refine RStep.of (lookupS_ok (kenc := strK) r1 rfl rfl (key_str rfl) up0_0 fun a15 c15 h15 => ?_)
  conv => whnf
  refine nil_check ?_
  conv => whnf
  refine field_addr rfl ?_
  conv => whnf
  refine RStep.of (load1_s r0 rfl rfl ?_)
  conv => whnf
  refine delete_rule (kenc := strK) (venc := vSl) r1 rfl rfl (key_str rfl) ?_
  obtain rfl := si hm
  conv => whnf
  refine EndStep.mk _ (Hp.Le.refl _) ⟨mp0_0, (mdel wp0_0 id), rfl, (MS.del up0_0 id), rfl⟩ (ConvH.of (.cons r1 (.cons r0 (.cons r0 .nil))))

noncomputable def ref35_Tag_L0 (s : Str) : Nat → Int → Option (Fl (Bool) (Int))
  | 0, _ => none
  | xs0 + 1, y0_0 =>
    if decide (y0_0 < (s.length : Int)) then
    (ix s y0_0).bind fun x12 =>
    (if decide ((x12.toNat : Int) < 33) then some true else (ix s y0_0).bind fun x17 =>
    some (decide ((x17.toNat : Int) > 126))).bind fun x19 =>
    if x19 then
    some (Fl.ret false)
    else
    (chk (InI (y0_0 + 1))).bind fun _ =>
    ref35_Tag_L0 s xs0 (y0_0 + 1)
    else
    some (Fl.go y0_0)
noncomputable def ref35_Tag (n : Nat) (s : Str) : Option (Bool) :=
  (ref35_Tag_L0 s n 0).bind fun s0 => s0.el some fun t0 =>
  some (decide ((s.length : Int) ≥ 1) && decide ((s.length : Int) ≤ 32))
set_option maxHeartbeats 8000000 in
theorem ref35_Tag_ok {n : Nat} {s : Str} {K : Hp} {r : Bool}
    (hm : ref35_Tag n s = some r)  :
    Fn Try.prog 37 [str s] K [] (fun v K' H' => v = .bool r ∧ H' = []) := by
  refine Fn.enter Try.func37 Try.call37 rfl fun F => ?_
  unfold ref35_Tag at hm
  obtain ⟨s0, hl0, hm⟩ := bnd hm
  conv => whnf
  refine code_cut (σ := (Int)) [2, 3, 4, 5, 6, 7, 8, 9, 10, 11, 12, 13, 14, 15, 16, 17, 18, 19] (fun t0 => [(3, .int .i64 t0)]) (fun t0 => [F]) (fun zz K1 => match zz with | t0 => s0 = Fl.go t0) ?_ ?_
  · refine block_go rfl ?_
    conv => whnf
    refine loop_rule (σ := Nat × Int) [2, 3, 4, 5, 6, 7, 8, 9, 10, 11, 12, 13, 14, 15, 16, 17, 18, 19] (fun (i0, y0_0) => [(3, .int .i64 y0_0)]) (fun (i0, y0_0) => [F]) (fun zz K1 => match zz with | (i0, y0_0) => ref35_Tag_L0 s i0 y0_0 = some s0) (fun zz => zz.1) (n, 0) rfl ⟨rfl, trivial⟩ (ConvH.of (.cons r0 .nil)) hl0 ?_
    clear hl0
    rintro ⟨i0, y0_0⟩ Kb0 lk0 hl0 j0
    conv at hl0 => whnf
    cases i0 with
    | zero => rw [ref35_Tag_L0.eq_1] at hl0; cases hl0
    | succ i0 =>
      rw [ref35_Tag_L0.eq_2] at hl0
      conv => whnf
      refine RStep.of (len_str rfl ?_)
      conv => whnf
      refine cond_go rfl ?_
      conv => whnf
      refine cond_s (fun w7 => ?_) (fun w7 => ?_)
      · replace hl0 := ift w7 hl0
        conv => whnf
        refine block_go rfl ?_
        obtain ⟨x12, l12, k12, hl0⟩ := ixb hl0
        conv => whnf
        refine idx_str rfl l12 k12 ?_
        obtain ⟨x19, e19, hl0⟩ := bnd hl0
        conv => whnf
        refine cond_s (fun g14_4 => ?_) (fun g14_4 => ?_)
        · replace e19 := ift g14_4 e19
          conv => whnf
          refine cond_t g14_4 ?_
          conv => whnf
          refine cond_t g14_4 ?_
          conv => whnf
          refine cond_t g14_4 ?_
          conv => whnf
          refine cond_t g14_4 ?_
          conv => whnf
          refine cond_go rfl ?_
          conv => whnf
          refine cond_T ?_
          replace hl0 := ift (si e19).symm hl0
          obtain rfl := si hl0
          replace hm := elr hm
          obtain rfl := si hm
          conv => whnf
          refine EndStep.mk _ lk0 ⟨rfl, rfl⟩ (ConvH.of (.cons r0 .nil))
        · replace e19 := iff_ g14_4 e19
          conv => whnf
          refine cond_f g14_4 ?_
          conv => whnf
          refine cond_f g14_4 ?_
          obtain ⟨x17, l17, k17, e19⟩ := ixb e19
          conv => whnf
          refine idx_str rfl l17 k17 ?_
          conv => whnf
          refine cond_f g14_4 ?_
          conv => whnf
          refine cond_f g14_4 ?_
          conv => whnf
          refine cond_go rfl ?_
          conv => whnf
          refine cond_s (fun w19 => ?_) (fun w19 => ?_)
          · replace hl0 := ift ((si e19).symm.trans w19) hl0
            obtain rfl := si hl0
            replace hm := elr hm
            obtain rfl := si hm
            conv => whnf
            refine EndStep.mk _ lk0 ⟨rfl, rfl⟩ (ConvH.of (.cons r0 .nil))
          · replace hl0 := iff_ ((si e19).symm.trans w19) hl0
            obtain ⟨h9, hl0⟩ := chkb hl0
            conv => whnf
            refine int_in h9 ?_
            conv => whnf
            refine RoundStep.mk (i0, (y0_0 + 1)) ⟨rfl, trivial⟩ (by repeat (first | exact trivial | refine And.intro rfl ?_)) (ConvH.of (.cons r0 .nil)) lk0 (Nat.lt_succ_self _) hl0
      · replace hl0 := iff_ w7 hl0
        conv => whnf
        refine cond_T ?_
        conv => whnf
        refine MeetStep.mk (y0_0) ⟨rfl, trivial⟩ (by repeat (first | exact trivial | refine And.intro rfl ?_)) (ConvH.of (.cons r0 .nil)) lk0 (si hl0).symm
  · rintro t0 Kt0 lt0 rfl j0
    replace hm := elg hm
    conv => whnf
    refine RStep.of (len_str rfl ?_)
    conv => whnf
    refine cond_s (fun g23_6 => ?_) (fun g23_6 => ?_)
    · conv => whnf
      refine cond_t g23_6 ?_
      conv => whnf
      refine RStep.of (len_str rfl ?_)
      conv => whnf
      refine cond_t g23_6 ?_
      conv => whnf
      refine cond_t g23_6 ?_
      obtain rfl := si hm
      conv => whnf
      refine EndStep.mk _ lt0 ⟨(by rw [← (and_e (b := decide ((s.length : Int) ≤ 32)) g23_6)] <;> rfl), rfl⟩ (ConvH.of (.cons r0 .nil))
    · conv => whnf
      refine cond_f g23_6 ?_
      conv => whnf
      refine cond_f g23_6 ?_
      conv => whnf
      refine cond_f g23_6 ?_
      obtain rfl := si hm
      conv => whnf
      refine EndStep.mk _ lt0 ⟨(by rw [← ((and_f g23_6)).symm] <;> rfl), rfl⟩ (ConvH.of (.cons r0 .nil))

noncomputable def ref35_Has_L0 (l : (List Str)) (s : Str) : Nat → Int → Option (Fl (Bool) (Int))
  | 0, _ => none
  | xs0 + 1, y0_0 =>
    if decide (y0_0 < (l.length : Int)) then
    (ix l y0_0).bind fun x14 =>
    if decide (x14 = s) then
    some (Fl.ret true)
    else
    (chk (InI (y0_0 + 1))).bind fun _ =>
    ref35_Has_L0 l s xs0 (y0_0 + 1)
    else
    some (Fl.go y0_0)
noncomputable def ref35_Has (n : Nat) (l : (List Str)) (s : Str) : Option (Bool) :=
  (ref35_Has_L0 l s n 0).bind fun s0 => s0.el some fun t0 =>
  some false
set_option maxHeartbeats 8000000 in
theorem ref35_Has_ok {n : Nat} {l : (List Str)} {s : Str} {ap0_0 : Option Addr} {cp0_0 : Nat} {n0 : Nat} {K : Hp} {r : Bool}
    (hm : ref35_Has n l s = some r) (hp0_0 : RdC eS K ap0_0 cp0_0 1 l) (en0 : n0 = l.length) :
    Fn Try.prog 20 [.slice ap0_0 n0 cp0_0, str s] K [] (fun v K' H' => v = .bool r ∧ H' = []) := by
  subst en0
  refine Fn.enter Try.func20 Try.call20 rfl fun F => ?_
  unfold ref35_Has at hm
  obtain ⟨s0, hl0, hm⟩ := bnd hm
  conv => whnf
  refine code_cut (σ := (Int)) [4, 5, 6, 7, 8, 9, 10, 11, 12, 13, 14, 15, 16, 17] (fun t0 => [(5, .int .i64 t0)]) (fun t0 => [F]) (fun zz K1 => match zz with | t0 => s0 = Fl.go t0) ?_ ?_
  · refine block_go rfl ?_
    conv => whnf
    refine loop_rule (σ := Nat × Int) [4, 5, 6, 7, 8, 9, 10, 11, 12, 13, 14, 15, 16, 17] (fun (i0, y0_0) => [(5, .int .i64 y0_0)]) (fun (i0, y0_0) => [F]) (fun zz K1 => match zz with | (i0, y0_0) => ref35_Has_L0 l s i0 y0_0 = some s0) (fun zz => zz.1) (n, 0) rfl ⟨rfl, trivial⟩ (ConvH.of (.cons r0 .nil)) hl0 ?_
    clear hl0
    rintro ⟨i0, y0_0⟩ Kb0 lk0 hl0 j0
    conv at hl0 => whnf
    cases i0 with
    | zero => rw [ref35_Has_L0.eq_1] at hl0; cases hl0
    | succ i0 =>
      rw [ref35_Has_L0.eq_2] at hl0
      conv => whnf
      refine RStep.of (len_slice rfl ?_)
      conv => whnf
      refine cond_go rfl ?_
      conv => whnf
      refine cond_s (fun w9 => ?_) (fun w9 => ?_)
      · replace hl0 := ift w9 hl0
        conv => whnf
        refine block_go rfl ?_
        obtain ⟨x14, l14, k14, hl0⟩ := ixb hl0
        conv => whnf
        refine RStep.ofN (index_addr rfl rfl (hasK (hp0_0.mono lk0).rd k14) l14 (lt_ofE rfl l14 k14) ?_)
        conv => whnf
        refine RStep.of (load_rd ((y0_0).toNat) 0 _ _ (hp0_0.mono lk0).rd rfl (mp k14) rfl rfl ?_)
        conv => whnf
        refine eq_str ?_
        conv => whnf
        refine cond_go rfl ?_
        conv => whnf
        refine cond_s (fun w17 => ?_) (fun w17 => ?_)
        · replace hl0 := ift w17 hl0
          obtain rfl := si hl0
          replace hm := elr hm
          obtain rfl := si hm
          conv => whnf
          refine EndStep.mk _ lk0 ⟨rfl, rfl⟩ (ConvH.of (.cons r0 .nil))
        · replace hl0 := iff_ w17 hl0
          obtain ⟨h11, hl0⟩ := chkb hl0
          conv => whnf
          refine int_in h11 ?_
          conv => whnf
          refine RoundStep.mk (i0, (y0_0 + 1)) ⟨rfl, trivial⟩ (by repeat (first | exact trivial | refine And.intro rfl ?_)) (ConvH.of (.cons r0 .nil)) lk0 (Nat.lt_succ_self _) hl0
      · replace hl0 := iff_ w9 hl0
        conv => whnf
        refine cond_T ?_
        conv => whnf
        refine MeetStep.mk (y0_0) ⟨rfl, trivial⟩ (by repeat (first | exact trivial | refine And.intro rfl ?_)) (ConvH.of (.cons r0 .nil)) lk0 (si hl0).symm
  · rintro t0 Kt0 lt0 rfl j0
    replace hm := elg hm
    obtain rfl := si hm
    conv => whnf
    refine EndStep.mk _ lt0 ⟨rfl, rfl⟩ (ConvH.of (.cons r0 .nil))

noncomputable def ref35_Sorted_L2 (l : (List Str)) (y0_1 : Int) (y0_0 : (List Str)) : Nat → Int → Option (Int)
  | 0, _ => none
  | xs2 + 1, y2_0 =>
    (if decide (y2_0 > 0) then (ix l y0_1).bind fun x25 =>
    (chk (InI (y2_0 - 1))).bind fun _ =>
    (ix y0_0 (y2_0 - 1)).bind fun x30 =>
    some (Op.bytesLess x25 x30) else some false).bind fun x33 =>
    if x33 then
    (chk (InI (y2_0 - 1))).bind fun _ =>
    ref35_Sorted_L2 l y0_1 y0_0 xs2 (y2_0 - 1)
    else
    some y2_0
noncomputable def ref35_Sorted_L0 (l : (List Str)) (n : Nat) : Nat → (List Str) → Int → Option ((List Str) × Int)
  | 0, _, _ => none
  | xs0 + 1, y0_0, y0_1 =>
    if decide (y0_1 < (l.length : Int)) then
    (ix l y0_1).bind fun x15 =>
    (ref35_Has n y0_0 x15).bind fun x17 =>
    if x17 then
    (chk (InI (y0_1 + 1))).bind fun _ =>
    ref35_Sorted_L0 l n xs0 y0_0 (y0_1 + 1)
    else
    (ref35_Sorted_L2 l y0_1 y0_0 n (y0_0.length : Int)).bind fun t2 =>
    (chk (0 ≤ (0 : Int) ∧ (0 : Int) ≤ t2 ∧ t2 ≤ (y0_0.length : Int))).bind fun _ =>
    (chk ((subL y0_0 (0 : Int) t2).length ≤ lim)).bind fun _ =>
    (ix l y0_1).bind fun x43 =>
    (chk ((subL y0_0 (0 : Int) t2).length + [x43].length ≤ lim)).bind fun _ =>
    (chk (0 ≤ t2 ∧ t2 ≤ (y0_0.length : Int) ∧ (y0_0.length : Int) ≤ (y0_0.length : Int))).bind fun _ =>
    (chk (((subL y0_0 (0 : Int) t2) ++ [x43]).length + (subL y0_0 t2 (y0_0.length : Int)).length ≤ lim)).bind fun _ =>
    (chk (InI (y0_1 + 1))).bind fun _ =>
    ref35_Sorted_L0 l n xs0 (((subL y0_0 (0 : Int) t2) ++ [x43]) ++ (subL y0_0 t2 (y0_0.length : Int))) (y0_1 + 1)
    else
    some (y0_0, y0_1)
noncomputable def ref35_Sorted (n : Nat) (l : (List Str)) : Option ((List Str)) :=
  (ref35_Sorted_L0 l n n [] 0).bind fun t0 =>
  some t0.1
set_option maxHeartbeats 8000000 in
theorem ref35_Sorted_ok {n : Nat} {l : (List Str)} {ap0_0 : Option Addr} {cp0_0 : Nat} {n0 : Nat} {K : Hp} {r : (List Str)}
    (hm : ref35_Sorted n l = some r) (hp0_0 : RdC eS K ap0_0 cp0_0 1 l) (en0 : n0 = l.length) :
    Fn Try.prog 31 [.slice ap0_0 n0 cp0_0] K [] (fun v K' H' => ∃ ar_0 : Option Addr, ∃ cr_0 : Nat, v = .slice ar_0 r.length cr_0 ∧ (0 < r.length → Has ar_0) ∧ H' = [OwnL eS ar_0 9 1 cr_0 r]) := by
  subst en0
  refine Fn.enter Try.func31 Try.call31 rfl fun F => ?_
  unfold ref35_Sorted at hm
  obtain ⟨s0, hl0, hm⟩ := bnd hm
  conv => whnf
  refine nilC eS 9 1 ?_
  refine code_cut (σ := ((List Str) × Int) × Option Addr × Nat) [3, 4, 5, 6, 7, 8, 9, 10, 11, 12, 13, 14, 15, 16, 17, 18, 19, 20, 21, 22, 23, 24, 25, 26, 27, 28, 29, 30, 31, 32, 33, 34, 35, 36, 37, 38, 39, 40, 41, 42, 43, 44, 45, 46, 47, 48, 49, 50] (fun (t0, t0_a0, t0_c0) => [(3, .slice t0_a0 t0.1.length t0_c0), (4, .int .i64 t0.2)]) (fun (t0, t0_a0, t0_c0) => [OwnL eS t0_a0 9 1 t0_c0 t0.1, F]) (fun zz K1 => match zz with | (t0, t0_a0, t0_c0) => (0 < t0.1.length → Has t0_a0) ∧ t0 = s0) ?_ ?_
  · refine block_go rfl ?_
    conv => whnf
    refine loop_rule (σ := Nat × (List Str) × Int × Option Addr × Nat) [3, 4, 5, 6, 7, 8, 9, 10, 11, 12, 13, 14, 15, 16, 17, 18, 19, 20, 21, 22, 23, 24, 25, 26, 27, 28, 29, 30, 31, 32, 33, 34, 35, 36, 37, 38, 39, 40, 41, 42, 43, 44, 45, 46, 47, 48, 49, 50] (fun (i0, y0_0, y0_1, y0_a0, y0_c0) => [(3, .slice y0_a0 y0_0.length y0_c0), (4, .int .i64 y0_1)]) (fun (i0, y0_0, y0_1, y0_a0, y0_c0) => [OwnL eS y0_a0 9 1 y0_c0 y0_0, F]) (fun zz K1 => match zz with | (i0, y0_0, y0_1, y0_a0, y0_c0) => (0 < y0_0.length → Has y0_a0) ∧ ref35_Sorted_L0 l n i0 y0_0 y0_1 = some s0) (fun zz => zz.1) (n, [], 0, none, 0) rfl ⟨rfl, rfl, trivial⟩ (ConvH.of (.cons r0 (.cons r0 .nil))) ⟨(fun h => by simp at h), hl0⟩ ?_
    clear hl0
    rintro ⟨i0, y0_0, y0_1, y0_a0, y0_c0⟩ Kb0 lk0 ⟨y0_h0, hl0⟩ j0
    cases i0 with
    | zero => rw [ref35_Sorted_L0.eq_1] at hl0; cases hl0
    | succ i0 =>
      rw [ref35_Sorted_L0.eq_2] at hl0
      conv => whnf
      refine RStep.of (len_slice rfl ?_)
      conv => whnf
      refine cond_go rfl ?_
      conv => whnf
      refine cond_s (fun w9 => ?_) (fun w9 => ?_)
      · replace hl0 := ift w9 hl0
        conv => whnf
        refine block_go rfl ?_
        obtain ⟨x15, l15, k15, hl0⟩ := ixb hl0
        conv => whnf
        refine RStep.ofN (index_addr rfl rfl (hasK (hp0_0.mono lk0).rd k15) l15 (lt_ofE rfl l15 k15) ?_)
        conv => whnf
        refine RStep.of (load_rd ((y0_1).toNat) 0 _ _ (hp0_0.mono lk0).rd rfl (mp k15) rfl rfl ?_)
        obtain ⟨x17, q17, hl0⟩ := bnd hl0
        conv => whnf
        refine call_fn (Fn.lend Try.call20 (fun K17_0 l17_0 f17_0 => (ref35_Has_ok q17 f17_0 rfl)) (by exact fun _ _ _ _ h => h)) (.cons r0 .nil) ?_
        rintro _ K17 _ l17 ⟨_, rfl, rfl, rfl⟩
        conv => whnf
        refine cond_go rfl ?_
        conv => whnf
        refine cond_s (fun w17 => ?_) (fun w17 => ?_)
        · replace hl0 := ift w17 hl0
          conv => whnf
          refine cond_T ?_
          obtain ⟨h11, hl0⟩ := chkb hl0
          conv => whnf
          refine int_in h11 ?_
          conv => whnf
          refine RoundStep.mk (i0, y0_0, (y0_1 + 1), y0_a0, y0_c0) ⟨rfl, rfl, trivial⟩ (by repeat (first | exact trivial | refine And.intro rfl ?_)) (ConvH.of (.cons r0 (.cons r0 .nil))) (lk0.trans l17) (Nat.lt_succ_self _) ⟨y0_h0, hl0⟩
        · replace hl0 := iff_ w17 hl0
          conv => whnf
          refine RStep.of (len_slice rfl ?_)
          obtain ⟨s2, hl2, hl0⟩ := bnd hl0
          conv => whnf
          refine code_cut (σ := (Int)) [5, 20, 21, 22, 23, 24, 25, 26, 27, 28, 29, 30, 31, 32, 33, 34, 35] (fun t2 => [(5, .int .i64 t2)]) (fun t2 => [OwnL eS y0_a0 9 1 y0_c0 y0_0, F]) (fun zz K1 => match zz with | t2 => t2 = s2) ?_ ?_
          · refine block_go rfl ?_
            conv => whnf
            refine loop_rule (σ := Nat × Int) [5, 20, 21, 22, 23, 24, 25, 26, 27, 28, 29, 30, 31, 32, 33, 34, 35] (fun (i2, y2_0) => [(5, .int .i64 y2_0)]) (fun (i2, y2_0) => [OwnL eS y0_a0 9 1 y0_c0 y0_0, F]) (fun zz K1 => match zz with | (i2, y2_0) => ref35_Sorted_L2 l y0_1 y0_0 i2 y2_0 = some s2) (fun zz => zz.1) (n, (y0_0.length : Int)) rfl ⟨rfl, trivial⟩ (ConvH.of (.cons r0 (.cons r0 .nil))) hl2 ?_
            clear hl2
            rintro ⟨i2, y2_0⟩ Kb2 lk2 hl2 j2
            conv at hl2 => whnf
            cases i2 with
            | zero => rw [ref35_Sorted_L2.eq_1] at hl2; cases hl2
            | succ i2 =>
              rw [ref35_Sorted_L2.eq_2] at hl2
              conv => whnf
              refine draw_go ⟨⟨[], true⟩, _, []⟩ (by kernel_rfl) ⟨Hp.Le.refl _, (ConvH.of .nil)⟩ ?_
              obtain ⟨x33, e33, hl2⟩ := bnd hl2
              conv => whnf
              refine cond_s (fun g22_7 => ?_) (fun g22_7 => ?_)
              · replace e33 := ift g22_7 e33
                conv => whnf
                refine cond_t g22_7 ?_
                conv => whnf
                refine cond_t g22_7 ?_
                obtain ⟨x25, l25, k25, e33⟩ := ixb e33
                conv => whnf
                refine index_addr rfl rfl (hasK (hp0_0.mono ((lk0.trans l17).trans lk2)).rd k25) l25 (lt_ofE rfl l25 k25) ?_
                conv => whnf
                refine cond_t g22_7 ?_
                conv => whnf
                refine load_rd ((y0_1).toNat) 0 _ _ (hp0_0.mono ((lk0.trans l17).trans lk2)).rd rfl (mp k25) rfl rfl ?_
                conv => whnf
                refine cond_t g22_7 ?_
                conv => whnf
                refine cond_t g22_7 ?_
                conv => whnf
                refine cond_t g22_7 ?_
                obtain ⟨h29, e33⟩ := chkb e33
                conv => whnf
                refine int_in h29 ?_
                conv => whnf
                refine cond_t g22_7 ?_
                obtain ⟨x30, l30, k30, e33⟩ := ixb e33
                conv => whnf
                refine index_addr rfl rfl (hasO y0_h0 k30) l30 (lt_ofE rfl l30 k30) ?_
                conv => whnf
                refine cond_t g22_7 ?_
                conv => whnf
                refine ld_own (i := ((y2_0 - 1)).toNat) (o := 0) r0 rfl k30 rfl rfl ?_
                conv => whnf
                refine cond_t g22_7 ?_
                conv => whnf
                refine lss_str ?_
                conv => whnf
                refine cond_t g22_7 ?_
                conv => whnf
                refine cond_go rfl ?_
                conv => whnf
                refine cond_s (fun w33 => ?_) (fun w33 => ?_)
                · replace hl2 := ift ((si e33).symm.trans w33) hl2
                  conv => whnf
                  refine block_go rfl ?_
                  obtain ⟨h35, hl2⟩ := chkb hl2
                  conv => whnf
                  refine int_in h35 ?_
                  conv => whnf
                  refine RoundStep.mk (i2, (y2_0 - 1)) ⟨rfl, trivial⟩ (by repeat (first | exact trivial | refine And.intro rfl ?_)) (ConvH.of (.cons r0 (.cons r0 .nil))) lk2 (Nat.lt_succ_self _) hl2
                · replace hl2 := iff_ ((si e33).symm.trans w33) hl2
                  conv => whnf
                  refine cond_T ?_
                  conv => whnf
                  refine MeetStep.mk (y2_0) ⟨rfl, trivial⟩ (by repeat (first | exact trivial | refine And.intro rfl ?_)) (ConvH.of (.cons r0 (.cons r0 .nil))) lk2 (si hl2)
              · replace e33 := iff_ g22_7 e33
                conv => whnf
                refine cond_f g22_7 ?_
                conv => whnf
                refine cond_f g22_7 ?_
                conv => whnf
                refine cond_f g22_7 ?_
                conv => whnf
                refine cond_f g22_7 ?_
                conv => whnf
                refine cond_f g22_7 ?_
                conv => whnf
                refine cond_f g22_7 ?_
                conv => whnf
                refine cond_f g22_7 ?_
                conv => whnf
                refine cond_f g22_7 ?_
                conv => whnf
                refine cond_f g22_7 ?_
                conv => whnf
                refine cond_f g22_7 ?_
                conv => whnf
                refine cond_go rfl ?_
                conv => whnf
                refine cond_F ?_
                replace hl2 := iff_ (si e33).symm hl2
                conv => whnf
                refine cond_T ?_
                conv => whnf
                refine MeetStep.mk (y2_0) ⟨rfl, trivial⟩ (by repeat (first | exact trivial | refine And.intro rfl ?_)) (ConvH.of (.cons r0 (.cons r0 .nil))) lk2 (si hl2)
          · rintro t2 Kt2 lt2 rfl j2
            conv => whnf
            refine DStep.ownLe r0 fun hc4 => ?_
            conv => whnf
            refine draw_go_F ⟨⟨[], false⟩, _, []⟩ 16 rfl (by kernel_rfl) ⟨Hp.Le.refl _, (ConvH.of .nil)⟩ ?_
            conv => whnf
            refine bsA (cl := []) elT31 rfl rfl ?_ fun b36 => ?_
            · conv => whnf
              first | done | rfl
            obtain ⟨h39, hl0⟩ := chkb hl0
            conv => whnf
            refine sl_part (l := y0_0) (lo := none) (hi := (some t2)) rfl rfl rfl hc4 h39 ?_
            conv => whnf
            intro GG4
            obtain ⟨h40, hl0⟩ := chkb hl0
            conv => whnf
            refine ape (enc := eS) r0 elT31 (src_part rfl r0 h39 rfl (fun _ => rfl) (fun _ => rfl)) h40 ?_
            intro a40 c40 o40
            conv => whnf
            refine ⟨⟨(Hp.Le.refl _), (ConvH.of .nil)⟩, ?_⟩
            refine ⟨_, .cons r3 .nil, ⟨(Hp.Le.refl _), (ConvH.of .nil)⟩, ?_⟩
            obtain ⟨x43, l43, k43, hl0⟩ := ixb hl0
            conv => whnf
            refine index_addr rfl rfl (hasK (hp0_0.mono ((lk0.trans l17).trans lt2)).rd k43) l43 (lt_ofE rfl l43 k43) ?_
            conv => whnf
            refine load_rd_l ((y0_1).toNat) 0 _ _ (hp0_0.mono ((lk0.trans l17).trans lt2)).rd rfl (mp k43) rfl rfl ?_
            conv => whnf
            refine bsA (cl := [str x43]) elT31 rfl rfl ?_ fun b45 => ?_
            · conv => whnf
              refine cond_T ?_
              conv => whnf
              first | done | rfl
            conv => whnf
            intro GG10
            obtain ⟨h46, hl0⟩ := chkb hl0
            conv => whnf
            refine apE rfl r1 elT31 (src_lit rfl r0 rfl rfl (fun _ _ => rfl) rfl) h46 ?_
            intro a46 c46 o46
            conv => whnf
            refine ⟨⟨(Hp.Le.refl _), (ConvH.of .nil)⟩, ?_⟩
            refine ⟨_, .cons r4 .nil, ⟨(Hp.Le.refl _), (ConvH.of .nil)⟩, ?_⟩
            obtain ⟨h49, hl0⟩ := chkb hl0
            conv => whnf
            refine sl_part (l := y0_0) (lo := (some t2)) (hi := none) rfl rfl rfl hc4 h49 ?_
            conv => whnf
            intro GG14
            obtain ⟨h50, hl0⟩ := chkb hl0
            conv => whnf
            refine apE rfl r0 elT31 (src_part rfl r1 h49 rfl (fun _ => rfl) (fun _ => rfl)) h50 ?_
            intro a50 c50 o50
            conv => whnf
            refine ⟨⟨(Hp.Le.refl _), (ConvH.of .nil)⟩, ?_⟩
            refine ⟨_, .cons r4 .nil, ⟨(Hp.Le.refl _), (ConvH.of .nil)⟩, ?_⟩
            obtain ⟨h11, hl0⟩ := chkb hl0
            conv => whnf
            refine int_in h11 ?_
            conv => whnf
            refine RoundStep.mk (i0, (((subL y0_0 (0 : Int) t2) ++ [x43]) ++ (subL y0_0 t2 (y0_0.length : Int))), (y0_1 + 1), a50, c50) ⟨rfl, rfl, trivial⟩ (by repeat (first | exact trivial | refine And.intro rfl ?_)) (ConvH.of (.cons r0 (.cons r2 .nil))) ((lk0.trans l17).trans lt2) (Nat.lt_succ_self _) ⟨o50, hl0⟩
      · replace hl0 := iff_ w9 hl0
        conv => whnf
        refine cond_T ?_
        conv => whnf
        refine MeetStep.mk ((y0_0, y0_1), y0_a0, y0_c0) ⟨rfl, rfl, trivial⟩ (by repeat (first | exact trivial | refine And.intro rfl ?_)) (ConvH.of (.cons r0 (.cons r0 .nil))) lk0 ⟨y0_h0, (si hl0)⟩
  · rintro ⟨t0, t0_a0, t0_c0⟩ Kt0 lt0 ⟨t0_h0, rfl⟩ j0
    obtain rfl := si hm
    conv => whnf
    refine EndStep.mk _ lt0 ⟨t0_a0, t0_c0, rfl, t0_h0, rfl⟩ (ConvH.of (.cons r0 (.cons r0 .nil)))

noncomputable def ref35_Put_L0 (tags : (List Str)) (n : Nat) (x : (List S_ref35_Entry)) : Nat → Int → Option (Fl ((List S_ref35_Entry) × Int) (Int))
  | 0, _ => none
  | xs0 + 1, y0_0 =>
    if decide (y0_0 < (tags.length : Int)) then
    (ix tags y0_0).bind fun x21 =>
    (ref35_Tag n x21).bind fun x23 =>
    if (!x23) then
    some (Fl.ret (x, 2))
    else
    (chk (InI (y0_0 + 1))).bind fun _ =>
    ref35_Put_L0 tags n x xs0 (y0_0 + 1)
    else
    some (Fl.go y0_0)
noncomputable def ref35_Put (n : Nat) (x : (List S_ref35_Entry)) (id : Str) (tags : (List Str)) : Option ((List S_ref35_Entry) × Int) :=
  if decide ((tags.length : Int) > 16) then
  some (x, 5)
  else
  (ref35_Put_L0 tags n x n 0).bind fun s0 => s0.el some fun t0 =>
  (ref35_Remove n x id).bind fun x28 =>
  (ref35_Sorted n tags).bind fun x31 =>
  (chk (x28.length + [(⟨id, x31⟩ : S_ref35_Entry)].length ≤ lim)).bind fun _ =>
  some ((x28 ++ [(⟨id, x31⟩ : S_ref35_Entry)]), 0)
set_option maxHeartbeats 8000000 in
theorem ref35_Put_ok {n : Nat} {x : (List S_ref35_Entry)} {id : Str} {tags : (List Str)} {ap0_0 : Option Addr} {cp0_0 : Nat} {n0 : Nat} {ap2_0 : Option Addr} {cp2_0 : Nat} {n2 : Nat} {K : Hp} {r : (List S_ref35_Entry) × Int}
    (hm : ref35_Put n x id tags = some r) (hp0_0 : LiC S_ref35_Entry.R K ap0_0 cp0_0 2 x) (en0 : n0 = x.length) (hp2_0 : RdC eS K ap2_0 cp2_0 1 tags) (en2 : n2 = tags.length) :
    Fn Try.prog 27 [.slice ap0_0 n0 cp0_0, str id, .slice ap2_0 n2 cp2_0] K [] (fun v K' H' => ∃ ar_0 : Option Addr, ∃ cr_0 : Nat, v = .tuple #[.slice ar_0 r.1.length cr_0, .int .i64 r.2] ∧ LiC S_ref35_Entry.R K' ar_0 cr_0 2 r.1 ∧ H' = []) := by
  subst en0
  subst en2
  refine Fn.enter Try.func27 Try.call27 rfl fun F => ?_
  unfold ref35_Put at hm
  conv => whnf
  refine RStep.of (len_slice rfl ?_)
  conv => whnf
  refine cond_go rfl ?_
  conv => whnf
  refine cond_s (fun w11 => ?_) (fun w11 => ?_)
  · replace hm := ift w11 hm
    obtain rfl := si hm
    conv => whnf
    refine EndStep.mk _ (Hp.Le.refl _) ⟨ap0_0, cp0_0, rfl, hp0_0, rfl⟩ (ConvH.of (.cons r0 .nil))
  · replace hm := iff_ w11 hm
    obtain ⟨s0, hl0, hm⟩ := bnd hm
    conv => whnf
    refine code_cut (σ := (Int)) [6, 7, 8, 13, 14, 15, 16, 17, 18, 19, 20, 21, 22, 23, 24, 25] (fun t0 => [(8, .int .i64 t0)]) (fun t0 => [F]) (fun zz K1 => match zz with | t0 => s0 = Fl.go t0) ?_ ?_
    · refine block_go rfl ?_
      conv => whnf
      refine loop_rule (σ := Nat × Int) [6, 7, 8, 13, 14, 15, 16, 17, 18, 19, 20, 21, 22, 23, 24, 25] (fun (i0, y0_0) => [(8, .int .i64 y0_0)]) (fun (i0, y0_0) => [F]) (fun zz K1 => match zz with | (i0, y0_0) => ref35_Put_L0 tags n x i0 y0_0 = some s0) (fun zz => zz.1) (n, 0) rfl ⟨rfl, trivial⟩ (ConvH.of (.cons r0 .nil)) hl0 ?_
      clear hl0
      rintro ⟨i0, y0_0⟩ Kb0 lk0 hl0 j0
      conv at hl0 => whnf
      cases i0 with
      | zero => rw [ref35_Put_L0.eq_1] at hl0; cases hl0
      | succ i0 =>
        rw [ref35_Put_L0.eq_2] at hl0
        conv => whnf
        refine RStep.of (len_slice rfl ?_)
        conv => whnf
        refine cond_go rfl ?_
        conv => whnf
        refine cond_s (fun w16 => ?_) (fun w16 => ?_)
        · replace hl0 := ift w16 hl0
          conv => whnf
          refine block_go rfl ?_
          obtain ⟨x21, l21, k21, hl0⟩ := ixb hl0
          conv => whnf
          refine RStep.ofN (index_addr rfl rfl (hasK (hp2_0.mono lk0).rd k21) l21 (lt_ofE rfl l21 k21) ?_)
          conv => whnf
          refine RStep.of (load_rd ((y0_0).toNat) 0 _ _ (hp2_0.mono lk0).rd rfl (mp k21) rfl rfl ?_)
          obtain ⟨x23, q23, hl0⟩ := bnd hl0
          conv => whnf
          refine call_fn (ref35_Tag_ok q23) .nil ?_
          rintro _ K23 _ l23 ⟨rfl, rfl⟩
          conv => whnf
          refine un_not ?_
          conv => whnf
          refine cond_go rfl ?_
          conv => whnf
          refine cond_s (fun w24 => ?_) (fun w24 => ?_)
          · replace hl0 := ift (not_t (ni_t w24)) hl0
            obtain rfl := si hl0
            replace hm := elr hm
            obtain rfl := si hm
            conv => whnf
            refine EndStep.mk _ (lk0.trans l23) ⟨ap0_0, cp0_0, rfl, (LiC.mono S_ref35_Entry.R_ok (lk0.trans l23) hp0_0), rfl⟩ (ConvH.of (.cons r0 .nil))
          · replace hl0 := iff_ (not_f (ni_f w24)) hl0
            obtain ⟨h18, hl0⟩ := chkb hl0
            conv => whnf
            refine int_in h18 ?_
            conv => whnf
            refine RoundStep.mk (i0, (y0_0 + 1)) ⟨rfl, trivial⟩ (by repeat (first | exact trivial | refine And.intro rfl ?_)) (ConvH.of (.cons r0 .nil)) (lk0.trans l23) (Nat.lt_succ_self _) hl0
        · replace hl0 := iff_ w16 hl0
          conv => whnf
          refine cond_T ?_
          conv => whnf
          refine MeetStep.mk (y0_0) ⟨rfl, trivial⟩ (by repeat (first | exact trivial | refine And.intro rfl ?_)) (ConvH.of (.cons r0 .nil)) lk0 (si hl0).symm
    · rintro t0 Kt0 lt0 rfl j0
      replace hm := elg hm
      obtain ⟨x28, q28, hm⟩ := bnd hm
      conv => whnf
      refine call_fn (ref35_Remove_ok q28 (LiC.mono S_ref35_Entry.R_ok lt0 hp0_0) rfl) .nil ?_
      rintro _ K28 _ l28 ⟨a28_0, c28_0, s28_0, rfl, h28_0, r28_0, rfl⟩
      obtain ⟨x31, q31, hm⟩ := bnd hm
      conv => whnf
      refine call_fn (ref35_Sorted_ok q31 (hp2_0.mono (lt0.trans l28)) rfl) .nil ?_
      rintro _ K31 _ l31 ⟨a31_0, c31_0, rfl, h31_0, rfl⟩
      conv => whnf
      refine build_struct rfl rfl ?_
      conv => whnf
      refine cond_T ?_
      conv => whnf
      refine cond_T ?_
      conv => whnf
      refine fW r0 fun Kf33_0_0 lf33_0_0 ff33_0_0 => ?_
      refine bsOR (len := 1) (l := [(⟨id, x31⟩ : S_ref35_Entry)]) (css := [[str id, .slice a31_0 x31.length c31_0]]) (cl := [str id, .slice a31_0 x31.length c31_0]) S_ref35_Entry.R_ok elT26 rfl rfl (LR.snoc LR.nil ⟨a31_0, c31_0, rfl, ff33_0_0⟩) rfl rfl rfl ?_ fun b33 => ?_
      · conv => whnf
        refine cond_T ?_
        conv => whnf
        first | done | rfl
      obtain ⟨h34, hm⟩ := chkb hm
      conv => whnf
      refine apRl r1 (LR.mono S_ref35_Entry.R_ok (l31.trans lf33_0_0) r28_0) rfl elT26 (src_ownR rfl r0 rfl S_ref35_Entry.R_ok (show LR S_ref35_Entry.R _ [[str id, .slice a31_0 x31.length c31_0]] [(⟨id, x31⟩ : S_ref35_Entry)] from (LR.snoc LR.nil ⟨a31_0, c31_0, rfl, ff33_0_0⟩))) (show LR S_ref35_Entry.R _ [[str id, .slice a31_0 x31.length c31_0]] [(⟨id, x31⟩ : S_ref35_Entry)] from (LR.snoc LR.nil ⟨a31_0, c31_0, rfl, ff33_0_0⟩)) h34 ?_
      intro a34 c34 s34 r_34 o34
      obtain rfl := si hm
      conv => whnf
      refine fzER S_ref35_Entry.R_ok r0 r_34 fun Kz1 lz1 fz1 => ?_
      refine EndStep.mk _ ((((lt0.trans l28).trans l31).trans lf33_0_0).trans lz1) ⟨a34, c34, rfl, fz1, rfl⟩ (ConvH.of (.cons r1 .nil))

noncomputable def base_Num (e : Err) : Option (Int) :=
  if e.isNone then
  some 0
  else
  if (!e.isSome) then
  some (-1)
  else
  some (e.getD 0)
set_option maxHeartbeats 8000000 in
theorem base_Num_ok {e : Err} {K : Hp} {r : Int}
    (hm : base_Num e = some r)  :
    Fn Try.prog 25 [errV 46 e] K [] (fun v K' H' => v = .int .i64 r ∧ H' = []) := by
  refine Fn.enter Try.func25 Try.call25 rfl fun F => ?_
  unfold base_Num at hm
  conv => whnf
  refine eq_err rfl ?_
  conv => whnf
  refine cond_go rfl ?_
  conv => whnf
  refine cond_s (fun w6 => ?_) (fun w6 => ?_)
  · replace hm := ift w6 hm
    obtain rfl := si hm
    conv => whnf
    refine EndStep.mk _ (Hp.Le.refl _) ⟨rfl, rfl⟩ (ConvH.of (.cons r0 .nil))
  · replace hm := iff_ w6 hm
    conv => whnf
    refine asrt rfl rfl rfl ?_
    conv => whnf
    refine un_not ?_
    conv => whnf
    refine cond_go rfl ?_
    conv => whnf
    refine cond_s (fun w13 => ?_) (fun w13 => ?_)
    · replace hm := ift (not_t (ni_t w13)) hm
      obtain rfl := si hm
      conv => whnf
      refine EndStep.mk _ (Hp.Le.refl _) ⟨rfl, rfl⟩ (ConvH.of (.cons r0 .nil))
    · replace hm := iff_ (not_f (ni_f w13)) hm
      obtain rfl := si hm
      conv => whnf
      refine EndStep.mk _ (Hp.Le.refl _) ⟨rfl, rfl⟩ (ConvH.of (.cons r0 .nil))

noncomputable def law35_play_L2 (x24 : S_law35_Act) : Nat → Int → (List Str) → Option (Int × (List Str))
  | 0, _, _ => none
  | xs2 + 1, y2_0, y2_1 =>
    if decide (y2_0 < (((([] : List Str) ++ x24.Tags).length) : Int)) then
    (ix y2_1 y2_0).bind fun x78 =>
    (chk (InI (y2_0 + 1))).bind fun _ =>
    law35_play_L2 x24 xs2 (y2_0 + 1) (y2_1.set ((y2_0).toNat) ([99, 104, 97, 110, 103, 101, 100] : Str))
    else
    some (y2_0, y2_1)
noncomputable def law35_play_L0 (acts : (List S_law35_Act)) (n : Nat) : Nat → (List S_ref35_Entry) → Int → S_tags_Index → Option (Fl (S_tags_Index × (List S_ref35_Entry) × Bool) ((List S_ref35_Entry) × Int × S_tags_Index))
  | 0, _, _, _ => none
  | xs0 + 1, y0_0, y0_1, y0_2 =>
    if decide (y0_1 < (acts.length : Int)) then
    (ix acts y0_1).bind fun x24 =>
    if x24.Remove then
    (ref35_Remove n y0_0 x24.ID).bind fun x31 =>
    (tags_Index_Remove y0_2 x24.ID).bind fun x35 =>
    if (!(x35.1 == (decide ((x31.length : Int) < (y0_0.length : Int))))) then
    some (Fl.ret (x35.2, y0_0, false))
    else
    (chk (InI (y0_1 + 1))).bind fun _ =>
    law35_play_L0 acts n xs0 x31 (y0_1 + 1) x35.2
    else
    (chk (([] : List Str).length + x24.Tags.length ≤ lim)).bind fun _ =>
    (tags_Index_Put_bor y0_2 x24.ID (([] : List Str) ++ x24.Tags)).bind fun x53 =>
    (ref35_Put n y0_0 x24.ID x24.Tags).bind fun x60 =>
    (base_Num x53.1).bind fun x65 =>
    if decide (x65 ≠ x60.2) then
    some (Fl.ret (x53.2, x60.1, false))
    else
    (law35_play_L2 x24 n 0 (([] : List Str) ++ x24.Tags)).bind fun t2 =>
    (chk (InI (y0_1 + 1))).bind fun _ =>
    law35_play_L0 acts n xs0 x60.1 (y0_1 + 1) x53.2
    else
    some (Fl.go (y0_0, y0_1, y0_2))
noncomputable def law35_play (n : Nat) (acts : (List S_law35_Act)) : Option (S_tags_Index × (List S_ref35_Entry) × Bool) :=
  (tags_New).bind fun x15 =>
  (law35_play_L0 acts n n [] 0 x15).bind fun s0 => s0.el some fun t0 =>
  some (t0.2.2, t0.1, true)
set_option maxHeartbeats 8000000 in
theorem law35_play_ok {n : Nat} {acts : (List S_law35_Act)} {ap0_0 : Option Addr} {cp0_0 : Nat} {n0 : Nat} {K : Hp} {r : S_tags_Index × (List S_ref35_Entry) × Bool}
    (hm : law35_play n acts = some r) (hp0_0 : LiC S_law35_Act.R K ap0_0 cp0_0 3 acts) (en0 : n0 = acts.length) :
    Fn Try.prog 11 [.slice ap0_0 n0 cp0_0] K [] (fun v K' H' => ∃ br_0 : Nat, ∃ mr_1 : Nat, ∃ wr_1 : List (Str × SlD Str), ∃ ar_2 : Option Addr, ∃ cr_2 : Nat, v = .tuple #[.pointer (some ⟨br_0, 0, none⟩), .slice ar_2 r.2.1.length cr_2, .bool r.2.2] ∧ MS eS 1 K' wr_1 r.1.entries ∧ LiC S_ref35_Entry.R K' ar_2 cr_2 2 r.2.1 ∧ H' = [Cells br_0 59 [.map (some mr_1)], MapE strK vSl mr_1 wr_1]) := by
  subst en0
  refine Fn.enter Try.func11 Try.call11 rfl fun F => ?_
  unfold law35_play at hm
  obtain ⟨x15, q15, hm⟩ := bnd hm
  conv => whnf
  refine call_fn (tags_New_ok q15) .nil ?_
  rintro _ K15 _ l15 ⟨b15_0, m15_1, w15_1, rfl, u15_1, rfl⟩
  obtain ⟨s0, hl0, hm⟩ := bnd hm
  conv => whnf
  refine code_cut (σ := ((List S_ref35_Entry) × Int × S_tags_Index) × Option Addr × Nat × Nat × List (Str × SlD Str)) [2, 3, 4, 6, 7, 8, 9, 10, 11, 12, 13, 14, 16, 17, 18, 19, 20, 21, 22, 23, 24, 25, 26, 27, 28, 29, 30, 31, 32, 33, 34, 35, 36, 37, 38, 39, 40, 41, 42, 43, 44, 45, 46, 47, 48, 49, 50, 51, 52, 53, 54, 55, 56, 57, 58, 59, 60, 61, 62, 63, 64, 65, 66, 67, 68, 69, 70, 71, 72, 73, 74, 75, 76, 77, 78] (fun (t0, t0_a0, t0_c0, mt0_2_0, wt0_2_0) => [(6, .slice t0_a0 t0.1.length t0_c0), (7, .int .i64 t0.2.1)]) (fun (t0, t0_a0, t0_c0, mt0_2_0, wt0_2_0) => [Cells b15_0 59 [.map (some mt0_2_0)], MapE strK vSl mt0_2_0 wt0_2_0, F]) (fun zz K1 => match zz with | (t0, t0_a0, t0_c0, mt0_2_0, wt0_2_0) => LiC S_ref35_Entry.R K1 t0_a0 t0_c0 2 t0.1 ∧ MS eS 1 K1 wt0_2_0 t0.2.2.entries ∧ s0 = Fl.go t0) ?_ ?_
  · refine block_go rfl ?_
    conv => whnf
    refine loop_rule (σ := Nat × (List S_ref35_Entry) × Int × S_tags_Index × Option Addr × Nat × Nat × List (Str × SlD Str)) [2, 3, 4, 6, 7, 8, 9, 10, 11, 12, 13, 14, 16, 17, 18, 19, 20, 21, 22, 23, 24, 25, 26, 27, 28, 29, 30, 31, 32, 33, 34, 35, 36, 37, 38, 39, 40, 41, 42, 43, 44, 45, 46, 47, 48, 49, 50, 51, 52, 53, 54, 55, 56, 57, 58, 59, 60, 61, 62, 63, 64, 65, 66, 67, 68, 69, 70, 71, 72, 73, 74, 75, 76, 77, 78] (fun (i0, y0_0, y0_1, y0_2, y0_a0, y0_c0, my0_2_0, wy0_2_0) => [(6, .slice y0_a0 y0_0.length y0_c0), (7, .int .i64 y0_1)]) (fun (i0, y0_0, y0_1, y0_2, y0_a0, y0_c0, my0_2_0, wy0_2_0) => [Cells b15_0 59 [.map (some my0_2_0)], MapE strK vSl my0_2_0 wy0_2_0, F]) (fun zz K1 => match zz with | (i0, y0_0, y0_1, y0_2, y0_a0, y0_c0, my0_2_0, wy0_2_0) => LiC S_ref35_Entry.R K1 y0_a0 y0_c0 2 y0_0 ∧ MS eS 1 K1 wy0_2_0 y0_2.entries ∧ law35_play_L0 acts n i0 y0_0 y0_1 y0_2 = some s0) (fun zz => zz.1) (n, [], 0, x15, none, 0, m15_1, w15_1) rfl ⟨rfl, rfl, trivial⟩ (ConvH.of (.cons r0 (.cons r0 (.cons r0 .nil)))) ⟨LiC.nil, u15_1, hl0⟩ ?_
    clear hl0
    rintro ⟨i0, y0_0, y0_1, y0_2, y0_a0, y0_c0, my0_2_0, wy0_2_0⟩ Kb0 lk0 ⟨y0_h0, uy0_2_0, hl0⟩ j0
    cases i0 with
    | zero => rw [law35_play_L0.eq_1] at hl0; cases hl0
    | succ i0 =>
      rw [law35_play_L0.eq_2] at hl0
      conv => whnf
      refine RStep.of (len_slice rfl ?_)
      conv => whnf
      refine cond_go rfl ?_
      conv => whnf
      refine cond_s (fun w19 => ?_) (fun w19 => ?_)
      · replace hl0 := ift w19 hl0
        conv => whnf
        refine block_go rfl ?_
        obtain ⟨x24, l24, k24, hl0⟩ := ixb hl0
        conv => whnf
        refine RStep.ofN (index_addr rfl rfl (hasR (LiC.mono S_law35_Act.R_ok (l15.trans lk0) hp0_0).rd k24) l24 (lt_ofE rfl l24 k24) ?_)
        obtain ⟨ss25, cc25, hr25, hc25, hR25⟩ := LiR.get (LiC.mono S_law35_Act.R_ok (l15.trans lk0) hp0_0).rd k24
        obtain ⟨a25_0, c25_0, rfl, h25_0⟩ := hR25
        conv => whnf
        refine RStep.of (load_rd_agg ((y0_1).toNat) _ hr25 rfl hc25 rfl ?_)
        conv => whnf
        refine alloc_rule rfl ?_
        intro b8
        conv => whnf
        refine store_rule r0 rfl ?_
        conv => whnf
        refine ⟨rfl, rfl, (Nat.le_of_ble_eq_true rfl), ?_⟩
        conv => whnf
        refine field_addr rfl ?_
        conv => whnf
        refine RStep.of (load1_s r0 rfl rfl ?_)
        conv => whnf
        refine cond_go rfl ?_
        conv => whnf
        refine cond_s (fun w27 => ?_) (fun w27 => ?_)
        · replace hl0 := ift w27 hl0
          conv => whnf
          refine field_addr rfl ?_
          conv => whnf
          refine RStep.of (load1_s r0 rfl rfl ?_)
          obtain ⟨x31, q31, hl0⟩ := bnd hl0
          conv => whnf
          refine call_fn (ref35_Remove_ok q31 y0_h0 rfl) .nil ?_
          rintro _ K31 _ l31 ⟨a31_0, c31_0, s31_0, rfl, h31_0, r31_0, rfl⟩
          conv => whnf
          refine field_addr rfl ?_
          conv => whnf
          refine RStep.of (load1_s r1 rfl rfl ?_)
          obtain ⟨x35, q35, hl0⟩ := bnd hl0
          conv => whnf
          refine call_fn (tags_Index_Remove_ok q35 (uy0_2_0.mono l31)) (.cons r2 (.cons r2 .nil)) ?_
          rintro _ K35 _ l35 ⟨m35_0, w35_0, rfl, u35_0, rfl⟩
          conv => whnf
          refine RStep.of (len_slice rfl ?_)
          conv => whnf
          refine RStep.of (len_slice rfl ?_)
          conv => whnf
          refine neq_bool rfl ?_
          conv => whnf
          refine cond_go rfl ?_
          conv => whnf
          refine cond_s (fun w41 => ?_) (fun w41 => ?_)
          · replace hl0 := ift w41 hl0
            obtain rfl := si hl0
            replace hm := elr hm
            obtain rfl := si hm
            conv => whnf
            refine EndStep.mk _ (((l15.trans lk0).trans l31).trans l35) ⟨b15_0, m35_0, w35_0, y0_a0, y0_c0, rfl, u35_0, (LiC.mono S_ref35_Entry.R_ok (l31.trans l35) y0_h0), rfl⟩ (ConvH.of (.cons r0 (.cons r0 (.cons r2 .nil))))
          · replace hl0 := iff_ w41 hl0
            conv => whnf
            refine cond_T ?_
            obtain ⟨h21, hl0⟩ := chkb hl0
            conv => whnf
            refine int_in h21 ?_
            conv => whnf
            refine fzRoR S_ref35_Entry.R_ok r2 (LR.mono S_ref35_Entry.R_ok l35 r31_0) fun Kr0_0 lr0_0 fr0_0 => ?_
            refine RoundStep.mk (i0, x31, (y0_1 + 1), x35.2, a31_0, c31_0, m35_0, w35_0) ⟨rfl, rfl, trivial⟩ (by repeat (first | exact trivial | refine And.intro rfl ?_)) (ConvH.of (.cons r0 (.cons r0 (.cons r1 .nil)))) (((lk0.trans l31).trans l35).trans lr0_0) (Nat.lt_succ_self _) ⟨fr0_0, (u35_0.mono lr0_0), hl0⟩
        · replace hl0 := iff_ w27 hl0
          conv => whnf
          refine bsO (len := 0) (enc := eS) (l := ([] : List Str)) (cl := []) elT31 rfl rfl (fun _ _ => rfl) rfl rfl rfl ?_ fun b45 => ?_
          · conv => whnf
            first | done | rfl
          conv => whnf
          refine field_addr rfl ?_
          conv => whnf
          refine RStep.of (load1_s r1 rfl rfl ?_)
          obtain ⟨h48, hl0⟩ := chkb hl0
          conv => whnf
          refine apE rfl r0 elT31 (src_k rfl h25_0.rd rfl) h48 ?_
          intro a48 c48 o48
          conv => whnf
          refine field_addr rfl ?_
          conv => whnf
          refine RStep.of (load1_s r1 rfl rfl ?_)
          obtain ⟨x53, q53, hl0⟩ := bnd hl0
          conv => whnf
          refine call_fn (tags_Index_Put_bor_ok q53 uy0_2_0 o48 rfl) (.cons r2 (.cons r2 (.cons r0 .nil))) ?_
          rintro _ K53 _ l53 ⟨m53_0, w53_0, rfl, u53_0, rfl⟩
          conv => whnf
          refine field_addr rfl ?_
          conv => whnf
          refine RStep.of (load1_s r3 rfl rfl ?_)
          conv => whnf
          refine field_addr rfl ?_
          conv => whnf
          refine RStep.of (load1_s r3 rfl rfl ?_)
          obtain ⟨x60, q60, hl0⟩ := bnd hl0
          conv => whnf
          refine call_fn (ref35_Put_ok q60 (LiC.mono S_ref35_Entry.R_ok l53 y0_h0) rfl (h25_0.mono l53) rfl) .nil ?_
          rintro _ K60 _ l60 ⟨a60_0, c60_0, rfl, h60_0, rfl⟩
          obtain ⟨x65, q65, hl0⟩ := bnd hl0
          conv => whnf
          refine call_fn (base_Num_ok q65) .nil ?_
          rintro _ K65 _ l65 ⟨rfl, rfl⟩
          conv => whnf
          refine neq_int ?_
          conv => whnf
          refine cond_go rfl ?_
          conv => whnf
          refine cond_s (fun w67 => ?_) (fun w67 => ?_)
          · replace hl0 := ift w67 hl0
            obtain rfl := si hl0
            replace hm := elr hm
            obtain rfl := si hm
            conv => whnf
            refine EndStep.mk _ ((((l15.trans lk0).trans l53).trans l60).trans l65) ⟨b15_0, m53_0, w53_0, a60_0, c60_0, rfl, (u53_0.mono (l60.trans l65)), (LiC.mono S_ref35_Entry.R_ok l65 h60_0), rfl⟩ (ConvH.of (.cons r0 (.cons r0 (.cons r2 .nil))))
          · replace hl0 := iff_ w67 hl0
            obtain ⟨s2, hl2, hl0⟩ := bnd hl0
            conv => whnf
            refine code_cut (σ := (Int × (List Str))) [14, 70, 71, 72, 73, 74, 75, 76, 77, 78] (fun t2 => [(14, .int .i64 t2.1)]) (fun t2 => [Cells b15_0 59 [.map (some m53_0)], MapE strK vSl m53_0 w53_0, OwnL eS a48 9 1 c48 t2.2, Cells b8 35 [.bool x24.Remove, str x24.ID, .slice a25_0 x24.Tags.length c25_0], F]) (fun zz K1 => match zz with | t2 => (0 < t2.2.length → Has a48) ∧ (([] : List Str) ++ x24.Tags).length = t2.2.length ∧ t2 = s2) ?_ ?_
            · refine block_go rfl ?_
              conv => whnf
              refine loop_rule (σ := Nat × Int × (List Str)) [14, 70, 71, 72, 73, 74, 75, 76, 77, 78] (fun (i2, y2_0, y2_1) => [(14, .int .i64 y2_0)]) (fun (i2, y2_0, y2_1) => [Cells b15_0 59 [.map (some m53_0)], MapE strK vSl m53_0 w53_0, OwnL eS a48 9 1 c48 y2_1, Cells b8 35 [.bool x24.Remove, str x24.ID, .slice a25_0 x24.Tags.length c25_0], F]) (fun zz K1 => match zz with | (i2, y2_0, y2_1) => (0 < y2_1.length → Has a48) ∧ (([] : List Str) ++ x24.Tags).length = y2_1.length ∧ law35_play_L2 x24 i2 y2_0 y2_1 = some s2) (fun zz => zz.1) (n, 0, (([] : List Str) ++ x24.Tags)) rfl ⟨rfl, trivial⟩ (ConvH.of (.cons r0 (.cons r0 (.cons r0 (.cons r0 (.cons r0 .nil)))))) ⟨o48, rfl, hl2⟩ ?_
              clear hl2
              rintro ⟨i2, y2_0, y2_1⟩ Kb2 lk2 ⟨y2_h1, y2_n1, hl2⟩ j2
              cases i2 with
              | zero => rw [law35_play_L2.eq_1] at hl2; cases hl2
              | succ i2 =>
                rw [law35_play_L2.eq_2] at hl2
                conv => whnf
                refine RStep.of (len_slice rfl ?_)
                conv => whnf
                refine cond_go rfl ?_
                conv => whnf
                refine cond_s (fun w73 => ?_) (fun w73 => ?_)
                · replace hl2 := ift w73 hl2
                  conv => whnf
                  refine block_go rfl ?_
                  obtain ⟨x78, l78, k78, hl2⟩ := ixb hl2
                  conv => whnf
                  refine RStep.ofN (index_addr rfl rfl (hasO y2_h1 k78) l78 (lt_ofE y2_n1 l78 k78) ?_)
                  conv => whnf
                  refine st_own (o := 0) (y := ([99, 104, 97, 110, 103, 101, 100] : Str)) x78 r2 rfl k78 rfl (by (conv => whnf); exact ⟨rfl, rfl, (Nat.le_of_ble_eq_true rfl), rfl, rfl, rfl⟩) ?_
                  obtain ⟨h75, hl2⟩ := chkb hl2
                  conv => whnf
                  refine int_in h75 ?_
                  conv => whnf
                  refine RoundStep.mk (i2, (y2_0 + 1), (y2_1.set ((y2_0).toNat) ([99, 104, 97, 110, 103, 101, 100] : Str))) ⟨rfl, trivial⟩ (by repeat (first | exact trivial | refine And.intro rfl ?_)) (ConvH.of (.cons r1 (.cons r1 (.cons r0 (.cons r0 (.cons r0 .nil)))))) lk2 (Nat.lt_succ_self _) ⟨(by simpa using y2_h1), ((y2_n1).trans List.length_set.symm), hl2⟩
                · replace hl2 := iff_ w73 hl2
                  conv => whnf
                  refine cond_T ?_
                  conv => whnf
                  refine MeetStep.mk ((y2_0, y2_1)) ⟨rfl, trivial⟩ (by repeat (first | exact trivial | refine And.intro rfl ?_)) (ConvH.of (.cons r0 (.cons r0 (.cons r0 (.cons r0 (.cons r0 .nil)))))) lk2 ⟨y2_h1, y2_n1, (si hl2)⟩
            · rintro t2 Kt2 lt2 ⟨t2_h1, t2_n1, rfl⟩ j2
              obtain ⟨h21, hl0⟩ := chkb hl0
              conv => whnf
              refine int_in h21 ?_
              conv => whnf
              refine RoundStep.mk (i0, x60.1, (y0_1 + 1), x53.2, a60_0, c60_0, m53_0, w53_0) ⟨rfl, rfl, trivial⟩ (by repeat (first | exact trivial | refine And.intro rfl ?_)) (ConvH.of (.cons r0 (.cons r0 (.cons r2 .nil)))) ((((lk0.trans l53).trans l60).trans l65).trans lt2) (Nat.lt_succ_self _) ⟨(LiC.mono S_ref35_Entry.R_ok (l65.trans lt2) h60_0), (u53_0.mono ((l60.trans l65).trans lt2)), hl0⟩
      · replace hl0 := iff_ w19 hl0
        conv => whnf
        refine cond_T ?_
        conv => whnf
        refine MeetStep.mk ((y0_0, y0_1, y0_2), y0_a0, y0_c0, my0_2_0, wy0_2_0) ⟨rfl, rfl, trivial⟩ (by repeat (first | exact trivial | refine And.intro rfl ?_)) (ConvH.of (.cons r0 (.cons r0 (.cons r0 .nil)))) lk0 ⟨y0_h0, uy0_2_0, (si hl0).symm⟩
  · rintro ⟨t0, t0_a0, t0_c0, mt0_2_0, wt0_2_0⟩ Kt0 lt0 ⟨t0_h0, ut0_2_0, rfl⟩ j0
    replace hm := elg hm
    obtain rfl := si hm
    conv => whnf
    refine EndStep.mk _ (l15.trans lt0) ⟨b15_0, mt0_2_0, wt0_2_0, t0_a0, t0_c0, rfl, ut0_2_0, t0_h0, rfl⟩ (ConvH.of (.cons r0 (.cons r0 (.cons r0 .nil))))

noncomputable def ref35_IDs_L0 (x : (List S_ref35_Entry)) : Nat → (List Str) → Int → Option ((List Str) × Int)
  | 0, _, _ => none
  | xs0 + 1, y0_0, y0_1 =>
    if decide (y0_1 < (x.length : Int)) then
    (ix x y0_1).bind fun x14 =>
    (chk (y0_0.length + [x14.ID].length ≤ lim)).bind fun _ =>
    (chk (InI (y0_1 + 1))).bind fun _ =>
    ref35_IDs_L0 x xs0 (y0_0 ++ [x14.ID]) (y0_1 + 1)
    else
    some (y0_0, y0_1)
noncomputable def ref35_IDs (n : Nat) (x : (List S_ref35_Entry)) : Option ((List Str)) :=
  (ref35_IDs_L0 x n [] 0).bind fun t0 =>
  (ref35_Sorted n t0.1).bind fun x20 =>
  some x20
set_option maxHeartbeats 8000000 in
theorem ref35_IDs_ok {n : Nat} {x : (List S_ref35_Entry)} {ap0_0 : Option Addr} {cp0_0 : Nat} {n0 : Nat} {K : Hp} {r : (List Str)}
    (hm : ref35_IDs n x = some r) (hp0_0 : LiC S_ref35_Entry.R K ap0_0 cp0_0 2 x) (en0 : n0 = x.length) :
    Fn Try.prog 28 [.slice ap0_0 n0 cp0_0] K [] (fun v K' H' => ∃ ar_0 : Option Addr, ∃ cr_0 : Nat, v = .slice ar_0 r.length cr_0 ∧ (0 < r.length → Has ar_0) ∧ H' = [OwnL eS ar_0 9 1 cr_0 r]) := by
  subst en0
  refine Fn.enter Try.func28 Try.call28 rfl fun F => ?_
  unfold ref35_IDs at hm
  obtain ⟨s0, hl0, hm⟩ := bnd hm
  conv => whnf
  refine nilC eS 9 1 ?_
  refine code_cut (σ := ((List Str) × Int) × Option Addr × Nat) [3, 4, 5, 6, 7, 8, 9, 10, 11, 12, 13, 14, 15, 16, 17, 18] (fun (t0, t0_a0, t0_c0) => [(3, .slice t0_a0 t0.1.length t0_c0), (4, .int .i64 t0.2)]) (fun (t0, t0_a0, t0_c0) => [OwnL eS t0_a0 9 1 t0_c0 t0.1, F]) (fun zz K1 => match zz with | (t0, t0_a0, t0_c0) => (0 < t0.1.length → Has t0_a0) ∧ t0 = s0) ?_ ?_
  · refine block_go rfl ?_
    conv => whnf
    refine loop_rule (σ := Nat × (List Str) × Int × Option Addr × Nat) [3, 4, 5, 6, 7, 8, 9, 10, 11, 12, 13, 14, 15, 16, 17, 18] (fun (i0, y0_0, y0_1, y0_a0, y0_c0) => [(3, .slice y0_a0 y0_0.length y0_c0), (4, .int .i64 y0_1)]) (fun (i0, y0_0, y0_1, y0_a0, y0_c0) => [OwnL eS y0_a0 9 1 y0_c0 y0_0, F]) (fun zz K1 => match zz with | (i0, y0_0, y0_1, y0_a0, y0_c0) => (0 < y0_0.length → Has y0_a0) ∧ ref35_IDs_L0 x i0 y0_0 y0_1 = some s0) (fun zz => zz.1) (n, [], 0, none, 0) rfl ⟨rfl, rfl, trivial⟩ (ConvH.of (.cons r0 (.cons r0 .nil))) ⟨(fun h => by simp at h), hl0⟩ ?_
    clear hl0
    rintro ⟨i0, y0_0, y0_1, y0_a0, y0_c0⟩ Kb0 lk0 ⟨y0_h0, hl0⟩ j0
    cases i0 with
    | zero => rw [ref35_IDs_L0.eq_1] at hl0; cases hl0
    | succ i0 =>
      rw [ref35_IDs_L0.eq_2] at hl0
      conv => whnf
      refine RStep.of (len_slice rfl ?_)
      conv => whnf
      refine cond_go rfl ?_
      conv => whnf
      refine cond_s (fun w8 => ?_) (fun w8 => ?_)
      · replace hl0 := ift w8 hl0
        conv => whnf
        refine block_go rfl ?_
        obtain ⟨x14, l14, k14, hl0⟩ := ixb hl0
        conv => whnf
        refine RStep.ofN (index_addr rfl rfl (hasR (LiC.mono S_ref35_Entry.R_ok lk0 hp0_0).rd k14) l14 (lt_ofE rfl l14 k14) ?_)
        conv => whnf
        refine eptr_field rfl (hasR (LiC.mono S_ref35_Entry.R_ok lk0 hp0_0).rd k14) ?_
        obtain ⟨ss16, cc16, hr16, hc16, hR16⟩ := LiR.get (LiC.mono S_ref35_Entry.R_ok lk0 hp0_0).rd k14
        obtain ⟨a16_0, c16_0, rfl, h16_0⟩ := hR16
        conv => whnf
        refine RStep.of (load_rd ((y0_1).toNat) 0 _ _ hr16 rfl hc16 rfl rfl ?_)
        conv => whnf
        refine bsO (len := 1) (enc := eS) (l := [x14.ID]) (cl := [str x14.ID]) elT31 rfl rfl (fun _ _ => rfl) rfl rfl rfl ?_ fun b17 => ?_
        · conv => whnf
          refine cond_T ?_
          conv => whnf
          first | done | rfl
        obtain ⟨h18, hl0⟩ := chkb hl0
        conv => whnf
        refine apE rfl r1 elT31 (src_own' rfl r0 rfl (fun _ => rfl) (fun _ => rfl)) h18 ?_
        intro a18 c18 o18
        obtain ⟨h10, hl0⟩ := chkb hl0
        conv => whnf
        refine int_in h10 ?_
        conv => whnf
        refine RoundStep.mk (i0, (y0_0 ++ [x14.ID]), (y0_1 + 1), a18, c18) ⟨rfl, rfl, trivial⟩ (by repeat (first | exact trivial | refine And.intro rfl ?_)) (ConvH.of (.cons r0 (.cons r1 .nil))) lk0 (Nat.lt_succ_self _) ⟨o18, hl0⟩
      · replace hl0 := iff_ w8 hl0
        conv => whnf
        refine cond_T ?_
        conv => whnf
        refine MeetStep.mk ((y0_0, y0_1), y0_a0, y0_c0) ⟨rfl, rfl, trivial⟩ (by repeat (first | exact trivial | refine And.intro rfl ?_)) (ConvH.of (.cons r0 (.cons r0 .nil))) lk0 ⟨y0_h0, (si hl0)⟩
  · rintro ⟨t0, t0_a0, t0_c0⟩ Kt0 lt0 ⟨t0_h0, rfl⟩ j0
    obtain ⟨x20, q20, hm⟩ := bnd hm
    conv => whnf
    refine call_fn (Fn.lend Try.call31 (fun K20_0 l20_0 f20_0 => (ref35_Sorted_ok q20 f20_0 rfl)) (by exact fun _ _ _ _ h => h)) (.cons r0 .nil) ?_
    rintro _ K20 _ l20 ⟨_, rfl, a20_0, c20_0, rfl, h20_0, rfl⟩
    obtain rfl := si hm
    conv => whnf
    refine EndStep.mk _ (lt0.trans l20) ⟨a20_0, c20_0, rfl, h20_0, rfl⟩ (ConvH.of (.cons r1 (.cons r1 .nil)))

noncomputable def base_Texts_L0 (b : (List Str)) : List Str → Nat → Option (Fl (Bool) (Unit))
  | [], _ => some (Fl.go ())
  | e0 :: xs0, i0 =>
    (ix b (i0 : Int)).bind fun x22 =>
    if decide (e0 ≠ x22) then
    some (Fl.ret false)
    else
    base_Texts_L0 b xs0 (i0 + 1)
noncomputable def base_Texts (a : (List Str)) (b : (List Str)) : Option (Bool) :=
  if decide ((a.length : Int) ≠ (b.length : Int)) then
  some false
  else
  (chk (a.length ≤ szMax)).bind fun _ =>
  (base_Texts_L0 b a 0).bind fun s0 => s0.el some fun t0 =>
  some true
set_option maxHeartbeats 8000000 in
theorem base_Texts_ok {a : (List Str)} {b : (List Str)} {ap0_0 : Option Addr} {cp0_0 : Nat} {n0 : Nat} {ap1_0 : Option Addr} {cp1_0 : Nat} {n1 : Nat} {K : Hp} {r : Bool}
    (hm : base_Texts a b = some r) (hp0_0 : RdC eS K ap0_0 cp0_0 1 a) (en0 : n0 = a.length) (hp1_0 : RdC eS K ap1_0 cp1_0 1 b) (en1 : n1 = b.length) :
    Fn Try.prog 13 [.slice ap0_0 n0 cp0_0, .slice ap1_0 n1 cp1_0] K [] (fun v K' H' => v = .bool r ∧ H' = []) := by
  subst en0
  subst en1
  refine Fn.enter Try.func13 Try.call13 rfl fun F => ?_
  unfold base_Texts at hm
  conv => whnf
  refine RStep.of (len_slice rfl ?_)
  conv => whnf
  refine RStep.of (len_slice rfl ?_)
  conv => whnf
  refine neq_int ?_
  conv => whnf
  refine cond_go rfl ?_
  conv => whnf
  refine cond_s (fun w10 => ?_) (fun w10 => ?_)
  · replace hm := ift w10 hm
    obtain rfl := si hm
    conv => whnf
    refine EndStep.mk _ (Hp.Le.refl _) ⟨rfl, rfl⟩ (ConvH.of (.cons r0 .nil))
  · replace hm := iff_ w10 hm
    conv => whnf
    refine RStep.of (len_slice rfl ?_)
    obtain ⟨hk0, hm⟩ := chkb hm
    obtain ⟨s0, hl0, hm⟩ := bnd hm
    conv => whnf
    refine code_cut (σ := (Unit)) [4, 5, 13, 14, 15, 16, 17, 18, 19, 20, 21, 22, 23, 24, 25] (fun t0 => []) (fun t0 => [F]) (fun zz K1 => match zz with | t0 => s0 = Fl.go t0) ?_ ?_
    · refine block_go rfl ?_
      conv => whnf
      refine loop_rule (σ := Nat) [4, 5, 13, 14, 15, 16, 17, 18, 19, 20, 21, 22, 23, 24, 25] (fun i0 => [(13, .int .i64 (i0 : Int))]) (fun i0 => [F]) (fun zz K1 => match zz with | i0 => base_Texts_L0 b (a.drop i0) i0 = some s0) (fun zz => a.length - zz) (0) rfl ⟨rfl, trivial⟩ (ConvH.of (.cons r0 .nil)) hl0 ?_
      clear hl0
      rintro i0 Kb0 lk0 hl0 j0
      conv at hl0 => whnf
      conv => whnf
      refine cond_go rfl ?_
      conv => whnf
      refine cond_s (fun w0 => ?_) (fun w0 => ?_)
      · obtain ⟨e0, hx0, hd0⟩ := ltx w0
        rw [hd0, base_Texts_L0.eq_2] at hl0
        conv => whnf
        refine block_go rfl ?_
        conv => whnf
        refine draw_go ⟨⟨[], false⟩, _, []⟩ (by kernel_rfl) ⟨Hp.Le.refl _, (ConvH.of .nil)⟩ ?_
        conv => whnf
        refine index_addr rfl rfl (hasK (hp0_0.mono lk0).rd hx0) (nn _) (lt_ofN hx0) ?_
        conv => whnf
        refine load_rd_l i0 0 _ _ (hp0_0.mono lk0).rd rfl (mp hx0) rfl rfl ?_
        obtain ⟨x22, l22, k22, hl0⟩ := ixb hl0
        conv => whnf
        refine index_addr rfl rfl (hasK (hp1_0.mono lk0).rd k22) l22 (lt_ofE rfl l22 k22) ?_
        conv => whnf
        refine load_rd_l (((i0 : Int)).toNat) 0 _ _ (hp1_0.mono lk0).rd rfl (mp k22) rfl rfl ?_
        conv => whnf
        refine neq_str ?_
        conv => whnf
        refine cond_go rfl ?_
        conv => whnf
        refine cond_s (fun w24 => ?_) (fun w24 => ?_)
        · replace hl0 := ift w24 hl0
          obtain rfl := si hl0
          replace hm := elr hm
          obtain rfl := si hm
          conv => whnf
          refine EndStep.mk _ lk0 ⟨rfl, rfl⟩ (ConvH.of (.cons r0 .nil))
        · replace hl0 := iff_ w24 hl0
          conv => whnf
          refine int_in (cntz hx0 hk0) ?_
          conv => whnf
          refine RoundStep.mk (i0 + 1) ⟨rfl, trivial⟩ (by repeat (first | exact trivial | refine And.intro rfl ?_)) (ConvH.of (.cons r0 .nil)) lk0 (ltm hx0) hl0
      · rw [lty w0, base_Texts_L0.eq_1] at hl0
        conv => whnf
        refine cond_T ?_
        conv => whnf
        refine MeetStep.mk (()) trivial (by repeat (first | exact trivial | refine And.intro rfl ?_)) (ConvH.of (.cons r0 .nil)) lk0 (si hl0).symm
    · rintro t0 Kt0 lt0 rfl j0
      replace hm := elg hm
      obtain rfl := si hm
      conv => whnf
      refine EndStep.mk _ lt0 ⟨rfl, rfl⟩ (ConvH.of (.cons r0 .nil))

noncomputable def tags_Index_Tags (x : S_tags_Index) (id : Str) : Option ((List Str)) :=
  (slices_Clone_string ((mget x.entries id).getD [])).bind fun x13 =>
  some x13
set_option maxHeartbeats 8000000 in
theorem tags_Index_Tags_ok {x : S_tags_Index} {id : Str} {b0 : Nat} {mp0_0 : Nat} {wp0_0 : List (Str × SlD Str)} {K : Hp} {r : (List Str)}
    (hm : tags_Index_Tags x id = some r) (up0_0 : MS eS 1 K wp0_0 x.entries) :
    Fn Try.prog 21 [.pointer (some ⟨b0, 0, none⟩), str id] K [Cells b0 59 [.map (some mp0_0)], MapE strK vSl mp0_0 wp0_0] (fun v K' H' => ∃ ar_0 : Option Addr, ∃ cr_0 : Nat, v = .slice ar_0 r.length cr_0 ∧ (0 < r.length → Has ar_0) ∧ H' = [OwnL eS ar_0 9 1 cr_0 r, Cells b0 59 [.map (some mp0_0)], MapE strK vSl mp0_0 wp0_0]) := by
  refine Fn.enter Try.func21 Try.call21 rfl fun F => ?_
  unfold tags_Index_Tags at hm
  conv => whnf
  refine eq_ptr_nil rfl ?_
  conv => whnf
  refine cond_go rfl ?_
  conv => whnf
  refine cond_F ?_
  conv => whnf
  refine nil_check ?_
  conv => whnf
  refine field_addr rfl ?_
  conv => whnf
  refine RStep.of (load1_s r0 rfl rfl ?_)
  conv => whnf
  refine RStep.of (lookupS (kenc := strK) r1 rfl rfl (key_str rfl) up0_0 fun a12 c12 h12 => ?_)
  obtain ⟨x13, q13, hm⟩ := bnd hm
  conv => whnf
  refine call_fn (slices_Clone_string_ok q13 h12 rfl) .nil ?_
  rintro _ K13 _ l13 ⟨a13_0, c13_0, rfl, h13_0, rfl⟩
  obtain rfl := si hm
  conv => whnf
  refine EndStep.mk _ l13 ⟨a13_0, c13_0, rfl, h13_0, rfl⟩ (ConvH.of (.cons r0 (.cons r0 (.cons r0 (.cons r0 .nil)))))

noncomputable def ref35_Tags_L0 (x : (List S_ref35_Entry)) (id : Str) : Nat → Int → Option (Fl ((List Str)) (Int))
  | 0, _ => none
  | xs0 + 1, y0_0 =>
    if decide (y0_0 < (x.length : Int)) then
    (ix x y0_0).bind fun x14 =>
    if decide (x14.ID = id) then
    (ix x y0_0).bind fun x21 =>
    some (Fl.ret x21.Tags)
    else
    (chk (InI (y0_0 + 1))).bind fun _ =>
    ref35_Tags_L0 x id xs0 (y0_0 + 1)
    else
    some (Fl.go y0_0)
noncomputable def ref35_Tags (n : Nat) (x : (List S_ref35_Entry)) (id : Str) : Option ((List Str)) :=
  (ref35_Tags_L0 x id n 0).bind fun s0 => s0.el some fun t0 =>
  some []
set_option maxHeartbeats 8000000 in
theorem ref35_Tags_ok {n : Nat} {x : (List S_ref35_Entry)} {id : Str} {ap0_0 : Option Addr} {cp0_0 : Nat} {n0 : Nat} {K : Hp} {r : (List Str)}
    (hm : ref35_Tags n x id = some r) (hp0_0 : LiC S_ref35_Entry.R K ap0_0 cp0_0 2 x) (en0 : n0 = x.length) :
    Fn Try.prog 29 [.slice ap0_0 n0 cp0_0, str id] K [] (fun v K' H' => ∃ ar_0 : Option Addr, ∃ cr_0 : Nat, v = .slice ar_0 r.length cr_0 ∧ RdC eS K' ar_0 cr_0 1 r ∧ H' = []) := by
  subst en0
  refine Fn.enter Try.func29 Try.call29 rfl fun F => ?_
  unfold ref35_Tags at hm
  obtain ⟨s0, hl0, hm⟩ := bnd hm
  conv => whnf
  refine code_cut (σ := (Int)) [4, 5, 6, 7, 8, 9, 10, 11, 12, 13, 14, 15, 16, 17, 18, 19, 20, 21, 22, 23] (fun t0 => [(5, .int .i64 t0)]) (fun t0 => [F]) (fun zz K1 => match zz with | t0 => s0 = Fl.go t0) ?_ ?_
  · refine block_go rfl ?_
    conv => whnf
    refine loop_rule (σ := Nat × Int) [4, 5, 6, 7, 8, 9, 10, 11, 12, 13, 14, 15, 16, 17, 18, 19, 20, 21, 22, 23] (fun (i0, y0_0) => [(5, .int .i64 y0_0)]) (fun (i0, y0_0) => [F]) (fun zz K1 => match zz with | (i0, y0_0) => ref35_Tags_L0 x id i0 y0_0 = some s0) (fun zz => zz.1) (n, 0) rfl ⟨rfl, trivial⟩ (ConvH.of (.cons r0 .nil)) hl0 ?_
    clear hl0
    rintro ⟨i0, y0_0⟩ Kb0 lk0 hl0 j0
    conv at hl0 => whnf
    cases i0 with
    | zero => rw [ref35_Tags_L0.eq_1] at hl0; cases hl0
    | succ i0 =>
      rw [ref35_Tags_L0.eq_2] at hl0
      conv => whnf
      refine RStep.of (len_slice rfl ?_)
      conv => whnf
      refine cond_go rfl ?_
      conv => whnf
      refine cond_s (fun w9 => ?_) (fun w9 => ?_)
      · replace hl0 := ift w9 hl0
        conv => whnf
        refine block_go rfl ?_
        obtain ⟨x14, l14, k14, hl0⟩ := ixb hl0
        conv => whnf
        refine RStep.ofN (index_addr rfl rfl (hasR (LiC.mono S_ref35_Entry.R_ok lk0 hp0_0).rd k14) l14 (lt_ofE rfl l14 k14) ?_)
        conv => whnf
        refine eptr_field rfl (hasR (LiC.mono S_ref35_Entry.R_ok lk0 hp0_0).rd k14) ?_
        obtain ⟨ss16, cc16, hr16, hc16, hR16⟩ := LiR.get (LiC.mono S_ref35_Entry.R_ok lk0 hp0_0).rd k14
        obtain ⟨a16_0, c16_0, rfl, h16_0⟩ := hR16
        conv => whnf
        refine RStep.of (load_rd ((y0_0).toNat) 0 _ _ hr16 rfl hc16 rfl rfl ?_)
        conv => whnf
        refine eq_str ?_
        conv => whnf
        refine cond_go rfl ?_
        conv => whnf
        refine cond_s (fun w18 => ?_) (fun w18 => ?_)
        · replace hl0 := ift w18 hl0
          obtain ⟨x21, l21, k21, hl0⟩ := ixb hl0
          conv => whnf
          refine RStep.ofN (index_addr rfl rfl (hasR (LiC.mono S_ref35_Entry.R_ok lk0 hp0_0).rd k21) l21 (lt_ofE rfl l21 k21) ?_)
          conv => whnf
          refine eptr_field rfl (hasR (LiC.mono S_ref35_Entry.R_ok lk0 hp0_0).rd k21) ?_
          obtain ⟨ss23, cc23, hr23, hc23, hR23⟩ := LiR.get (LiC.mono S_ref35_Entry.R_ok lk0 hp0_0).rd k21
          obtain ⟨a23_0, c23_0, rfl, h23_0⟩ := hR23
          conv => whnf
          refine RStep.of (load_rd ((y0_0).toNat) 1 _ _ hr23 rfl hc23 rfl rfl ?_)
          obtain rfl := si hl0
          replace hm := elr hm
          obtain rfl := si hm
          conv => whnf
          refine EndStep.mk _ lk0 ⟨a23_0, c23_0, rfl, h23_0, rfl⟩ (ConvH.of (.cons r0 .nil))
        · replace hl0 := iff_ w18 hl0
          obtain ⟨h11, hl0⟩ := chkb hl0
          conv => whnf
          refine int_in h11 ?_
          conv => whnf
          refine RoundStep.mk (i0, (y0_0 + 1)) ⟨rfl, trivial⟩ (by repeat (first | exact trivial | refine And.intro rfl ?_)) (ConvH.of (.cons r0 .nil)) lk0 (Nat.lt_succ_self _) hl0
      · replace hl0 := iff_ w9 hl0
        conv => whnf
        refine cond_T ?_
        conv => whnf
        refine MeetStep.mk (y0_0) ⟨rfl, trivial⟩ (by repeat (first | exact trivial | refine And.intro rfl ?_)) (ConvH.of (.cons r0 .nil)) lk0 (si hl0).symm
  · rintro t0 Kt0 lt0 rfl j0
    replace hm := elg hm
    obtain rfl := si hm
    conv => whnf
    refine EndStep.mk _ lt0 ⟨none, 0, rfl, RdC.nil, rfl⟩ (ConvH.of (.cons r0 .nil))

noncomputable def law35_is_L2 (x27 : (List Str)) : Nat → Int → (List Str) → Option (Int × (List Str))
  | 0, _, _ => none
  | xs2 + 1, y2_0, y2_1 =>
    if decide (y2_0 < (x27.length : Int)) then
    (ix y2_1 y2_0).bind fun x45 =>
    (chk (InI (y2_0 + 1))).bind fun _ =>
    law35_is_L2 x27 xs2 (y2_0 + 1) (y2_1.set ((y2_0).toNat) ([99, 104, 97, 110, 103, 101, 100] : Str))
    else
    some (y2_0, y2_1)
noncomputable def law35_is_L0 (x10 : (List Str)) (x : S_tags_Index) (n : Nat) (r' : (List S_ref35_Entry)) : Nat → Int → Option (Fl (Bool) (Int))
  | 0, _ => none
  | xs0 + 1, y0_0 =>
    if decide (y0_0 < (x10.length : Int)) then
    (ix x10 y0_0).bind fun x25 =>
    (tags_Index_Tags x x25).bind fun x27 =>
    (ix x10 y0_0).bind fun x32 =>
    (ref35_Tags n r' x32).bind fun x34 =>
    (base_Texts x27 x34).bind fun x35 =>
    if (!x35) then
    some (Fl.ret false)
    else
    (law35_is_L2 x27 n 0 x27).bind fun t2 =>
    (chk (InI (y0_0 + 1))).bind fun _ =>
    law35_is_L0 x10 x n r' xs0 (y0_0 + 1)
    else
    some (Fl.go y0_0)
noncomputable def law35_is (n : Nat) (x : S_tags_Index) (r' : (List S_ref35_Entry)) : Option (Bool) :=
  (tags_Index_IDs x).bind fun x10 =>
  (ref35_IDs n r').bind fun x13 =>
  (base_Texts x10 x13).bind fun x14 =>
  if (!x14) then
  some false
  else
  (law35_is_L0 x10 x n r' n 0).bind fun s0 => s0.el some fun t0 =>
  some true
set_option maxHeartbeats 8000000 in
theorem law35_is_ok {n : Nat} {x : S_tags_Index} {r' : (List S_ref35_Entry)} {b0 : Nat} {mp0_0 : Nat} {wp0_0 : List (Str × SlD Str)} {ap1_0 : Option Addr} {cp1_0 : Nat} {n1 : Nat} {K : Hp} {r : Bool}
    (hm : law35_is n x r' = some r) (up0_0 : MS eS 1 K wp0_0 x.entries) (hp1_0 : LiC S_ref35_Entry.R K ap1_0 cp1_0 2 r') (en1 : n1 = r'.length) :
    Fn Try.prog 12 [.pointer (some ⟨b0, 0, none⟩), .slice ap1_0 n1 cp1_0] K [Cells b0 59 [.map (some mp0_0)], MapE strK vSl mp0_0 wp0_0] (fun v K' H' => v = .bool r ∧ H' = [Cells b0 59 [.map (some mp0_0)], MapE strK vSl mp0_0 wp0_0]) := by
  subst en1
  refine Fn.enter Try.func12 Try.call12 rfl fun F => ?_
  unfold law35_is at hm
  obtain ⟨x10, q10, hm⟩ := bnd hm
  conv => whnf
  refine call_fn (tags_Index_IDs_ok q10 up0_0) (.cons r0 (.cons r0 .nil)) ?_
  rintro _ K10 _ l10 ⟨a10_0, c10_0, rfl, h10_0, rfl⟩
  obtain ⟨x13, q13, hm⟩ := bnd hm
  conv => whnf
  refine call_fn (ref35_IDs_ok q13 (LiC.mono S_ref35_Entry.R_ok l10 hp1_0) rfl) .nil ?_
  rintro _ K13 _ l13 ⟨a13_0, c13_0, rfl, h13_0, rfl⟩
  obtain ⟨x14, q14, hm⟩ := bnd hm
  conv => whnf
  refine call_fn (Fn.lend Try.call13 (fun K14_0 l14_0 f14_0 => (Fn.lend Try.call13 (fun K14_1 l14_1 f14_1 => (base_Texts_ok q14 (f14_0.mono l14_1) rfl f14_1 rfl)) (by exact fun _ _ _ _ h => h))) (by exact fun _ _ _ _ h => h)) (.cons r1 (.cons r0 .nil)) ?_
  rintro _ K14 _ l14 ⟨_, rfl, _, rfl, rfl, rfl⟩
  conv => whnf
  refine un_not ?_
  conv => whnf
  refine cond_go rfl ?_
  conv => whnf
  refine cond_s (fun w15 => ?_) (fun w15 => ?_)
  · replace hm := ift (not_t (ni_t w15)) hm
    obtain rfl := si hm
    conv => whnf
    refine EndStep.mk _ ((l10.trans l13).trans l14) ⟨rfl, rfl⟩ (ConvH.of (.cons r2 (.cons r2 (.cons r2 .nil))))
  · replace hm := iff_ (not_f (ni_f w15)) hm
    obtain ⟨s0, hl0, hm⟩ := bnd hm
    conv => whnf
    refine code_cut (σ := (Int)) [4, 6, 7, 8, 16, 17, 18, 19, 20, 21, 22, 23, 24, 25, 26, 27, 28, 29, 30, 31, 32, 33, 34, 35, 36, 37, 38, 39, 40, 41, 42, 43, 44, 45] (fun t0 => [(6, .int .i64 t0)]) (fun t0 => [OwnL eS a10_0 9 1 c10_0 x10, OwnL eS a13_0 9 1 c13_0 x13, Cells b0 59 [.map (some mp0_0)], MapE strK vSl mp0_0 wp0_0, F]) (fun zz K1 => match zz with | t0 => s0 = Fl.go t0) ?_ ?_
    · refine block_go rfl ?_
      conv => whnf
      refine loop_rule (σ := Nat × Int) [4, 6, 7, 8, 16, 17, 18, 19, 20, 21, 22, 23, 24, 25, 26, 27, 28, 29, 30, 31, 32, 33, 34, 35, 36, 37, 38, 39, 40, 41, 42, 43, 44, 45] (fun (i0, y0_0) => [(6, .int .i64 y0_0)]) (fun (i0, y0_0) => [OwnL eS a10_0 9 1 c10_0 x10, OwnL eS a13_0 9 1 c13_0 x13, Cells b0 59 [.map (some mp0_0)], MapE strK vSl mp0_0 wp0_0, F]) (fun zz K1 => match zz with | (i0, y0_0) => law35_is_L0 x10 x n r' i0 y0_0 = some s0) (fun zz => zz.1) (n, 0) rfl ⟨rfl, trivial⟩ (ConvH.of (.cons r0 (.cons r0 (.cons r0 (.cons r0 (.cons r0 .nil)))))) hl0 ?_
      clear hl0
      rintro ⟨i0, y0_0⟩ Kb0 lk0 hl0 j0
      conv at hl0 => whnf
      cases i0 with
      | zero => rw [law35_is_L0.eq_1] at hl0; cases hl0
      | succ i0 =>
        rw [law35_is_L0.eq_2] at hl0
        conv => whnf
        refine RStep.of (len_slice rfl ?_)
        conv => whnf
        refine cond_go rfl ?_
        conv => whnf
        refine cond_s (fun w19 => ?_) (fun w19 => ?_)
        · replace hl0 := ift w19 hl0
          conv => whnf
          refine block_go rfl ?_
          obtain ⟨x25, l25, k25, hl0⟩ := ixb hl0
          conv => whnf
          refine RStep.ofN (index_addr rfl rfl (hasO h10_0 k25) l25 (lt_ofE rfl l25 k25) ?_)
          conv => whnf
          refine RStep.of (ld_own (i := (y0_0).toNat) (o := 0) r0 rfl k25 rfl rfl ?_)
          obtain ⟨x27, q27, hl0⟩ := bnd hl0
          conv => whnf
          refine call_fn (tags_Index_Tags_ok q27 (up0_0.mono (((l10.trans l13).trans l14).trans lk0))) (.cons r2 (.cons r2 .nil)) ?_
          rintro _ K27 _ l27 ⟨a27_0, c27_0, rfl, h27_0, rfl⟩
          obtain ⟨x32, l32, k32, hl0⟩ := ixb hl0
          conv => whnf
          refine RStep.ofN (index_addr rfl rfl (hasO h10_0 k32) l32 (lt_ofE rfl l32 k32) ?_)
          conv => whnf
          refine RStep.of (ld_own (i := (y0_0).toNat) (o := 0) r3 rfl k32 rfl rfl ?_)
          obtain ⟨x34, q34, hl0⟩ := bnd hl0
          conv => whnf
          refine call_fn (ref35_Tags_ok q34 (LiC.mono S_ref35_Entry.R_ok ((((l10.trans l13).trans l14).trans lk0).trans l27) hp1_0) rfl) .nil ?_
          rintro _ K34 _ l34 ⟨a34_0, c34_0, rfl, h34_0, rfl⟩
          obtain ⟨x35, q35, hl0⟩ := bnd hl0
          conv => whnf
          refine call_fn (Fn.lend Try.call13 (fun K35_0 l35_0 f35_0 => (base_Texts_ok q35 f35_0 rfl (h34_0.mono l35_0) rfl)) (by exact fun _ _ _ _ h => h)) (.cons r0 .nil) ?_
          rintro _ K35 _ l35 ⟨_, rfl, rfl, rfl⟩
          conv => whnf
          refine un_not ?_
          conv => whnf
          refine cond_go rfl ?_
          conv => whnf
          refine cond_s (fun w36 => ?_) (fun w36 => ?_)
          · replace hl0 := ift (not_t (ni_t w36)) hl0
            obtain rfl := si hl0
            replace hm := elr hm
            obtain rfl := si hm
            conv => whnf
            refine EndStep.mk _ ((((((l10.trans l13).trans l14).trans lk0).trans l27).trans l34).trans l35) ⟨rfl, rfl⟩ (ConvH.of (.cons r1 (.cons r1 (.cons r3 .nil))))
          · replace hl0 := iff_ (not_f (ni_f w36)) hl0
            obtain ⟨s2, hl2, hl0⟩ := bnd hl0
            conv => whnf
            refine code_cut (σ := (Int × (List Str))) [8, 37, 38, 39, 40, 41, 42, 43, 44, 45] (fun t2 => [(8, .int .i64 t2.1)]) (fun t2 => [OwnL eS a27_0 9 1 c27_0 t2.2, Cells b0 59 [.map (some mp0_0)], MapE strK vSl mp0_0 wp0_0, OwnL eS a10_0 9 1 c10_0 x10, OwnL eS a13_0 9 1 c13_0 x13, F]) (fun zz K1 => match zz with | t2 => (0 < t2.2.length → Has a27_0) ∧ x27.length = t2.2.length ∧ t2 = s2) ?_ ?_
            · refine block_go rfl ?_
              conv => whnf
              refine loop_rule (σ := Nat × Int × (List Str)) [8, 37, 38, 39, 40, 41, 42, 43, 44, 45] (fun (i2, y2_0, y2_1) => [(8, .int .i64 y2_0)]) (fun (i2, y2_0, y2_1) => [OwnL eS a27_0 9 1 c27_0 y2_1, Cells b0 59 [.map (some mp0_0)], MapE strK vSl mp0_0 wp0_0, OwnL eS a10_0 9 1 c10_0 x10, OwnL eS a13_0 9 1 c13_0 x13, F]) (fun zz K1 => match zz with | (i2, y2_0, y2_1) => (0 < y2_1.length → Has a27_0) ∧ x27.length = y2_1.length ∧ law35_is_L2 x27 i2 y2_0 y2_1 = some s2) (fun zz => zz.1) (n, 0, x27) rfl ⟨rfl, trivial⟩ (ConvH.of (.cons r0 (.cons r0 (.cons r0 (.cons r0 (.cons r0 (.cons r0 .nil))))))) ⟨h27_0, rfl, hl2⟩ ?_
              clear hl2
              rintro ⟨i2, y2_0, y2_1⟩ Kb2 lk2 ⟨y2_h1, y2_n1, hl2⟩ j2
              cases i2 with
              | zero => rw [law35_is_L2.eq_1] at hl2; cases hl2
              | succ i2 =>
                rw [law35_is_L2.eq_2] at hl2
                conv => whnf
                refine RStep.of (len_slice rfl ?_)
                conv => whnf
                refine cond_go rfl ?_
                conv => whnf
                refine cond_s (fun w40 => ?_) (fun w40 => ?_)
                · replace hl2 := ift w40 hl2
                  conv => whnf
                  refine block_go rfl ?_
                  obtain ⟨x45, l45, k45, hl2⟩ := ixb hl2
                  conv => whnf
                  refine RStep.ofN (index_addr rfl rfl (hasO y2_h1 k45) l45 (lt_ofE y2_n1 l45 k45) ?_)
                  conv => whnf
                  refine st_own (o := 0) (y := ([99, 104, 97, 110, 103, 101, 100] : Str)) x45 r0 rfl k45 rfl (by (conv => whnf); exact ⟨rfl, rfl, (Nat.le_of_ble_eq_true rfl), rfl, rfl, rfl⟩) ?_
                  obtain ⟨h42, hl2⟩ := chkb hl2
                  conv => whnf
                  refine int_in h42 ?_
                  conv => whnf
                  refine RoundStep.mk (i2, (y2_0 + 1), (y2_1.set ((y2_0).toNat) ([99, 104, 97, 110, 103, 101, 100] : Str))) ⟨rfl, trivial⟩ (by repeat (first | exact trivial | refine And.intro rfl ?_)) (ConvH.of (.cons r0 (.cons r0 (.cons r0 (.cons r0 (.cons r0 (.cons r0 .nil))))))) lk2 (Nat.lt_succ_self _) ⟨(by simpa using y2_h1), ((y2_n1).trans List.length_set.symm), hl2⟩
                · replace hl2 := iff_ w40 hl2
                  conv => whnf
                  refine cond_T ?_
                  conv => whnf
                  refine MeetStep.mk ((y2_0, y2_1)) ⟨rfl, trivial⟩ (by repeat (first | exact trivial | refine And.intro rfl ?_)) (ConvH.of (.cons r0 (.cons r0 (.cons r0 (.cons r0 (.cons r0 (.cons r0 .nil))))))) lk2 ⟨y2_h1, y2_n1, (si hl2)⟩
            · rintro t2 Kt2 lt2 ⟨t2_h1, t2_n1, rfl⟩ j2
              obtain ⟨h21, hl0⟩ := chkb hl0
              conv => whnf
              refine int_in h21 ?_
              conv => whnf
              refine RoundStep.mk (i0, (y0_0 + 1)) ⟨rfl, trivial⟩ (by repeat (first | exact trivial | refine And.intro rfl ?_)) (ConvH.of (.cons r3 (.cons r3 (.cons r1 (.cons r1 (.cons r1 .nil)))))) ((((lk0.trans l27).trans l34).trans l35).trans lt2) (Nat.lt_succ_self _) hl0
        · replace hl0 := iff_ w19 hl0
          conv => whnf
          refine cond_T ?_
          conv => whnf
          refine MeetStep.mk (y0_0) ⟨rfl, trivial⟩ (by repeat (first | exact trivial | refine And.intro rfl ?_)) (ConvH.of (.cons r0 (.cons r0 (.cons r0 (.cons r0 (.cons r0 .nil)))))) lk0 (si hl0).symm
    · rintro t0 Kt0 lt0 rfl j0
      replace hm := elg hm
      obtain rfl := si hm
      conv => whnf
      refine EndStep.mk _ (((l10.trans l13).trans l14).trans lt0) ⟨rfl, rfl⟩ (ConvH.of (.cons r2 (.cons r2 (.cons r2 .nil))))

noncomputable def ref35_Find_L0 (x : (List S_ref35_Entry)) (n : Nat) (tag : Str) : Nat → (List Str) → Int → Option ((List Str) × Int)
  | 0, _, _ => none
  | xs0 + 1, y0_0, y0_1 =>
    if decide (y0_1 < (x.length : Int)) then
    (ix x y0_1).bind fun x15 =>
    (ref35_Has n x15.Tags tag).bind fun x19 =>
    if x19 then
    (ix x y0_1).bind fun x23 =>
    (chk (y0_0.length + [x23.ID].length ≤ lim)).bind fun _ =>
    (chk (InI (y0_1 + 1))).bind fun _ =>
    ref35_Find_L0 x n tag xs0 (y0_0 ++ [x23.ID]) (y0_1 + 1)
    else
    (chk (InI (y0_1 + 1))).bind fun _ =>
    ref35_Find_L0 x n tag xs0 y0_0 (y0_1 + 1)
    else
    some (y0_0, y0_1)
noncomputable def ref35_Find (n : Nat) (x : (List S_ref35_Entry)) (tag : Str) : Option ((List Str)) :=
  (ref35_Find_L0 x n tag n [] 0).bind fun t0 =>
  (ref35_Sorted n t0.1).bind fun x29 =>
  some x29
set_option maxHeartbeats 8000000 in
theorem ref35_Find_ok {n : Nat} {x : (List S_ref35_Entry)} {tag : Str} {ap0_0 : Option Addr} {cp0_0 : Nat} {n0 : Nat} {K : Hp} {r : (List Str)}
    (hm : ref35_Find n x tag = some r) (hp0_0 : LiC S_ref35_Entry.R K ap0_0 cp0_0 2 x) (en0 : n0 = x.length) :
    Fn Try.prog 15 [.slice ap0_0 n0 cp0_0, str tag] K [] (fun v K' H' => ∃ ar_0 : Option Addr, ∃ cr_0 : Nat, v = .slice ar_0 r.length cr_0 ∧ (0 < r.length → Has ar_0) ∧ H' = [OwnL eS ar_0 9 1 cr_0 r]) := by
  subst en0
  refine Fn.enter Try.func15 Try.call15 rfl fun F => ?_
  unfold ref35_Find at hm
  obtain ⟨s0, hl0, hm⟩ := bnd hm
  conv => whnf
  refine nilC eS 9 1 ?_
  refine code_cut (σ := ((List Str) × Int) × Option Addr × Nat) [5, 6, 7, 8, 9, 10, 11, 12, 13, 14, 15, 16, 17, 18, 19, 20, 21, 22, 23, 24, 25, 26, 27] (fun (t0, t0_a0, t0_c0) => [(5, .slice t0_a0 t0.1.length t0_c0), (6, .int .i64 t0.2)]) (fun (t0, t0_a0, t0_c0) => [OwnL eS t0_a0 9 1 t0_c0 t0.1, F]) (fun zz K1 => match zz with | (t0, t0_a0, t0_c0) => (0 < t0.1.length → Has t0_a0) ∧ t0 = s0) ?_ ?_
  · refine block_go rfl ?_
    conv => whnf
    refine loop_rule (σ := Nat × (List Str) × Int × Option Addr × Nat) [5, 6, 7, 8, 9, 10, 11, 12, 13, 14, 15, 16, 17, 18, 19, 20, 21, 22, 23, 24, 25, 26, 27] (fun (i0, y0_0, y0_1, y0_a0, y0_c0) => [(5, .slice y0_a0 y0_0.length y0_c0), (6, .int .i64 y0_1)]) (fun (i0, y0_0, y0_1, y0_a0, y0_c0) => [OwnL eS y0_a0 9 1 y0_c0 y0_0, F]) (fun zz K1 => match zz with | (i0, y0_0, y0_1, y0_a0, y0_c0) => (0 < y0_0.length → Has y0_a0) ∧ ref35_Find_L0 x n tag i0 y0_0 y0_1 = some s0) (fun zz => zz.1) (n, [], 0, none, 0) rfl ⟨rfl, rfl, trivial⟩ (ConvH.of (.cons r0 (.cons r0 .nil))) ⟨(fun h => by simp at h), hl0⟩ ?_
    clear hl0
    rintro ⟨i0, y0_0, y0_1, y0_a0, y0_c0⟩ Kb0 lk0 ⟨y0_h0, hl0⟩ j0
    cases i0 with
    | zero => rw [ref35_Find_L0.eq_1] at hl0; cases hl0
    | succ i0 =>
      rw [ref35_Find_L0.eq_2] at hl0
      conv => whnf
      refine RStep.of (len_slice rfl ?_)
      conv => whnf
      refine cond_go rfl ?_
      conv => whnf
      refine cond_s (fun w10 => ?_) (fun w10 => ?_)
      · replace hl0 := ift w10 hl0
        conv => whnf
        refine block_go rfl ?_
        obtain ⟨x15, l15, k15, hl0⟩ := ixb hl0
        conv => whnf
        refine RStep.ofN (index_addr rfl rfl (hasR (LiC.mono S_ref35_Entry.R_ok lk0 hp0_0).rd k15) l15 (lt_ofE rfl l15 k15) ?_)
        conv => whnf
        refine eptr_field rfl (hasR (LiC.mono S_ref35_Entry.R_ok lk0 hp0_0).rd k15) ?_
        obtain ⟨ss17, cc17, hr17, hc17, hR17⟩ := LiR.get (LiC.mono S_ref35_Entry.R_ok lk0 hp0_0).rd k15
        obtain ⟨a17_0, c17_0, rfl, h17_0⟩ := hR17
        conv => whnf
        refine RStep.of (load_rd ((y0_1).toNat) 1 _ _ hr17 rfl hc17 rfl rfl ?_)
        obtain ⟨x19, q19, hl0⟩ := bnd hl0
        conv => whnf
        refine call_fn (ref35_Has_ok q19 h17_0 rfl) .nil ?_
        rintro _ K19 _ l19 ⟨rfl, rfl⟩
        conv => whnf
        refine cond_go rfl ?_
        conv => whnf
        refine cond_s (fun w19 => ?_) (fun w19 => ?_)
        · replace hl0 := ift w19 hl0
          obtain ⟨x23, l23, k23, hl0⟩ := ixb hl0
          conv => whnf
          refine RStep.ofN (index_addr rfl rfl (hasR (LiC.mono S_ref35_Entry.R_ok (lk0.trans l19) hp0_0).rd k23) l23 (lt_ofE rfl l23 k23) ?_)
          conv => whnf
          refine eptr_field rfl (hasR (LiC.mono S_ref35_Entry.R_ok (lk0.trans l19) hp0_0).rd k23) ?_
          obtain ⟨ss25, cc25, hr25, hc25, hR25⟩ := LiR.get (LiC.mono S_ref35_Entry.R_ok (lk0.trans l19) hp0_0).rd k23
          obtain ⟨a25_0, c25_0, rfl, h25_0⟩ := hR25
          conv => whnf
          refine RStep.of (load_rd ((y0_1).toNat) 0 _ _ hr25 rfl hc25 rfl rfl ?_)
          conv => whnf
          refine bsO (len := 1) (enc := eS) (l := [x23.ID]) (cl := [str x23.ID]) elT31 rfl rfl (fun _ _ => rfl) rfl rfl rfl ?_ fun b26 => ?_
          · conv => whnf
            refine cond_T ?_
            conv => whnf
            first | done | rfl
          obtain ⟨h27, hl0⟩ := chkb hl0
          conv => whnf
          refine apE rfl r1 elT31 (src_own' rfl r0 rfl (fun _ => rfl) (fun _ => rfl)) h27 ?_
          intro a27 c27 o27
          obtain ⟨h12, hl0⟩ := chkb hl0
          conv => whnf
          refine int_in h12 ?_
          conv => whnf
          refine RoundStep.mk (i0, (y0_0 ++ [x23.ID]), (y0_1 + 1), a27, c27) ⟨rfl, rfl, trivial⟩ (by repeat (first | exact trivial | refine And.intro rfl ?_)) (ConvH.of (.cons r0 (.cons r1 .nil))) (lk0.trans l19) (Nat.lt_succ_self _) ⟨o27, hl0⟩
        · replace hl0 := iff_ w19 hl0
          obtain ⟨h12, hl0⟩ := chkb hl0
          conv => whnf
          refine int_in h12 ?_
          conv => whnf
          refine RoundStep.mk (i0, y0_0, (y0_1 + 1), y0_a0, y0_c0) ⟨rfl, rfl, trivial⟩ (by repeat (first | exact trivial | refine And.intro rfl ?_)) (ConvH.of (.cons r0 (.cons r0 .nil))) (lk0.trans l19) (Nat.lt_succ_self _) ⟨y0_h0, hl0⟩
      · replace hl0 := iff_ w10 hl0
        conv => whnf
        refine cond_T ?_
        conv => whnf
        refine MeetStep.mk ((y0_0, y0_1), y0_a0, y0_c0) ⟨rfl, rfl, trivial⟩ (by repeat (first | exact trivial | refine And.intro rfl ?_)) (ConvH.of (.cons r0 (.cons r0 .nil))) lk0 ⟨y0_h0, (si hl0)⟩
  · rintro ⟨t0, t0_a0, t0_c0⟩ Kt0 lt0 ⟨t0_h0, rfl⟩ j0
    obtain ⟨x29, q29, hm⟩ := bnd hm
    conv => whnf
    refine call_fn (Fn.lend Try.call31 (fun K29_0 l29_0 f29_0 => (ref35_Sorted_ok q29 f29_0 rfl)) (by exact fun _ _ _ _ h => h)) (.cons r0 .nil) ?_
    rintro _ K29 _ l29 ⟨_, rfl, a29_0, c29_0, rfl, h29_0, rfl⟩
    obtain rfl := si hm
    conv => whnf
    refine EndStep.mk _ (lt0.trans l29) ⟨a29_0, c29_0, rfl, h29_0, rfl⟩ (ConvH.of (.cons r1 (.cons r1 .nil)))

noncomputable def law35_TagsPlays_L2 (acts : (List S_law35_Act)) (y0_0 : Int) (x21 : S_tags_Index × (List S_ref35_Entry) × Bool) (n : Nat) : Nat → Int → Option (Fl (Bool) (Int))
  | 0, _ => none
  | xs2 + 1, y2_0 =>
    (ix acts y0_0).bind fun x58 =>
    if decide (y2_0 < (x58.Tags.length : Int)) then
    (ix acts y0_0).bind fun x67 =>
    (ix x67.Tags y2_0).bind fun x71 =>
    (tags_Index_Find x21.1 x71).bind fun x75 =>
    (ref35_Find n x21.2.1 x71).bind fun x78 =>
    (base_Texts x75 x78).bind fun x79 =>
    if (!x79) then
    some (Fl.ret false)
    else
    (chk (InI (y2_0 + 1))).bind fun _ =>
    law35_TagsPlays_L2 acts y0_0 x21 n xs2 (y2_0 + 1)
    else
    some (Fl.go y2_0)
noncomputable def law35_TagsPlays_L0 (acts : (List S_law35_Act)) (x21 : S_tags_Index × (List S_ref35_Entry) × Bool) (n : Nat) : Nat → Int → Option (Fl (Bool) (Int))
  | 0, _ => none
  | xs0 + 1, y0_0 =>
    if decide (y0_0 < (acts.length : Int)) then
    (law35_TagsPlays_L2 acts y0_0 x21 n n 0).bind fun s2 => s2.el (fun r => some (Fl.ret r)) fun t2 =>
    (chk (InI (y0_0 + 1))).bind fun _ =>
    law35_TagsPlays_L0 acts x21 n xs0 (y0_0 + 1)
    else
    some (Fl.go y0_0)
noncomputable def law35_TagsPlays (n : Nat) (acts : (List S_law35_Act)) (tag : Str) : Option (Bool) :=
  (law35_awake).bind fun x11 =>
  (if (!x11) then some true else (law35_fits n acts).bind fun x15 =>
  some (!x15)).bind fun x17 =>
  if x17 then
  (law35_awake).bind fun x18 =>
  some x18
  else
  (law35_play n acts).bind fun x21 =>
  (if (!x21.2.2) then some true else (law35_is n x21.1 x21.2.1).bind fun x30 =>
  some (!x30)).bind fun x32 =>
  (if x32 then some true else (law35_is n x21.1 x21.2.1).bind fun x36 =>
  some (!x36)).bind fun x38 =>
  (if x38 then some true else (tags_Index_Find x21.1 tag).bind fun x42 =>
  (ref35_Find n x21.2.1 tag).bind fun x45 =>
  (base_Texts x42 x45).bind fun x46 =>
  some (!x46)).bind fun x48 =>
  if x48 then
  some false
  else
  (law35_TagsPlays_L0 acts x21 n n 0).bind fun s0 => s0.el some fun t0 =>
  some true
set_option maxHeartbeats 8000000 in
theorem law35_TagsPlays_ok {n : Nat} {acts : (List S_law35_Act)} {tag : Str} {ap0_0 : Option Addr} {cp0_0 : Nat} {n0 : Nat} {K : Hp} {r : Bool}
    (hm : law35_TagsPlays n acts tag = some r) (hp0_0 : LiC S_law35_Act.R K ap0_0 cp0_0 3 acts) (en0 : n0 = acts.length) :
    Fn Try.prog 3 [.slice ap0_0 n0 cp0_0, str tag] K [] (fun v K' H' => v = .bool r ∧ H' = []) := by
  subst en0
  refine Fn.enter Try.func3 Try.call3 rfl fun F => ?_
  unfold law35_TagsPlays at hm
  obtain ⟨x11, q11, hm⟩ := bnd hm
  conv => whnf
  refine call_fn (law35_awake_ok q11) .nil ?_
  rintro _ K11 _ l11 ⟨rfl, rfl⟩
  conv => whnf
  refine un_not ?_
  obtain ⟨x17, e17, hm⟩ := bnd hm
  conv => whnf
  refine cond_s (fun g13_1 => ?_) (fun g13_1 => ?_)
  · replace e17 := ift (not_t (ni_t g13_1)) e17
    conv => whnf
    refine cond_t g13_1 ?_
    conv => whnf
    refine cond_t g13_1 ?_
    conv => whnf
    refine cond_t g13_1 ?_
    conv => whnf
    refine cond_go rfl ?_
    conv => whnf
    refine cond_T ?_
    replace hm := ift (si e17).symm hm
    obtain ⟨x18, q18, hm⟩ := bnd hm
    conv => whnf
    refine call_fn (law35_awake_ok q18) .nil ?_
    rintro _ K18 _ l18 ⟨rfl, rfl⟩
    obtain rfl := si hm
    conv => whnf
    refine EndStep.mk _ (l11.trans l18) ⟨rfl, rfl⟩ (ConvH.of (.cons r0 .nil))
  · replace e17 := iff_ (not_f (ni_f g13_1)) e17
    conv => whnf
    refine cond_f g13_1 ?_
    obtain ⟨x15, q15, e17⟩ := bnd e17
    conv => whnf
    refine call_fn (law35_fits_ok q15 (LiC.mono S_law35_Act.R_ok l11 hp0_0) rfl) .nil ?_
    rintro _ K15 _ l15 ⟨rfl, rfl⟩
    conv => whnf
    refine cond_f g13_1 ?_
    conv => whnf
    refine un_not ?_
    conv => whnf
    refine cond_f g13_1 ?_
    conv => whnf
    refine cond_go rfl ?_
    conv => whnf
    refine cond_s (fun w17 => ?_) (fun w17 => ?_)
    · replace hm := ift ((si e17).symm.trans (not_t (ni_t w17))) hm
      obtain ⟨x18, q18, hm⟩ := bnd hm
      conv => whnf
      refine call_fn (law35_awake_ok q18) .nil ?_
      rintro _ K18 _ l18 ⟨rfl, rfl⟩
      obtain rfl := si hm
      conv => whnf
      refine EndStep.mk _ ((l11.trans l15).trans l18) ⟨rfl, rfl⟩ (ConvH.of (.cons r0 .nil))
    · replace hm := iff_ ((si e17).symm.trans (not_f (ni_f w17))) hm
      obtain ⟨x21, q21, hm⟩ := bnd hm
      conv => whnf
      refine call_fn (law35_play_ok q21 (LiC.mono S_law35_Act.R_ok (l11.trans l15) hp0_0) rfl) .nil ?_
      rintro _ K21 _ l21 ⟨b21_0, m21_1, w21_1, a21_2, c21_2, rfl, u21_1, h21_2, rfl⟩
      conv => whnf
      refine un_not ?_
      obtain ⟨x32, e32, hm⟩ := bnd hm
      conv => whnf
      refine cond_s (fun g27_4 => ?_) (fun g27_4 => ?_)
      · replace e32 := ift (not_t (ni_t g27_4)) e32
        conv => whnf
        refine cond_t g27_4 ?_
        conv => whnf
        refine cond_t g27_4 ?_
        conv => whnf
        refine cond_t g27_4 ?_
        conv => whnf
        refine cond_t g27_4 ?_
        obtain ⟨x38, e38, hm⟩ := bnd hm
        replace e38 := ift (si e32).symm e38
        conv => whnf
        refine cond_T ?_
        conv => whnf
        refine cond_T ?_
        conv => whnf
        refine cond_T ?_
        conv => whnf
        refine cond_T ?_
        conv => whnf
        refine cond_T ?_
        obtain ⟨x48, e48, hm⟩ := bnd hm
        replace e48 := ift (si e38).symm e48
        conv => whnf
        refine cond_T ?_
        conv => whnf
        refine cond_T ?_
        conv => whnf
        refine cond_T ?_
        conv => whnf
        refine cond_T ?_
        conv => whnf
        refine cond_T ?_
        conv => whnf
        refine cond_T ?_
        conv => whnf
        refine cond_T ?_
        conv => whnf
        refine cond_T ?_
        conv => whnf
        refine cond_T ?_
        conv => whnf
        refine cond_go rfl ?_
        conv => whnf
        refine cond_T ?_
        replace hm := ift (si e48).symm hm
        obtain rfl := si hm
        conv => whnf
        refine EndStep.mk _ ((l11.trans l15).trans l21) ⟨rfl, rfl⟩ (ConvH.of (.cons r2 .nil))
      · replace e32 := iff_ (not_f (ni_f g27_4)) e32
        conv => whnf
        refine cond_f g27_4 ?_
        conv => whnf
        refine cond_f g27_4 ?_
        obtain ⟨x30, q30, e32⟩ := bnd e32
        conv => whnf
        refine call_fn (law35_is_ok q30 u21_1 h21_2 rfl) (.cons r0 (.cons r0 .nil)) ?_
        rintro _ K30 _ l30 ⟨rfl, rfl⟩
        conv => whnf
        refine cond_f g27_4 ?_
        conv => whnf
        refine un_not ?_
        conv => whnf
        refine cond_f g27_4 ?_
        obtain ⟨x38, e38, hm⟩ := bnd hm
        conv => whnf
        refine cond_s (fun g33_4 => ?_) (fun g33_4 => ?_)
        · replace e38 := ift ((si e32).symm.trans (not_t (ni_t g33_4))) e38
          conv => whnf
          refine cond_t g33_4 ?_
          conv => whnf
          refine cond_t g33_4 ?_
          conv => whnf
          refine cond_t g33_4 ?_
          conv => whnf
          refine cond_t g33_4 ?_
          obtain ⟨x48, e48, hm⟩ := bnd hm
          replace e48 := ift (si e38).symm e48
          conv => whnf
          refine cond_T ?_
          conv => whnf
          refine cond_T ?_
          conv => whnf
          refine cond_T ?_
          conv => whnf
          refine cond_T ?_
          conv => whnf
          refine cond_T ?_
          conv => whnf
          refine cond_T ?_
          conv => whnf
          refine cond_T ?_
          conv => whnf
          refine cond_T ?_
          conv => whnf
          refine cond_T ?_
          conv => whnf
          refine cond_go rfl ?_
          conv => whnf
          refine cond_T ?_
          replace hm := ift (si e48).symm hm
          obtain rfl := si hm
          conv => whnf
          refine EndStep.mk _ (((l11.trans l15).trans l21).trans l30) ⟨rfl, rfl⟩ (ConvH.of (.cons r2 .nil))
        · replace e38 := iff_ ((si e32).symm.trans (not_f (ni_f g33_4))) e38
          conv => whnf
          refine cond_f g33_4 ?_
          conv => whnf
          refine cond_f g33_4 ?_
          obtain ⟨x36, q36, e38⟩ := bnd e38
          conv => whnf
          refine call_fn (law35_is_ok q36 (u21_1.mono l30) (LiC.mono S_ref35_Entry.R_ok l30 h21_2) rfl) (.cons r0 (.cons r0 .nil)) ?_
          rintro _ K36 _ l36 ⟨rfl, rfl⟩
          conv => whnf
          refine cond_f g33_4 ?_
          conv => whnf
          refine un_not ?_
          conv => whnf
          refine cond_f g33_4 ?_
          obtain ⟨x48, e48, hm⟩ := bnd hm
          conv => whnf
          refine cond_s (fun g39_4 => ?_) (fun g39_4 => ?_)
          · replace e48 := ift ((si e38).symm.trans (not_t (ni_t g39_4))) e48
            conv => whnf
            refine cond_t g39_4 ?_
            conv => whnf
            refine cond_t g39_4 ?_
            conv => whnf
            refine cond_t g39_4 ?_
            conv => whnf
            refine cond_t g39_4 ?_
            conv => whnf
            refine cond_t g39_4 ?_
            conv => whnf
            refine cond_t g39_4 ?_
            conv => whnf
            refine cond_t g39_4 ?_
            conv => whnf
            refine cond_t g39_4 ?_
            conv => whnf
            refine cond_go rfl ?_
            conv => whnf
            refine cond_T ?_
            replace hm := ift (si e48).symm hm
            obtain rfl := si hm
            conv => whnf
            refine EndStep.mk _ ((((l11.trans l15).trans l21).trans l30).trans l36) ⟨rfl, rfl⟩ (ConvH.of (.cons r2 .nil))
          · replace e48 := iff_ ((si e38).symm.trans (not_f (ni_f g39_4))) e48
            conv => whnf
            refine cond_f g39_4 ?_
            conv => whnf
            refine cond_f g39_4 ?_
            obtain ⟨x42, q42, e48⟩ := bnd e48
            conv => whnf
            refine call_fn (tags_Index_Find_ok q42 (u21_1.mono (l30.trans l36))) (.cons r0 (.cons r0 .nil)) ?_
            rintro _ K42 _ l42 ⟨a42_0, c42_0, rfl, h42_0, rfl⟩
            conv => whnf
            refine cond_f g39_4 ?_
            conv => whnf
            refine cond_f g39_4 ?_
            conv => whnf
            refine cond_f g39_4 ?_
            obtain ⟨x45, q45, e48⟩ := bnd e48
            conv => whnf
            refine call_fn (ref35_Find_ok q45 (LiC.mono S_ref35_Entry.R_ok ((l30.trans l36).trans l42) h21_2) rfl) .nil ?_
            rintro _ K45 _ l45 ⟨a45_0, c45_0, rfl, h45_0, rfl⟩
            conv => whnf
            refine cond_f g39_4 ?_
            obtain ⟨x46, q46, e48⟩ := bnd e48
            conv => whnf
            refine call_fn (Fn.lend Try.call13 (fun K46_0 l46_0 f46_0 => (Fn.lend Try.call13 (fun K46_1 l46_1 f46_1 => (base_Texts_ok q46 (f46_0.mono l46_1) rfl f46_1 rfl)) (by exact fun _ _ _ _ h => h))) (by exact fun _ _ _ _ h => h)) (.cons r1 (.cons r0 .nil)) ?_
            rintro _ K46 _ l46 ⟨_, rfl, _, rfl, rfl, rfl⟩
            conv => whnf
            refine cond_f g39_4 ?_
            conv => whnf
            refine un_not ?_
            conv => whnf
            refine cond_f g39_4 ?_
            conv => whnf
            refine cond_go rfl ?_
            conv => whnf
            refine cond_s (fun w48 => ?_) (fun w48 => ?_)
            · replace hm := ift ((si e48).symm.trans (not_t (ni_t w48))) hm
              obtain rfl := si hm
              conv => whnf
              refine EndStep.mk _ (((((((l11.trans l15).trans l21).trans l30).trans l36).trans l42).trans l45).trans l46) ⟨rfl, rfl⟩ (ConvH.of (.cons r4 .nil))
            · replace hm := iff_ ((si e48).symm.trans (not_f (ni_f w48))) hm
              obtain ⟨s0, hl0, hm⟩ := bnd hm
              conv => whnf
              refine code_cut (σ := (Int)) [4, 8, 9, 10, 49, 50, 51, 52, 53, 54, 55, 56, 57, 58, 59, 60, 61, 62, 63, 64, 65, 66, 67, 68, 69, 70, 71, 72, 73, 74, 75, 76, 77, 78, 79, 80] (fun t0 => [(8, .int .i64 t0)]) (fun t0 => [OwnL eS a42_0 9 1 c42_0 x42, OwnL eS a45_0 9 1 c45_0 x45, Cells b21_0 59 [.map (some m21_1)], MapE strK vSl m21_1 w21_1, F]) (fun zz K1 => match zz with | t0 => s0 = Fl.go t0) ?_ ?_
              · refine block_go rfl ?_
                conv => whnf
                refine loop_rule (σ := Nat × Int) [4, 8, 9, 10, 49, 50, 51, 52, 53, 54, 55, 56, 57, 58, 59, 60, 61, 62, 63, 64, 65, 66, 67, 68, 69, 70, 71, 72, 73, 74, 75, 76, 77, 78, 79, 80] (fun (i0, y0_0) => [(8, .int .i64 y0_0)]) (fun (i0, y0_0) => [OwnL eS a42_0 9 1 c42_0 x42, OwnL eS a45_0 9 1 c45_0 x45, Cells b21_0 59 [.map (some m21_1)], MapE strK vSl m21_1 w21_1, F]) (fun zz K1 => match zz with | (i0, y0_0) => law35_TagsPlays_L0 acts x21 n i0 y0_0 = some s0) (fun zz => zz.1) (n, 0) rfl ⟨rfl, trivial⟩ (ConvH.of (.cons r0 (.cons r0 (.cons r0 (.cons r0 (.cons r0 .nil)))))) hl0 ?_
                clear hl0
                rintro ⟨i0, y0_0⟩ Kb0 lk0 hl0 j0
                conv at hl0 => whnf
                cases i0 with
                | zero => rw [law35_TagsPlays_L0.eq_1] at hl0; cases hl0
                | succ i0 =>
                  rw [law35_TagsPlays_L0.eq_2] at hl0
                  conv => whnf
                  refine RStep.of (len_slice rfl ?_)
                  conv => whnf
                  refine cond_go rfl ?_
                  conv => whnf
                  refine cond_s (fun w52 => ?_) (fun w52 => ?_)
                  · replace hl0 := ift w52 hl0
                    conv => whnf
                    refine block_go rfl ?_
                    obtain ⟨s2, hl2, hl0⟩ := bnd hl0
                    conv => whnf
                    refine code_cut (σ := (Int)) [4, 9, 10, 55, 56, 57, 58, 59, 60, 61, 62, 63, 64, 65, 66, 67, 68, 69, 70, 71, 72, 73, 74, 75, 76, 77, 78, 79, 80] (fun t2 => [(9, .int .i64 t2)]) (fun t2 => [OwnL eS a42_0 9 1 c42_0 x42, OwnL eS a45_0 9 1 c45_0 x45, Cells b21_0 59 [.map (some m21_1)], MapE strK vSl m21_1 w21_1, F]) (fun zz K1 => match zz with | t2 => s2 = Fl.go t2) ?_ ?_
                    · refine block_go rfl ?_
                      conv => whnf
                      refine loop_rule (σ := Nat × Int) [4, 9, 10, 55, 56, 57, 58, 59, 60, 61, 62, 63, 64, 65, 66, 67, 68, 69, 70, 71, 72, 73, 74, 75, 76, 77, 78, 79, 80] (fun (i2, y2_0) => [(9, .int .i64 y2_0)]) (fun (i2, y2_0) => [OwnL eS a42_0 9 1 c42_0 x42, OwnL eS a45_0 9 1 c45_0 x45, Cells b21_0 59 [.map (some m21_1)], MapE strK vSl m21_1 w21_1, F]) (fun zz K1 => match zz with | (i2, y2_0) => law35_TagsPlays_L2 acts y0_0 x21 n i2 y2_0 = some s2) (fun zz => zz.1) (n, 0) rfl ⟨rfl, trivial⟩ (ConvH.of (.cons r0 (.cons r0 (.cons r0 (.cons r0 (.cons r0 .nil)))))) hl2 ?_
                      clear hl2
                      rintro ⟨i2, y2_0⟩ Kb2 lk2 hl2 j2
                      conv at hl2 => whnf
                      cases i2 with
                      | zero => rw [law35_TagsPlays_L2.eq_1] at hl2; cases hl2
                      | succ i2 =>
                        rw [law35_TagsPlays_L2.eq_2] at hl2
                        obtain ⟨x58, l58, k58, hl2⟩ := ixb hl2
                        conv => whnf
                        refine RStep.ofN (index_addr rfl rfl (hasR (LiC.mono S_law35_Act.R_ok (((((((((l11.trans l15).trans l21).trans l30).trans l36).trans l42).trans l45).trans l46).trans lk0).trans lk2) hp0_0).rd k58) l58 (lt_ofE rfl l58 k58) ?_)
                        conv => whnf
                        refine eptr_field rfl (hasR (LiC.mono S_law35_Act.R_ok (((((((((l11.trans l15).trans l21).trans l30).trans l36).trans l42).trans l45).trans l46).trans lk0).trans lk2) hp0_0).rd k58) ?_
                        obtain ⟨ss60, cc60, hr60, hc60, hR60⟩ := LiR.get (LiC.mono S_law35_Act.R_ok (((((((((l11.trans l15).trans l21).trans l30).trans l36).trans l42).trans l45).trans l46).trans lk0).trans lk2) hp0_0).rd k58
                        obtain ⟨a60_0, c60_0, rfl, h60_0⟩ := hR60
                        conv => whnf
                        refine RStep.of (load_rd ((y0_0).toNat) 2 _ _ hr60 rfl hc60 rfl rfl ?_)
                        conv => whnf
                        refine RStep.of (len_slice rfl ?_)
                        conv => whnf
                        refine cond_go rfl ?_
                        conv => whnf
                        refine cond_s (fun w62 => ?_) (fun w62 => ?_)
                        · replace hl2 := ift w62 hl2
                          conv => whnf
                          refine block_go rfl ?_
                          obtain ⟨x67, l67, k67, hl2⟩ := ixb hl2
                          conv => whnf
                          refine RStep.ofN (index_addr rfl rfl (hasR (LiC.mono S_law35_Act.R_ok (((((((((l11.trans l15).trans l21).trans l30).trans l36).trans l42).trans l45).trans l46).trans lk0).trans lk2) hp0_0).rd k67) l67 (lt_ofE rfl l67 k67) ?_)
                          conv => whnf
                          refine eptr_field rfl (hasR (LiC.mono S_law35_Act.R_ok (((((((((l11.trans l15).trans l21).trans l30).trans l36).trans l42).trans l45).trans l46).trans lk0).trans lk2) hp0_0).rd k67) ?_
                          obtain ⟨ss69, cc69, hr69, hc69, hR69⟩ := LiR.get (LiC.mono S_law35_Act.R_ok (((((((((l11.trans l15).trans l21).trans l30).trans l36).trans l42).trans l45).trans l46).trans lk0).trans lk2) hp0_0).rd k67
                          obtain ⟨a69_0, c69_0, rfl, h69_0⟩ := hR69
                          conv => whnf
                          refine RStep.of (load_rd ((y0_0).toNat) 2 _ _ hr69 rfl hc69 rfl rfl ?_)
                          obtain ⟨x71, l71, k71, hl2⟩ := ixb hl2
                          conv => whnf
                          refine RStep.ofN (index_addr rfl rfl (hasK h69_0.rd k71) l71 (lt_ofE rfl l71 k71) ?_)
                          conv => whnf
                          refine RStep.of (load_rd ((y2_0).toNat) 0 _ _ h69_0.rd rfl (mp k71) rfl rfl ?_)
                          obtain ⟨x75, q75, hl2⟩ := bnd hl2
                          conv => whnf
                          refine call_fn (tags_Index_Find_ok q75 (u21_1.mono ((((((l30.trans l36).trans l42).trans l45).trans l46).trans lk0).trans lk2))) (.cons r2 (.cons r2 .nil)) ?_
                          rintro _ K75 _ l75 ⟨a75_0, c75_0, rfl, h75_0, rfl⟩
                          obtain ⟨x78, q78, hl2⟩ := bnd hl2
                          conv => whnf
                          refine call_fn (ref35_Find_ok q78 (LiC.mono S_ref35_Entry.R_ok (((((((l30.trans l36).trans l42).trans l45).trans l46).trans lk0).trans lk2).trans l75) h21_2) rfl) .nil ?_
                          rintro _ K78 _ l78 ⟨a78_0, c78_0, rfl, h78_0, rfl⟩
                          obtain ⟨x79, q79, hl2⟩ := bnd hl2
                          conv => whnf
                          refine call_fn (Fn.lend Try.call13 (fun K79_0 l79_0 f79_0 => (Fn.lend Try.call13 (fun K79_1 l79_1 f79_1 => (base_Texts_ok q79 (f79_0.mono l79_1) rfl f79_1 rfl)) (by exact fun _ _ _ _ h => h))) (by exact fun _ _ _ _ h => h)) (.cons r1 (.cons r0 .nil)) ?_
                          rintro _ K79 _ l79 ⟨_, rfl, _, rfl, rfl, rfl⟩
                          conv => whnf
                          refine un_not ?_
                          conv => whnf
                          refine cond_go rfl ?_
                          conv => whnf
                          refine cond_s (fun w80 => ?_) (fun w80 => ?_)
                          · replace hl2 := ift (not_t (ni_t w80)) hl2
                            obtain rfl := si hl2
                            replace hl0 := elr hl0
                            obtain rfl := si hl0
                            replace hm := elr hm
                            obtain rfl := si hm
                            conv => whnf
                            refine EndStep.mk _ ((((((((((((l11.trans l15).trans l21).trans l30).trans l36).trans l42).trans l45).trans l46).trans lk0).trans lk2).trans l75).trans l78).trans l79) ⟨rfl, rfl⟩ (ConvH.of (.cons r6 .nil))
                          · replace hl2 := iff_ (not_f (ni_f w80)) hl2
                            obtain ⟨h64, hl2⟩ := chkb hl2
                            conv => whnf
                            refine int_in h64 ?_
                            conv => whnf
                            refine RoundStep.mk (i2, (y2_0 + 1)) ⟨rfl, trivial⟩ (by repeat (first | exact trivial | refine And.intro rfl ?_)) (ConvH.of (.cons r4 (.cons r4 (.cons r2 (.cons r2 (.cons r2 .nil)))))) (((lk2.trans l75).trans l78).trans l79) (Nat.lt_succ_self _) hl2
                        · replace hl2 := iff_ w62 hl2
                          conv => whnf
                          refine cond_T ?_
                          conv => whnf
                          refine MeetStep.mk (y2_0) ⟨rfl, trivial⟩ (by repeat (first | exact trivial | refine And.intro rfl ?_)) (ConvH.of (.cons r0 (.cons r0 (.cons r0 (.cons r0 (.cons r0 .nil)))))) lk2 (si hl2).symm
                    · rintro t2 Kt2 lt2 rfl j2
                      replace hl0 := elg hl0
                      obtain ⟨h54, hl0⟩ := chkb hl0
                      conv => whnf
                      refine int_in h54 ?_
                      conv => whnf
                      refine RoundStep.mk (i0, (y0_0 + 1)) ⟨rfl, trivial⟩ (by repeat (first | exact trivial | refine And.intro rfl ?_)) (ConvH.of (.cons r0 (.cons r0 (.cons r0 (.cons r0 (.cons r0 .nil)))))) (lk0.trans lt2) (Nat.lt_succ_self _) hl0
                  · replace hl0 := iff_ w52 hl0
                    conv => whnf
                    refine cond_T ?_
                    conv => whnf
                    refine MeetStep.mk (y0_0) ⟨rfl, trivial⟩ (by repeat (first | exact trivial | refine And.intro rfl ?_)) (ConvH.of (.cons r0 (.cons r0 (.cons r0 (.cons r0 (.cons r0 .nil)))))) lk0 (si hl0).symm
              · rintro t0 Kt0 lt0 rfl j0
                replace hm := elg hm
                obtain rfl := si hm
                conv => whnf
                refine EndStep.mk _ ((((((((l11.trans l15).trans l21).trans l30).trans l36).trans l42).trans l45).trans l46).trans lt0) ⟨rfl, rfl⟩ (ConvH.of (.cons r4 .nil))
