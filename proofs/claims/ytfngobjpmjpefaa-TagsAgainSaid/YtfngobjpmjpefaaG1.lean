/- Functions of the program: mirrors, and that a call returns what the mirror says. Printed by gen.py. -/
import Derived.Test.YtfngobjpmjpefaaShelf
import Derived.Test.YtfngobjpmjpefaaSL24
import Derived.KernelRfl
import Derived.Test.YtfngobjpmjpefaaProg
set_option linter.unusedVariables false
set_option linter.unusedSimpArgs false
open Go Go.SL Go.Proofs
set_option maxRecDepth 1000000
structure S_tags_Index where
  entries : (List (Str × (List Str)))
theorem elT31 : ElT Try.prog 31 9 1 := ElT.mk' rfl rfl rfl rfl rfl
noncomputable def tags_New : Option (S_tags_Index) :=
  some (⟨[]⟩ : S_tags_Index)
set_option maxHeartbeats 8000000 in
theorem tags_New_ok  {K : Hp} {r : S_tags_Index}
    (hm : tags_New = some r)  :
    Fn Try.prog 16 [] K [] (fun v K' H' => ∃ br_0 : Nat, ∃ mr_1 : Nat, ∃ wr_1 : List (Str × SlD Str), v = .pointer (some ⟨br_0, 0, none⟩) ∧ MS eS 1 K' wr_1 r.entries ∧ H' = [Cells br_0 59 [.map (some mr_1)], MapE strK vSl mr_1 wr_1]) := by
  refine Fn.enter Try.func16 Try.call16 rfl fun F => ?_
  unfold tags_New at hm
  conv => whnf
  refine makeMap_rule strK (venc := (vSl : SlD Str → Value)) fun b1 => ?_
  conv => whnf
  refine build_struct rfl rfl ?_
  conv => whnf
  refine cond_T ?_
  conv => whnf
  refine box_rule ?_
  intro b3
  obtain rfl := si hm
  conv => whnf
  refine EndStep.mk _ (Hp.Le.refl _) ⟨b3, b1, ([] : List (Str × SlD Str)), rfl, MS.nil, rfl⟩ (ConvH.of (.cons r0 (.cons r0 (.cons r0 .nil))))

noncomputable def tags_good_L0 : List UInt8 → Nat → Option (Fl (Bool) (Unit))
  | [], _ => some (Fl.go ())
  | e0 :: xs0, i0 =>
    (if decide ((e0.toNat : Int) < 33) then some true else some (decide ((e0.toNat : Int) > 126))).bind fun x26 =>
    if x26 then
    some (Fl.ret false)
    else
    tags_good_L0 xs0 (i0 + 1)
noncomputable def tags_good (s : Str) : Option (Bool) :=
  if (decide ((s.length : Int) < 1) || decide ((s.length : Int) > 32)) then
  some false
  else
  (chk (s.length ≤ szMax)).bind fun _ =>
  (tags_good_L0 s 0).bind fun s0 => s0.el some fun t0 =>
  some true
set_option maxHeartbeats 8000000 in
theorem tags_good_ok {s : Str} {K : Hp} {r : Bool}
    (hm : tags_good s = some r)  :
    Fn Try.prog 32 [str s] K [] (fun v K' H' => v = .bool r ∧ H' = []) := by
  refine Fn.enter Try.func32 Try.call32 rfl fun F => ?_
  unfold tags_good at hm
  conv => whnf
  refine RStep.of (len_str rfl ?_)
  conv => whnf
  refine cond_s (fun g7_1 => ?_) (fun g7_1 => ?_)
  · conv => whnf
    refine cond_t g7_1 ?_
    conv => whnf
    refine cond_t g7_1 ?_
    conv => whnf
    refine cond_t g7_1 ?_
    conv => whnf
    refine cond_go rfl ?_
    conv => whnf
    refine cond_T ?_
    replace hm := ift (or_t g7_1) hm
    obtain rfl := si hm
    conv => whnf
    refine EndStep.mk _ (Hp.Le.refl _) ⟨rfl, rfl⟩ (ConvH.of (.cons r0 .nil))
  · conv => whnf
    refine cond_f g7_1 ?_
    conv => whnf
    refine RStep.of (len_str rfl ?_)
    conv => whnf
    refine cond_f g7_1 ?_
    conv => whnf
    refine cond_f g7_1 ?_
    conv => whnf
    refine cond_go rfl ?_
    conv => whnf
    refine cond_s (fun w11 => ?_) (fun w11 => ?_)
    · replace hm := ift (or_u g7_1 w11) hm
      obtain rfl := si hm
      conv => whnf
      refine EndStep.mk _ (Hp.Le.refl _) ⟨rfl, rfl⟩ (ConvH.of (.cons r0 .nil))
    · replace hm := iff_ (or_f g7_1 w11) hm
      conv => whnf
      refine RStep.of (len_str rfl ?_)
      obtain ⟨hk0, hm⟩ := chkb hm
      obtain ⟨s0, hl0, hm⟩ := bnd hm
      conv => whnf
      refine code_cut (σ := (Unit)) [2, 3, 14, 15, 16, 17, 18, 19, 20, 21, 22, 23, 24, 25, 26, 27] (fun t0 => []) (fun t0 => [F]) (fun zz K1 => match zz with | t0 => s0 = Fl.go t0) ?_ ?_
      · refine block_go rfl ?_
        conv => whnf
        refine loop_rule (σ := Nat) [2, 3, 14, 15, 16, 17, 18, 19, 20, 21, 22, 23, 24, 25, 26, 27] (fun i0 => [(14, .int .i64 (i0 : Int))]) (fun i0 => [F]) (fun zz K1 => match zz with | i0 => tags_good_L0 (s.drop i0) i0 = some s0) (fun zz => s.length - zz) (0) rfl ⟨rfl, trivial⟩ (ConvH.of (.cons r0 .nil)) hl0 ?_
        clear hl0
        rintro i0 Kb0 lk0 hl0 j0
        conv at hl0 => whnf
        conv => whnf
        refine cond_go rfl ?_
        conv => whnf
        refine cond_s (fun w0 => ?_) (fun w0 => ?_)
        · obtain ⟨e0, hx0, hd0⟩ := ltx w0
          rw [hd0, tags_good_L0.eq_2] at hl0
          conv => whnf
          refine block_go rfl ?_
          conv => whnf
          refine idx_str rfl (nn _) hx0 ?_
          obtain ⟨x26, e26, hl0⟩ := bnd hl0
          conv => whnf
          refine cond_s (fun g21_6 => ?_) (fun g21_6 => ?_)
          · replace e26 := ift g21_6 e26
            conv => whnf
            refine cond_t g21_6 ?_
            conv => whnf
            refine cond_t g21_6 ?_
            conv => whnf
            refine cond_t g21_6 ?_
            conv => whnf
            refine cond_t g21_6 ?_
            conv => whnf
            refine cond_go rfl ?_
            conv => whnf
            refine cond_T ?_
            replace hl0 := ift (si e26).symm hl0
            obtain rfl := si hl0
            replace hm := elr hm
            obtain rfl := si hm
            conv => whnf
            refine EndStep.mk _ lk0 ⟨rfl, rfl⟩ (ConvH.of (.cons r0 .nil))
          · replace e26 := iff_ g21_6 e26
            conv => whnf
            refine cond_f g21_6 ?_
            conv => whnf
            refine cond_f g21_6 ?_
            conv => whnf
            refine idx_str rfl (nn _) hx0 ?_
            conv => whnf
            refine cond_f g21_6 ?_
            conv => whnf
            refine cond_f g21_6 ?_
            conv => whnf
            refine cond_go rfl ?_
            conv => whnf
            refine cond_s (fun w26 => ?_) (fun w26 => ?_)
            · replace hl0 := ift ((si e26).symm.trans w26) hl0
              obtain rfl := si hl0
              replace hm := elr hm
              obtain rfl := si hm
              conv => whnf
              refine EndStep.mk _ lk0 ⟨rfl, rfl⟩ (ConvH.of (.cons r0 .nil))
            · replace hl0 := iff_ ((si e26).symm.trans w26) hl0
              conv => whnf
              refine int_in (cntz hx0 hk0) ?_
              conv => whnf
              refine RoundStep.mk (i0 + 1) ⟨rfl, trivial⟩ (by repeat (first | exact trivial | refine And.intro rfl ?_)) (ConvH.of (.cons r0 .nil)) lk0 (ltm hx0) hl0
        · rw [lty w0, tags_good_L0.eq_1] at hl0
          conv => whnf
          refine cond_T ?_
          conv => whnf
          refine MeetStep.mk (()) trivial (by repeat (first | exact trivial | refine And.intro rfl ?_)) (ConvH.of (.cons r0 .nil)) lk0 (si hl0).symm
      · rintro t0 Kt0 lt0 rfl j0
        replace hm := elg hm
        obtain rfl := si hm
        conv => whnf
        refine EndStep.mk _ lt0 ⟨rfl, rfl⟩ (ConvH.of (.cons r0 .nil))

noncomputable def slices_Clone_string (s : (List Str)) : Option ((List Str)) :=
  (chk (([] : List Str).length + s.length ≤ lim)).bind fun _ =>
  some (([] : List Str) ++ s)
set_option maxHeartbeats 8000000 in
theorem slices_Clone_string_ok {s : (List Str)} {ap0_0 : Option Addr} {cp0_0 : Nat} {n0 : Nat} {K : Hp} {r : (List Str)}
    (hm : slices_Clone_string s = some r) (hp0_0 : RdC eS K ap0_0 cp0_0 1 s) (en0 : n0 = s.length) :
    Fn Try.prog 33 [.slice ap0_0 n0 cp0_0] K [] (fun v K' H' => ∃ ar_0 : Option Addr, ∃ cr_0 : Nat, v = .slice ar_0 r.length cr_0 ∧ (0 < r.length → Has ar_0) ∧ H' = [OwnL eS ar_0 9 1 cr_0 r]) := by
  subst en0
  refine Fn.enter Try.func33 Try.call33 rfl fun F => ?_
  unfold slices_Clone_string at hm
  rcases Classical.em (ap0_0 = none) with hz | hz
  · subst hz
    obtain rfl := RdC.none_nil hp0_0
    obtain ⟨_, hm⟩ := chkb hm
    obtain rfl := si hm
    conv => whnf
    refine eq_snil_nil rfl ?_
    conv => whnf
    refine cond_go rfl ?_
    conv => whnf
    refine cond_T ?_
    conv => whnf
    refine nilE eS 9 1 ?_
    refine EndStep.mk _ (Hp.Le.refl _) ⟨none, 0, rfl, (fun h => by simp at h), rfl⟩ (ConvH.of (.cons r0 (.cons r0 .nil)))
  · conv => whnf
    refine eq_slice_ne hz rfl ?_
    conv => whnf
    refine cond_go rfl ?_
    conv => whnf
    refine cond_F ?_
    conv => whnf
    refine bsO (len := 0) (enc := eS) (l := ([] : List Str)) (cl := []) elT31 rfl rfl (fun _ _ => rfl) rfl rfl rfl ?_ fun b5 => ?_
    · conv => whnf
      first | done | rfl
    obtain ⟨h7, hm⟩ := chkb hm
    conv => whnf
    refine apE rfl r0 elT31 (src_k rfl hp0_0.rd rfl) h7 ?_
    intro a7 c7 o7
    obtain rfl := si hm
    conv => whnf
    refine EndStep.mk _ (Hp.Le.refl _) ⟨a7, c7, rfl, o7, rfl⟩ (ConvH.of (.cons r0 (.cons r0 .nil)))

noncomputable def tags_Index_Put_L0 (x : S_tags_Index) : List Str → Nat → Option (Fl (Err × S_tags_Index) (Unit))
  | [], _ => some (Fl.go ())
  | e0 :: xs0, i0 =>
    (tags_good e0).bind fun x24 =>
    if (!x24) then
    some (Fl.ret ((some 2), x))
    else
    tags_Index_Put_L0 x xs0 (i0 + 1)
noncomputable def tags_Index_Put (x : S_tags_Index) (id : Str) (tags : (List Str)) : Option (Err × S_tags_Index) :=
  if decide ((tags.length : Int) > 16) then
  some ((some 5), x)
  else
  (chk (tags.length ≤ szMax)).bind fun _ =>
  (tags_Index_Put_L0 x tags 0).bind fun s0 => s0.el some fun t0 =>
  (slices_Clone_string tags).bind fun x29 =>
  (sortSM x29).bind fun x31 =>
  (compactM x31).bind fun x38 =>
  some (none, (⟨(mset x.entries id x38)⟩ : S_tags_Index))
set_option maxHeartbeats 8000000 in
theorem tags_Index_Put_ok {x : S_tags_Index} {id : Str} {tags : (List Str)} {b0 : Nat} {mp0_0 : Nat} {wp0_0 : List (Str × SlD Str)} {ap2_0 : Option Addr} {cp2_0 : Nat} {n2 : Nat} {K : Hp} {r : Err × S_tags_Index}
    (hm : tags_Index_Put x id tags = some r) (up0_0 : MS eS 1 K wp0_0 x.entries) (hp2_0 : RdC eS K ap2_0 cp2_0 1 tags) (en2 : n2 = tags.length) :
    Fn Try.prog 18 [.pointer (some ⟨b0, 0, none⟩), str id, .slice ap2_0 n2 cp2_0] K [Cells b0 59 [.map (some mp0_0)], MapE strK vSl mp0_0 wp0_0] (fun v K' H' => ∃ mr_0 : Nat, ∃ wr_0 : List (Str × SlD Str), v = errV 46 r.1 ∧ MS eS 1 K' wr_0 r.2.entries ∧ H' = [Cells b0 59 [.map (some mr_0)], MapE strK vSl mr_0 wr_0]) := by
  subst en2
  refine Fn.enter Try.func18 Try.call18 rfl fun F => ?_
  unfold tags_Index_Put at hm
  conv => whnf
  refine eq_ptr_nil rfl ?_
  conv => whnf
  refine cond_go rfl ?_
  conv => whnf
  refine cond_F ?_
  conv => whnf
  refine RStep.of (len_slice rfl ?_)
  conv => whnf
  refine cond_go rfl ?_
  conv => whnf
  refine cond_s (fun w15 => ?_) (fun w15 => ?_)
  · replace hm := ift w15 hm
    conv => whnf
    refine mk_iface rfl ?_
    obtain rfl := si hm
    conv => whnf
    refine EndStep.mk _ (Hp.Le.refl _) ⟨mp0_0, wp0_0, rfl, up0_0, rfl⟩ (ConvH.of (.cons r0 (.cons r0 (.cons r0 .nil))))
  · replace hm := iff_ w15 hm
    conv => whnf
    refine RStep.of (len_slice rfl ?_)
    obtain ⟨hk0, hm⟩ := chkb hm
    obtain ⟨s0, hl0, hm⟩ := bnd hm
    conv => whnf
    refine code_cut (σ := (Unit)) [6, 8, 19, 20, 21, 22, 23, 24, 25, 26, 27] (fun t0 => []) (fun t0 => [Cells b0 59 [.map (some mp0_0)], MapE strK vSl mp0_0 wp0_0, F]) (fun zz K1 => match zz with | t0 => s0 = Fl.go t0) ?_ ?_
    · refine block_go rfl ?_
      conv => whnf
      refine loop_rule (σ := Nat) [6, 8, 19, 20, 21, 22, 23, 24, 25, 26, 27] (fun i0 => [(19, .int .i64 (i0 : Int))]) (fun i0 => [Cells b0 59 [.map (some mp0_0)], MapE strK vSl mp0_0 wp0_0, F]) (fun zz K1 => match zz with | i0 => tags_Index_Put_L0 x (tags.drop i0) i0 = some s0) (fun zz => tags.length - zz) (0) rfl ⟨rfl, trivial⟩ (ConvH.of (.cons r0 (.cons r0 (.cons r0 .nil)))) hl0 ?_
      clear hl0
      rintro i0 Kb0 lk0 hl0 j0
      conv at hl0 => whnf
      conv => whnf
      refine cond_go rfl ?_
      conv => whnf
      refine cond_s (fun w0 => ?_) (fun w0 => ?_)
      · obtain ⟨e0, hx0, hd0⟩ := ltx w0
        rw [hd0, tags_Index_Put_L0.eq_2] at hl0
        conv => whnf
        refine block_go rfl ?_
        conv => whnf
        refine RStep.ofN (index_addr rfl rfl (hasK (hp2_0.mono lk0).rd hx0) (nn _) (lt_ofN hx0) ?_)
        conv => whnf
        refine RStep.of (load_rd i0 0 _ _ (hp2_0.mono lk0).rd rfl (mp hx0) rfl rfl ?_)
        obtain ⟨x24, q24, hl0⟩ := bnd hl0
        conv => whnf
        refine call_fn (tags_good_ok q24) .nil ?_
        rintro _ K24 _ l24 ⟨rfl, rfl⟩
        conv => whnf
        refine un_not ?_
        conv => whnf
        refine cond_go rfl ?_
        conv => whnf
        refine cond_s (fun w25 => ?_) (fun w25 => ?_)
        · replace hl0 := ift (not_t (ni_t w25)) hl0
          conv => whnf
          refine mk_iface rfl ?_
          obtain rfl := si hl0
          replace hm := elr hm
          obtain rfl := si hm
          conv => whnf
          refine EndStep.mk _ (lk0.trans l24) ⟨mp0_0, wp0_0, rfl, (up0_0.mono (lk0.trans l24)), rfl⟩ (ConvH.of (.cons r0 (.cons r0 (.cons r0 .nil))))
        · replace hl0 := iff_ (not_f (ni_f w25)) hl0
          conv => whnf
          refine int_in (cntz hx0 hk0) ?_
          conv => whnf
          refine RoundStep.mk (i0 + 1) ⟨rfl, trivial⟩ (by repeat (first | exact trivial | refine And.intro rfl ?_)) (ConvH.of (.cons r0 (.cons r0 (.cons r0 .nil)))) (lk0.trans l24) (ltm hx0) hl0
      · rw [lty w0, tags_Index_Put_L0.eq_1] at hl0
        conv => whnf
        refine cond_T ?_
        conv => whnf
        refine MeetStep.mk (()) trivial (by repeat (first | exact trivial | refine And.intro rfl ?_)) (ConvH.of (.cons r0 (.cons r0 (.cons r0 .nil)))) lk0 (si hl0).symm
    · rintro t0 Kt0 lt0 rfl j0
      replace hm := elg hm
      obtain ⟨x29, q29, hm⟩ := bnd hm
      conv => whnf
      refine call_fn (slices_Clone_string_ok q29 (hp2_0.mono lt0) rfl) .nil ?_
      rintro _ K29 _ l29 ⟨a29_0, c29_0, rfl, h29_0, rfl⟩
      obtain ⟨x31, q31, hm⟩ := bnd hm
      conv => whnf
      refine call_fn (sort_string_ok q31 rfl) (.cons r0 .nil) ?_
      rintro _ K31 _ l31 ⟨rfl, rfl⟩
      conv => whnf
      refine draw_go ⟨⟨[], false⟩, _, [(_, _)]⟩ (by kernel_rfl) ⟨Hp.Le.refl _, (ConvH.of (.cons r1 .nil))⟩ ?_
      conv => whnf
      refine nil_check ?_
      conv => whnf
      refine field_addr rfl ?_
      conv => whnf
      refine load1_l m0 rfl rfl ?_
      obtain ⟨x38, q38, hm⟩ := bnd hm
      conv => whnf
      refine call_fn (compact_string_ok q38 (Eq.trans (rfl) (sortSM_len q31).symm)) (.cons r0 .nil) ?_
      rintro _ K38 _ l38 ⟨rfl, rfl⟩
      conv => whnf
      refine ⟨⟨l38, (ConvH.of (.cons r1 .nil))⟩, ?_⟩
      conv => whnf
      refine fW r0 fun Kfu140191071420480_0 lfu140191071420480_0 ffu140191071420480_0 => ?_
      refine update_rule (kenc := strK) (venc := vSl) (a29_0, c29_0, x38) rfl r1 rfl (key_str rfl) ?_
      conv => whnf
      refine ⟨⟨(l38.trans lfu140191071420480_0), (ConvH.of (.cons r1 .nil))⟩, ?_⟩
      obtain rfl := si hm
      conv => whnf
      refine EndStep.mk _ ((((lt0.trans l29).trans l31).trans l38).trans lfu140191071420480_0) ⟨mp0_0, (mset wp0_0 id (a29_0, c29_0, x38)), rfl, (MS.set (up0_0.mono ((((lt0.trans l29).trans l31).trans l38).trans lfu140191071420480_0)) id ffu140191071420480_0), rfl⟩ (ConvH.of (.cons r1 (.cons r0 (.cons r0 .nil))))

noncomputable def tags_Index_IDs_L0 (e0 : (Str × (List Str))) (y0_0 : (List Str)) : Option ((List Str)) :=
  (chk (y0_0.length + [e0.1].length ≤ lim)).bind fun _ =>
  some (y0_0 ++ [e0.1])
noncomputable def tags_Index_IDs (x : S_tags_Index) : Option ((List Str)) :=
  perms x.entries fun pl0 =>
  (mfold (fun e0 ss0 => tags_Index_IDs_L0 e0 ss0) pl0 []).bind fun t0 =>
  (sortSM t0).bind fun x21 =>
  some x21
set_option maxHeartbeats 8000000 in
theorem tags_Index_IDs_ok {x : S_tags_Index} {b0 : Nat} {mp0_0 : Nat} {wp0_0 : List (Str × SlD Str)} {K : Hp} {r : (List Str)}
    (hm : tags_Index_IDs x = some r) (up0_0 : MS eS 1 K wp0_0 x.entries) :
    Fn Try.prog 19 [.pointer (some ⟨b0, 0, none⟩)] K [Cells b0 59 [.map (some mp0_0)], MapE strK vSl mp0_0 wp0_0] (fun v K' H' => ∃ ar_0 : Option Addr, ∃ cr_0 : Nat, v = .slice ar_0 r.length cr_0 ∧ (0 < r.length → Has ar_0) ∧ H' = [OwnL eS ar_0 9 1 cr_0 r, Cells b0 59 [.map (some mp0_0)], MapE strK vSl mp0_0 wp0_0]) := by
  refine Fn.enter Try.func19 Try.call19 rfl fun F => ?_
  unfold tags_Index_IDs at hm
  conv => whnf
  refine eq_ptr_nil rfl ?_
  conv => whnf
  refine cond_go rfl ?_
  conv => whnf
  refine cond_F ?_
  conv => whnf
  refine nil_check ?_
  conv => whnf
  refine field_addr rfl ?_
  conv => whnf
  refine RStep.of (load1_s r0 rfl rfl ?_)
  conv => whnf
  refine range_rule r1 rfl fun rb11 => ?_
  have hP0 := perms_all hm
  conv => whnf
  refine nilC eS 9 1 ?_
  refine code_cut (σ := ((List Str)) × Option Addr × Nat) [3, 4, 12, 13, 14, 15, 16, 17, 18, 19] (fun (t0, t0_a0, t0_c0) => [(3, .slice t0_a0 t0.length t0_c0)]) (fun (t0, t0_a0, t0_c0) => [OwnL eS t0_a0 9 1 t0_c0 t0, MapE strK vSl mp0_0 wp0_0, Cells b0 59 [.map (some mp0_0)], F]) (fun zz K1 => match zz with | (t0, t0_a0, t0_c0) => (0 < t0.length → Has t0_a0) ∧ ∃ pl, pl.Perm x.entries ∧ mfold (fun e0 ss0 => tags_Index_IDs_L0 e0 ss0) pl [] = some t0) ?_ ?_
  · refine block_go rfl ?_
    conv => whnf
    refine loop_rule (σ := (List (Str × SlD Str)) × (List Str) × Option Addr × Nat) [3, 4, 12, 13, 14, 15, 16, 17, 18, 19] (fun (vis0, y0_0, y0_a0, y0_c0) => [(3, .slice y0_a0 y0_0.length y0_c0)]) (fun (vis0, y0_0, y0_a0, y0_c0) => [OwnL eS y0_a0 9 1 y0_c0 y0_0, MapIt strK vSl rb11 mp0_0 wp0_0 vis0, Cells b0 59 [.map (some mp0_0)], F]) (fun zz K1 => match zz with | (vis0, y0_0, y0_a0, y0_c0) => (0 < y0_0.length → Has y0_a0) ∧ mfold (fun e0 ss0 => tags_Index_IDs_L0 e0 ss0) (vis0.map pSl) [] = some y0_0) (fun zz => wp0_0.length - zz.1.length) ([], [], none, 0) rfl ⟨rfl, trivial⟩ (ConvH.of (.cons r0 (.cons r0 (.cons r0 (.cons r0 .nil))))) ⟨(fun h => by simp at h), rfl⟩ ?_
    rintro ⟨vis0, y0_0, y0_a0, y0_c0⟩ Kb0 lk0 ⟨y0_h0, hv0⟩ j0
    conv => whnf
    refine next_rule r1 (fun hp0 => ?_) (fun rp0 rs0 hp0 => ?_)
    · conv => whnf
      refine cond_go rfl ?_
      conv => whnf
      refine cond_F ?_
      conv => whnf
      refine cond_T ?_
      conv => whnf
      refine MeetStep.mk (y0_0, y0_a0, y0_c0) ⟨rfl, trivial⟩ (by repeat (first | exact trivial | refine And.intro rfl ?_)) (ConvH.of (.cons r1 (.cons r0 (.cons r0 (.cons r0 .nil))))) lk0 ⟨y0_h0, ⟨_, MS.perm0 up0_0 hp0, hv0⟩⟩
    · obtain ⟨z0, hB0⟩ := mnext hP0 hv0 (MS.perm up0_0 hp0)
      have hl0 : tags_Index_IDs_L0 (pSl rp0) y0_0 = some z0 := hB0
      unfold tags_Index_IDs_L0 at hl0
      conv => whnf
      refine cond_go rfl ?_
      conv => whnf
      refine cond_T ?_
      conv => whnf
      refine block_go rfl ?_
      conv => whnf
      refine RStep.of (entry_rule r0 ?_)
      conv => whnf
      refine bsO (len := 1) (enc := eS) (l := [(pSl rp0).1]) (cl := [str (pSl rp0).1]) elT31 rfl rfl (fun _ _ => rfl) rfl rfl rfl ?_ fun b18 => ?_
      · conv => whnf
        refine cond_T ?_
        conv => whnf
        first | done | rfl
      obtain ⟨h19, hl0⟩ := chkb hl0
      conv => whnf
      refine apE rfl r2 elT31 (src_own' rfl r0 rfl (fun _ => rfl) (fun _ => rfl)) h19 ?_
      intro a19 c19 o19
      conv => whnf
      refine RoundStep.mk (vis0 ++ [rp0], (y0_0 ++ [(pSl rp0).1]), a19, c19) ⟨rfl, trivial⟩ (by repeat (first | exact trivial | refine And.intro rfl ?_)) (ConvH.of (.cons r0 (.cons r1 (.cons r1 (.cons r1 .nil))))) lk0 (ltmap hp0) ⟨o19, (by rw [pSl_snoc]; exact (mfold_snoc hv0).trans (hB0.trans hl0.symm))⟩
  · rintro ⟨t0, t0_a0, t0_c0⟩ Kt0 lt0 ⟨t0_h0, hx0⟩ j0
    replace hm := mlast hP0 hx0
    obtain ⟨x21, q21, hm⟩ := bnd hm
    conv => whnf
    refine call_fn (sort_string_ok q21 rfl) (.cons r0 .nil) ?_
    rintro _ K21 _ l21 ⟨rfl, rfl⟩
    obtain rfl := si hm
    conv => whnf
    refine EndStep.mk _ (lt0.trans l21) ⟨t0_a0, t0_c0, (by rw [← (show x21.length = t0.length from Eq.symm ((Eq.trans (rfl) (sortSM_len q21).symm)))] <;> rfl), (fun h => t0_h0 (by rw [sortSM_len q21] at h; exact h)), rfl⟩ (ConvH.of (.cons r0 (.cons r1 (.cons r0 (.cons r0 .nil)))))

noncomputable def slices_Index_string_L0 (v' : Str) : List Str → Nat → Option (Fl (Int) (Unit))
  | [], _ => some (Fl.go ())
  | e0 :: xs0, i0 =>
    if decide (v' = e0) then
    some (Fl.ret (i0 : Int))
    else
    slices_Index_string_L0 v' xs0 (i0 + 1)
noncomputable def slices_Index_string (s : (List Str)) (v' : Str) : Option (Int) :=
  (chk (s.length ≤ szMax)).bind fun _ =>
  (slices_Index_string_L0 v' s 0).bind fun s0 => s0.el some fun t0 =>
  some (-1)
set_option maxHeartbeats 8000000 in
theorem slices_Index_string_ok {s : (List Str)} {v' : Str} {ap0_0 : Option Addr} {cp0_0 : Nat} {n0 : Nat} {K : Hp} {r : Int}
    (hm : slices_Index_string s v' = some r) (hp0_0 : RdC eS K ap0_0 cp0_0 1 s) (en0 : n0 = s.length) :
    Fn Try.prog 38 [.slice ap0_0 n0 cp0_0, str v'] K [] (fun v K' H' => v = .int .i64 r ∧ H' = []) := by
  subst en0
  refine Fn.enter Try.func38 Try.call38 rfl fun F => ?_
  unfold slices_Index_string at hm
  conv => whnf
  refine RStep.of (len_slice rfl ?_)
  obtain ⟨hk0, hm⟩ := chkb hm
  obtain ⟨s0, hl0, hm⟩ := bnd hm
  conv => whnf
  refine code_cut (σ := (Unit)) [4, 5, 8, 9, 10, 11, 12, 13, 14, 15, 16, 17, 18] (fun t0 => []) (fun t0 => [F]) (fun zz K1 => match zz with | t0 => s0 = Fl.go t0) ?_ ?_
  · refine block_go rfl ?_
    conv => whnf
    refine loop_rule (σ := Nat) [4, 5, 8, 9, 10, 11, 12, 13, 14, 15, 16, 17, 18] (fun i0 => [(8, .int .i64 (i0 : Int))]) (fun i0 => [F]) (fun zz K1 => match zz with | i0 => slices_Index_string_L0 v' (s.drop i0) i0 = some s0) (fun zz => s.length - zz) (0) rfl ⟨rfl, trivial⟩ (ConvH.of (.cons r0 .nil)) hl0 ?_
    clear hl0
    rintro i0 Kb0 lk0 hl0 j0
    conv at hl0 => whnf
    conv => whnf
    refine cond_go rfl ?_
    conv => whnf
    refine cond_s (fun w0 => ?_) (fun w0 => ?_)
    · obtain ⟨e0, hx0, hd0⟩ := ltx w0
      rw [hd0, slices_Index_string_L0.eq_2] at hl0
      conv => whnf
      refine block_go rfl ?_
      conv => whnf
      refine RStep.ofN (index_addr rfl rfl (hasK (hp0_0.mono lk0).rd hx0) (nn _) (lt_ofN hx0) ?_)
      conv => whnf
      refine RStep.of (load_rd i0 0 _ _ (hp0_0.mono lk0).rd rfl (mp hx0) rfl rfl ?_)
      conv => whnf
      refine eq_str ?_
      conv => whnf
      refine cond_go rfl ?_
      conv => whnf
      refine cond_s (fun w16 => ?_) (fun w16 => ?_)
      · replace hl0 := ift w16 hl0
        obtain rfl := si hl0
        replace hm := elr hm
        obtain rfl := si hm
        conv => whnf
        refine EndStep.mk _ lk0 ⟨rfl, rfl⟩ (ConvH.of (.cons r0 .nil))
      · replace hl0 := iff_ w16 hl0
        conv => whnf
        refine int_in (cntz hx0 hk0) ?_
        conv => whnf
        refine RoundStep.mk (i0 + 1) ⟨rfl, trivial⟩ (by repeat (first | exact trivial | refine And.intro rfl ?_)) (ConvH.of (.cons r0 .nil)) lk0 (ltm hx0) hl0
    · rw [lty w0, slices_Index_string_L0.eq_1] at hl0
      conv => whnf
      refine cond_T ?_
      conv => whnf
      refine MeetStep.mk (()) trivial (by repeat (first | exact trivial | refine And.intro rfl ?_)) (ConvH.of (.cons r0 .nil)) lk0 (si hl0).symm
  · rintro t0 Kt0 lt0 rfl j0
    replace hm := elg hm
    obtain rfl := si hm
    conv => whnf
    refine EndStep.mk _ lt0 ⟨rfl, rfl⟩ (ConvH.of (.cons r0 .nil))

noncomputable def slices_Contains_string (s : (List Str)) (v' : Str) : Option (Bool) :=
  (slices_Index_string s v').bind fun x7 =>
  some (decide (x7 ≥ 0))
set_option maxHeartbeats 8000000 in
theorem slices_Contains_string_ok {s : (List Str)} {v' : Str} {ap0_0 : Option Addr} {cp0_0 : Nat} {n0 : Nat} {K : Hp} {r : Bool}
    (hm : slices_Contains_string s v' = some r) (hp0_0 : RdC eS K ap0_0 cp0_0 1 s) (en0 : n0 = s.length) :
    Fn Try.prog 30 [.slice ap0_0 n0 cp0_0, str v'] K [] (fun v K' H' => v = .bool r ∧ H' = []) := by
  subst en0
  refine Fn.enter Try.func30 Try.call30 rfl fun F => ?_
  unfold slices_Contains_string at hm
  obtain ⟨x7, q7, hm⟩ := bnd hm
  conv => whnf
  refine call_fn (slices_Index_string_ok q7 hp0_0 rfl) .nil ?_
  rintro _ K7 _ l7 ⟨rfl, rfl⟩
  obtain rfl := si hm
  conv => whnf
  refine EndStep.mk _ l7 ⟨rfl, rfl⟩ (ConvH.of (.cons r0 .nil))

noncomputable def tags_Index_Find_L0 (x : S_tags_Index) (tag : Str) : List Str → Nat → (List Str) → Option ((List Str))
  | [], _, y0_0 => some y0_0
  | e0 :: xs0, i0, y0_0 =>
    (slices_Contains_string ((mget x.entries e0).getD []) tag).bind fun x22 =>
    if x22 then
    (chk (y0_0.length + [e0].length ≤ lim)).bind fun _ =>
    tags_Index_Find_L0 x tag xs0 (i0 + 1) (y0_0 ++ [e0])
    else
    tags_Index_Find_L0 x tag xs0 (i0 + 1) y0_0
noncomputable def tags_Index_Find (x : S_tags_Index) (tag : Str) : Option ((List Str)) :=
  (tags_Index_IDs x).bind fun x9 =>
  (chk (x9.length ≤ szMax)).bind fun _ =>
  (tags_Index_Find_L0 x tag x9 0 []).bind fun t0 =>
  some t0
set_option maxHeartbeats 8000000 in
theorem tags_Index_Find_ok {x : S_tags_Index} {tag : Str} {b0 : Nat} {mp0_0 : Nat} {wp0_0 : List (Str × SlD Str)} {K : Hp} {r : (List Str)}
    (hm : tags_Index_Find x tag = some r) (up0_0 : MS eS 1 K wp0_0 x.entries) :
    Fn Try.prog 14 [.pointer (some ⟨b0, 0, none⟩), str tag] K [Cells b0 59 [.map (some mp0_0)], MapE strK vSl mp0_0 wp0_0] (fun v K' H' => ∃ ar_0 : Option Addr, ∃ cr_0 : Nat, v = .slice ar_0 r.length cr_0 ∧ (0 < r.length → Has ar_0) ∧ H' = [OwnL eS ar_0 9 1 cr_0 r, Cells b0 59 [.map (some mp0_0)], MapE strK vSl mp0_0 wp0_0]) := by
  refine Fn.enter Try.func14 Try.call14 rfl fun F => ?_
  unfold tags_Index_Find at hm
  obtain ⟨x9, q9, hm⟩ := bnd hm
  conv => whnf
  refine call_fn (tags_Index_IDs_ok q9 up0_0) (.cons r0 (.cons r0 .nil)) ?_
  rintro _ K9 _ l9 ⟨a9_0, c9_0, rfl, h9_0, rfl⟩
  conv => whnf
  refine RStep.of (len_slice rfl ?_)
  obtain ⟨hk0, hm⟩ := chkb hm
  obtain ⟨s0, hl0, hm⟩ := bnd hm
  conv => whnf
  refine nilC eS 9 1 ?_
  refine code_cut (σ := ((List Str)) × Option Addr × Nat) [5, 7, 11, 12, 13, 14, 15, 16, 17, 18, 19, 20, 21, 22, 23, 24, 25, 26, 27] (fun (t0, t0_a0, t0_c0) => [(5, .slice t0_a0 t0.length t0_c0)]) (fun (t0, t0_a0, t0_c0) => [OwnL eS t0_a0 9 1 t0_c0 t0, OwnL eS a9_0 9 1 c9_0 x9, Cells b0 59 [.map (some mp0_0)], MapE strK vSl mp0_0 wp0_0, F]) (fun zz K1 => match zz with | (t0, t0_a0, t0_c0) => (0 < t0.length → Has t0_a0) ∧ t0 = s0) ?_ ?_
  · refine block_go rfl ?_
    conv => whnf
    refine loop_rule (σ := Nat × (List Str) × Option Addr × Nat) [5, 7, 11, 12, 13, 14, 15, 16, 17, 18, 19, 20, 21, 22, 23, 24, 25, 26, 27] (fun (i0, y0_0, y0_a0, y0_c0) => [(11, .int .i64 (i0 : Int)), (5, .slice y0_a0 y0_0.length y0_c0)]) (fun (i0, y0_0, y0_a0, y0_c0) => [OwnL eS y0_a0 9 1 y0_c0 y0_0, OwnL eS a9_0 9 1 c9_0 x9, Cells b0 59 [.map (some mp0_0)], MapE strK vSl mp0_0 wp0_0, F]) (fun zz K1 => match zz with | (i0, y0_0, y0_a0, y0_c0) => (0 < y0_0.length → Has y0_a0) ∧ tags_Index_Find_L0 x tag (x9.drop i0) i0 y0_0 = some s0) (fun zz => x9.length - zz.1) (0, [], none, 0) rfl ⟨rfl, rfl, trivial⟩ (ConvH.of (.cons r0 (.cons r0 (.cons r0 (.cons r0 (.cons r0 .nil)))))) ⟨(fun h => by simp at h), hl0⟩ ?_
    clear hl0
    rintro ⟨i0, y0_0, y0_a0, y0_c0⟩ Kb0 lk0 ⟨y0_h0, hl0⟩ j0
    conv => whnf
    refine cond_go rfl ?_
    conv => whnf
    refine cond_s (fun w0 => ?_) (fun w0 => ?_)
    · obtain ⟨e0, hx0, hd0⟩ := ltx w0
      rw [hd0, tags_Index_Find_L0.eq_2] at hl0
      conv => whnf
      refine block_go rfl ?_
      conv => whnf
      refine RStep.ofN (index_addr rfl rfl (hasO h9_0 hx0) (nn _) (lt_ofNE rfl hx0) ?_)
      conv => whnf
      refine RStep.of (ld_own (i := i0) (o := 0) r1 rfl hx0 rfl rfl ?_)
      conv => whnf
      refine nil_check ?_
      conv => whnf
      refine field_addr rfl ?_
      conv => whnf
      refine RStep.of (load1_s r2 rfl rfl ?_)
      conv => whnf
      refine RStep.of (lookupS (kenc := strK) r3 rfl rfl (key_str rfl) (up0_0.mono (l9.trans lk0)) fun a20 c20 h20 => ?_)
      obtain ⟨x22, q22, hl0⟩ := bnd hl0
      conv => whnf
      refine call_fn (slices_Contains_string_ok q22 h20 rfl) .nil ?_
      rintro _ K22 _ l22 ⟨rfl, rfl⟩
      conv => whnf
      refine cond_go rfl ?_
      conv => whnf
      refine cond_s (fun w22 => ?_) (fun w22 => ?_)
      · replace hl0 := ift w22 hl0
        conv => whnf
        refine bsO (len := 1) (enc := eS) (l := [e0]) (cl := [str e0]) elT31 rfl rfl (fun _ _ => rfl) rfl rfl rfl ?_ fun b25 => ?_
        · conv => whnf
          refine cond_T ?_
          conv => whnf
          first | done | rfl
        obtain ⟨h26, hl0⟩ := chkb hl0
        conv => whnf
        refine apE rfl r1 elT31 (src_own' rfl r0 rfl (fun _ => rfl) (fun _ => rfl)) h26 ?_
        intro a26 c26 o26
        conv => whnf
        refine int_in (cntz hx0 hk0) ?_
        conv => whnf
        refine RoundStep.mk (i0 + 1, (y0_0 ++ [e0]), a26, c26) ⟨rfl, rfl, trivial⟩ (by repeat (first | exact trivial | refine And.intro rfl ?_)) (ConvH.of (.cons r0 (.cons r1 (.cons r1 (.cons r1 (.cons r1 .nil)))))) (lk0.trans l22) (ltm hx0) ⟨o26, hl0⟩
      · replace hl0 := iff_ w22 hl0
        conv => whnf
        refine int_in (cntz hx0 hk0) ?_
        conv => whnf
        refine RoundStep.mk (i0 + 1, y0_0, y0_a0, y0_c0) ⟨rfl, rfl, trivial⟩ (by repeat (first | exact trivial | refine And.intro rfl ?_)) (ConvH.of (.cons r0 (.cons r0 (.cons r0 (.cons r0 (.cons r0 .nil)))))) (lk0.trans l22) (ltm hx0) ⟨y0_h0, hl0⟩
    · rw [lty w0, tags_Index_Find_L0.eq_1] at hl0
      conv => whnf
      refine cond_T ?_
      conv => whnf
      refine MeetStep.mk (y0_0, y0_a0, y0_c0) ⟨rfl, trivial⟩ (by repeat (first | exact trivial | refine And.intro rfl ?_)) (ConvH.of (.cons r0 (.cons r0 (.cons r0 (.cons r0 (.cons r0 .nil)))))) lk0 ⟨y0_h0, (si hl0)⟩
  · rintro ⟨t0, t0_a0, t0_c0⟩ Kt0 lt0 ⟨t0_h0, rfl⟩ j0
    obtain rfl := si hm
    conv => whnf
    refine EndStep.mk _ (l9.trans lt0) ⟨t0_a0, t0_c0, rfl, t0_h0, rfl⟩ (ConvH.of (.cons r0 (.cons r1 (.cons r1 (.cons r1 .nil)))))

noncomputable def law35_awake : Option (Bool) :=
  (tags_New).bind fun x3 =>
  (tags_Index_Put x3 ([97] : Str) ([([116] : Str)])).bind fun x9 =>
  if x9.1.isSome then
  some false
  else
  (tags_Index_Find x9.2 ([116] : Str)).bind fun x13 =>
  (if decide ((x13.length : Int) = 1) then (ix x13 0).bind fun x19 =>
  some (decide (x19 = ([97] : Str))) else some false).bind fun x22 =>
  some x22
set_option maxHeartbeats 8000000 in
theorem law35_awake_ok  {K : Hp} {r : Bool}
    (hm : law35_awake = some r)  :
    Fn Try.prog 9 [] K [] (fun v K' H' => v = .bool r ∧ H' = []) := by
  refine Fn.enter Try.func9 Try.call9 rfl fun F => ?_
  unfold law35_awake at hm
  obtain ⟨x3, q3, hm⟩ := bnd hm
  conv => whnf
  refine call_fn (tags_New_ok q3) .nil ?_
  rintro _ K3 _ l3 ⟨b3_0, m3_1, w3_1, rfl, u3_1, rfl⟩
  conv => whnf
  refine eq_ptr_nil rfl ?_
  conv => whnf
  refine cond_F ?_
  conv => whnf
  refine cond_F ?_
  conv => whnf
  refine bsO (len := 1) (enc := eS) (l := [([116] : Str)]) (cl := [str ([116] : Str)]) elT31 rfl rfl (fun _ _ => rfl) rfl rfl rfl ?_ fun b8 => ?_
  · conv => whnf
    refine cond_T ?_
    conv => whnf
    first | done | rfl
  conv => whnf
  refine cond_F ?_
  obtain ⟨x9, q9, hm⟩ := bnd hm
  conv => whnf
  refine fF Try.call18 r0 fun K9_2 l9_2 f9_2 => ?_
  refine call_fn (tags_Index_Put_ok q9 (u3_1.mono l9_2) f9_2 rfl) (.cons r0 (.cons r0 .nil)) ?_
  rintro _ K9 _ l9 ⟨m9_0, w9_0, rfl, u9_0, rfl⟩
  conv => whnf
  refine cond_F ?_
  conv => whnf
  refine neq_err rfl ?_
  conv => whnf
  refine cond_F ?_
  conv => whnf
  refine cond_go rfl ?_
  conv => whnf
  refine cond_s (fun w11 => ?_) (fun w11 => ?_)
  · replace hm := ift w11 hm
    obtain rfl := si hm
    conv => whnf
    refine EndStep.mk _ ((l3.trans l9_2).trans l9) ⟨rfl, rfl⟩ (ConvH.of (.cons r2 .nil))
  · replace hm := iff_ w11 hm
    obtain ⟨x13, q13, hm⟩ := bnd hm
    conv => whnf
    refine call_fn (tags_Index_Find_ok q13 u9_0) (.cons r0 (.cons r0 .nil)) ?_
    rintro _ K13 _ l13 ⟨a13_0, c13_0, rfl, h13_0, rfl⟩
    conv => whnf
    refine RStep.of (len_slice rfl ?_)
    conv => whnf
    refine eq_int ?_
    obtain ⟨x22, e22, hm⟩ := bnd hm
    conv => whnf
    refine cond_s (fun g17_5 => ?_) (fun g17_5 => ?_)
    · replace e22 := ift g17_5 e22
      conv => whnf
      refine cond_t g17_5 ?_
      obtain ⟨x19, l19, k19, e22⟩ := ixb e22
      conv => whnf
      refine RStep.ofN (index_addr rfl rfl (hasO h13_0 k19) l19 (lt_ofE rfl l19 k19) ?_)
      conv => whnf
      refine cond_t g17_5 ?_
      conv => whnf
      refine RStep.of (ld_own (i := (0 : Int).toNat) (o := 0) r0 rfl k19 rfl rfl ?_)
      conv => whnf
      refine cond_t g17_5 ?_
      conv => whnf
      refine eq_str ?_
      conv => whnf
      refine cond_t g17_5 ?_
      obtain rfl := si hm
      conv => whnf
      refine EndStep.mk _ (((l3.trans l9_2).trans l9).trans l13) ⟨(by rw [← (si e22)] <;> rfl), rfl⟩ (ConvH.of (.cons r3 .nil))
    · replace e22 := iff_ g17_5 e22
      conv => whnf
      refine cond_f g17_5 ?_
      conv => whnf
      refine cond_f g17_5 ?_
      conv => whnf
      refine cond_f g17_5 ?_
      conv => whnf
      refine cond_f g17_5 ?_
      obtain rfl := si hm
      conv => whnf
      refine EndStep.mk _ (((l3.trans l9_2).trans l9).trans l13) ⟨(by rw [← ((si e22).symm).symm] <;> rfl), rfl⟩ (ConvH.of (.cons r3 .nil))

noncomputable def tags_Index_Put_nil (id : Str) (tags : (List Str)) : Option (Err) :=
  some (some 3)
set_option maxHeartbeats 8000000 in
theorem tags_Index_Put_nil_ok {id : Str} {tags : (List Str)} {ap2_0 : Option Addr} {cp2_0 : Nat} {n2 : Nat} {K : Hp} {r : Err}
    (hm : tags_Index_Put_nil id tags = some r) (hp2_0 : RdC eS K ap2_0 cp2_0 1 tags) (en2 : n2 = tags.length) :
    Fn Try.prog 18 [.pointer none, str id, .slice ap2_0 n2 cp2_0] K [] (fun v K' H' => v = errV 46 r ∧ H' = []) := by
  subst en2
  refine Fn.enter Try.func18 Try.call18 rfl fun F => ?_
  unfold tags_Index_Put_nil at hm
  conv => whnf
  refine eq_nil_nil rfl ?_
  conv => whnf
  refine cond_go rfl ?_
  conv => whnf
  refine cond_T ?_
  conv => whnf
  refine mk_iface rfl ?_
  obtain rfl := si hm
  conv => whnf
  refine EndStep.mk _ (Hp.Le.refl _) ⟨rfl, rfl⟩ (ConvH.of (.cons r0 .nil))

noncomputable def base_Num (e : Err) : Option (Int) :=
  if e.isNone then
  some 0
  else
  if (!e.isSome) then
  some (-1)
  else
  some (e.getD 0)
set_option maxHeartbeats 8000000 in
theorem base_Num_ok {e : Err} {K : Hp} {r : Int}
    (hm : base_Num e = some r)  :
    Fn Try.prog 25 [errV 46 e] K [] (fun v K' H' => v = .int .i64 r ∧ H' = []) := by
  refine Fn.enter Try.func25 Try.call25 rfl fun F => ?_
  unfold base_Num at hm
  conv => whnf
  refine eq_err rfl ?_
  conv => whnf
  refine cond_go rfl ?_
  conv => whnf
  refine cond_s (fun w6 => ?_) (fun w6 => ?_)
  · replace hm := ift w6 hm
    obtain rfl := si hm
    conv => whnf
    refine EndStep.mk _ (Hp.Le.refl _) ⟨rfl, rfl⟩ (ConvH.of (.cons r0 .nil))
  · replace hm := iff_ w6 hm
    conv => whnf
    refine asrt rfl rfl rfl ?_
    conv => whnf
    refine un_not ?_
    conv => whnf
    refine cond_go rfl ?_
    conv => whnf
    refine cond_s (fun w13 => ?_) (fun w13 => ?_)
    · replace hm := ift (not_t (ni_t w13)) hm
      obtain rfl := si hm
      conv => whnf
      refine EndStep.mk _ (Hp.Le.refl _) ⟨rfl, rfl⟩ (ConvH.of (.cons r0 .nil))
    · replace hm := iff_ (not_f (ni_f w13)) hm
      obtain rfl := si hm
      conv => whnf
      refine EndStep.mk _ (Hp.Le.refl _) ⟨rfl, rfl⟩ (ConvH.of (.cons r0 .nil))

noncomputable def base_Is (e : Err) (want : Int) : Option (Bool) :=
  (base_Num e).bind fun x6 =>
  some (decide (x6 = want) && decide (want ≠ 0))
set_option maxHeartbeats 8000000 in
theorem base_Is_ok {e : Err} {want : Int} {K : Hp} {r : Bool}
    (hm : base_Is e want = some r)  :
    Fn Try.prog 22 [errV 46 e, .int .i64 want] K [] (fun v K' H' => v = .bool r ∧ H' = []) := by
  refine Fn.enter Try.func22 Try.call22 rfl fun F => ?_
  unfold base_Is at hm
  obtain ⟨x6, q6, hm⟩ := bnd hm
  conv => whnf
  refine call_fn (base_Num_ok q6) .nil ?_
  rintro _ K6 _ l6 ⟨rfl, rfl⟩
  conv => whnf
  refine eq_int ?_
  conv => whnf
  refine cond_s (fun g9_1 => ?_) (fun g9_1 => ?_)
  · conv => whnf
    refine cond_t g9_1 ?_
    conv => whnf
    refine neq_int ?_
    conv => whnf
    refine cond_t g9_1 ?_
    obtain rfl := si hm
    conv => whnf
    refine EndStep.mk _ l6 ⟨(by rw [← (and_e (b := decide (want ≠ 0)) g9_1)] <;> rfl), rfl⟩ (ConvH.of (.cons r0 .nil))
  · conv => whnf
    refine cond_f g9_1 ?_
    conv => whnf
    refine cond_f g9_1 ?_
    obtain rfl := si hm
    conv => whnf
    refine EndStep.mk _ l6 ⟨(by rw [← ((and_f g9_1)).symm] <;> rfl), rfl⟩ (ConvH.of (.cons r0 .nil))

noncomputable def tags_Index_Remove (x : S_tags_Index) (id : Str) : Option (Bool × S_tags_Index) :=
  some ((mget x.entries id).isSome, (⟨(mdel x.entries id)⟩ : S_tags_Index))
set_option maxHeartbeats 8000000 in
theorem tags_Index_Remove_ok {x : S_tags_Index} {id : Str} {b0 : Nat} {mp0_0 : Nat} {wp0_0 : List (Str × SlD Str)} {K : Hp} {r : Bool × S_tags_Index}
    (hm : tags_Index_Remove x id = some r) (up0_0 : MS eS 1 K wp0_0 x.entries) :
    Fn Try.prog 17 [.pointer (some ⟨b0, 0, none⟩), str id] K [Cells b0 59 [.map (some mp0_0)], MapE strK vSl mp0_0 wp0_0] (fun v K' H' => ∃ mr_0 : Nat, ∃ wr_0 : List (Str × SlD Str), v = .bool r.1 ∧ MS eS 1 K' wr_0 r.2.entries ∧ H' = [Cells b0 59 [.map (some mr_0)], MapE strK vSl mr_0 wr_0]) := by
  refine Fn.enter Try.func17 Try.call17 rfl fun F => ?_
  unfold tags_Index_Remove at hm
  conv => whnf
  refine eq_ptr_nil rfl ?_
  conv => whnf
  refine cond_go rfl ?_
  conv => whnf
  refine cond_F ?_
  conv => whnf
  refine nil_check ?_
  conv => whnf
  refine field_addr rfl ?_
  conv => whnf
  refine RStep.of (load1_s r0 rfl rfl ?_)
  conv => whnf
  refine RStep.of (lookupS_ok (kenc := strK) r1 rfl rfl (key_str rfl) up0_0 fun a15 c15 h15 => ?_)
  conv => whnf
  refine nil_check ?_
  conv => whnf
  refine field_addr rfl ?_
  conv => whnf
  refine RStep.of (load1_s r0 rfl rfl ?_)
  conv => whnf
  refine delete_rule (kenc := strK) (venc := vSl) r1 rfl rfl (key_str rfl) ?_
  obtain rfl := si hm
  conv => whnf
  refine EndStep.mk _ (Hp.Le.refl _) ⟨mp0_0, (mdel wp0_0 id), rfl, (MS.del up0_0 id), rfl⟩ (ConvH.of (.cons r1 (.cons r0 (.cons r0 .nil))))

noncomputable def tags_Index_Remove_nil (id : Str) : Option (Bool) :=
  some false
set_option maxHeartbeats 8000000 in
theorem tags_Index_Remove_nil_ok {id : Str} {K : Hp} {r : Bool}
    (hm : tags_Index_Remove_nil id = some r)  :
    Fn Try.prog 17 [.pointer none, str id] K [] (fun v K' H' => v = .bool r ∧ H' = []) := by
  refine Fn.enter Try.func17 Try.call17 rfl fun F => ?_
  unfold tags_Index_Remove_nil at hm
  conv => whnf
  refine eq_nil_nil rfl ?_
  conv => whnf
  refine cond_go rfl ?_
  conv => whnf
  refine cond_T ?_
  obtain rfl := si hm
  conv => whnf
  refine EndStep.mk _ (Hp.Le.refl _) ⟨rfl, rfl⟩ (ConvH.of (.cons r0 .nil))

noncomputable def tags_Index_Tags (x : S_tags_Index) (id : Str) : Option ((List Str)) :=
  (slices_Clone_string ((mget x.entries id).getD [])).bind fun x13 =>
  some x13
set_option maxHeartbeats 8000000 in
theorem tags_Index_Tags_ok {x : S_tags_Index} {id : Str} {b0 : Nat} {mp0_0 : Nat} {wp0_0 : List (Str × SlD Str)} {K : Hp} {r : (List Str)}
    (hm : tags_Index_Tags x id = some r) (up0_0 : MS eS 1 K wp0_0 x.entries) :
    Fn Try.prog 21 [.pointer (some ⟨b0, 0, none⟩), str id] K [Cells b0 59 [.map (some mp0_0)], MapE strK vSl mp0_0 wp0_0] (fun v K' H' => ∃ ar_0 : Option Addr, ∃ cr_0 : Nat, v = .slice ar_0 r.length cr_0 ∧ (0 < r.length → Has ar_0) ∧ H' = [OwnL eS ar_0 9 1 cr_0 r, Cells b0 59 [.map (some mp0_0)], MapE strK vSl mp0_0 wp0_0]) := by
  refine Fn.enter Try.func21 Try.call21 rfl fun F => ?_
  unfold tags_Index_Tags at hm
  conv => whnf
  refine eq_ptr_nil rfl ?_
  conv => whnf
  refine cond_go rfl ?_
  conv => whnf
  refine cond_F ?_
  conv => whnf
  refine nil_check ?_
  conv => whnf
  refine field_addr rfl ?_
  conv => whnf
  refine RStep.of (load1_s r0 rfl rfl ?_)
  conv => whnf
  refine RStep.of (lookupS (kenc := strK) r1 rfl rfl (key_str rfl) up0_0 fun a12 c12 h12 => ?_)
  obtain ⟨x13, q13, hm⟩ := bnd hm
  conv => whnf
  refine call_fn (slices_Clone_string_ok q13 h12 rfl) .nil ?_
  rintro _ K13 _ l13 ⟨a13_0, c13_0, rfl, h13_0, rfl⟩
  obtain rfl := si hm
  conv => whnf
  refine EndStep.mk _ l13 ⟨a13_0, c13_0, rfl, h13_0, rfl⟩ (ConvH.of (.cons r0 (.cons r0 (.cons r0 (.cons r0 .nil)))))

noncomputable def tags_Index_Tags_nil (id : Str) : Option ((List Str)) :=
  some []
set_option maxHeartbeats 8000000 in
theorem tags_Index_Tags_nil_ok {id : Str} {K : Hp} {r : (List Str)}
    (hm : tags_Index_Tags_nil id = some r)  :
    Fn Try.prog 21 [.pointer none, str id] K [] (fun v K' H' => ∃ ar_0 : Option Addr, ∃ cr_0 : Nat, v = .slice ar_0 r.length cr_0 ∧ (0 < r.length → Has ar_0) ∧ H' = [OwnL eS ar_0 9 1 cr_0 r]) := by
  refine Fn.enter Try.func21 Try.call21 rfl fun F => ?_
  unfold tags_Index_Tags_nil at hm
  conv => whnf
  refine eq_nil_nil rfl ?_
  conv => whnf
  refine cond_go rfl ?_
  conv => whnf
  refine cond_T ?_
  obtain rfl := si hm
  conv => whnf
  refine nilE eS 9 1 ?_
  refine EndStep.mk _ (Hp.Le.refl _) ⟨none, 0, rfl, (fun h => by simp at h), rfl⟩ (ConvH.of (.cons r0 (.cons r0 .nil)))

noncomputable def tags_Index_IDs_nil : Option ((List Str)) :=
  some []
set_option maxHeartbeats 8000000 in
theorem tags_Index_IDs_nil_ok  {K : Hp} {r : (List Str)}
    (hm : tags_Index_IDs_nil = some r)  :
    Fn Try.prog 19 [.pointer none] K [] (fun v K' H' => ∃ ar_0 : Option Addr, ∃ cr_0 : Nat, v = .slice ar_0 r.length cr_0 ∧ (0 < r.length → Has ar_0) ∧ H' = [OwnL eS ar_0 9 1 cr_0 r]) := by
  refine Fn.enter Try.func19 Try.call19 rfl fun F => ?_
  unfold tags_Index_IDs_nil at hm
  conv => whnf
  refine eq_nil_nil rfl ?_
  conv => whnf
  refine cond_go rfl ?_
  conv => whnf
  refine cond_T ?_
  obtain rfl := si hm
  conv => whnf
  refine nilE eS 9 1 ?_
  refine EndStep.mk _ (Hp.Le.refl _) ⟨none, 0, rfl, (fun h => by simp at h), rfl⟩ (ConvH.of (.cons r0 (.cons r0 .nil)))

noncomputable def tags_Index_Find_nil_L0 : List Str → Nat → (List Str) → Option ((List Str))
  | [], _, y0_0 => some y0_0
  | e0 :: xs0, _, _ =>
    none
noncomputable def tags_Index_Find_nil (tag : Str) : Option ((List Str)) :=
  (tags_Index_IDs_nil).bind fun x9 =>
  (chk (x9.length ≤ szMax)).bind fun _ =>
  (tags_Index_Find_nil_L0 x9 0 []).bind fun t0 =>
  some t0
set_option maxHeartbeats 8000000 in
theorem tags_Index_Find_nil_ok {tag : Str} {K : Hp} {r : (List Str)}
    (hm : tags_Index_Find_nil tag = some r)  :
    Fn Try.prog 14 [.pointer none, str tag] K [] (fun v K' H' => ∃ ar_0 : Option Addr, ∃ cr_0 : Nat, v = .slice ar_0 r.length cr_0 ∧ (0 < r.length → Has ar_0) ∧ H' = [OwnL eS ar_0 9 1 cr_0 r]) := by
  refine Fn.enter Try.func14 Try.call14 rfl fun F => ?_
  unfold tags_Index_Find_nil at hm
  obtain ⟨x9, q9, hm⟩ := bnd hm
  conv => whnf
  refine call_fn (tags_Index_IDs_nil_ok q9) .nil ?_
  rintro _ K9 _ l9 ⟨a9_0, c9_0, rfl, h9_0, rfl⟩
  conv => whnf
  refine RStep.of (len_slice rfl ?_)
  obtain ⟨hk0, hm⟩ := chkb hm
  obtain ⟨s0, hl0, hm⟩ := bnd hm
  conv => whnf
  refine nilC eS 9 1 ?_
  refine code_cut (σ := ((List Str)) × Option Addr × Nat) [5, 7, 11, 12, 13, 14, 15, 16, 17, 18, 19, 20, 21, 22, 23, 24, 25, 26, 27] (fun (t0, t0_a0, t0_c0) => [(5, .slice t0_a0 t0.length t0_c0)]) (fun (t0, t0_a0, t0_c0) => [OwnL eS t0_a0 9 1 t0_c0 t0, OwnL eS a9_0 9 1 c9_0 x9, F]) (fun zz K1 => match zz with | (t0, t0_a0, t0_c0) => (0 < t0.length → Has t0_a0) ∧ t0 = s0) ?_ ?_
  · refine block_go rfl ?_
    conv => whnf
    refine loop_rule (σ := Nat × (List Str) × Option Addr × Nat) [5, 7, 11, 12, 13, 14, 15, 16, 17, 18, 19, 20, 21, 22, 23, 24, 25, 26, 27] (fun (i0, y0_0, y0_a0, y0_c0) => [(11, .int .i64 (i0 : Int)), (5, .slice y0_a0 y0_0.length y0_c0)]) (fun (i0, y0_0, y0_a0, y0_c0) => [OwnL eS y0_a0 9 1 y0_c0 y0_0, OwnL eS a9_0 9 1 c9_0 x9, F]) (fun zz K1 => match zz with | (i0, y0_0, y0_a0, y0_c0) => (0 < y0_0.length → Has y0_a0) ∧ tags_Index_Find_nil_L0 (x9.drop i0) i0 y0_0 = some s0) (fun zz => x9.length - zz.1) (0, [], none, 0) rfl ⟨rfl, rfl, trivial⟩ (ConvH.of (.cons r0 (.cons r0 (.cons r0 .nil)))) ⟨(fun h => by simp at h), hl0⟩ ?_
    clear hl0
    rintro ⟨i0, y0_0, y0_a0, y0_c0⟩ Kb0 lk0 ⟨y0_h0, hl0⟩ j0
    conv => whnf
    refine cond_go rfl ?_
    conv => whnf
    refine cond_s (fun w0 => ?_) (fun w0 => ?_)
    · obtain ⟨e0, hx0, hd0⟩ := ltx w0
      rw [hd0, tags_Index_Find_nil_L0.eq_2] at hl0
      conv => whnf
      refine block_go rfl ?_
      conv => whnf
      refine RStep.ofN (index_addr rfl rfl (hasO h9_0 hx0) (nn _) (lt_ofNE rfl hx0) ?_)
      conv => whnf
      refine RStep.of (ld_own (i := i0) (o := 0) r1 rfl hx0 rfl rfl ?_)
      cases hl0
    · rw [lty w0, tags_Index_Find_nil_L0.eq_1] at hl0
      conv => whnf
      refine cond_T ?_
      conv => whnf
      refine MeetStep.mk (y0_0, y0_a0, y0_c0) ⟨rfl, trivial⟩ (by repeat (first | exact trivial | refine And.intro rfl ?_)) (ConvH.of (.cons r0 (.cons r0 (.cons r0 .nil)))) lk0 ⟨y0_h0, (si hl0)⟩
  · rintro ⟨t0, t0_a0, t0_c0⟩ Kt0 lt0 ⟨t0_h0, rfl⟩ j0
    obtain rfl := si hm
    conv => whnf
    refine EndStep.mk _ (l9.trans lt0) ⟨t0_a0, t0_c0, rfl, t0_h0, rfl⟩ (ConvH.of (.cons r0 (.cons r1 .nil)))

noncomputable def law35_TagsNone (id : Str) : Option (Bool) :=
  (law35_awake).bind fun x4 =>
  if (!x4) then
  some false
  else
  (tags_Index_Put_nil id []).bind fun x8 =>
  (base_Is x8 3).bind fun x9 =>
  if x9 then
  (tags_Index_Remove_nil id).bind fun x13 =>
  (if (!x13) then (tags_Index_Tags_nil id).bind fun x19 =>
  some (decide ((x19.length : Int) = 0)) else some false).bind fun x22 =>
  (if x22 then (tags_Index_Find_nil id).bind fun x26 =>
  some (decide ((x26.length : Int) = 0)) else some false).bind fun x29 =>
  (if x29 then (tags_Index_IDs_nil).bind fun x32 =>
  some (decide ((x32.length : Int) = 0)) else some false).bind fun x35 =>
  some x35
  else
  some false
set_option maxHeartbeats 8000000 in
theorem law35_TagsNone_ok {id : Str} {K : Hp} {r : Bool}
    (hm : law35_TagsNone id = some r)  :
    Fn Try.prog 6 [str id] K [] (fun v K' H' => v = .bool r ∧ H' = []) := by
  refine Fn.enter Try.func6 Try.call6 rfl fun F => ?_
  unfold law35_TagsNone at hm
  obtain ⟨x4, q4, hm⟩ := bnd hm
  conv => whnf
  refine call_fn (law35_awake_ok q4) .nil ?_
  rintro _ K4 _ l4 ⟨rfl, rfl⟩
  conv => whnf
  refine un_not ?_
  conv => whnf
  refine cond_go rfl ?_
  conv => whnf
  refine cond_s (fun w5 => ?_) (fun w5 => ?_)
  · replace hm := ift (not_t (ni_t w5)) hm
    obtain rfl := si hm
    conv => whnf
    refine EndStep.mk _ l4 ⟨rfl, rfl⟩ (ConvH.of (.cons r0 .nil))
  · replace hm := iff_ (not_f (ni_f w5)) hm
    obtain ⟨x8, q8, hm⟩ := bnd hm
    conv => whnf
    refine call_fn (tags_Index_Put_nil_ok q8 RdC.nil rfl) .nil ?_
    rintro _ K8 _ l8 ⟨rfl, rfl⟩
    obtain ⟨x9, q9, hm⟩ := bnd hm
    conv => whnf
    refine call_fn (base_Is_ok q9) .nil ?_
    rintro _ K9 _ l9 ⟨rfl, rfl⟩
    conv => whnf
    refine cond_s (fun g10_4 => ?_) (fun g10_4 => ?_)
    · replace hm := ift g10_4 hm
      conv => whnf
      refine cond_t g10_4 ?_
      conv => whnf
      refine cond_t g10_4 ?_
      obtain ⟨x13, q13, hm⟩ := bnd hm
      conv => whnf
      refine call_fn (tags_Index_Remove_nil_ok q13) .nil ?_
      rintro _ K13 _ l13 ⟨rfl, rfl⟩
      conv => whnf
      refine cond_t g10_4 ?_
      conv => whnf
      refine un_not ?_
      conv => whnf
      refine cond_t g10_4 ?_
      obtain ⟨x22, e22, hm⟩ := bnd hm
      conv => whnf
      refine cond_s (fun g16_4 => ?_) (fun g16_4 => ?_)
      · replace e22 := ift (not_t (ni_t g16_4)) e22
        conv => whnf
        refine cond_t g16_4 ?_
        conv => whnf
        refine cond_t g16_4 ?_
        obtain ⟨x19, q19, e22⟩ := bnd e22
        conv => whnf
        refine call_fn (tags_Index_Tags_nil_ok q19) .nil ?_
        rintro _ K19 _ l19 ⟨a19_0, c19_0, rfl, h19_0, rfl⟩
        conv => whnf
        refine cond_t g16_4 ?_
        conv => whnf
        refine RStep.of (len_slice rfl ?_)
        conv => whnf
        refine cond_t g16_4 ?_
        conv => whnf
        refine eq_int ?_
        conv => whnf
        refine cond_t g16_4 ?_
        obtain ⟨x29, e29, hm⟩ := bnd hm
        conv => whnf
        refine cond_s (fun g23_4 => ?_) (fun g23_4 => ?_)
        · replace e29 := ift ((si e22).symm.trans g23_4) e29
          conv => whnf
          refine cond_t g23_4 ?_
          conv => whnf
          refine cond_t g23_4 ?_
          obtain ⟨x26, q26, e29⟩ := bnd e29
          conv => whnf
          refine call_fn (tags_Index_Find_nil_ok q26) .nil ?_
          rintro _ K26 _ l26 ⟨a26_0, c26_0, rfl, h26_0, rfl⟩
          conv => whnf
          refine cond_t g23_4 ?_
          conv => whnf
          refine RStep.of (len_slice rfl ?_)
          conv => whnf
          refine cond_t g23_4 ?_
          conv => whnf
          refine eq_int ?_
          conv => whnf
          refine cond_t g23_4 ?_
          obtain ⟨x35, e35, hm⟩ := bnd hm
          conv => whnf
          refine cond_s (fun g30_4 => ?_) (fun g30_4 => ?_)
          · replace e35 := ift ((si e29).symm.trans g30_4) e35
            conv => whnf
            refine cond_t g30_4 ?_
            obtain ⟨x32, q32, e35⟩ := bnd e35
            conv => whnf
            refine call_fn (tags_Index_IDs_nil_ok q32) .nil ?_
            rintro _ K32 _ l32 ⟨a32_0, c32_0, rfl, h32_0, rfl⟩
            conv => whnf
            refine cond_t g30_4 ?_
            conv => whnf
            refine RStep.of (len_slice rfl ?_)
            conv => whnf
            refine cond_t g30_4 ?_
            conv => whnf
            refine eq_int ?_
            conv => whnf
            refine cond_t g30_4 ?_
            obtain rfl := si hm
            conv => whnf
            refine EndStep.mk _ ((((((l4.trans l8).trans l9).trans l13).trans l19).trans l26).trans l32) ⟨(by rw [← (si e35)] <;> rfl), rfl⟩ (ConvH.of (.cons r3 .nil))
          · replace e35 := iff_ ((si e29).symm.trans g30_4) e35
            conv => whnf
            refine cond_f g30_4 ?_
            conv => whnf
            refine cond_f g30_4 ?_
            conv => whnf
            refine cond_f g30_4 ?_
            conv => whnf
            refine cond_f g30_4 ?_
            obtain rfl := si hm
            conv => whnf
            refine EndStep.mk _ (((((l4.trans l8).trans l9).trans l13).trans l19).trans l26) ⟨(by rw [← ((si e35).symm).symm] <;> rfl), rfl⟩ (ConvH.of (.cons r2 .nil))
        · replace e29 := iff_ ((si e22).symm.trans g23_4) e29
          conv => whnf
          refine cond_f g23_4 ?_
          conv => whnf
          refine cond_f g23_4 ?_
          conv => whnf
          refine cond_f g23_4 ?_
          conv => whnf
          refine cond_f g23_4 ?_
          conv => whnf
          refine cond_f g23_4 ?_
          obtain ⟨x35, e35, hm⟩ := bnd hm
          replace e35 := iff_ (si e29).symm e35
          conv => whnf
          refine cond_F ?_
          conv => whnf
          refine cond_F ?_
          conv => whnf
          refine cond_F ?_
          conv => whnf
          refine cond_F ?_
          conv => whnf
          refine cond_F ?_
          obtain rfl := si hm
          conv => whnf
          refine EndStep.mk _ ((((l4.trans l8).trans l9).trans l13).trans l19) ⟨(by rw [← ((si e35).symm).symm] <;> rfl), rfl⟩ (ConvH.of (.cons r1 .nil))
      · replace e22 := iff_ (not_f (ni_f g16_4)) e22
        conv => whnf
        refine cond_f g16_4 ?_
        conv => whnf
        refine cond_f g16_4 ?_
        conv => whnf
        refine cond_f g16_4 ?_
        conv => whnf
        refine cond_f g16_4 ?_
        conv => whnf
        refine cond_f g16_4 ?_
        obtain ⟨x29, e29, hm⟩ := bnd hm
        replace e29 := iff_ (si e22).symm e29
        conv => whnf
        refine cond_F ?_
        conv => whnf
        refine cond_F ?_
        conv => whnf
        refine cond_F ?_
        conv => whnf
        refine cond_F ?_
        conv => whnf
        refine cond_F ?_
        conv => whnf
        refine cond_F ?_
        obtain ⟨x35, e35, hm⟩ := bnd hm
        replace e35 := iff_ (si e29).symm e35
        conv => whnf
        refine cond_F ?_
        conv => whnf
        refine cond_F ?_
        conv => whnf
        refine cond_F ?_
        conv => whnf
        refine cond_F ?_
        conv => whnf
        refine cond_F ?_
        obtain rfl := si hm
        conv => whnf
        refine EndStep.mk _ (((l4.trans l8).trans l9).trans l13) ⟨(by rw [← ((si e35).symm).symm] <;> rfl), rfl⟩ (ConvH.of (.cons r0 .nil))
    · replace hm := iff_ g10_4 hm
      conv => whnf
      refine cond_f g10_4 ?_
      conv => whnf
      refine cond_f g10_4 ?_
      conv => whnf
      refine cond_f g10_4 ?_
      conv => whnf
      refine cond_f g10_4 ?_
      conv => whnf
      refine cond_F ?_
      conv => whnf
      refine cond_F ?_
      conv => whnf
      refine cond_F ?_
      conv => whnf
      refine cond_F ?_
      conv => whnf
      refine cond_F ?_
      conv => whnf
      refine cond_F ?_
      conv => whnf
      refine cond_F ?_
      conv => whnf
      refine cond_F ?_
      conv => whnf
      refine cond_F ?_
      conv => whnf
      refine cond_F ?_
      conv => whnf
      refine cond_F ?_
      conv => whnf
      refine cond_F ?_
      conv => whnf
      refine cond_F ?_
      conv => whnf
      refine cond_F ?_
      conv => whnf
      refine cond_F ?_
      conv => whnf
      refine cond_F ?_
      conv => whnf
      refine cond_F ?_
      obtain rfl := si hm
      conv => whnf
      refine EndStep.mk _ ((l4.trans l8).trans l9) ⟨rfl, rfl⟩ (ConvH.of (.cons r0 .nil))

noncomputable def tags_Clean_L2 (s : Str) : Nat → Int → Option (Int)
  | 0, _ => none
  | xs2 + 1, y2_0 =>
    (if decide (y2_0 < (s.length : Int)) then (ix s y2_0).bind fun x32 =>
    some (decide ((x32.toNat : Int) ≠ 32)) else some false).bind fun x34 =>
    (if x34 then (ix s y2_0).bind fun x38 =>
    some (decide ((x38.toNat : Int) ≠ 9)) else some false).bind fun x40 =>
    if x40 then
    (chk (InI (y2_0 + 1))).bind fun _ =>
    tags_Clean_L2 s xs2 (y2_0 + 1)
    else
    some y2_0
noncomputable def tags_Clean_L0 (s : Str) (n : Nat) : Nat → (List Str) → Int → Option (Fl ((List Str) × Err) ((List Str) × Int))
  | 0, _, _ => none
  | xs0 + 1, y0_0, y0_1 =>
    if decide (y0_1 < (s.length : Int)) then
    (ix s y0_1).bind fun x14 =>
    (if decide ((x14.toNat : Int) = 32) then some true else (ix s y0_1).bind fun x19 =>
    some (decide ((x19.toNat : Int) = 9))).bind fun x21 =>
    if x21 then
    (chk (InI (y0_1 + 1))).bind fun _ =>
    tags_Clean_L0 s n xs0 y0_0 (y0_1 + 1)
    else
    (tags_Clean_L2 s n y0_1).bind fun t2 =>
    (chk (0 ≤ y0_1 ∧ y0_1 ≤ t2 ∧ t2 ≤ (s.length : Int))).bind fun _ =>
    (tags_good (subL s y0_1 t2)).bind fun x48 =>
    if (!x48) then
    some (Fl.ret ([], (some 2)))
    else
    (if decide ((y0_0.length : Int) < 16) then (slices_Contains_string y0_0 (subL s y0_1 t2)).bind fun x57 =>
    some (!x57) else some false).bind fun x59 =>
    if x59 then
    (chk (y0_0.length + [(subL s y0_1 t2)].length ≤ lim)).bind fun _ =>
    tags_Clean_L0 s n xs0 (y0_0 ++ [(subL s y0_1 t2)]) t2
    else
    tags_Clean_L0 s n xs0 y0_0 t2
    else
    some (Fl.go (y0_0, y0_1))
noncomputable def tags_Clean (n : Nat) (s : Str) : Option ((List Str) × Err) :=
  (tags_Clean_L0 s n n [] 0).bind fun s0 => s0.el some fun t0 =>
  (sortSM t0.1).bind fun x66 =>
  some (x66, none)
set_option maxHeartbeats 8000000 in
theorem tags_Clean_ok {n : Nat} {s : Str} {K : Hp} {r : (List Str) × Err}
    (hm : tags_Clean n s = some r)  :
    Fn Try.prog 23 [str s] K [] (fun v K' H' => ∃ ar_0 : Option Addr, ∃ cr_0 : Nat, v = .tuple #[.slice ar_0 r.1.length cr_0, errV 46 r.2] ∧ (0 < r.1.length → Has ar_0) ∧ H' = [OwnL eS ar_0 9 1 cr_0 r.1]) := by
  refine Fn.enter Try.func23 Try.call23 rfl fun F => ?_
  unfold tags_Clean at hm
  obtain ⟨s0, hl0, hm⟩ := bnd hm
  conv => whnf
  refine nilC eS 9 1 ?_
  refine code_cut (σ := ((List Str) × Int) × Option Addr × Nat) [2, 3, 4, 5, 6, 7, 8, 9, 10, 11, 12, 13, 14, 15, 16, 17, 18, 19, 20, 21, 22, 23, 24, 25, 26, 27, 28, 29, 30, 31, 32, 33, 34, 35, 36, 37, 38, 39, 40, 41, 42, 43, 44, 45, 46, 47, 48, 49, 50, 51, 52, 53, 54, 55, 56, 57, 58, 59, 60, 61, 62, 63, 64] (fun (t0, t0_a0, t0_c0) => [(4, .slice t0_a0 t0.1.length t0_c0), (5, .int .i64 t0.2)]) (fun (t0, t0_a0, t0_c0) => [OwnL eS t0_a0 9 1 t0_c0 t0.1, F]) (fun zz K1 => match zz with | (t0, t0_a0, t0_c0) => (0 < t0.1.length → Has t0_a0) ∧ s0 = Fl.go t0) ?_ ?_
  · refine block_go rfl ?_
    conv => whnf
    refine loop_rule (σ := Nat × (List Str) × Int × Option Addr × Nat) [2, 3, 4, 5, 6, 7, 8, 9, 10, 11, 12, 13, 14, 15, 16, 17, 18, 19, 20, 21, 22, 23, 24, 25, 26, 27, 28, 29, 30, 31, 32, 33, 34, 35, 36, 37, 38, 39, 40, 41, 42, 43, 44, 45, 46, 47, 48, 49, 50, 51, 52, 53, 54, 55, 56, 57, 58, 59, 60, 61, 62, 63, 64] (fun (i0, y0_0, y0_1, y0_a0, y0_c0) => [(4, .slice y0_a0 y0_0.length y0_c0), (5, .int .i64 y0_1)]) (fun (i0, y0_0, y0_1, y0_a0, y0_c0) => [OwnL eS y0_a0 9 1 y0_c0 y0_0, F]) (fun zz K1 => match zz with | (i0, y0_0, y0_1, y0_a0, y0_c0) => (0 < y0_0.length → Has y0_a0) ∧ tags_Clean_L0 s n i0 y0_0 y0_1 = some s0) (fun zz => zz.1) (n, [], 0, none, 0) rfl ⟨rfl, rfl, trivial⟩ (ConvH.of (.cons r0 (.cons r0 .nil))) ⟨(fun h => by simp at h), hl0⟩ ?_
    clear hl0
    rintro ⟨i0, y0_0, y0_1, y0_a0, y0_c0⟩ Kb0 lk0 ⟨y0_h0, hl0⟩ j0
    cases i0 with
    | zero => rw [tags_Clean_L0.eq_1] at hl0; cases hl0
    | succ i0 =>
      rw [tags_Clean_L0.eq_2] at hl0
      conv => whnf
      refine RStep.of (len_str rfl ?_)
      conv => whnf
      refine cond_go rfl ?_
      conv => whnf
      refine cond_s (fun w11 => ?_) (fun w11 => ?_)
      · replace hl0 := ift w11 hl0
        conv => whnf
        refine block_go rfl ?_
        obtain ⟨x14, l14, k14, hl0⟩ := ixb hl0
        conv => whnf
        refine idx_str rfl l14 k14 ?_
        conv => whnf
        refine eq_int ?_
        obtain ⟨x21, e21, hl0⟩ := bnd hl0
        conv => whnf
        refine cond_s (fun g16_4 => ?_) (fun g16_4 => ?_)
        · replace e21 := ift g16_4 e21
          conv => whnf
          refine cond_t g16_4 ?_
          conv => whnf
          refine cond_t g16_4 ?_
          conv => whnf
          refine cond_t g16_4 ?_
          conv => whnf
          refine cond_t g16_4 ?_
          conv => whnf
          refine cond_go rfl ?_
          conv => whnf
          refine cond_T ?_
          replace hl0 := ift (si e21).symm hl0
          obtain ⟨h23, hl0⟩ := chkb hl0
          conv => whnf
          refine int_in h23 ?_
          conv => whnf
          refine cond_T ?_
          conv => whnf
          refine RoundStep.mk (i0, y0_0, (y0_1 + 1), y0_a0, y0_c0) ⟨rfl, rfl, trivial⟩ (by repeat (first | exact trivial | refine And.intro rfl ?_)) (ConvH.of (.cons r0 (.cons r0 .nil))) lk0 (Nat.lt_succ_self _) ⟨y0_h0, hl0⟩
        · replace e21 := iff_ g16_4 e21
          conv => whnf
          refine cond_f g16_4 ?_
          conv => whnf
          refine cond_f g16_4 ?_
          obtain ⟨x19, l19, k19, e21⟩ := ixb e21
          conv => whnf
          refine idx_str rfl l19 k19 ?_
          conv => whnf
          refine cond_f g16_4 ?_
          conv => whnf
          refine eq_int ?_
          conv => whnf
          refine cond_f g16_4 ?_
          conv => whnf
          refine cond_go rfl ?_
          conv => whnf
          refine cond_s (fun w21 => ?_) (fun w21 => ?_)
          · replace hl0 := ift ((si e21).symm.trans w21) hl0
            obtain ⟨h23, hl0⟩ := chkb hl0
            conv => whnf
            refine int_in h23 ?_
            conv => whnf
            refine cond_T ?_
            conv => whnf
            refine RoundStep.mk (i0, y0_0, (y0_1 + 1), y0_a0, y0_c0) ⟨rfl, rfl, trivial⟩ (by repeat (first | exact trivial | refine And.intro rfl ?_)) (ConvH.of (.cons r0 (.cons r0 .nil))) lk0 (Nat.lt_succ_self _) ⟨y0_h0, hl0⟩
          · replace hl0 := iff_ ((si e21).symm.trans w21) hl0
            obtain ⟨s2, hl2, hl0⟩ := bnd hl0
            conv => whnf
            refine code_cut (σ := (Int)) [6, 25, 26, 27, 28, 29, 30, 31, 32, 33, 34, 35, 36, 37, 38, 39, 40, 41, 42] (fun t2 => [(6, .int .i64 t2)]) (fun t2 => [OwnL eS y0_a0 9 1 y0_c0 y0_0, F]) (fun zz K1 => match zz with | t2 => t2 = s2) ?_ ?_
            · refine block_go rfl ?_
              conv => whnf
              refine loop_rule (σ := Nat × Int) [6, 25, 26, 27, 28, 29, 30, 31, 32, 33, 34, 35, 36, 37, 38, 39, 40, 41, 42] (fun (i2, y2_0) => [(6, .int .i64 y2_0)]) (fun (i2, y2_0) => [OwnL eS y0_a0 9 1 y0_c0 y0_0, F]) (fun zz K1 => match zz with | (i2, y2_0) => tags_Clean_L2 s i2 y2_0 = some s2) (fun zz => zz.1) (n, y0_1) rfl ⟨rfl, trivial⟩ (ConvH.of (.cons r0 (.cons r0 .nil))) hl2 ?_
              clear hl2
              rintro ⟨i2, y2_0⟩ Kb2 lk2 hl2 j2
              conv at hl2 => whnf
              cases i2 with
              | zero => rw [tags_Clean_L2.eq_1] at hl2; cases hl2
              | succ i2 =>
                rw [tags_Clean_L2.eq_2] at hl2
                conv => whnf
                refine RStep.of (len_str rfl ?_)
                obtain ⟨x34, e34, hl2⟩ := bnd hl2
                conv => whnf
                refine cond_s (fun g29_7 => ?_) (fun g29_7 => ?_)
                · replace e34 := ift g29_7 e34
                  conv => whnf
                  refine cond_t g29_7 ?_
                  conv => whnf
                  refine cond_t g29_7 ?_
                  obtain ⟨x32, l32, k32, e34⟩ := ixb e34
                  conv => whnf
                  refine idx_str rfl l32 k32 ?_
                  conv => whnf
                  refine cond_t g29_7 ?_
                  conv => whnf
                  refine neq_int ?_
                  conv => whnf
                  refine cond_t g29_7 ?_
                  obtain ⟨x40, e40, hl2⟩ := bnd hl2
                  conv => whnf
                  refine cond_s (fun g35_7 => ?_) (fun g35_7 => ?_)
                  · replace e40 := ift ((si e34).symm.trans g35_7) e40
                    conv => whnf
                    refine cond_t g35_7 ?_
                    conv => whnf
                    refine cond_t g35_7 ?_
                    obtain ⟨x38, l38, k38, e40⟩ := ixb e40
                    conv => whnf
                    refine idx_str rfl l38 k38 ?_
                    conv => whnf
                    refine cond_t g35_7 ?_
                    conv => whnf
                    refine neq_int ?_
                    conv => whnf
                    refine cond_t g35_7 ?_
                    conv => whnf
                    refine cond_go rfl ?_
                    conv => whnf
                    refine cond_s (fun w40 => ?_) (fun w40 => ?_)
                    · replace hl2 := ift ((si e40).symm.trans w40) hl2
                      conv => whnf
                      refine block_go rfl ?_
                      obtain ⟨h42, hl2⟩ := chkb hl2
                      conv => whnf
                      refine int_in h42 ?_
                      conv => whnf
                      refine RoundStep.mk (i2, (y2_0 + 1)) ⟨rfl, trivial⟩ (by repeat (first | exact trivial | refine And.intro rfl ?_)) (ConvH.of (.cons r0 (.cons r0 .nil))) lk2 (Nat.lt_succ_self _) hl2
                    · replace hl2 := iff_ ((si e40).symm.trans w40) hl2
                      conv => whnf
                      refine cond_T ?_
                      conv => whnf
                      refine MeetStep.mk (y2_0) ⟨rfl, trivial⟩ (by repeat (first | exact trivial | refine And.intro rfl ?_)) (ConvH.of (.cons r0 (.cons r0 .nil))) lk2 (si hl2)
                  · replace e40 := iff_ ((si e34).symm.trans g35_7) e40
                    conv => whnf
                    refine cond_f g35_7 ?_
                    conv => whnf
                    refine cond_f g35_7 ?_
                    conv => whnf
                    refine cond_f g35_7 ?_
                    conv => whnf
                    refine cond_f g35_7 ?_
                    conv => whnf
                    refine cond_go rfl ?_
                    conv => whnf
                    refine cond_F ?_
                    replace hl2 := iff_ (si e40).symm hl2
                    conv => whnf
                    refine cond_T ?_
                    conv => whnf
                    refine MeetStep.mk (y2_0) ⟨rfl, trivial⟩ (by repeat (first | exact trivial | refine And.intro rfl ?_)) (ConvH.of (.cons r0 (.cons r0 .nil))) lk2 (si hl2)
                · replace e34 := iff_ g29_7 e34
                  conv => whnf
                  refine cond_f g29_7 ?_
                  conv => whnf
                  refine cond_f g29_7 ?_
                  conv => whnf
                  refine cond_f g29_7 ?_
                  conv => whnf
                  refine cond_f g29_7 ?_
                  obtain ⟨x40, e40, hl2⟩ := bnd hl2
                  replace e40 := iff_ (si e34).symm e40
                  conv => whnf
                  refine cond_F ?_
                  conv => whnf
                  refine cond_F ?_
                  conv => whnf
                  refine cond_F ?_
                  conv => whnf
                  refine cond_F ?_
                  conv => whnf
                  refine cond_F ?_
                  conv => whnf
                  refine cond_go rfl ?_
                  conv => whnf
                  refine cond_F ?_
                  replace hl2 := iff_ (si e40).symm hl2
                  conv => whnf
                  refine cond_T ?_
                  conv => whnf
                  refine MeetStep.mk (y2_0) ⟨rfl, trivial⟩ (by repeat (first | exact trivial | refine And.intro rfl ?_)) (ConvH.of (.cons r0 (.cons r0 .nil))) lk2 (si hl2)
            · rintro t2 Kt2 lt2 rfl j2
              obtain ⟨h46, hl0⟩ := chkb hl0
              conv => whnf
              refine RStep.ofN (sl_str (lo := (some y0_1)) (hi := (some t2)) rfl h46 ?_)
              obtain ⟨x48, q48, hl0⟩ := bnd hl0
              conv => whnf
              refine call_fn (tags_good_ok q48) .nil ?_
              rintro _ K48 _ l48 ⟨rfl, rfl⟩
              conv => whnf
              refine un_not ?_
              conv => whnf
              refine cond_go rfl ?_
              conv => whnf
              refine cond_s (fun w49 => ?_) (fun w49 => ?_)
              · replace hl0 := ift (not_t (ni_t w49)) hl0
                conv => whnf
                refine mk_iface rfl ?_
                obtain rfl := si hl0
                replace hm := elr hm
                obtain rfl := si hm
                conv => whnf
                refine nilE eS 9 1 ?_
                refine EndStep.mk _ ((lk0.trans lt2).trans l48) ⟨none, 0, rfl, (fun h => by simp at h), rfl⟩ (ConvH.of (.cons r0 (.cons r1 .nil)))
              · replace hl0 := iff_ (not_f (ni_f w49)) hl0
                conv => whnf
                refine RStep.of (len_slice rfl ?_)
                obtain ⟨x59, e59, hl0⟩ := bnd hl0
                conv => whnf
                refine cond_s (fun g54_12 => ?_) (fun g54_12 => ?_)
                · replace e59 := ift g54_12 e59
                  conv => whnf
                  refine cond_t g54_12 ?_
                  conv => whnf
                  refine cond_t g54_12 ?_
                  obtain ⟨x57, q57, e59⟩ := bnd e59
                  conv => whnf
                  refine call_fn (Fn.lend Try.call30 (fun K57_0 l57_0 f57_0 => (slices_Contains_string_ok q57 f57_0 rfl)) (by exact fun _ _ _ _ h => h)) (.cons r0 .nil) ?_
                  rintro _ K57 _ l57 ⟨_, rfl, rfl, rfl⟩
                  conv => whnf
                  refine cond_t g54_12 ?_
                  conv => whnf
                  refine un_not ?_
                  conv => whnf
                  refine cond_t g54_12 ?_
                  conv => whnf
                  refine cond_go rfl ?_
                  conv => whnf
                  refine cond_s (fun w59 => ?_) (fun w59 => ?_)
                  · replace hl0 := ift ((si e59).symm.trans (not_t (ni_t w59))) hl0
                    conv => whnf
                    refine bsO (len := 1) (enc := eS) (l := [(subL s y0_1 t2)]) (cl := [str (subL s y0_1 t2)]) elT31 rfl rfl (fun _ _ => rfl) rfl rfl rfl ?_ fun b62 => ?_
                    · conv => whnf
                      refine cond_T ?_
                      conv => whnf
                      first | done | rfl
                    obtain ⟨h63, hl0⟩ := chkb hl0
                    conv => whnf
                    refine apE rfl r1 elT31 (src_own' rfl r0 rfl (fun _ => rfl) (fun _ => rfl)) h63 ?_
                    intro a63 c63 o63
                    conv => whnf
                    refine RoundStep.mk (i0, (y0_0 ++ [(subL s y0_1 t2)]), t2, a63, c63) ⟨rfl, rfl, trivial⟩ (by repeat (first | exact trivial | refine And.intro rfl ?_)) (ConvH.of (.cons r0 (.cons r1 .nil))) (((lk0.trans lt2).trans l48).trans l57) (Nat.lt_succ_self _) ⟨o63, hl0⟩
                  · replace hl0 := iff_ ((si e59).symm.trans (not_f (ni_f w59))) hl0
                    conv => whnf
                    refine RoundStep.mk (i0, y0_0, t2, y0_a0, y0_c0) ⟨rfl, rfl, trivial⟩ (by repeat (first | exact trivial | refine And.intro rfl ?_)) (ConvH.of (.cons r0 (.cons r0 .nil))) (((lk0.trans lt2).trans l48).trans l57) (Nat.lt_succ_self _) ⟨y0_h0, hl0⟩
                · replace e59 := iff_ g54_12 e59
                  conv => whnf
                  refine cond_f g54_12 ?_
                  conv => whnf
                  refine cond_f g54_12 ?_
                  conv => whnf
                  refine cond_f g54_12 ?_
                  conv => whnf
                  refine cond_f g54_12 ?_
                  conv => whnf
                  refine cond_go rfl ?_
                  conv => whnf
                  refine cond_F ?_
                  replace hl0 := iff_ (si e59).symm hl0
                  conv => whnf
                  refine RoundStep.mk (i0, y0_0, t2, y0_a0, y0_c0) ⟨rfl, rfl, trivial⟩ (by repeat (first | exact trivial | refine And.intro rfl ?_)) (ConvH.of (.cons r0 (.cons r0 .nil))) ((lk0.trans lt2).trans l48) (Nat.lt_succ_self _) ⟨y0_h0, hl0⟩
      · replace hl0 := iff_ w11 hl0
        conv => whnf
        refine cond_T ?_
        conv => whnf
        refine MeetStep.mk ((y0_0, y0_1), y0_a0, y0_c0) ⟨rfl, rfl, trivial⟩ (by repeat (first | exact trivial | refine And.intro rfl ?_)) (ConvH.of (.cons r0 (.cons r0 .nil))) lk0 ⟨y0_h0, (si hl0).symm⟩
  · rintro ⟨t0, t0_a0, t0_c0⟩ Kt0 lt0 ⟨t0_h0, rfl⟩ j0
    replace hm := elg hm
    obtain ⟨x66, q66, hm⟩ := bnd hm
    conv => whnf
    refine call_fn (sort_string_ok q66 rfl) (.cons r0 .nil) ?_
    rintro _ K66 _ l66 ⟨rfl, rfl⟩
    obtain rfl := si hm
    conv => whnf
    refine EndStep.mk _ (lt0.trans l66) ⟨t0_a0, t0_c0, (by rw [← (show x66.length = t0.1.length from Eq.symm ((Eq.trans (rfl) (sortSM_len q66).symm)))] <;> rfl), (fun h => t0_h0 (by rw [sortSM_len q66] at h; exact h)), rfl⟩ (ConvH.of (.cons r0 (.cons r0 .nil)))

noncomputable def ref35_Words_L0 (s : Str) : Nat → (List Str) → Str → Int → Option ((List Str) × Str × Int)
  | 0, _, _, _ => none
  | xs0 + 1, y0_0, y0_1, y0_2 =>
    if decide (y0_2 ≤ (s.length : Int)) then
    (if decide (y0_2 < (s.length : Int)) then (ix s y0_2).bind fun x19 =>
    some (decide ((x19.toNat : Int) ≠ 32)) else some false).bind fun x21 =>
    (if x21 then (ix s y0_2).bind fun x25 =>
    some (decide ((x25.toNat : Int) ≠ 9)) else some false).bind fun x27 =>
    if x27 then
    (chk (InI (y0_2 + 1))).bind fun _ =>
    (chk (0 ≤ y0_2 ∧ y0_2 ≤ (y0_2 + 1) ∧ (y0_2 + 1) ≤ (s.length : Int))).bind fun _ =>
    (chk (y0_1.length + (subL s y0_2 (y0_2 + 1)).length ≤ lim)).bind fun _ =>
    (chk (InI (y0_2 + 1))).bind fun _ =>
    ref35_Words_L0 s xs0 y0_0 (y0_1 ++ (subL s y0_2 (y0_2 + 1))) (y0_2 + 1)
    else
    if decide (y0_1 ≠ ([] : Str)) then
    (chk (y0_0.length + [y0_1].length ≤ lim)).bind fun _ =>
    (chk (InI (y0_2 + 1))).bind fun _ =>
    ref35_Words_L0 s xs0 (y0_0 ++ [y0_1]) ([] : Str) (y0_2 + 1)
    else
    (chk (InI (y0_2 + 1))).bind fun _ =>
    ref35_Words_L0 s xs0 y0_0 y0_1 (y0_2 + 1)
    else
    some (y0_0, y0_1, y0_2)
noncomputable def ref35_Words (n : Nat) (s : Str) : Option ((List Str)) :=
  (ref35_Words_L0 s n [] ([] : Str) 0).bind fun t0 =>
  some t0.1
set_option maxHeartbeats 8000000 in
theorem ref35_Words_ok {n : Nat} {s : Str} {K : Hp} {r : (List Str)}
    (hm : ref35_Words n s = some r)  :
    Fn Try.prog 36 [str s] K [] (fun v K' H' => ∃ ar_0 : Option Addr, ∃ cr_0 : Nat, v = .slice ar_0 r.length cr_0 ∧ (0 < r.length → Has ar_0) ∧ H' = [OwnL eS ar_0 9 1 cr_0 r]) := by
  refine Fn.enter Try.func36 Try.call36 rfl fun F => ?_
  unfold ref35_Words at hm
  obtain ⟨s0, hl0, hm⟩ := bnd hm
  conv => whnf
  refine nilC eS 9 1 ?_
  refine code_cut (σ := ((List Str) × Str × Int) × Option Addr × Nat) [3, 4, 5, 6, 7, 8, 9, 10, 11, 12, 13, 14, 15, 16, 17, 18, 19, 20, 21, 22, 23, 24, 25, 26, 27, 28, 29, 30, 31, 32, 33, 34, 35, 36, 37, 38, 39, 40] (fun (t0, t0_a0, t0_c0) => [(3, .slice t0_a0 t0.1.length t0_c0), (4, str t0.2.1), (5, .int .i64 t0.2.2)]) (fun (t0, t0_a0, t0_c0) => [OwnL eS t0_a0 9 1 t0_c0 t0.1, F]) (fun zz K1 => match zz with | (t0, t0_a0, t0_c0) => (0 < t0.1.length → Has t0_a0) ∧ t0 = s0) ?_ ?_
  · refine block_go rfl ?_
    conv => whnf
    refine loop_rule (σ := Nat × (List Str) × Str × Int × Option Addr × Nat) [3, 4, 5, 6, 7, 8, 9, 10, 11, 12, 13, 14, 15, 16, 17, 18, 19, 20, 21, 22, 23, 24, 25, 26, 27, 28, 29, 30, 31, 32, 33, 34, 35, 36, 37, 38, 39, 40] (fun (i0, y0_0, y0_1, y0_2, y0_a0, y0_c0) => [(3, .slice y0_a0 y0_0.length y0_c0), (4, str y0_1), (5, .int .i64 y0_2)]) (fun (i0, y0_0, y0_1, y0_2, y0_a0, y0_c0) => [OwnL eS y0_a0 9 1 y0_c0 y0_0, F]) (fun zz K1 => match zz with | (i0, y0_0, y0_1, y0_2, y0_a0, y0_c0) => (0 < y0_0.length → Has y0_a0) ∧ ref35_Words_L0 s i0 y0_0 y0_1 y0_2 = some s0) (fun zz => zz.1) (n, [], ([] : Str), 0, none, 0) rfl ⟨rfl, rfl, rfl, trivial⟩ (ConvH.of (.cons r0 (.cons r0 .nil))) ⟨(fun h => by simp at h), hl0⟩ ?_
    clear hl0
    rintro ⟨i0, y0_0, y0_1, y0_2, y0_a0, y0_c0⟩ Kb0 lk0 ⟨y0_h0, hl0⟩ j0
    cases i0 with
    | zero => rw [ref35_Words_L0.eq_1] at hl0; cases hl0
    | succ i0 =>
      rw [ref35_Words_L0.eq_2] at hl0
      conv => whnf
      refine RStep.of (len_str rfl ?_)
      conv => whnf
      refine cond_go rfl ?_
      conv => whnf
      refine cond_s (fun w9 => ?_) (fun w9 => ?_)
      · replace hl0 := ift w9 hl0
        conv => whnf
        refine block_go rfl ?_
        conv => whnf
        refine RStep.of (len_str rfl ?_)
        obtain ⟨x21, e21, hl0⟩ := bnd hl0
        conv => whnf
        refine cond_s (fun g16_6 => ?_) (fun g16_6 => ?_)
        · replace e21 := ift g16_6 e21
          conv => whnf
          refine cond_t g16_6 ?_
          conv => whnf
          refine cond_t g16_6 ?_
          obtain ⟨x19, l19, k19, e21⟩ := ixb e21
          conv => whnf
          refine idx_str rfl l19 k19 ?_
          conv => whnf
          refine cond_t g16_6 ?_
          conv => whnf
          refine neq_int ?_
          conv => whnf
          refine cond_t g16_6 ?_
          obtain ⟨x27, e27, hl0⟩ := bnd hl0
          conv => whnf
          refine cond_s (fun g22_6 => ?_) (fun g22_6 => ?_)
          · replace e27 := ift ((si e21).symm.trans g22_6) e27
            conv => whnf
            refine cond_t g22_6 ?_
            conv => whnf
            refine cond_t g22_6 ?_
            obtain ⟨x25, l25, k25, e27⟩ := ixb e27
            conv => whnf
            refine idx_str rfl l25 k25 ?_
            conv => whnf
            refine cond_t g22_6 ?_
            conv => whnf
            refine neq_int ?_
            conv => whnf
            refine cond_t g22_6 ?_
            conv => whnf
            refine CStep.ownLe r0 fun hc2 => ?_
            conv => whnf
            refine cond_go rfl ?_
            conv => whnf
            refine cond_s (fun w27 => ?_) (fun w27 => ?_)
            · replace hl0 := ift ((si e27).symm.trans w27) hl0
              obtain ⟨h32, hl0⟩ := chkb hl0
              conv => whnf
              refine int_in h32 ?_
              obtain ⟨h33, hl0⟩ := chkb hl0
              conv => whnf
              refine RStep.ofN (sl_str (lo := (some y0_2)) (hi := (some (y0_2 + 1))) rfl h33 ?_)
              obtain ⟨h34, hl0⟩ := chkb hl0
              conv => whnf
              refine cat_str h34 ?_
              obtain ⟨h11, hl0⟩ := chkb hl0
              conv => whnf
              refine int_in h11 ?_
              conv => whnf
              refine RoundStep.mk (i0, y0_0, (y0_1 ++ (subL s y0_2 (y0_2 + 1))), (y0_2 + 1), y0_a0, y0_c0) ⟨rfl, rfl, rfl, trivial⟩ (by repeat (first | exact trivial | refine And.intro rfl ?_)) (ConvH.of (.cons r0 (.cons r0 .nil))) lk0 (Nat.lt_succ_self _) ⟨y0_h0, hl0⟩
            · replace hl0 := iff_ ((si e27).symm.trans w27) hl0
              conv => whnf
              refine neq_str ?_
              conv => whnf
              refine cond_go rfl ?_
              conv => whnf
              refine cond_s (fun w36 => ?_) (fun w36 => ?_)
              · replace hl0 := ift w36 hl0
                conv => whnf
                refine bsO (len := 1) (enc := eS) (l := [y0_1]) (cl := [str y0_1]) elT31 rfl rfl (fun _ _ => rfl) rfl rfl rfl ?_ fun b39 => ?_
                · conv => whnf
                  refine cond_T ?_
                  conv => whnf
                  first | done | rfl
                obtain ⟨h40, hl0⟩ := chkb hl0
                conv => whnf
                refine apE rfl r1 elT31 (src_own' rfl r0 rfl (fun _ => rfl) (fun _ => rfl)) h40 ?_
                intro a40 c40 o40
                obtain ⟨h11, hl0⟩ := chkb hl0
                conv => whnf
                refine int_in h11 ?_
                conv => whnf
                refine RoundStep.mk (i0, (y0_0 ++ [y0_1]), ([] : Str), (y0_2 + 1), a40, c40) ⟨rfl, rfl, rfl, trivial⟩ (by repeat (first | exact trivial | refine And.intro rfl ?_)) (ConvH.of (.cons r0 (.cons r1 .nil))) lk0 (Nat.lt_succ_self _) ⟨o40, hl0⟩
              · replace hl0 := iff_ w36 hl0
                obtain ⟨h11, hl0⟩ := chkb hl0
                conv => whnf
                refine int_in h11 ?_
                conv => whnf
                refine RoundStep.mk (i0, y0_0, y0_1, (y0_2 + 1), y0_a0, y0_c0) ⟨rfl, rfl, rfl, trivial⟩ (by repeat (first | exact trivial | refine And.intro rfl ?_)) (ConvH.of (.cons r0 (.cons r0 .nil))) lk0 (Nat.lt_succ_self _) ⟨y0_h0, hl0⟩
          · replace e27 := iff_ ((si e21).symm.trans g22_6) e27
            conv => whnf
            refine cond_f g22_6 ?_
            conv => whnf
            refine cond_f g22_6 ?_
            conv => whnf
            refine cond_f g22_6 ?_
            conv => whnf
            refine cond_f g22_6 ?_
            conv => whnf
            refine CStep.ownLe r0 fun hc5 => ?_
            conv => whnf
            refine cond_go rfl ?_
            conv => whnf
            refine cond_F ?_
            replace hl0 := iff_ (si e27).symm hl0
            conv => whnf
            refine neq_str ?_
            conv => whnf
            refine cond_go rfl ?_
            conv => whnf
            refine cond_s (fun w36 => ?_) (fun w36 => ?_)
            · replace hl0 := ift w36 hl0
              conv => whnf
              refine bsO (len := 1) (enc := eS) (l := [y0_1]) (cl := [str y0_1]) elT31 rfl rfl (fun _ _ => rfl) rfl rfl rfl ?_ fun b39 => ?_
              · conv => whnf
                refine cond_T ?_
                conv => whnf
                first | done | rfl
              obtain ⟨h40, hl0⟩ := chkb hl0
              conv => whnf
              refine apE rfl r1 elT31 (src_own' rfl r0 rfl (fun _ => rfl) (fun _ => rfl)) h40 ?_
              intro a40 c40 o40
              obtain ⟨h11, hl0⟩ := chkb hl0
              conv => whnf
              refine int_in h11 ?_
              conv => whnf
              refine RoundStep.mk (i0, (y0_0 ++ [y0_1]), ([] : Str), (y0_2 + 1), a40, c40) ⟨rfl, rfl, rfl, trivial⟩ (by repeat (first | exact trivial | refine And.intro rfl ?_)) (ConvH.of (.cons r0 (.cons r1 .nil))) lk0 (Nat.lt_succ_self _) ⟨o40, hl0⟩
            · replace hl0 := iff_ w36 hl0
              obtain ⟨h11, hl0⟩ := chkb hl0
              conv => whnf
              refine int_in h11 ?_
              conv => whnf
              refine RoundStep.mk (i0, y0_0, y0_1, (y0_2 + 1), y0_a0, y0_c0) ⟨rfl, rfl, rfl, trivial⟩ (by repeat (first | exact trivial | refine And.intro rfl ?_)) (ConvH.of (.cons r0 (.cons r0 .nil))) lk0 (Nat.lt_succ_self _) ⟨y0_h0, hl0⟩
        · replace e21 := iff_ g16_6 e21
          conv => whnf
          refine cond_f g16_6 ?_
          conv => whnf
          refine cond_f g16_6 ?_
          conv => whnf
          refine cond_f g16_6 ?_
          conv => whnf
          refine cond_f g16_6 ?_
          obtain ⟨x27, e27, hl0⟩ := bnd hl0
          replace e27 := iff_ (si e21).symm e27
          conv => whnf
          refine cond_F ?_
          conv => whnf
          refine cond_F ?_
          conv => whnf
          refine cond_F ?_
          conv => whnf
          refine cond_F ?_
          conv => whnf
          refine cond_F ?_
          conv => whnf
          refine CStep.ownLe r0 fun hc7 => ?_
          conv => whnf
          refine cond_go rfl ?_
          conv => whnf
          refine cond_F ?_
          replace hl0 := iff_ (si e27).symm hl0
          conv => whnf
          refine neq_str ?_
          conv => whnf
          refine cond_go rfl ?_
          conv => whnf
          refine cond_s (fun w36 => ?_) (fun w36 => ?_)
          · replace hl0 := ift w36 hl0
            conv => whnf
            refine bsO (len := 1) (enc := eS) (l := [y0_1]) (cl := [str y0_1]) elT31 rfl rfl (fun _ _ => rfl) rfl rfl rfl ?_ fun b39 => ?_
            · conv => whnf
              refine cond_T ?_
              conv => whnf
              first | done | rfl
            obtain ⟨h40, hl0⟩ := chkb hl0
            conv => whnf
            refine apE rfl r1 elT31 (src_own' rfl r0 rfl (fun _ => rfl) (fun _ => rfl)) h40 ?_
            intro a40 c40 o40
            obtain ⟨h11, hl0⟩ := chkb hl0
            conv => whnf
            refine int_in h11 ?_
            conv => whnf
            refine RoundStep.mk (i0, (y0_0 ++ [y0_1]), ([] : Str), (y0_2 + 1), a40, c40) ⟨rfl, rfl, rfl, trivial⟩ (by repeat (first | exact trivial | refine And.intro rfl ?_)) (ConvH.of (.cons r0 (.cons r1 .nil))) lk0 (Nat.lt_succ_self _) ⟨o40, hl0⟩
          · replace hl0 := iff_ w36 hl0
            obtain ⟨h11, hl0⟩ := chkb hl0
            conv => whnf
            refine int_in h11 ?_
            conv => whnf
            refine RoundStep.mk (i0, y0_0, y0_1, (y0_2 + 1), y0_a0, y0_c0) ⟨rfl, rfl, rfl, trivial⟩ (by repeat (first | exact trivial | refine And.intro rfl ?_)) (ConvH.of (.cons r0 (.cons r0 .nil))) lk0 (Nat.lt_succ_self _) ⟨y0_h0, hl0⟩
      · replace hl0 := iff_ w9 hl0
        conv => whnf
        refine cond_T ?_
        conv => whnf
        refine MeetStep.mk ((y0_0, y0_1, y0_2), y0_a0, y0_c0) ⟨rfl, rfl, rfl, trivial⟩ (by repeat (first | exact trivial | refine And.intro rfl ?_)) (ConvH.of (.cons r0 (.cons r0 .nil))) lk0 ⟨y0_h0, (si hl0)⟩
  · rintro ⟨t0, t0_a0, t0_c0⟩ Kt0 lt0 ⟨t0_h0, rfl⟩ j0
    obtain rfl := si hm
    conv => whnf
    refine EndStep.mk _ lt0 ⟨t0_a0, t0_c0, rfl, t0_h0, rfl⟩ (ConvH.of (.cons r0 (.cons r0 .nil)))

noncomputable def ref35_Tag_L0 (s : Str) : Nat → Int → Option (Fl (Bool) (Int))
  | 0, _ => none
  | xs0 + 1, y0_0 =>
    if decide (y0_0 < (s.length : Int)) then
    (ix s y0_0).bind fun x12 =>
    (if decide ((x12.toNat : Int) < 33) then some true else (ix s y0_0).bind fun x17 =>
    some (decide ((x17.toNat : Int) > 126))).bind fun x19 =>
    if x19 then
    some (Fl.ret false)
    else
    (chk (InI (y0_0 + 1))).bind fun _ =>
    ref35_Tag_L0 s xs0 (y0_0 + 1)
    else
    some (Fl.go y0_0)
noncomputable def ref35_Tag (n : Nat) (s : Str) : Option (Bool) :=
  (ref35_Tag_L0 s n 0).bind fun s0 => s0.el some fun t0 =>
  some (decide ((s.length : Int) ≥ 1) && decide ((s.length : Int) ≤ 32))
set_option maxHeartbeats 8000000 in
theorem ref35_Tag_ok {n : Nat} {s : Str} {K : Hp} {r : Bool}
    (hm : ref35_Tag n s = some r)  :
    Fn Try.prog 37 [str s] K [] (fun v K' H' => v = .bool r ∧ H' = []) := by
  refine Fn.enter Try.func37 Try.call37 rfl fun F => ?_
  unfold ref35_Tag at hm
  obtain ⟨s0, hl0, hm⟩ := bnd hm
  conv => whnf
  refine code_cut (σ := (Int)) [2, 3, 4, 5, 6, 7, 8, 9, 10, 11, 12, 13, 14, 15, 16, 17, 18, 19] (fun t0 => [(3, .int .i64 t0)]) (fun t0 => [F]) (fun zz K1 => match zz with | t0 => s0 = Fl.go t0) ?_ ?_
  · refine block_go rfl ?_
    conv => whnf
    refine loop_rule (σ := Nat × Int) [2, 3, 4, 5, 6, 7, 8, 9, 10, 11, 12, 13, 14, 15, 16, 17, 18, 19] (fun (i0, y0_0) => [(3, .int .i64 y0_0)]) (fun (i0, y0_0) => [F]) (fun zz K1 => match zz with | (i0, y0_0) => ref35_Tag_L0 s i0 y0_0 = some s0) (fun zz => zz.1) (n, 0) rfl ⟨rfl, trivial⟩ (ConvH.of (.cons r0 .nil)) hl0 ?_
    clear hl0
    rintro ⟨i0, y0_0⟩ Kb0 lk0 hl0 j0
    conv at hl0 => whnf
    cases i0 with
    | zero => rw [ref35_Tag_L0.eq_1] at hl0; cases hl0
    | succ i0 =>
      rw [ref35_Tag_L0.eq_2] at hl0
      conv => whnf
      refine RStep.of (len_str rfl ?_)
      conv => whnf
      refine cond_go rfl ?_
      conv => whnf
      refine cond_s (fun w7 => ?_) (fun w7 => ?_)
      · replace hl0 := ift w7 hl0
        conv => whnf
        refine block_go rfl ?_
        obtain ⟨x12, l12, k12, hl0⟩ := ixb hl0
        conv => whnf
        refine idx_str rfl l12 k12 ?_
        obtain ⟨x19, e19, hl0⟩ := bnd hl0
        conv => whnf
        refine cond_s (fun g14_4 => ?_) (fun g14_4 => ?_)
        · replace e19 := ift g14_4 e19
          conv => whnf
          refine cond_t g14_4 ?_
          conv => whnf
          refine cond_t g14_4 ?_
          conv => whnf
          refine cond_t g14_4 ?_
          conv => whnf
          refine cond_t g14_4 ?_
          conv => whnf
          refine cond_go rfl ?_
          conv => whnf
          refine cond_T ?_
          replace hl0 := ift (si e19).symm hl0
          obtain rfl := si hl0
          replace hm := elr hm
          obtain rfl := si hm
          conv => whnf
          refine EndStep.mk _ lk0 ⟨rfl, rfl⟩ (ConvH.of (.cons r0 .nil))
        · replace e19 := iff_ g14_4 e19
          conv => whnf
          refine cond_f g14_4 ?_
          conv => whnf
          refine cond_f g14_4 ?_
          obtain ⟨x17, l17, k17, e19⟩ := ixb e19
          conv => whnf
          refine idx_str rfl l17 k17 ?_
          conv => whnf
          refine cond_f g14_4 ?_
          conv => whnf
          refine cond_f g14_4 ?_
          conv => whnf
          refine cond_go rfl ?_
          conv => whnf
          refine cond_s (fun w19 => ?_) (fun w19 => ?_)
          · replace hl0 := ift ((si e19).symm.trans w19) hl0
            obtain rfl := si hl0
            replace hm := elr hm
            obtain rfl := si hm
            conv => whnf
            refine EndStep.mk _ lk0 ⟨rfl, rfl⟩ (ConvH.of (.cons r0 .nil))
          · replace hl0 := iff_ ((si e19).symm.trans w19) hl0
            obtain ⟨h9, hl0⟩ := chkb hl0
            conv => whnf
            refine int_in h9 ?_
            conv => whnf
            refine RoundStep.mk (i0, (y0_0 + 1)) ⟨rfl, trivial⟩ (by repeat (first | exact trivial | refine And.intro rfl ?_)) (ConvH.of (.cons r0 .nil)) lk0 (Nat.lt_succ_self _) hl0
      · replace hl0 := iff_ w7 hl0
        conv => whnf
        refine cond_T ?_
        conv => whnf
        refine MeetStep.mk (y0_0) ⟨rfl, trivial⟩ (by repeat (first | exact trivial | refine And.intro rfl ?_)) (ConvH.of (.cons r0 .nil)) lk0 (si hl0).symm
  · rintro t0 Kt0 lt0 rfl j0
    replace hm := elg hm
    conv => whnf
    refine RStep.of (len_str rfl ?_)
    conv => whnf
    refine cond_s (fun g23_6 => ?_) (fun g23_6 => ?_)
    · conv => whnf
      refine cond_t g23_6 ?_
      conv => whnf
      refine RStep.of (len_str rfl ?_)
      conv => whnf
      refine cond_t g23_6 ?_
      conv => whnf
      refine cond_t g23_6 ?_
      obtain rfl := si hm
      conv => whnf
      refine EndStep.mk _ lt0 ⟨(by rw [← (and_e (b := decide ((s.length : Int) ≤ 32)) g23_6)] <;> rfl), rfl⟩ (ConvH.of (.cons r0 .nil))
    · conv => whnf
      refine cond_f g23_6 ?_
      conv => whnf
      refine cond_f g23_6 ?_
      conv => whnf
      refine cond_f g23_6 ?_
      obtain rfl := si hm
      conv => whnf
      refine EndStep.mk _ lt0 ⟨(by rw [← ((and_f g23_6)).symm] <;> rfl), rfl⟩ (ConvH.of (.cons r0 .nil))

noncomputable def ref35_Has_L0 (l : (List Str)) (s : Str) : Nat → Int → Option (Fl (Bool) (Int))
  | 0, _ => none
  | xs0 + 1, y0_0 =>
    if decide (y0_0 < (l.length : Int)) then
    (ix l y0_0).bind fun x14 =>
    if decide (x14 = s) then
    some (Fl.ret true)
    else
    (chk (InI (y0_0 + 1))).bind fun _ =>
    ref35_Has_L0 l s xs0 (y0_0 + 1)
    else
    some (Fl.go y0_0)
noncomputable def ref35_Has (n : Nat) (l : (List Str)) (s : Str) : Option (Bool) :=
  (ref35_Has_L0 l s n 0).bind fun s0 => s0.el some fun t0 =>
  some false
set_option maxHeartbeats 8000000 in
theorem ref35_Has_ok {n : Nat} {l : (List Str)} {s : Str} {ap0_0 : Option Addr} {cp0_0 : Nat} {n0 : Nat} {K : Hp} {r : Bool}
    (hm : ref35_Has n l s = some r) (hp0_0 : RdC eS K ap0_0 cp0_0 1 l) (en0 : n0 = l.length) :
    Fn Try.prog 20 [.slice ap0_0 n0 cp0_0, str s] K [] (fun v K' H' => v = .bool r ∧ H' = []) := by
  subst en0
  refine Fn.enter Try.func20 Try.call20 rfl fun F => ?_
  unfold ref35_Has at hm
  obtain ⟨s0, hl0, hm⟩ := bnd hm
  conv => whnf
  refine code_cut (σ := (Int)) [4, 5, 6, 7, 8, 9, 10, 11, 12, 13, 14, 15, 16, 17] (fun t0 => [(5, .int .i64 t0)]) (fun t0 => [F]) (fun zz K1 => match zz with | t0 => s0 = Fl.go t0) ?_ ?_
  · refine block_go rfl ?_
    conv => whnf
    refine loop_rule (σ := Nat × Int) [4, 5, 6, 7, 8, 9, 10, 11, 12, 13, 14, 15, 16, 17] (fun (i0, y0_0) => [(5, .int .i64 y0_0)]) (fun (i0, y0_0) => [F]) (fun zz K1 => match zz with | (i0, y0_0) => ref35_Has_L0 l s i0 y0_0 = some s0) (fun zz => zz.1) (n, 0) rfl ⟨rfl, trivial⟩ (ConvH.of (.cons r0 .nil)) hl0 ?_
    clear hl0
    rintro ⟨i0, y0_0⟩ Kb0 lk0 hl0 j0
    conv at hl0 => whnf
    cases i0 with
    | zero => rw [ref35_Has_L0.eq_1] at hl0; cases hl0
    | succ i0 =>
      rw [ref35_Has_L0.eq_2] at hl0
      conv => whnf
      refine RStep.of (len_slice rfl ?_)
      conv => whnf
      refine cond_go rfl ?_
      conv => whnf
      refine cond_s (fun w9 => ?_) (fun w9 => ?_)
      · replace hl0 := ift w9 hl0
        conv => whnf
        refine block_go rfl ?_
        obtain ⟨x14, l14, k14, hl0⟩ := ixb hl0
        conv => whnf
        refine RStep.ofN (index_addr rfl rfl (hasK (hp0_0.mono lk0).rd k14) l14 (lt_ofE rfl l14 k14) ?_)
        conv => whnf
        refine RStep.of (load_rd ((y0_0).toNat) 0 _ _ (hp0_0.mono lk0).rd rfl (mp k14) rfl rfl ?_)
        conv => whnf
        refine eq_str ?_
        conv => whnf
        refine cond_go rfl ?_
        conv => whnf
        refine cond_s (fun w17 => ?_) (fun w17 => ?_)
        · replace hl0 := ift w17 hl0
          obtain rfl := si hl0
          replace hm := elr hm
          obtain rfl := si hm
          conv => whnf
          refine EndStep.mk _ lk0 ⟨rfl, rfl⟩ (ConvH.of (.cons r0 .nil))
        · replace hl0 := iff_ w17 hl0
          obtain ⟨h11, hl0⟩ := chkb hl0
          conv => whnf
          refine int_in h11 ?_
          conv => whnf
          refine RoundStep.mk (i0, (y0_0 + 1)) ⟨rfl, trivial⟩ (by repeat (first | exact trivial | refine And.intro rfl ?_)) (ConvH.of (.cons r0 .nil)) lk0 (Nat.lt_succ_self _) hl0
      · replace hl0 := iff_ w9 hl0
        conv => whnf
        refine cond_T ?_
        conv => whnf
        refine MeetStep.mk (y0_0) ⟨rfl, trivial⟩ (by repeat (first | exact trivial | refine And.intro rfl ?_)) (ConvH.of (.cons r0 .nil)) lk0 (si hl0).symm
  · rintro t0 Kt0 lt0 rfl j0
    replace hm := elg hm
    obtain rfl := si hm
    conv => whnf
    refine EndStep.mk _ lt0 ⟨rfl, rfl⟩ (ConvH.of (.cons r0 .nil))

noncomputable def ref35_Sorted_L2 (l : (List Str)) (y0_1 : Int) (y0_0 : (List Str)) : Nat → Int → Option (Int)
  | 0, _ => none
  | xs2 + 1, y2_0 =>
    (if decide (y2_0 > 0) then (ix l y0_1).bind fun x25 =>
    (chk (InI (y2_0 - 1))).bind fun _ =>
    (ix y0_0 (y2_0 - 1)).bind fun x30 =>
    some (Op.bytesLess x25 x30) else some false).bind fun x33 =>
    if x33 then
    (chk (InI (y2_0 - 1))).bind fun _ =>
    ref35_Sorted_L2 l y0_1 y0_0 xs2 (y2_0 - 1)
    else
    some y2_0
noncomputable def ref35_Sorted_L0 (l : (List Str)) (n : Nat) : Nat → (List Str) → Int → Option ((List Str) × Int)
  | 0, _, _ => none
  | xs0 + 1, y0_0, y0_1 =>
    if decide (y0_1 < (l.length : Int)) then
    (ix l y0_1).bind fun x15 =>
    (ref35_Has n y0_0 x15).bind fun x17 =>
    if x17 then
    (chk (InI (y0_1 + 1))).bind fun _ =>
    ref35_Sorted_L0 l n xs0 y0_0 (y0_1 + 1)
    else
    (ref35_Sorted_L2 l y0_1 y0_0 n (y0_0.length : Int)).bind fun t2 =>
    (chk (0 ≤ (0 : Int) ∧ (0 : Int) ≤ t2 ∧ t2 ≤ (y0_0.length : Int))).bind fun _ =>
    (chk ((subL y0_0 (0 : Int) t2).length ≤ lim)).bind fun _ =>
    (ix l y0_1).bind fun x43 =>
    (chk ((subL y0_0 (0 : Int) t2).length + [x43].length ≤ lim)).bind fun _ =>
    (chk (0 ≤ t2 ∧ t2 ≤ (y0_0.length : Int) ∧ (y0_0.length : Int) ≤ (y0_0.length : Int))).bind fun _ =>
    (chk (((subL y0_0 (0 : Int) t2) ++ [x43]).length + (subL y0_0 t2 (y0_0.length : Int)).length ≤ lim)).bind fun _ =>
    (chk (InI (y0_1 + 1))).bind fun _ =>
    ref35_Sorted_L0 l n xs0 (((subL y0_0 (0 : Int) t2) ++ [x43]) ++ (subL y0_0 t2 (y0_0.length : Int))) (y0_1 + 1)
    else
    some (y0_0, y0_1)
noncomputable def ref35_Sorted (n : Nat) (l : (List Str)) : Option ((List Str)) :=
  (ref35_Sorted_L0 l n n [] 0).bind fun t0 =>
  some t0.1
set_option maxHeartbeats 8000000 in
theorem ref35_Sorted_ok {n : Nat} {l : (List Str)} {ap0_0 : Option Addr} {cp0_0 : Nat} {n0 : Nat} {K : Hp} {r : (List Str)}
    (hm : ref35_Sorted n l = some r) (hp0_0 : RdC eS K ap0_0 cp0_0 1 l) (en0 : n0 = l.length) :
    Fn Try.prog 31 [.slice ap0_0 n0 cp0_0] K [] (fun v K' H' => ∃ ar_0 : Option Addr, ∃ cr_0 : Nat, v = .slice ar_0 r.length cr_0 ∧ (0 < r.length → Has ar_0) ∧ H' = [OwnL eS ar_0 9 1 cr_0 r]) := by
  subst en0
  refine Fn.enter Try.func31 Try.call31 rfl fun F => ?_
  unfold ref35_Sorted at hm
  obtain ⟨s0, hl0, hm⟩ := bnd hm
  conv => whnf
  refine nilC eS 9 1 ?_
  refine code_cut (σ := ((List Str) × Int) × Option Addr × Nat) [3, 4, 5, 6, 7, 8, 9, 10, 11, 12, 13, 14, 15, 16, 17, 18, 19, 20, 21, 22, 23, 24, 25, 26, 27, 28, 29, 30, 31, 32, 33, 34, 35, 36, 37, 38, 39, 40, 41, 42, 43, 44, 45, 46, 47, 48, 49, 50] (fun (t0, t0_a0, t0_c0) => [(3, .slice t0_a0 t0.1.length t0_c0), (4, .int .i64 t0.2)]) (fun (t0, t0_a0, t0_c0) => [OwnL eS t0_a0 9 1 t0_c0 t0.1, F]) (fun zz K1 => match zz with | (t0, t0_a0, t0_c0) => (0 < t0.1.length → Has t0_a0) ∧ t0 = s0) ?_ ?_
  · refine block_go rfl ?_
    conv => whnf
    refine loop_rule (σ := Nat × (List Str) × Int × Option Addr × Nat) [3, 4, 5, 6, 7, 8, 9, 10, 11, 12, 13, 14, 15, 16, 17, 18, 19, 20, 21, 22, 23, 24, 25, 26, 27, 28, 29, 30, 31, 32, 33, 34, 35, 36, 37, 38, 39, 40, 41, 42, 43, 44, 45, 46, 47, 48, 49, 50] (fun (i0, y0_0, y0_1, y0_a0, y0_c0) => [(3, .slice y0_a0 y0_0.length y0_c0), (4, .int .i64 y0_1)]) (fun (i0, y0_0, y0_1, y0_a0, y0_c0) => [OwnL eS y0_a0 9 1 y0_c0 y0_0, F]) (fun zz K1 => match zz with | (i0, y0_0, y0_1, y0_a0, y0_c0) => (0 < y0_0.length → Has y0_a0) ∧ ref35_Sorted_L0 l n i0 y0_0 y0_1 = some s0) (fun zz => zz.1) (n, [], 0, none, 0) rfl ⟨rfl, rfl, trivial⟩ (ConvH.of (.cons r0 (.cons r0 .nil))) ⟨(fun h => by simp at h), hl0⟩ ?_
    clear hl0
    rintro ⟨i0, y0_0, y0_1, y0_a0, y0_c0⟩ Kb0 lk0 ⟨y0_h0, hl0⟩ j0
    cases i0 with
    | zero => rw [ref35_Sorted_L0.eq_1] at hl0; cases hl0
    | succ i0 =>
      rw [ref35_Sorted_L0.eq_2] at hl0
      conv => whnf
      refine RStep.of (len_slice rfl ?_)
      conv => whnf
      refine cond_go rfl ?_
      conv => whnf
      refine cond_s (fun w9 => ?_) (fun w9 => ?_)
      · replace hl0 := ift w9 hl0
        conv => whnf
        refine block_go rfl ?_
        obtain ⟨x15, l15, k15, hl0⟩ := ixb hl0
        conv => whnf
        refine RStep.ofN (index_addr rfl rfl (hasK (hp0_0.mono lk0).rd k15) l15 (lt_ofE rfl l15 k15) ?_)
        conv => whnf
        refine RStep.of (load_rd ((y0_1).toNat) 0 _ _ (hp0_0.mono lk0).rd rfl (mp k15) rfl rfl ?_)
        obtain ⟨x17, q17, hl0⟩ := bnd hl0
        conv => whnf
        refine call_fn (Fn.lend Try.call20 (fun K17_0 l17_0 f17_0 => (ref35_Has_ok q17 f17_0 rfl)) (by exact fun _ _ _ _ h => h)) (.cons r0 .nil) ?_
        rintro _ K17 _ l17 ⟨_, rfl, rfl, rfl⟩
        conv => whnf
        refine cond_go rfl ?_
        conv => whnf
        refine cond_s (fun w17 => ?_) (fun w17 => ?_)
        · replace hl0 := ift w17 hl0
          conv => whnf
          refine cond_T ?_
          obtain ⟨h11, hl0⟩ := chkb hl0
          conv => whnf
          refine int_in h11 ?_
          conv => whnf
          refine RoundStep.mk (i0, y0_0, (y0_1 + 1), y0_a0, y0_c0) ⟨rfl, rfl, trivial⟩ (by repeat (first | exact trivial | refine And.intro rfl ?_)) (ConvH.of (.cons r0 (.cons r0 .nil))) (lk0.trans l17) (Nat.lt_succ_self _) ⟨y0_h0, hl0⟩
        · replace hl0 := iff_ w17 hl0
          conv => whnf
          refine RStep.of (len_slice rfl ?_)
          obtain ⟨s2, hl2, hl0⟩ := bnd hl0
          conv => whnf
          refine code_cut (σ := (Int)) [5, 20, 21, 22, 23, 24, 25, 26, 27, 28, 29, 30, 31, 32, 33, 34, 35] (fun t2 => [(5, .int .i64 t2)]) (fun t2 => [OwnL eS y0_a0 9 1 y0_c0 y0_0, F]) (fun zz K1 => match zz with | t2 => t2 = s2) ?_ ?_
          · refine block_go rfl ?_
            conv => whnf
            refine loop_rule (σ := Nat × Int) [5, 20, 21, 22, 23, 24, 25, 26, 27, 28, 29, 30, 31, 32, 33, 34, 35] (fun (i2, y2_0) => [(5, .int .i64 y2_0)]) (fun (i2, y2_0) => [OwnL eS y0_a0 9 1 y0_c0 y0_0, F]) (fun zz K1 => match zz with | (i2, y2_0) => ref35_Sorted_L2 l y0_1 y0_0 i2 y2_0 = some s2) (fun zz => zz.1) (n, (y0_0.length : Int)) rfl ⟨rfl, trivial⟩ (ConvH.of (.cons r0 (.cons r0 .nil))) hl2 ?_
            clear hl2
            rintro ⟨i2, y2_0⟩ Kb2 lk2 hl2 j2
            conv at hl2 => whnf
            cases i2 with
            | zero => rw [ref35_Sorted_L2.eq_1] at hl2; cases hl2
            | succ i2 =>
              rw [ref35_Sorted_L2.eq_2] at hl2
              conv => whnf
              refine draw_go ⟨⟨[], true⟩, _, []⟩ (by kernel_rfl) ⟨Hp.Le.refl _, (ConvH.of .nil)⟩ ?_
              obtain ⟨x33, e33, hl2⟩ := bnd hl2
              conv => whnf
              refine cond_s (fun g22_7 => ?_) (fun g22_7 => ?_)
              · replace e33 := ift g22_7 e33
                conv => whnf
                refine cond_t g22_7 ?_
                conv => whnf
                refine cond_t g22_7 ?_
                obtain ⟨x25, l25, k25, e33⟩ := ixb e33
                conv => whnf
                refine index_addr rfl rfl (hasK (hp0_0.mono ((lk0.trans l17).trans lk2)).rd k25) l25 (lt_ofE rfl l25 k25) ?_
                conv => whnf
                refine cond_t g22_7 ?_
                conv => whnf
                refine load_rd ((y0_1).toNat) 0 _ _ (hp0_0.mono ((lk0.trans l17).trans lk2)).rd rfl (mp k25) rfl rfl ?_
                conv => whnf
                refine cond_t g22_7 ?_
                conv => whnf
                refine cond_t g22_7 ?_
                conv => whnf
                refine cond_t g22_7 ?_
                obtain ⟨h29, e33⟩ := chkb e33
                conv => whnf
                refine int_in h29 ?_
                conv => whnf
                refine cond_t g22_7 ?_
                obtain ⟨x30, l30, k30, e33⟩ := ixb e33
                conv => whnf
                refine index_addr rfl rfl (hasO y0_h0 k30) l30 (lt_ofE rfl l30 k30) ?_
                conv => whnf
                refine cond_t g22_7 ?_
                conv => whnf
                refine ld_own (i := ((y2_0 - 1)).toNat) (o := 0) r0 rfl k30 rfl rfl ?_
                conv => whnf
                refine cond_t g22_7 ?_
                conv => whnf
                refine lss_str ?_
                conv => whnf
                refine cond_t g22_7 ?_
                conv => whnf
                refine cond_go rfl ?_
                conv => whnf
                refine cond_s (fun w33 => ?_) (fun w33 => ?_)
                · replace hl2 := ift ((si e33).symm.trans w33) hl2
                  conv => whnf
                  refine block_go rfl ?_
                  obtain ⟨h35, hl2⟩ := chkb hl2
                  conv => whnf
                  refine int_in h35 ?_
                  conv => whnf
                  refine RoundStep.mk (i2, (y2_0 - 1)) ⟨rfl, trivial⟩ (by repeat (first | exact trivial | refine And.intro rfl ?_)) (ConvH.of (.cons r0 (.cons r0 .nil))) lk2 (Nat.lt_succ_self _) hl2
                · replace hl2 := iff_ ((si e33).symm.trans w33) hl2
                  conv => whnf
                  refine cond_T ?_
                  conv => whnf
                  refine MeetStep.mk (y2_0) ⟨rfl, trivial⟩ (by repeat (first | exact trivial | refine And.intro rfl ?_)) (ConvH.of (.cons r0 (.cons r0 .nil))) lk2 (si hl2)
              · replace e33 := iff_ g22_7 e33
                conv => whnf
                refine cond_f g22_7 ?_
                conv => whnf
                refine cond_f g22_7 ?_
                conv => whnf
                refine cond_f g22_7 ?_
                conv => whnf
                refine cond_f g22_7 ?_
                conv => whnf
                refine cond_f g22_7 ?_
                conv => whnf
                refine cond_f g22_7 ?_
                conv => whnf
                refine cond_f g22_7 ?_
                conv => whnf
                refine cond_f g22_7 ?_
                conv => whnf
                refine cond_f g22_7 ?_
                conv => whnf
                refine cond_f g22_7 ?_
                conv => whnf
                refine cond_go rfl ?_
                conv => whnf
                refine cond_F ?_
                replace hl2 := iff_ (si e33).symm hl2
                conv => whnf
                refine cond_T ?_
                conv => whnf
                refine MeetStep.mk (y2_0) ⟨rfl, trivial⟩ (by repeat (first | exact trivial | refine And.intro rfl ?_)) (ConvH.of (.cons r0 (.cons r0 .nil))) lk2 (si hl2)
          · rintro t2 Kt2 lt2 rfl j2
            conv => whnf
            refine DStep.ownLe r0 fun hc4 => ?_
            conv => whnf
            refine draw_go_F ⟨⟨[], false⟩, _, []⟩ 16 rfl (by kernel_rfl) ⟨Hp.Le.refl _, (ConvH.of .nil)⟩ ?_
            conv => whnf
            refine bsA (cl := []) elT31 rfl rfl ?_ fun b36 => ?_
            · conv => whnf
              first | done | rfl
            obtain ⟨h39, hl0⟩ := chkb hl0
            conv => whnf
            refine sl_part (l := y0_0) (lo := none) (hi := (some t2)) rfl rfl rfl hc4 h39 ?_
            conv => whnf
            intro GG4
            obtain ⟨h40, hl0⟩ := chkb hl0
            conv => whnf
            refine ape (enc := eS) r0 elT31 (src_part rfl r0 h39 rfl (fun _ => rfl) (fun _ => rfl)) h40 ?_
            intro a40 c40 o40
            conv => whnf
            refine ⟨⟨(Hp.Le.refl _), (ConvH.of .nil)⟩, ?_⟩
            refine ⟨_, .cons r3 .nil, ⟨(Hp.Le.refl _), (ConvH.of .nil)⟩, ?_⟩
            obtain ⟨x43, l43, k43, hl0⟩ := ixb hl0
            conv => whnf
            refine index_addr rfl rfl (hasK (hp0_0.mono ((lk0.trans l17).trans lt2)).rd k43) l43 (lt_ofE rfl l43 k43) ?_
            conv => whnf
            refine load_rd_l ((y0_1).toNat) 0 _ _ (hp0_0.mono ((lk0.trans l17).trans lt2)).rd rfl (mp k43) rfl rfl ?_
            conv => whnf
            refine bsA (cl := [str x43]) elT31 rfl rfl ?_ fun b45 => ?_
            · conv => whnf
              refine cond_T ?_
              conv => whnf
              first | done | rfl
            conv => whnf
            intro GG10
            obtain ⟨h46, hl0⟩ := chkb hl0
            conv => whnf
            refine apE rfl r1 elT31 (src_lit rfl r0 rfl rfl (fun _ _ => rfl) rfl) h46 ?_
            intro a46 c46 o46
            conv => whnf
            refine ⟨⟨(Hp.Le.refl _), (ConvH.of .nil)⟩, ?_⟩
            refine ⟨_, .cons r4 .nil, ⟨(Hp.Le.refl _), (ConvH.of .nil)⟩, ?_⟩
            obtain ⟨h49, hl0⟩ := chkb hl0
            conv => whnf
            refine sl_part (l := y0_0) (lo := (some t2)) (hi := none) rfl rfl rfl hc4 h49 ?_
            conv => whnf
            intro GG14
            obtain ⟨h50, hl0⟩ := chkb hl0
            conv => whnf
            refine apE rfl r0 elT31 (src_part rfl r1 h49 rfl (fun _ => rfl) (fun _ => rfl)) h50 ?_
            intro a50 c50 o50
            conv => whnf
            refine ⟨⟨(Hp.Le.refl _), (ConvH.of .nil)⟩, ?_⟩
            refine ⟨_, .cons r4 .nil, ⟨(Hp.Le.refl _), (ConvH.of .nil)⟩, ?_⟩
            obtain ⟨h11, hl0⟩ := chkb hl0
            conv => whnf
            refine int_in h11 ?_
            conv => whnf
            refine RoundStep.mk (i0, (((subL y0_0 (0 : Int) t2) ++ [x43]) ++ (subL y0_0 t2 (y0_0.length : Int))), (y0_1 + 1), a50, c50) ⟨rfl, rfl, trivial⟩ (by repeat (first | exact trivial | refine And.intro rfl ?_)) (ConvH.of (.cons r0 (.cons r2 .nil))) ((lk0.trans l17).trans lt2) (Nat.lt_succ_self _) ⟨o50, hl0⟩
      · replace hl0 := iff_ w9 hl0
        conv => whnf
        refine cond_T ?_
        conv => whnf
        refine MeetStep.mk ((y0_0, y0_1), y0_a0, y0_c0) ⟨rfl, rfl, trivial⟩ (by repeat (first | exact trivial | refine And.intro rfl ?_)) (ConvH.of (.cons r0 (.cons r0 .nil))) lk0 ⟨y0_h0, (si hl0)⟩
  · rintro ⟨t0, t0_a0, t0_c0⟩ Kt0 lt0 ⟨t0_h0, rfl⟩ j0
    obtain rfl := si hm
    conv => whnf
    refine EndStep.mk _ lt0 ⟨t0_a0, t0_c0, rfl, t0_h0, rfl⟩ (ConvH.of (.cons r0 (.cons r0 .nil)))

noncomputable def ref35_Clean_L0 (x8 : (List Str)) (n : Nat) : Nat → (List Str) → Int → Option (Fl ((List Str) × Bool) ((List Str) × Int))
  | 0, _, _ => none
  | xs0 + 1, y0_0, y0_1 =>
    if decide (y0_1 < (x8.length : Int)) then
    (ix x8 y0_1).bind fun x17 =>
    (ref35_Tag n x17).bind fun x19 =>
    if (!x19) then
    some (Fl.ret ([], false))
    else
    (ix x8 y0_1).bind fun x24 =>
    (ref35_Has n y0_0 x24).bind fun x26 =>
    if ((!x26) && decide ((y0_0.length : Int) < 16)) then
    (ix x8 y0_1).bind fun x36 =>
    (chk (y0_0.length + [x36].length ≤ lim)).bind fun _ =>
    (chk (InI (y0_1 + 1))).bind fun _ =>
    ref35_Clean_L0 x8 n xs0 (y0_0 ++ [x36]) (y0_1 + 1)
    else
    (chk (InI (y0_1 + 1))).bind fun _ =>
    ref35_Clean_L0 x8 n xs0 y0_0 (y0_1 + 1)
    else
    some (Fl.go (y0_0, y0_1))
noncomputable def ref35_Clean (n : Nat) (s : Str) : Option ((List Str) × Bool) :=
  (ref35_Words n s).bind fun x8 =>
  (ref35_Clean_L0 x8 n n [] 0).bind fun s0 => s0.el some fun t0 =>
  (ref35_Sorted n t0.1).bind fun x41 =>
  some (x41, true)
set_option maxHeartbeats 8000000 in
theorem ref35_Clean_ok {n : Nat} {s : Str} {K : Hp} {r : (List Str) × Bool}
    (hm : ref35_Clean n s = some r)  :
    Fn Try.prog 24 [str s] K [] (fun v K' H' => ∃ ar_0 : Option Addr, ∃ cr_0 : Nat, v = .tuple #[.slice ar_0 r.1.length cr_0, .bool r.2] ∧ (0 < r.1.length → Has ar_0) ∧ H' = [OwnL eS ar_0 9 1 cr_0 r.1]) := by
  refine Fn.enter Try.func24 Try.call24 rfl fun F => ?_
  unfold ref35_Clean at hm
  obtain ⟨x8, q8, hm⟩ := bnd hm
  conv => whnf
  refine call_fn (ref35_Words_ok q8) .nil ?_
  rintro _ K8 _ l8 ⟨a8_0, c8_0, rfl, h8_0, rfl⟩
  obtain ⟨s0, hl0, hm⟩ := bnd hm
  conv => whnf
  refine nilC eS 9 1 ?_
  refine code_cut (σ := ((List Str) × Int) × Option Addr × Nat) [2, 3, 4, 6, 9, 10, 11, 12, 13, 14, 15, 16, 17, 18, 19, 20, 21, 22, 23, 24, 25, 26, 27, 28, 29, 30, 31, 32, 33, 34, 35, 36, 37, 38, 39] (fun (t0, t0_a0, t0_c0) => [(4, .slice t0_a0 t0.1.length t0_c0), (6, .int .i64 t0.2)]) (fun (t0, t0_a0, t0_c0) => [OwnL eS t0_a0 9 1 t0_c0 t0.1, OwnL eS a8_0 9 1 c8_0 x8, F]) (fun zz K1 => match zz with | (t0, t0_a0, t0_c0) => (0 < t0.1.length → Has t0_a0) ∧ s0 = Fl.go t0) ?_ ?_
  · refine block_go rfl ?_
    conv => whnf
    refine loop_rule (σ := Nat × (List Str) × Int × Option Addr × Nat) [2, 3, 4, 6, 9, 10, 11, 12, 13, 14, 15, 16, 17, 18, 19, 20, 21, 22, 23, 24, 25, 26, 27, 28, 29, 30, 31, 32, 33, 34, 35, 36, 37, 38, 39] (fun (i0, y0_0, y0_1, y0_a0, y0_c0) => [(4, .slice y0_a0 y0_0.length y0_c0), (6, .int .i64 y0_1)]) (fun (i0, y0_0, y0_1, y0_a0, y0_c0) => [OwnL eS y0_a0 9 1 y0_c0 y0_0, OwnL eS a8_0 9 1 c8_0 x8, F]) (fun zz K1 => match zz with | (i0, y0_0, y0_1, y0_a0, y0_c0) => (0 < y0_0.length → Has y0_a0) ∧ ref35_Clean_L0 x8 n i0 y0_0 y0_1 = some s0) (fun zz => zz.1) (n, [], 0, none, 0) rfl ⟨rfl, rfl, trivial⟩ (ConvH.of (.cons r0 (.cons r0 (.cons r0 .nil)))) ⟨(fun h => by simp at h), hl0⟩ ?_
    clear hl0
    rintro ⟨i0, y0_0, y0_1, y0_a0, y0_c0⟩ Kb0 lk0 ⟨y0_h0, hl0⟩ j0
    cases i0 with
    | zero => rw [ref35_Clean_L0.eq_1] at hl0; cases hl0
    | succ i0 =>
      rw [ref35_Clean_L0.eq_2] at hl0
      conv => whnf
      refine RStep.of (len_slice rfl ?_)
      conv => whnf
      refine cond_go rfl ?_
      conv => whnf
      refine cond_s (fun w12 => ?_) (fun w12 => ?_)
      · replace hl0 := ift w12 hl0
        conv => whnf
        refine block_go rfl ?_
        obtain ⟨x17, l17, k17, hl0⟩ := ixb hl0
        conv => whnf
        refine RStep.ofN (index_addr rfl rfl (hasO h8_0 k17) l17 (lt_ofE rfl l17 k17) ?_)
        conv => whnf
        refine RStep.of (ld_own (i := (y0_1).toNat) (o := 0) r1 rfl k17 rfl rfl ?_)
        obtain ⟨x19, q19, hl0⟩ := bnd hl0
        conv => whnf
        refine call_fn (ref35_Tag_ok q19) .nil ?_
        rintro _ K19 _ l19 ⟨rfl, rfl⟩
        conv => whnf
        refine un_not ?_
        conv => whnf
        refine cond_go rfl ?_
        conv => whnf
        refine cond_s (fun w20 => ?_) (fun w20 => ?_)
        · replace hl0 := ift (not_t (ni_t w20)) hl0
          obtain rfl := si hl0
          replace hm := elr hm
          obtain rfl := si hm
          conv => whnf
          refine nilE eS 9 1 ?_
          refine EndStep.mk _ ((l8.trans lk0).trans l19) ⟨none, 0, rfl, (fun h => by simp at h), rfl⟩ (ConvH.of (.cons r0 (.cons r2 .nil)))
        · replace hl0 := iff_ (not_f (ni_f w20)) hl0
          obtain ⟨x24, l24, k24, hl0⟩ := ixb hl0
          conv => whnf
          refine RStep.ofN (index_addr rfl rfl (hasO h8_0 k24) l24 (lt_ofE rfl l24 k24) ?_)
          conv => whnf
          refine RStep.of (ld_own (i := (y0_1).toNat) (o := 0) r1 rfl k24 rfl rfl ?_)
          obtain ⟨x26, q26, hl0⟩ := bnd hl0
          conv => whnf
          refine call_fn (Fn.lend Try.call20 (fun K26_0 l26_0 f26_0 => (ref35_Has_ok q26 f26_0 rfl)) (by exact fun _ _ _ _ h => h)) (.cons r0 .nil) ?_
          rintro _ K26 _ l26 ⟨_, rfl, rfl, rfl⟩
          conv => whnf
          refine un_not ?_
          conv => whnf
          refine cond_s (fun g28_8 => ?_) (fun g28_8 => ?_)
          · conv => whnf
            refine cond_t g28_8 ?_
            conv => whnf
            refine RStep.of (len_slice rfl ?_)
            conv => whnf
            refine cond_t g28_8 ?_
            conv => whnf
            refine cond_t g28_8 ?_
            conv => whnf
            refine cond_go rfl ?_
            conv => whnf
            refine cond_s (fun w32 => ?_) (fun w32 => ?_)
            · replace hl0 := ift (and_t (not_t (ni_t g28_8)) w32) hl0
              obtain ⟨x36, l36, k36, hl0⟩ := ixb hl0
              conv => whnf
              refine RStep.ofN (index_addr rfl rfl (hasO h8_0 k36) l36 (lt_ofE rfl l36 k36) ?_)
              conv => whnf
              refine RStep.of (ld_own (i := (y0_1).toNat) (o := 0) r1 rfl k36 rfl rfl ?_)
              conv => whnf
              refine bsO (len := 1) (enc := eS) (l := [x36]) (cl := [str x36]) elT31 rfl rfl (fun _ _ => rfl) rfl rfl rfl ?_ fun b38 => ?_
              · conv => whnf
                refine cond_T ?_
                conv => whnf
                first | done | rfl
              obtain ⟨h39, hl0⟩ := chkb hl0
              conv => whnf
              refine apE rfl r1 elT31 (src_own' rfl r0 rfl (fun _ => rfl) (fun _ => rfl)) h39 ?_
              intro a39 c39 o39
              obtain ⟨h14, hl0⟩ := chkb hl0
              conv => whnf
              refine int_in h14 ?_
              conv => whnf
              refine RoundStep.mk (i0, (y0_0 ++ [x36]), (y0_1 + 1), a39, c39) ⟨rfl, rfl, trivial⟩ (by repeat (first | exact trivial | refine And.intro rfl ?_)) (ConvH.of (.cons r0 (.cons r1 (.cons r1 .nil)))) ((lk0.trans l19).trans l26) (Nat.lt_succ_self _) ⟨o39, hl0⟩
            · replace hl0 := iff_ (and_g (not_t (ni_t g28_8)) w32) hl0
              obtain ⟨h14, hl0⟩ := chkb hl0
              conv => whnf
              refine int_in h14 ?_
              conv => whnf
              refine RoundStep.mk (i0, y0_0, (y0_1 + 1), y0_a0, y0_c0) ⟨rfl, rfl, trivial⟩ (by repeat (first | exact trivial | refine And.intro rfl ?_)) (ConvH.of (.cons r0 (.cons r0 (.cons r0 .nil)))) ((lk0.trans l19).trans l26) (Nat.lt_succ_self _) ⟨y0_h0, hl0⟩
          · conv => whnf
            refine cond_f g28_8 ?_
            conv => whnf
            refine cond_f g28_8 ?_
            conv => whnf
            refine cond_f g28_8 ?_
            conv => whnf
            refine cond_go rfl ?_
            conv => whnf
            refine cond_F ?_
            replace hl0 := iff_ (and_f (not_f (ni_f g28_8))) hl0
            obtain ⟨h14, hl0⟩ := chkb hl0
            conv => whnf
            refine int_in h14 ?_
            conv => whnf
            refine RoundStep.mk (i0, y0_0, (y0_1 + 1), y0_a0, y0_c0) ⟨rfl, rfl, trivial⟩ (by repeat (first | exact trivial | refine And.intro rfl ?_)) (ConvH.of (.cons r0 (.cons r0 (.cons r0 .nil)))) ((lk0.trans l19).trans l26) (Nat.lt_succ_self _) ⟨y0_h0, hl0⟩
      · replace hl0 := iff_ w12 hl0
        conv => whnf
        refine cond_T ?_
        conv => whnf
        refine MeetStep.mk ((y0_0, y0_1), y0_a0, y0_c0) ⟨rfl, rfl, trivial⟩ (by repeat (first | exact trivial | refine And.intro rfl ?_)) (ConvH.of (.cons r0 (.cons r0 (.cons r0 .nil)))) lk0 ⟨y0_h0, (si hl0).symm⟩
  · rintro ⟨t0, t0_a0, t0_c0⟩ Kt0 lt0 ⟨t0_h0, rfl⟩ j0
    replace hm := elg hm
    obtain ⟨x41, q41, hm⟩ := bnd hm
    conv => whnf
    refine call_fn (Fn.lend Try.call31 (fun K41_0 l41_0 f41_0 => (ref35_Sorted_ok q41 f41_0 rfl)) (by exact fun _ _ _ _ h => h)) (.cons r0 .nil) ?_
    rintro _ K41 _ l41 ⟨_, rfl, a41_0, c41_0, rfl, h41_0, rfl⟩
    obtain rfl := si hm
    conv => whnf
    refine EndStep.mk _ ((l8.trans lt0).trans l41) ⟨a41_0, c41_0, rfl, h41_0, rfl⟩ (ConvH.of (.cons r1 (.cons r2 .nil)))

noncomputable def base_Texts_L0 (b : (List Str)) : List Str → Nat → Option (Fl (Bool) (Unit))
  | [], _ => some (Fl.go ())
  | e0 :: xs0, i0 =>
    (ix b (i0 : Int)).bind fun x22 =>
    if decide (e0 ≠ x22) then
    some (Fl.ret false)
    else
    base_Texts_L0 b xs0 (i0 + 1)
noncomputable def base_Texts (a : (List Str)) (b : (List Str)) : Option (Bool) :=
  if decide ((a.length : Int) ≠ (b.length : Int)) then
  some false
  else
  (chk (a.length ≤ szMax)).bind fun _ =>
  (base_Texts_L0 b a 0).bind fun s0 => s0.el some fun t0 =>
  some true
set_option maxHeartbeats 8000000 in
theorem base_Texts_ok {a : (List Str)} {b : (List Str)} {ap0_0 : Option Addr} {cp0_0 : Nat} {n0 : Nat} {ap1_0 : Option Addr} {cp1_0 : Nat} {n1 : Nat} {K : Hp} {r : Bool}
    (hm : base_Texts a b = some r) (hp0_0 : RdC eS K ap0_0 cp0_0 1 a) (en0 : n0 = a.length) (hp1_0 : RdC eS K ap1_0 cp1_0 1 b) (en1 : n1 = b.length) :
    Fn Try.prog 13 [.slice ap0_0 n0 cp0_0, .slice ap1_0 n1 cp1_0] K [] (fun v K' H' => v = .bool r ∧ H' = []) := by
  subst en0
  subst en1
  refine Fn.enter Try.func13 Try.call13 rfl fun F => ?_
  unfold base_Texts at hm
  conv => whnf
  refine RStep.of (len_slice rfl ?_)
  conv => whnf
  refine RStep.of (len_slice rfl ?_)
  conv => whnf
  refine neq_int ?_
  conv => whnf
  refine cond_go rfl ?_
  conv => whnf
  refine cond_s (fun w10 => ?_) (fun w10 => ?_)
  · replace hm := ift w10 hm
    obtain rfl := si hm
    conv => whnf
    refine EndStep.mk _ (Hp.Le.refl _) ⟨rfl, rfl⟩ (ConvH.of (.cons r0 .nil))
  · replace hm := iff_ w10 hm
    conv => whnf
    refine RStep.of (len_slice rfl ?_)
    obtain ⟨hk0, hm⟩ := chkb hm
    obtain ⟨s0, hl0, hm⟩ := bnd hm
    conv => whnf
    refine code_cut (σ := (Unit)) [4, 5, 13, 14, 15, 16, 17, 18, 19, 20, 21, 22, 23, 24, 25] (fun t0 => []) (fun t0 => [F]) (fun zz K1 => match zz with | t0 => s0 = Fl.go t0) ?_ ?_
    · refine block_go rfl ?_
      conv => whnf
      refine loop_rule (σ := Nat) [4, 5, 13, 14, 15, 16, 17, 18, 19, 20, 21, 22, 23, 24, 25] (fun i0 => [(13, .int .i64 (i0 : Int))]) (fun i0 => [F]) (fun zz K1 => match zz with | i0 => base_Texts_L0 b (a.drop i0) i0 = some s0) (fun zz => a.length - zz) (0) rfl ⟨rfl, trivial⟩ (ConvH.of (.cons r0 .nil)) hl0 ?_
      clear hl0
      rintro i0 Kb0 lk0 hl0 j0
      conv at hl0 => whnf
      conv => whnf
      refine cond_go rfl ?_
      conv => whnf
      refine cond_s (fun w0 => ?_) (fun w0 => ?_)
      · obtain ⟨e0, hx0, hd0⟩ := ltx w0
        rw [hd0, base_Texts_L0.eq_2] at hl0
        conv => whnf
        refine block_go rfl ?_
        conv => whnf
        refine draw_go ⟨⟨[], false⟩, _, []⟩ (by kernel_rfl) ⟨Hp.Le.refl _, (ConvH.of .nil)⟩ ?_
        conv => whnf
        refine index_addr rfl rfl (hasK (hp0_0.mono lk0).rd hx0) (nn _) (lt_ofN hx0) ?_
        conv => whnf
        refine load_rd_l i0 0 _ _ (hp0_0.mono lk0).rd rfl (mp hx0) rfl rfl ?_
        obtain ⟨x22, l22, k22, hl0⟩ := ixb hl0
        conv => whnf
        refine index_addr rfl rfl (hasK (hp1_0.mono lk0).rd k22) l22 (lt_ofE rfl l22 k22) ?_
        conv => whnf
        refine load_rd_l (((i0 : Int)).toNat) 0 _ _ (hp1_0.mono lk0).rd rfl (mp k22) rfl rfl ?_
        conv => whnf
        refine neq_str ?_
        conv => whnf
        refine cond_go rfl ?_
        conv => whnf
        refine cond_s (fun w24 => ?_) (fun w24 => ?_)
        · replace hl0 := ift w24 hl0
          obtain rfl := si hl0
          replace hm := elr hm
          obtain rfl := si hm
          conv => whnf
          refine EndStep.mk _ lk0 ⟨rfl, rfl⟩ (ConvH.of (.cons r0 .nil))
        · replace hl0 := iff_ w24 hl0
          conv => whnf
          refine int_in (cntz hx0 hk0) ?_
          conv => whnf
          refine RoundStep.mk (i0 + 1) ⟨rfl, trivial⟩ (by repeat (first | exact trivial | refine And.intro rfl ?_)) (ConvH.of (.cons r0 .nil)) lk0 (ltm hx0) hl0
      · rw [lty w0, base_Texts_L0.eq_1] at hl0
        conv => whnf
        refine cond_T ?_
        conv => whnf
        refine MeetStep.mk (()) trivial (by repeat (first | exact trivial | refine And.intro rfl ?_)) (ConvH.of (.cons r0 .nil)) lk0 (si hl0).symm
    · rintro t0 Kt0 lt0 rfl j0
      replace hm := elg hm
      obtain rfl := si hm
      conv => whnf
      refine EndStep.mk _ lt0 ⟨rfl, rfl⟩ (ConvH.of (.cons r0 .nil))

noncomputable def law35_TagsCleans (n : Nat) (s : Str) : Option (Bool) :=
  (law35_awake).bind fun x7 =>
  if ((!x7) || decide ((s.length : Int) > 2000)) then
  (law35_awake).bind fun x14 =>
  some x14
  else
  (tags_Clean n s).bind fun x17 =>
  (ref35_Clean n s).bind fun x22 =>
  if (!x22.2) then
  (if decide ((x17.1.length : Int) = 0) then (base_Is x17.2 2).bind fun x32 =>
  some x32 else some false).bind fun x33 =>
  some x33
  else
  (if x17.2.isNone then (base_Texts x17.1 x22.1).bind fun x39 =>
  some x39 else some false).bind fun x40 =>
  some x40
set_option maxHeartbeats 8000000 in
theorem law35_TagsCleans_ok {n : Nat} {s : Str} {K : Hp} {r : Bool}
    (hm : law35_TagsCleans n s = some r)  :
    Fn Try.prog 7 [str s] K [] (fun v K' H' => v = .bool r ∧ H' = []) := by
  refine Fn.enter Try.func7 Try.call7 rfl fun F => ?_
  unfold law35_TagsCleans at hm
  obtain ⟨x7, q7, hm⟩ := bnd hm
  conv => whnf
  refine call_fn (law35_awake_ok q7) .nil ?_
  rintro _ K7 _ l7 ⟨rfl, rfl⟩
  conv => whnf
  refine un_not ?_
  conv => whnf
  refine cond_s (fun g9_1 => ?_) (fun g9_1 => ?_)
  · conv => whnf
    refine cond_t g9_1 ?_
    conv => whnf
    refine cond_t g9_1 ?_
    conv => whnf
    refine cond_t g9_1 ?_
    conv => whnf
    refine cond_go rfl ?_
    conv => whnf
    refine cond_T ?_
    replace hm := ift (or_t (not_t (ni_t g9_1))) hm
    obtain ⟨x14, q14, hm⟩ := bnd hm
    conv => whnf
    refine call_fn (law35_awake_ok q14) .nil ?_
    rintro _ K14 _ l14 ⟨rfl, rfl⟩
    obtain rfl := si hm
    conv => whnf
    refine EndStep.mk _ (l7.trans l14) ⟨rfl, rfl⟩ (ConvH.of (.cons r0 .nil))
  · conv => whnf
    refine cond_f g9_1 ?_
    conv => whnf
    refine RStep.of (len_str rfl ?_)
    conv => whnf
    refine cond_f g9_1 ?_
    conv => whnf
    refine cond_f g9_1 ?_
    conv => whnf
    refine cond_go rfl ?_
    conv => whnf
    refine cond_s (fun w13 => ?_) (fun w13 => ?_)
    · replace hm := ift (or_u (not_f (ni_f g9_1)) w13) hm
      obtain ⟨x14, q14, hm⟩ := bnd hm
      conv => whnf
      refine call_fn (law35_awake_ok q14) .nil ?_
      rintro _ K14 _ l14 ⟨rfl, rfl⟩
      obtain rfl := si hm
      conv => whnf
      refine EndStep.mk _ (l7.trans l14) ⟨rfl, rfl⟩ (ConvH.of (.cons r0 .nil))
    · replace hm := iff_ (or_f (not_f (ni_f g9_1)) w13) hm
      obtain ⟨x17, q17, hm⟩ := bnd hm
      conv => whnf
      refine call_fn (tags_Clean_ok q17) .nil ?_
      rintro _ K17 _ l17 ⟨a17_0, c17_0, rfl, h17_0, rfl⟩
      obtain ⟨x22, q22, hm⟩ := bnd hm
      conv => whnf
      refine call_fn (ref35_Clean_ok q22) .nil ?_
      rintro _ K22 _ l22 ⟨a22_0, c22_0, rfl, h22_0, rfl⟩
      conv => whnf
      refine un_not ?_
      conv => whnf
      refine cond_go rfl ?_
      conv => whnf
      refine cond_s (fun w26 => ?_) (fun w26 => ?_)
      · replace hm := ift (not_t (ni_t w26)) hm
        conv => whnf
        refine RStep.of (len_slice rfl ?_)
        conv => whnf
        refine eq_int ?_
        obtain ⟨x33, e33, hm⟩ := bnd hm
        conv => whnf
        refine cond_s (fun g30_6 => ?_) (fun g30_6 => ?_)
        · replace e33 := ift g30_6 e33
          conv => whnf
          refine cond_t g30_6 ?_
          obtain ⟨x32, q32, e33⟩ := bnd e33
          conv => whnf
          refine call_fn (base_Is_ok q32) .nil ?_
          rintro _ K32 _ l32 ⟨rfl, rfl⟩
          conv => whnf
          refine cond_t g30_6 ?_
          obtain rfl := si hm
          conv => whnf
          refine EndStep.mk _ (((l7.trans l17).trans l22).trans l32) ⟨(by rw [← (si e33)] <;> rfl), rfl⟩ (ConvH.of (.cons r2 .nil))
        · replace e33 := iff_ g30_6 e33
          conv => whnf
          refine cond_f g30_6 ?_
          conv => whnf
          refine cond_f g30_6 ?_
          obtain rfl := si hm
          conv => whnf
          refine EndStep.mk _ ((l7.trans l17).trans l22) ⟨(by rw [← ((si e33).symm).symm] <;> rfl), rfl⟩ (ConvH.of (.cons r2 .nil))
      · replace hm := iff_ (not_f (ni_f w26)) hm
        conv => whnf
        refine eq_err rfl ?_
        obtain ⟨x40, e40, hm⟩ := bnd hm
        conv => whnf
        refine cond_s (fun g36_7 => ?_) (fun g36_7 => ?_)
        · replace e40 := ift g36_7 e40
          conv => whnf
          refine cond_t g36_7 ?_
          conv => whnf
          refine cond_t g36_7 ?_
          obtain ⟨x39, q39, e40⟩ := bnd e40
          conv => whnf
          refine call_fn (Fn.lend Try.call13 (fun K39_0 l39_0 f39_0 => (Fn.lend Try.call13 (fun K39_1 l39_1 f39_1 => (base_Texts_ok q39 (f39_0.mono l39_1) rfl f39_1 rfl)) (by exact fun _ _ _ _ h => h))) (by exact fun _ _ _ _ h => h)) (.cons r1 (.cons r0 .nil)) ?_
          rintro _ K39 _ l39 ⟨_, rfl, _, rfl, rfl, rfl⟩
          conv => whnf
          refine cond_t g36_7 ?_
          obtain rfl := si hm
          conv => whnf
          refine EndStep.mk _ (((l7.trans l17).trans l22).trans l39) ⟨(by rw [← (si e40)] <;> rfl), rfl⟩ (ConvH.of (.cons r2 .nil))
        · replace e40 := iff_ g36_7 e40
          conv => whnf
          refine cond_f g36_7 ?_
          conv => whnf
          refine cond_f g36_7 ?_
          conv => whnf
          refine cond_f g36_7 ?_
          obtain rfl := si hm
          conv => whnf
          refine EndStep.mk _ ((l7.trans l17).trans l22) ⟨(by rw [← ((si e40).symm).symm] <;> rfl), rfl⟩ (ConvH.of (.cons r2 .nil))
