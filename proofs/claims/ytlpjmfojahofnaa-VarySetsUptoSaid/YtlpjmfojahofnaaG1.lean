/- Functions of the program: mirrors, and that a call returns what the mirror says. Printed by gen.py. -/
import Derived.Test.YtlpjmfojahofnaaShelf
import Derived.Test.YtlpjmfojahofnaaSL34
import Derived.KernelRfl
import Derived.Test.YtlpjmfojahofnaaProg
set_option linter.unusedVariables false
set_option linter.unusedSimpArgs false
open Go Go.SL Go.Proofs
set_option maxRecDepth 1000000
structure S_ref02_Field where
  Name : Str
  Value : Str
abbrev S_ref02_Field.enc (x : S_ref02_Field) : List Go.Value := [str x.Name, str x.Value]
structure S_law16_Step where
  What : UInt8
  Names : (List Str)
  FZ : (List S_ref02_Field)
  ID : Int
def S_law16_Step.R : Rp S_law16_Step := fun K cs x => ∃ a_0 : Option Addr, ∃ c_0 : Nat, ∃ a_1 : Option Addr, ∃ c_1 : Nat, cs = [.int .u8 (x.What.toNat : Int), .slice a_0 x.Names.length c_0, .slice a_1 x.FZ.length c_1, .int .i8 x.ID] ∧ RdC eS K a_0 c_0 1 x.Names ∧ RdC S_ref02_Field.enc K a_1 c_1 2 x.FZ
theorem S_law16_Step.R_ok : RpOK 4 S_law16_Step.R :=
  ⟨fun hk ⟨a_0, c_0, a_1, c_1, e, h_0, h_1⟩ => ⟨a_0, c_0, a_1, c_1, e, (h_0.mono hk), (h_1.mono hk)⟩, fun ⟨a_0, c_0, a_1, c_1, e, h_0, h_1⟩ => by simp [e], fun ⟨a_0, c_0, a_1, c_1, e, h_0, h_1⟩ v hv => by rw [e] at hv; simp at hv; rcases hv with rfl | rfl | rfl | rfl <;> rfl⟩
structure S_vary_variant where
  names : (List Str)
  key : Str
  id : Int
def S_vary_variant.R : Rp S_vary_variant := fun K cs x => ∃ a_0 : Option Addr, ∃ c_0 : Nat, cs = [.slice a_0 x.names.length c_0, str x.key, .int .i64 x.id] ∧ RdC eS K a_0 c_0 1 x.names
theorem S_vary_variant.R_ok : RpOK 3 S_vary_variant.R :=
  ⟨fun hk ⟨a_0, c_0, e, h_0⟩ => ⟨a_0, c_0, e, (h_0.mono hk)⟩, fun ⟨a_0, c_0, e, h_0⟩ => by simp [e], fun ⟨a_0, c_0, e, h_0⟩ v hv => by rw [e] at hv; simp at hv; rcases hv with rfl | rfl | rfl <;> rfl⟩
structure S_vary_Set where
  list : (List S_vary_variant)
def S_vary_Set.R : Rp S_vary_Set := fun K cs x => ∃ a_0 : Option Addr, ∃ c_0 : Nat, cs = [.slice a_0 x.list.length c_0] ∧ LiC S_vary_variant.R K a_0 c_0 3 x.list
theorem S_vary_Set.R_ok : RpOK 1 S_vary_Set.R :=
  ⟨fun hk ⟨a_0, c_0, e, h_0⟩ => ⟨a_0, c_0, e, (LiC.mono S_vary_variant.R_ok hk h_0)⟩, fun ⟨a_0, c_0, e, h_0⟩ => by simp [e], fun ⟨a_0, c_0, e, h_0⟩ v hv => by rw [e] at hv; simp at hv; rcases hv with rfl <;> rfl⟩
structure S_field_Field where
  Name : Str
  Value : Str
abbrev S_field_Field.enc (x : S_field_Field) : List Go.Value := [str x.Name, str x.Value]
structure S_ref16_Variant where
  Names : (List Str)
  Key : Str
  ID : Int
def S_ref16_Variant.R : Rp S_ref16_Variant := fun K cs x => ∃ a_0 : Option Addr, ∃ c_0 : Nat, cs = [.slice a_0 x.Names.length c_0, str x.Key, .int .i64 x.ID] ∧ RdC eS K a_0 c_0 1 x.Names
theorem S_ref16_Variant.R_ok : RpOK 3 S_ref16_Variant.R :=
  ⟨fun hk ⟨a_0, c_0, e, h_0⟩ => ⟨a_0, c_0, e, (h_0.mono hk)⟩, fun ⟨a_0, c_0, e, h_0⟩ => by simp [e], fun ⟨a_0, c_0, e, h_0⟩ v hv => by rw [e] at hv; simp at hv; rcases hv with rfl | rfl | rfl <;> rfl⟩
theorem elT29 : ElT Try.prog 29 65 2 := ElT.mk' rfl rfl rfl rfl rfl
theorem elT22 : ElT Try.prog 22 9 1 := ElT.mk' rfl rfl rfl rfl rfl
theorem elT87 : ElT Try.prog 87 5 1 := ElT.mk' rfl rfl rfl rfl rfl
theorem elT73 : ElT Try.prog 73 78 3 := ElT.mk' rfl rfl rfl rfl rfl
theorem elT35 : ElT Try.prog 35 3 1 := ElT.mk' rfl rfl rfl rfl rfl
theorem elT64 : ElT Try.prog 64 23 1 := ElT.mk' rfl rfl rfl rfl rfl
theorem elT55 : ElT Try.prog 55 84 3 := ElT.mk' rfl rfl rfl rfl rfl
noncomputable def vary_New : Option (S_vary_Set) :=
  some (⟨[]⟩ : S_vary_Set)
set_option maxHeartbeats 8000000 in
theorem vary_New_ok  {K : Hp} {r : S_vary_Set}
    (hm : vary_New = some r)  :
    Fn Try.prog 15 [] K [] (fun v K' H' => ∃ br_0 : Nat, ∃ ar_1 : Option Addr, ∃ cr_1 : Nat, ∃ sr_1 : List (List Value), v = .pointer (some ⟨br_0, 0, none⟩) ∧ (0 < r.list.length → Has ar_1) ∧ LR S_vary_variant.R K' sr_1 r.list ∧ H' = [Cells br_0 75 [.slice ar_1 r.list.length cr_1], OwnA ar_1 78 3 cr_1 sr_1]) := by
  refine Fn.enter Try.func15 Try.call15 rfl fun F => ?_
  unfold vary_New at hm
  conv => whnf
  refine build_struct rfl rfl ?_
  conv => whnf
  refine box_rule ?_
  intro b2
  obtain rfl := si hm
  conv => whnf
  refine nilE (fun _ : S_vary_variant => []) 78 3 ?_
  refine EndStep.mk _ (Hp.Le.refl _) ⟨b2, none, 0, [], rfl, (fun h => by simp at h), LR.nil, rfl⟩ (ConvH.of (.cons r1 (.cons r0 (.cons r0 .nil))))

noncomputable def slices_Clone_string (s : (List Str)) : Option ((List Str)) :=
  (chk (([] : List Str).length + s.length ≤ lim)).bind fun _ =>
  some (([] : List Str) ++ s)
set_option maxHeartbeats 8000000 in
theorem slices_Clone_string_ok {s : (List Str)} {ap0_0 : Option Addr} {cp0_0 : Nat} {n0 : Nat} {K : Hp} {r : (List Str)}
    (hm : slices_Clone_string s = some r) (hp0_0 : RdC eS K ap0_0 cp0_0 1 s) (en0 : n0 = s.length) :
    Fn Try.prog 34 [.slice ap0_0 n0 cp0_0] K [] (fun v K' H' => ∃ ar_0 : Option Addr, ∃ cr_0 : Nat, v = .slice ar_0 r.length cr_0 ∧ (0 < r.length → Has ar_0) ∧ H' = [OwnL eS ar_0 9 1 cr_0 r]) := by
  subst en0
  refine Fn.enter Try.func34 Try.call34 rfl fun F => ?_
  unfold slices_Clone_string at hm
  rcases Classical.em (ap0_0 = none) with hz | hz
  · subst hz
    obtain rfl := RdC.none_nil hp0_0
    obtain ⟨_, hm⟩ := chkb hm
    obtain rfl := si hm
    conv => whnf
    refine eq_snil_nil rfl ?_
    conv => whnf
    refine cond_go rfl ?_
    conv => whnf
    refine cond_T ?_
    conv => whnf
    refine nilE eS 9 1 ?_
    refine EndStep.mk _ (Hp.Le.refl _) ⟨none, 0, rfl, (fun h => by simp at h), rfl⟩ (ConvH.of (.cons r0 (.cons r0 .nil)))
  · conv => whnf
    refine eq_slice_ne hz rfl ?_
    conv => whnf
    refine cond_go rfl ?_
    conv => whnf
    refine cond_F ?_
    conv => whnf
    refine bsO (len := 0) (enc := eS) (l := ([] : List Str)) (cl := []) elT22 rfl rfl (fun _ _ => rfl) rfl rfl rfl ?_ fun b5 => ?_
    · conv => whnf
      first | done | rfl
    obtain ⟨h7, hm⟩ := chkb hm
    conv => whnf
    refine apE rfl r0 elT22 (src_k rfl hp0_0.rd rfl) h7 ?_
    intro a7 c7 o7
    obtain rfl := si hm
    conv => whnf
    refine EndStep.mk _ (Hp.Le.refl _) ⟨a7, c7, rfl, o7, rfl⟩ (ConvH.of (.cons r0 (.cons r0 .nil)))

noncomputable def field_lower_L0 : Nat → Nat → Str → Option (Str)
  | 0, _, y0_0 => some y0_0
  | xs0 + 1, i0, y0_0 =>
    (ix y0_0 (i0 : Int)).bind fun x13 =>
    if (decide ((x13.toNat : Int) ≥ 65) && decide ((x13.toNat : Int) ≤ 90)) then
    (ix y0_0 (i0 : Int)).bind fun x25 =>
    field_lower_L0 xs0 (i0 + 1) (y0_0.set (((i0 : Int)).toNat) (x13 + (32 : UInt8)))
    else
    field_lower_L0 xs0 (i0 + 1) y0_0
noncomputable def field_lower (s : Str) : Option (Str) :=
  (chk (s.length ≤ lim)).bind fun _ =>
  (chk (InI (s.length : Int))).bind fun _ =>
  (field_lower_L0 (s.length : Int).toNat 0 s).bind fun t0 =>
  some t0
set_option maxHeartbeats 8000000 in
theorem field_lower_ok {s : Str} {K : Hp} {r : Str}
    (hm : field_lower s = some r)  :
    Fn Try.prog 40 [str s] K [] (fun v K' H' => v = str r ∧ H' = []) := by
  refine Fn.enter Try.func40 Try.call40 rfl fun F => ?_
  unfold field_lower at hm
  obtain ⟨h7, hm⟩ := chkb hm
  conv => whnf
  refine cv_bytes rfl rfl rfl h7 ?_
  intro a7 c7 o7
  conv => whnf
  refine RStep.of (len_slice rfl ?_)
  obtain ⟨hk0, hm⟩ := chkb hm
  obtain ⟨s0, hl0, hm⟩ := bnd hm
  conv => whnf
  refine code_cut (σ := (Str)) [4, 5, 10, 11, 12, 13, 14, 15, 16, 17, 18, 19, 20, 21, 22, 23, 24, 25, 26] (fun t0 => []) (fun t0 => [OwnL eU a7 5 1 c7 t0, F]) (fun zz K1 => match zz with | t0 => (0 < t0.length → Has a7) ∧ s.length = t0.length ∧ t0 = s0) ?_ ?_
  · refine block_go rfl ?_
    conv => whnf
    refine loop_rule (σ := Nat × Str) [4, 5, 10, 11, 12, 13, 14, 15, 16, 17, 18, 19, 20, 21, 22, 23, 24, 25, 26] (fun (i0, y0_0) => [(10, .int .i64 (i0 : Int))]) (fun (i0, y0_0) => [OwnL eU a7 5 1 c7 y0_0, F]) (fun zz K1 => match zz with | (i0, y0_0) => (0 < y0_0.length → Has a7) ∧ s.length = y0_0.length ∧ field_lower_L0 ((s.length : Int).toNat - i0) i0 y0_0 = some s0) (fun zz => (s.length : Int).toNat - zz.1) (0, s) rfl ⟨rfl, trivial⟩ (ConvH.of (.cons r0 (.cons r0 .nil))) ⟨o7, rfl, hl0⟩ ?_
    clear hl0
    rintro ⟨i0, y0_0⟩ Kb0 lk0 ⟨y0_h0, y0_n0, hl0⟩ j0
    conv => whnf
    refine cond_go rfl ?_
    conv => whnf
    refine cond_s (fun w0 => ?_) (fun w0 => ?_)
    · rw [ltn w0, field_lower_L0.eq_2] at hl0
      conv => whnf
      refine block_go rfl ?_
      obtain ⟨x13, l13, k13, hl0⟩ := ixb hl0
      conv => whnf
      refine RStep.ofN (index_addr rfl rfl (hasO y0_h0 k13) l13 (lt_ofE y0_n0 l13 k13) ?_)
      conv => whnf
      refine RStep.of (ld_own (i := ((i0 : Int)).toNat) (o := 0) r0 rfl k13 rfl rfl ?_)
      conv => whnf
      refine cond_s (fun g17_5 => ?_) (fun g17_5 => ?_)
      · conv => whnf
        refine cond_t g17_5 ?_
        conv => whnf
        refine cond_t g17_5 ?_
        conv => whnf
        refine cond_go rfl ?_
        conv => whnf
        refine cond_s (fun w20 => ?_) (fun w20 => ?_)
        · replace hl0 := ift (and_t g17_5 w20) hl0
          conv => whnf
          refine u8_addS (x := x13) (y := (32 : UInt8)) rfl rfl ?_
          obtain ⟨x25, l25, k25, hl0⟩ := ixb hl0
          conv => whnf
          refine RStep.ofN (index_addr rfl rfl (hasO y0_h0 k25) l25 (lt_ofE y0_n0 l25 k25) ?_)
          conv => whnf
          refine st_own (o := 0) (y := (x13 + (32 : UInt8))) x25 r0 rfl k25 rfl (by (conv => whnf); exact ⟨rfl, rfl, (Nat.le_of_ble_eq_true rfl), rfl, rfl, rfl⟩) ?_
          conv => whnf
          refine int_in (cntn w0 hk0) ?_
          conv => whnf
          refine RoundStep.mk (i0 + 1, (y0_0.set (((i0 : Int)).toNat) (x13 + (32 : UInt8)))) ⟨rfl, trivial⟩ (by repeat (first | exact trivial | refine And.intro rfl ?_)) (ConvH.of (.cons r0 (.cons r0 .nil))) lk0 (ltnm w0) ⟨(by simpa using y0_h0), ((y0_n0).trans List.length_set.symm), hl0⟩
        · replace hl0 := iff_ (and_g g17_5 w20) hl0
          conv => whnf
          refine int_in (cntn w0 hk0) ?_
          conv => whnf
          refine RoundStep.mk (i0 + 1, y0_0) ⟨rfl, trivial⟩ (by repeat (first | exact trivial | refine And.intro rfl ?_)) (ConvH.of (.cons r0 (.cons r0 .nil))) lk0 (ltnm w0) ⟨y0_h0, y0_n0, hl0⟩
      · conv => whnf
        refine cond_f g17_5 ?_
        conv => whnf
        refine cond_f g17_5 ?_
        conv => whnf
        refine cond_go rfl ?_
        conv => whnf
        refine cond_F ?_
        replace hl0 := iff_ (and_f g17_5) hl0
        conv => whnf
        refine int_in (cntn w0 hk0) ?_
        conv => whnf
        refine RoundStep.mk (i0 + 1, y0_0) ⟨rfl, trivial⟩ (by repeat (first | exact trivial | refine And.intro rfl ?_)) (ConvH.of (.cons r0 (.cons r0 .nil))) lk0 (ltnm w0) ⟨y0_h0, y0_n0, hl0⟩
    · rw [lto w0, field_lower_L0.eq_1] at hl0
      conv => whnf
      refine cond_T ?_
      conv => whnf
      refine MeetStep.mk (y0_0) trivial (by repeat (first | exact trivial | refine And.intro rfl ?_)) (ConvH.of (.cons r0 (.cons r0 .nil))) lk0 ⟨y0_h0, y0_n0, (si hl0)⟩
  · rintro t0 Kt0 lt0 ⟨t0_h0, t0_n0, rfl⟩ j0
    conv => whnf
    refine RStep.of (cv_ownE t0_n0 r0 rfl rfl rfl ?_)
    obtain rfl := si hm
    conv => whnf
    refine EndStep.mk _ lt0 ⟨rfl, rfl⟩ (ConvH.of (.cons r1 .nil))

noncomputable def field_All_L0 (x9 : Str) : List S_field_Field → Nat → (List Str) → Option ((List Str))
  | [], _, y0_0 => some y0_0
  | e0 :: xs0, i0, y0_0 =>
    (field_lower e0.Name).bind fun x18 =>
    if decide (x18 = x9) then
    (chk (y0_0.length + [e0.Value].length ≤ lim)).bind fun _ =>
    field_All_L0 x9 xs0 (i0 + 1) (y0_0 ++ [e0.Value])
    else
    field_All_L0 x9 xs0 (i0 + 1) y0_0
noncomputable def field_All (f : (List S_field_Field)) (name : Str) : Option ((List Str)) :=
  (field_lower name).bind fun x9 =>
  (chk (f.length ≤ szMax)).bind fun _ =>
  (field_All_L0 x9 f 0 []).bind fun t0 =>
  some t0
set_option maxHeartbeats 8000000 in
theorem field_All_ok {f : (List S_field_Field)} {name : Str} {ap0_0 : Option Addr} {cp0_0 : Nat} {n0 : Nat} {K : Hp} {r : (List Str)}
    (hm : field_All f name = some r) (hp0_0 : RdC S_field_Field.enc K ap0_0 cp0_0 2 f) (en0 : n0 = f.length) :
    Fn Try.prog 29 [.slice ap0_0 n0 cp0_0, str name] K [] (fun v K' H' => ∃ ar_0 : Option Addr, ∃ cr_0 : Nat, v = .slice ar_0 r.length cr_0 ∧ (0 < r.length → Has ar_0) ∧ H' = [OwnL eS ar_0 9 1 cr_0 r]) := by
  subst en0
  refine Fn.enter Try.func29 Try.call29 rfl fun F => ?_
  unfold field_All at hm
  obtain ⟨x9, q9, hm⟩ := bnd hm
  conv => whnf
  refine call_fn (field_lower_ok (s := name) q9) .nil ?_
  rintro _ K9 _ l9 ⟨rfl, rfl⟩
  conv => whnf
  refine RStep.of (len_slice rfl ?_)
  obtain ⟨hk0, hm⟩ := chkb hm
  obtain ⟨s0, hl0, hm⟩ := bnd hm
  conv => whnf
  refine nilC eS 9 1 ?_
  refine code_cut (σ := ((List Str)) × Option Addr × Nat) [5, 7, 12, 13, 14, 15, 16, 17, 18, 19, 20, 21, 22, 23, 24, 25, 26] (fun (t0, t0_a0, t0_c0) => [(5, .slice t0_a0 t0.length t0_c0)]) (fun (t0, t0_a0, t0_c0) => [OwnL eS t0_a0 9 1 t0_c0 t0, F]) (fun zz K1 => match zz with | (t0, t0_a0, t0_c0) => (0 < t0.length → Has t0_a0) ∧ t0 = s0) ?_ ?_
  · refine block_go rfl ?_
    conv => whnf
    refine loop_rule (σ := Nat × (List Str) × Option Addr × Nat) [5, 7, 12, 13, 14, 15, 16, 17, 18, 19, 20, 21, 22, 23, 24, 25, 26] (fun (i0, y0_0, y0_a0, y0_c0) => [(12, .int .i64 (i0 : Int)), (5, .slice y0_a0 y0_0.length y0_c0)]) (fun (i0, y0_0, y0_a0, y0_c0) => [OwnL eS y0_a0 9 1 y0_c0 y0_0, F]) (fun zz K1 => match zz with | (i0, y0_0, y0_a0, y0_c0) => (0 < y0_0.length → Has y0_a0) ∧ field_All_L0 x9 (f.drop i0) i0 y0_0 = some s0) (fun zz => f.length - zz.1) (0, [], none, 0) rfl ⟨rfl, rfl, trivial⟩ (ConvH.of (.cons r0 (.cons r0 .nil))) ⟨(fun h => by simp at h), hl0⟩ ?_
    clear hl0
    rintro ⟨i0, y0_0, y0_a0, y0_c0⟩ Kb0 lk0 ⟨y0_h0, hl0⟩ j0
    conv => whnf
    refine cond_go rfl ?_
    conv => whnf
    refine cond_s (fun w0 => ?_) (fun w0 => ?_)
    · obtain ⟨e0, hx0, hd0⟩ := ltx w0
      rw [hd0, field_All_L0.eq_2] at hl0
      conv => whnf
      refine block_go rfl ?_
      conv => whnf
      refine RStep.ofN (index_addr rfl rfl (hasK (hp0_0.mono (l9.trans lk0)).rd hx0) (nn _) (lt_ofN hx0) ?_)
      conv => whnf
      refine RStep.of (load_rd_agg i0 _ (hp0_0.mono (l9.trans lk0)).rd rfl (mp hx0) rfl ?_)
      conv => whnf
      refine alloc_rule rfl ?_
      intro b7
      conv => whnf
      refine store_rule r0 rfl ?_
      conv => whnf
      refine ⟨rfl, rfl, (Nat.le_of_ble_eq_true rfl), ?_⟩
      conv => whnf
      refine field_addr rfl ?_
      conv => whnf
      refine RStep.of (load1_s r0 rfl rfl ?_)
      obtain ⟨x18, q18, hl0⟩ := bnd hl0
      conv => whnf
      refine call_fn (field_lower_ok (s := e0.Name) q18) .nil ?_
      rintro _ K18 _ l18 ⟨rfl, rfl⟩
      conv => whnf
      refine eq_str ?_
      conv => whnf
      refine cond_go rfl ?_
      conv => whnf
      refine cond_s (fun w20 => ?_) (fun w20 => ?_)
      · replace hl0 := ift w20 hl0
        conv => whnf
        refine field_addr rfl ?_
        conv => whnf
        refine RStep.of (load1_s r0 rfl rfl ?_)
        conv => whnf
        refine bsO (len := 1) (enc := eS) (l := [e0.Value]) (cl := [str e0.Value]) elT22 rfl rfl (fun _ _ => rfl) rfl rfl rfl ?_ fun b24 => ?_
        · conv => whnf
          refine cond_T ?_
          conv => whnf
          first | done | rfl
        obtain ⟨h25, hl0⟩ := chkb hl0
        conv => whnf
        refine apE rfl r2 elT22 (src_own' rfl r0 rfl (fun _ => rfl) (fun _ => rfl)) h25 ?_
        intro a25 c25 o25
        conv => whnf
        refine int_in (cntz hx0 hk0) ?_
        conv => whnf
        refine RoundStep.mk (i0 + 1, (y0_0 ++ [e0.Value]), a25, c25) ⟨rfl, rfl, trivial⟩ (by repeat (first | exact trivial | refine And.intro rfl ?_)) (ConvH.of (.cons r0 (.cons r2 .nil))) (lk0.trans l18) (ltm hx0) ⟨o25, hl0⟩
      · replace hl0 := iff_ w20 hl0
        conv => whnf
        refine int_in (cntz hx0 hk0) ?_
        conv => whnf
        refine RoundStep.mk (i0 + 1, y0_0, y0_a0, y0_c0) ⟨rfl, rfl, trivial⟩ (by repeat (first | exact trivial | refine And.intro rfl ?_)) (ConvH.of (.cons r1 (.cons r1 .nil))) (lk0.trans l18) (ltm hx0) ⟨y0_h0, hl0⟩
    · rw [lty w0, field_All_L0.eq_1] at hl0
      conv => whnf
      refine cond_T ?_
      conv => whnf
      refine MeetStep.mk (y0_0, y0_a0, y0_c0) ⟨rfl, trivial⟩ (by repeat (first | exact trivial | refine And.intro rfl ?_)) (ConvH.of (.cons r0 (.cons r0 .nil))) lk0 ⟨y0_h0, (si hl0)⟩
  · rintro ⟨t0, t0_a0, t0_c0⟩ Kt0 lt0 ⟨t0_h0, rfl⟩ j0
    obtain rfl := si hm
    conv => whnf
    refine EndStep.mk _ (l9.trans lt0) ⟨t0_a0, t0_c0, rfl, t0_h0, rfl⟩ (ConvH.of (.cons r0 (.cons r0 .nil)))

noncomputable def vary_normal_L0 : List UInt8 → Nat → Str → Bool → Option (Str × Bool)
  | [], _, y0_0, y0_1 => some (y0_0, y0_1)
  | e0 :: xs0, i0, y0_0, y0_1 =>
    if (decide ((e0.toNat : Int) = 32) || decide ((e0.toNat : Int) = 9)) then
    vary_normal_L0 xs0 (i0 + 1) y0_0 true
    else
    if (y0_1 && decide ((y0_0.length : Int) > 0)) then
    (chk (y0_0.length + ([(32 : UInt8)] : Str).length ≤ lim)).bind fun _ =>
    if (decide ((e0.toNat : Int) < 32) || decide ((e0.toNat : Int) = 127)) then
    (chk ((y0_0 ++ ([(32 : UInt8)] : Str)).length + ([(63 : UInt8)] : Str).length ≤ lim)).bind fun _ =>
    vary_normal_L0 xs0 (i0 + 1) ((y0_0 ++ ([(32 : UInt8)] : Str)) ++ ([(63 : UInt8)] : Str)) false
    else
    (chk ((y0_0 ++ ([(32 : UInt8)] : Str)).length + ([e0] : Str).length ≤ lim)).bind fun _ =>
    vary_normal_L0 xs0 (i0 + 1) ((y0_0 ++ ([(32 : UInt8)] : Str)) ++ ([e0] : Str)) false
    else
    if (decide ((e0.toNat : Int) < 32) || decide ((e0.toNat : Int) = 127)) then
    (chk (y0_0.length + ([(63 : UInt8)] : Str).length ≤ lim)).bind fun _ =>
    vary_normal_L0 xs0 (i0 + 1) (y0_0 ++ ([(63 : UInt8)] : Str)) false
    else
    (chk (y0_0.length + ([e0] : Str).length ≤ lim)).bind fun _ =>
    vary_normal_L0 xs0 (i0 + 1) (y0_0 ++ ([e0] : Str)) false
noncomputable def vary_normal (s : Str) : Option (Str) :=
  (chk (s.length ≤ lim)).bind fun _ =>
  (chk (s.length ≤ szMax)).bind fun _ =>
  (vary_normal_L0 s 0 [] false).bind fun t0 =>
  some t0.1
set_option maxHeartbeats 8000000 in
theorem vary_normal_ok {s : Str} {K : Hp} {r : Str}
    (hm : vary_normal s = some r)  :
    Fn Try.prog 30 [str s] K [] (fun v K' H' => v = str r ∧ H' = []) := by
  refine Fn.enter Try.func30 Try.call30 rfl fun F => ?_
  unfold vary_normal at hm
  obtain ⟨h8, hm⟩ := chkb hm
  conv => whnf
  refine cv_bytes rfl rfl rfl h8 ?_
  intro a8 c8 o8
  conv => whnf
  refine RStep.of (len_slice rfl ?_)
  obtain ⟨hk0, hm⟩ := chkb hm
  obtain ⟨s0, hl0, hm⟩ := bnd hm
  conv => whnf
  refine nilC eU 5 1 ?_
  refine code_cut (σ := (Str × Bool) × Option Addr × Nat) [3, 4, 6, 10, 11, 12, 13, 14, 15, 16, 17, 18, 19, 20, 21, 22, 23, 24, 25, 26, 27, 28, 29, 30, 31, 32, 33, 34, 35, 36, 37, 38, 39] (fun (t0, t0_a0, t0_c0) => [(3, .slice t0_a0 t0.1.length t0_c0), (4, .bool t0.2)]) (fun (t0, t0_a0, t0_c0) => [OwnL eU t0_a0 5 1 t0_c0 t0.1, OwnL eU a8 5 1 c8 s, F]) (fun zz K1 => match zz with | (t0, t0_a0, t0_c0) => (0 < t0.1.length → Has t0_a0) ∧ t0 = s0) ?_ ?_
  · refine block_go rfl ?_
    conv => whnf
    refine loop_rule (σ := Nat × Str × Bool × Option Addr × Nat) [3, 4, 6, 10, 11, 12, 13, 14, 15, 16, 17, 18, 19, 20, 21, 22, 23, 24, 25, 26, 27, 28, 29, 30, 31, 32, 33, 34, 35, 36, 37, 38, 39] (fun (i0, y0_0, y0_1, y0_a0, y0_c0) => [(10, .int .i64 (i0 : Int)), (3, .slice y0_a0 y0_0.length y0_c0), (4, .bool y0_1)]) (fun (i0, y0_0, y0_1, y0_a0, y0_c0) => [OwnL eU y0_a0 5 1 y0_c0 y0_0, OwnL eU a8 5 1 c8 s, F]) (fun zz K1 => match zz with | (i0, y0_0, y0_1, y0_a0, y0_c0) => (0 < y0_0.length → Has y0_a0) ∧ vary_normal_L0 (s.drop i0) i0 y0_0 y0_1 = some s0) (fun zz => s.length - zz.1) (0, [], false, none, 0) rfl ⟨rfl, rfl, rfl, trivial⟩ (ConvH.of (.cons r0 (.cons r0 (.cons r0 .nil)))) ⟨(fun h => by simp at h), hl0⟩ ?_
    clear hl0
    rintro ⟨i0, y0_0, y0_1, y0_a0, y0_c0⟩ Kb0 lk0 ⟨y0_h0, hl0⟩ j0
    conv => whnf
    refine cond_go rfl ?_
    conv => whnf
    refine cond_s (fun w0 => ?_) (fun w0 => ?_)
    · obtain ⟨e0, hx0, hd0⟩ := ltx w0
      rw [hd0, vary_normal_L0.eq_2] at hl0
      conv => whnf
      refine block_go rfl ?_
      conv => whnf
      refine RStep.ofN (index_addr rfl rfl (hasO o8 hx0) (nn _) (lt_ofNE rfl hx0) ?_)
      conv => whnf
      refine RStep.of (ld_own (i := i0) (o := 0) r1 rfl hx0 rfl rfl ?_)
      conv => whnf
      refine eq_int ?_
      conv => whnf
      refine cond_s (fun g16_6 => ?_) (fun g16_6 => ?_)
      · conv => whnf
        refine cond_t g16_6 ?_
        conv => whnf
        refine cond_t g16_6 ?_
        conv => whnf
        refine cond_go rfl ?_
        conv => whnf
        refine cond_T ?_
        replace hl0 := ift (or_t g16_6) hl0
        conv => whnf
        refine cond_T ?_
        conv => whnf
        refine int_in (cntz hx0 hk0) ?_
        conv => whnf
        refine RoundStep.mk (i0 + 1, y0_0, true, y0_a0, y0_c0) ⟨rfl, rfl, rfl, trivial⟩ (by repeat (first | exact trivial | refine And.intro rfl ?_)) (ConvH.of (.cons r0 (.cons r0 (.cons r0 .nil)))) lk0 (ltm hx0) ⟨y0_h0, hl0⟩
      · conv => whnf
        refine cond_f g16_6 ?_
        conv => whnf
        refine eq_int ?_
        conv => whnf
        refine cond_f g16_6 ?_
        conv => whnf
        refine cond_go rfl ?_
        conv => whnf
        refine cond_s (fun w19 => ?_) (fun w19 => ?_)
        · replace hl0 := ift (or_u g16_6 w19) hl0
          conv => whnf
          refine cond_T ?_
          conv => whnf
          refine int_in (cntz hx0 hk0) ?_
          conv => whnf
          refine RoundStep.mk (i0 + 1, y0_0, true, y0_a0, y0_c0) ⟨rfl, rfl, rfl, trivial⟩ (by repeat (first | exact trivial | refine And.intro rfl ?_)) (ConvH.of (.cons r0 (.cons r0 (.cons r0 .nil)))) lk0 (ltm hx0) ⟨y0_h0, hl0⟩
        · replace hl0 := iff_ (or_f g16_6 w19) hl0
          conv => whnf
          refine cond_s (fun g21_8 => ?_) (fun g21_8 => ?_)
          · conv => whnf
            refine cond_t g21_8 ?_
            conv => whnf
            refine RStep.of (len_slice rfl ?_)
            conv => whnf
            refine cond_t g21_8 ?_
            conv => whnf
            refine cond_t g21_8 ?_
            conv => whnf
            refine cond_go rfl ?_
            conv => whnf
            refine cond_s (fun w25 => ?_) (fun w25 => ?_)
            · replace hl0 := ift (and_t g21_8 w25) hl0
              conv => whnf
              refine bsO (len := 1) (enc := eU) (l := ([(32 : UInt8)] : Str)) (cl := [.int .u8 32]) elT87 rfl rfl (fun _ _ => rfl) rfl rfl rfl ?_ fun b27 => ?_
              · conv => whnf
                refine cond_T ?_
                conv => whnf
                first | done | rfl
              obtain ⟨h28, hl0⟩ := chkb hl0
              conv => whnf
              refine apE rfl r1 elT87 (src_own' rfl r0 rfl (fun _ => rfl) (fun _ => rfl)) h28 ?_
              intro a28 c28 o28
              conv => whnf
              refine cond_s (fun g31_11 => ?_) (fun g31_11 => ?_)
              · conv => whnf
                refine cond_t g31_11 ?_
                conv => whnf
                refine cond_t g31_11 ?_
                conv => whnf
                refine cond_go rfl ?_
                conv => whnf
                refine cond_T ?_
                replace hl0 := ift (or_t g31_11) hl0
                conv => whnf
                refine bsO (len := 1) (enc := eU) (l := ([(63 : UInt8)] : Str)) (cl := [.int .u8 63]) elT87 rfl rfl (fun _ _ => rfl) rfl rfl rfl ?_ fun b37 => ?_
                · conv => whnf
                  refine cond_T ?_
                  conv => whnf
                  first | done | rfl
                obtain ⟨h38, hl0⟩ := chkb hl0
                conv => whnf
                refine apE rfl r1 elT87 (src_own' rfl r0 rfl (fun _ => rfl) (fun _ => rfl)) h38 ?_
                intro a38 c38 o38
                conv => whnf
                refine int_in (cntz hx0 hk0) ?_
                conv => whnf
                refine RoundStep.mk (i0 + 1, ((y0_0 ++ ([(32 : UInt8)] : Str)) ++ ([(63 : UInt8)] : Str)), false, a38, c38) ⟨rfl, rfl, rfl, trivial⟩ (by repeat (first | exact trivial | refine And.intro rfl ?_)) (ConvH.of (.cons r0 (.cons r2 (.cons r2 .nil)))) lk0 (ltm hx0) ⟨o38, hl0⟩
              · conv => whnf
                refine cond_f g31_11 ?_
                conv => whnf
                refine eq_int ?_
                conv => whnf
                refine cond_f g31_11 ?_
                conv => whnf
                refine cond_go rfl ?_
                conv => whnf
                refine cond_s (fun w34 => ?_) (fun w34 => ?_)
                · replace hl0 := ift (or_u g31_11 w34) hl0
                  conv => whnf
                  refine bsO (len := 1) (enc := eU) (l := ([(63 : UInt8)] : Str)) (cl := [.int .u8 63]) elT87 rfl rfl (fun _ _ => rfl) rfl rfl rfl ?_ fun b37 => ?_
                  · conv => whnf
                    refine cond_T ?_
                    conv => whnf
                    first | done | rfl
                  obtain ⟨h38, hl0⟩ := chkb hl0
                  conv => whnf
                  refine apE rfl r1 elT87 (src_own' rfl r0 rfl (fun _ => rfl) (fun _ => rfl)) h38 ?_
                  intro a38 c38 o38
                  conv => whnf
                  refine int_in (cntz hx0 hk0) ?_
                  conv => whnf
                  refine RoundStep.mk (i0 + 1, ((y0_0 ++ ([(32 : UInt8)] : Str)) ++ ([(63 : UInt8)] : Str)), false, a38, c38) ⟨rfl, rfl, rfl, trivial⟩ (by repeat (first | exact trivial | refine And.intro rfl ?_)) (ConvH.of (.cons r0 (.cons r2 (.cons r2 .nil)))) lk0 (ltm hx0) ⟨o38, hl0⟩
                · replace hl0 := iff_ (or_f g31_11 w34) hl0
                  conv => whnf
                  refine bsO (len := 1) (enc := eU) (l := ([e0] : Str)) (cl := [.int .u8 (e0.toNat : Int)]) elT87 rfl rfl (fun _ _ => rfl) rfl rfl rfl ?_ fun b37 => ?_
                  · conv => whnf
                    refine cond_T ?_
                    conv => whnf
                    first | done | rfl
                  obtain ⟨h38, hl0⟩ := chkb hl0
                  conv => whnf
                  refine apE rfl r1 elT87 (src_own' rfl r0 rfl (fun _ => rfl) (fun _ => rfl)) h38 ?_
                  intro a38 c38 o38
                  conv => whnf
                  refine int_in (cntz hx0 hk0) ?_
                  conv => whnf
                  refine RoundStep.mk (i0 + 1, ((y0_0 ++ ([(32 : UInt8)] : Str)) ++ ([e0] : Str)), false, a38, c38) ⟨rfl, rfl, rfl, trivial⟩ (by repeat (first | exact trivial | refine And.intro rfl ?_)) (ConvH.of (.cons r0 (.cons r2 (.cons r2 .nil)))) lk0 (ltm hx0) ⟨o38, hl0⟩
            · replace hl0 := iff_ (and_g g21_8 w25) hl0
              conv => whnf
              refine cond_s (fun g31_11 => ?_) (fun g31_11 => ?_)
              · conv => whnf
                refine cond_t g31_11 ?_
                conv => whnf
                refine cond_t g31_11 ?_
                conv => whnf
                refine cond_go rfl ?_
                conv => whnf
                refine cond_T ?_
                replace hl0 := ift (or_t g31_11) hl0
                conv => whnf
                refine bsO (len := 1) (enc := eU) (l := ([(63 : UInt8)] : Str)) (cl := [.int .u8 63]) elT87 rfl rfl (fun _ _ => rfl) rfl rfl rfl ?_ fun b37 => ?_
                · conv => whnf
                  refine cond_T ?_
                  conv => whnf
                  first | done | rfl
                obtain ⟨h38, hl0⟩ := chkb hl0
                conv => whnf
                refine apE rfl r1 elT87 (src_own' rfl r0 rfl (fun _ => rfl) (fun _ => rfl)) h38 ?_
                intro a38 c38 o38
                conv => whnf
                refine int_in (cntz hx0 hk0) ?_
                conv => whnf
                refine RoundStep.mk (i0 + 1, (y0_0 ++ ([(63 : UInt8)] : Str)), false, a38, c38) ⟨rfl, rfl, rfl, trivial⟩ (by repeat (first | exact trivial | refine And.intro rfl ?_)) (ConvH.of (.cons r0 (.cons r1 (.cons r1 .nil)))) lk0 (ltm hx0) ⟨o38, hl0⟩
              · conv => whnf
                refine cond_f g31_11 ?_
                conv => whnf
                refine eq_int ?_
                conv => whnf
                refine cond_f g31_11 ?_
                conv => whnf
                refine cond_go rfl ?_
                conv => whnf
                refine cond_s (fun w34 => ?_) (fun w34 => ?_)
                · replace hl0 := ift (or_u g31_11 w34) hl0
                  conv => whnf
                  refine bsO (len := 1) (enc := eU) (l := ([(63 : UInt8)] : Str)) (cl := [.int .u8 63]) elT87 rfl rfl (fun _ _ => rfl) rfl rfl rfl ?_ fun b37 => ?_
                  · conv => whnf
                    refine cond_T ?_
                    conv => whnf
                    first | done | rfl
                  obtain ⟨h38, hl0⟩ := chkb hl0
                  conv => whnf
                  refine apE rfl r1 elT87 (src_own' rfl r0 rfl (fun _ => rfl) (fun _ => rfl)) h38 ?_
                  intro a38 c38 o38
                  conv => whnf
                  refine int_in (cntz hx0 hk0) ?_
                  conv => whnf
                  refine RoundStep.mk (i0 + 1, (y0_0 ++ ([(63 : UInt8)] : Str)), false, a38, c38) ⟨rfl, rfl, rfl, trivial⟩ (by repeat (first | exact trivial | refine And.intro rfl ?_)) (ConvH.of (.cons r0 (.cons r1 (.cons r1 .nil)))) lk0 (ltm hx0) ⟨o38, hl0⟩
                · replace hl0 := iff_ (or_f g31_11 w34) hl0
                  conv => whnf
                  refine bsO (len := 1) (enc := eU) (l := ([e0] : Str)) (cl := [.int .u8 (e0.toNat : Int)]) elT87 rfl rfl (fun _ _ => rfl) rfl rfl rfl ?_ fun b37 => ?_
                  · conv => whnf
                    refine cond_T ?_
                    conv => whnf
                    first | done | rfl
                  obtain ⟨h38, hl0⟩ := chkb hl0
                  conv => whnf
                  refine apE rfl r1 elT87 (src_own' rfl r0 rfl (fun _ => rfl) (fun _ => rfl)) h38 ?_
                  intro a38 c38 o38
                  conv => whnf
                  refine int_in (cntz hx0 hk0) ?_
                  conv => whnf
                  refine RoundStep.mk (i0 + 1, (y0_0 ++ ([e0] : Str)), false, a38, c38) ⟨rfl, rfl, rfl, trivial⟩ (by repeat (first | exact trivial | refine And.intro rfl ?_)) (ConvH.of (.cons r0 (.cons r1 (.cons r1 .nil)))) lk0 (ltm hx0) ⟨o38, hl0⟩
          · conv => whnf
            refine cond_f g21_8 ?_
            conv => whnf
            refine cond_f g21_8 ?_
            conv => whnf
            refine cond_f g21_8 ?_
            conv => whnf
            refine cond_go rfl ?_
            conv => whnf
            refine cond_F ?_
            replace hl0 := iff_ (and_f g21_8) hl0
            conv => whnf
            refine cond_s (fun g31_11 => ?_) (fun g31_11 => ?_)
            · conv => whnf
              refine cond_t g31_11 ?_
              conv => whnf
              refine cond_t g31_11 ?_
              conv => whnf
              refine cond_go rfl ?_
              conv => whnf
              refine cond_T ?_
              replace hl0 := ift (or_t g31_11) hl0
              conv => whnf
              refine bsO (len := 1) (enc := eU) (l := ([(63 : UInt8)] : Str)) (cl := [.int .u8 63]) elT87 rfl rfl (fun _ _ => rfl) rfl rfl rfl ?_ fun b37 => ?_
              · conv => whnf
                refine cond_T ?_
                conv => whnf
                first | done | rfl
              obtain ⟨h38, hl0⟩ := chkb hl0
              conv => whnf
              refine apE rfl r1 elT87 (src_own' rfl r0 rfl (fun _ => rfl) (fun _ => rfl)) h38 ?_
              intro a38 c38 o38
              conv => whnf
              refine int_in (cntz hx0 hk0) ?_
              conv => whnf
              refine RoundStep.mk (i0 + 1, (y0_0 ++ ([(63 : UInt8)] : Str)), false, a38, c38) ⟨rfl, rfl, rfl, trivial⟩ (by repeat (first | exact trivial | refine And.intro rfl ?_)) (ConvH.of (.cons r0 (.cons r1 (.cons r1 .nil)))) lk0 (ltm hx0) ⟨o38, hl0⟩
            · conv => whnf
              refine cond_f g31_11 ?_
              conv => whnf
              refine eq_int ?_
              conv => whnf
              refine cond_f g31_11 ?_
              conv => whnf
              refine cond_go rfl ?_
              conv => whnf
              refine cond_s (fun w34 => ?_) (fun w34 => ?_)
              · replace hl0 := ift (or_u g31_11 w34) hl0
                conv => whnf
                refine bsO (len := 1) (enc := eU) (l := ([(63 : UInt8)] : Str)) (cl := [.int .u8 63]) elT87 rfl rfl (fun _ _ => rfl) rfl rfl rfl ?_ fun b37 => ?_
                · conv => whnf
                  refine cond_T ?_
                  conv => whnf
                  first | done | rfl
                obtain ⟨h38, hl0⟩ := chkb hl0
                conv => whnf
                refine apE rfl r1 elT87 (src_own' rfl r0 rfl (fun _ => rfl) (fun _ => rfl)) h38 ?_
                intro a38 c38 o38
                conv => whnf
                refine int_in (cntz hx0 hk0) ?_
                conv => whnf
                refine RoundStep.mk (i0 + 1, (y0_0 ++ ([(63 : UInt8)] : Str)), false, a38, c38) ⟨rfl, rfl, rfl, trivial⟩ (by repeat (first | exact trivial | refine And.intro rfl ?_)) (ConvH.of (.cons r0 (.cons r1 (.cons r1 .nil)))) lk0 (ltm hx0) ⟨o38, hl0⟩
              · replace hl0 := iff_ (or_f g31_11 w34) hl0
                conv => whnf
                refine bsO (len := 1) (enc := eU) (l := ([e0] : Str)) (cl := [.int .u8 (e0.toNat : Int)]) elT87 rfl rfl (fun _ _ => rfl) rfl rfl rfl ?_ fun b37 => ?_
                · conv => whnf
                  refine cond_T ?_
                  conv => whnf
                  first | done | rfl
                obtain ⟨h38, hl0⟩ := chkb hl0
                conv => whnf
                refine apE rfl r1 elT87 (src_own' rfl r0 rfl (fun _ => rfl) (fun _ => rfl)) h38 ?_
                intro a38 c38 o38
                conv => whnf
                refine int_in (cntz hx0 hk0) ?_
                conv => whnf
                refine RoundStep.mk (i0 + 1, (y0_0 ++ ([e0] : Str)), false, a38, c38) ⟨rfl, rfl, rfl, trivial⟩ (by repeat (first | exact trivial | refine And.intro rfl ?_)) (ConvH.of (.cons r0 (.cons r1 (.cons r1 .nil)))) lk0 (ltm hx0) ⟨o38, hl0⟩
    · rw [lty w0, vary_normal_L0.eq_1] at hl0
      conv => whnf
      refine cond_T ?_
      conv => whnf
      refine MeetStep.mk ((y0_0, y0_1), y0_a0, y0_c0) ⟨rfl, rfl, trivial⟩ (by repeat (first | exact trivial | refine And.intro rfl ?_)) (ConvH.of (.cons r0 (.cons r0 (.cons r0 .nil)))) lk0 ⟨y0_h0, (si hl0)⟩
  · rintro ⟨t0, t0_a0, t0_c0⟩ Kt0 lt0 ⟨t0_h0, rfl⟩ j0
    conv => whnf
    refine RStep.of (cv_ownE rfl r0 rfl rfl rfl ?_)
    obtain rfl := si hm
    conv => whnf
    refine EndStep.mk _ lt0 ⟨rfl, rfl⟩ (ConvH.of (.cons r2 .nil))

noncomputable def syntax_control (c : UInt8) : Option (Bool) :=
  some ((decide ((c.toNat : Int) < 32) && decide ((c.toNat : Int) ≠ 9)) || decide ((c.toNat : Int) = 127))
set_option maxHeartbeats 8000000 in
theorem syntax_control_ok {c : UInt8} {K : Hp} {r : Bool}
    (hm : syntax_control c = some r)  :
    Fn Try.prog 53 [.int .u8 (c.toNat : Int)] K [] (fun v K' H' => v = .bool r ∧ H' = []) := by
  refine Fn.enter Try.func53 Try.call53 rfl fun F => ?_
  unfold syntax_control at hm
  conv => whnf
  refine cond_s (fun g5_1 => ?_) (fun g5_1 => ?_)
  · conv => whnf
    refine cond_t g5_1 ?_
    conv => whnf
    refine neq_int ?_
    conv => whnf
    refine cond_t g5_1 ?_
    conv => whnf
    refine cond_s (fun g9_1 => ?_) (fun g9_1 => ?_)
    · conv => whnf
      refine cond_t g9_1 ?_
      conv => whnf
      refine cond_t g9_1 ?_
      obtain rfl := si hm
      conv => whnf
      refine EndStep.mk _ (Hp.Le.refl _) ⟨(by rw [← ((or_t (and_t g5_1 g9_1))).symm] <;> rfl), rfl⟩ (ConvH.of (.cons r0 .nil))
    · conv => whnf
      refine cond_f g9_1 ?_
      conv => whnf
      refine eq_int ?_
      conv => whnf
      refine cond_f g9_1 ?_
      obtain rfl := si hm
      conv => whnf
      refine EndStep.mk _ (Hp.Le.refl _) ⟨(by rw [← (or_e (b := decide ((c.toNat : Int) = 127)) (and_g g5_1 g9_1))] <;> rfl), rfl⟩ (ConvH.of (.cons r0 .nil))
  · conv => whnf
    refine cond_f g5_1 ?_
    conv => whnf
    refine cond_f g5_1 ?_
    conv => whnf
    refine cond_F ?_
    conv => whnf
    refine cond_F ?_
    conv => whnf
    refine eq_int ?_
    conv => whnf
    refine cond_F ?_
    obtain rfl := si hm
    conv => whnf
    refine EndStep.mk _ (Hp.Le.refl _) ⟨(by rw [← (or_e (b := decide ((c.toNat : Int) = 127)) (and_f g5_1))] <;> rfl), rfl⟩ (ConvH.of (.cons r0 .nil))

noncomputable def syntax_clean_L0 : List UInt8 → Nat → Option (Fl (Bool) (Unit))
  | [], _ => some (Fl.go ())
  | e0 :: xs0, i0 =>
    (syntax_control e0).bind fun x12 =>
    if x12 then
    some (Fl.ret false)
    else
    syntax_clean_L0 xs0 (i0 + 1)
noncomputable def syntax_clean (s : Str) : Option (Bool) :=
  (chk (s.length ≤ szMax)).bind fun _ =>
  (syntax_clean_L0 s 0).bind fun s0 => s0.el some fun t0 =>
  some true
set_option maxHeartbeats 8000000 in
theorem syntax_clean_ok {s : Str} {K : Hp} {r : Bool}
    (hm : syntax_clean s = some r)  :
    Fn Try.prog 45 [str s] K [] (fun v K' H' => v = .bool r ∧ H' = []) := by
  refine Fn.enter Try.func45 Try.call45 rfl fun F => ?_
  unfold syntax_clean at hm
  conv => whnf
  refine RStep.of (len_str rfl ?_)
  obtain ⟨hk0, hm⟩ := chkb hm
  obtain ⟨s0, hl0, hm⟩ := bnd hm
  conv => whnf
  refine code_cut (σ := (Unit)) [2, 3, 6, 7, 8, 9, 10, 11, 12, 13] (fun t0 => []) (fun t0 => [F]) (fun zz K1 => match zz with | t0 => s0 = Fl.go t0) ?_ ?_
  · refine block_go rfl ?_
    conv => whnf
    refine loop_rule (σ := Nat) [2, 3, 6, 7, 8, 9, 10, 11, 12, 13] (fun i0 => [(6, .int .i64 (i0 : Int))]) (fun i0 => [F]) (fun zz K1 => match zz with | i0 => syntax_clean_L0 (s.drop i0) i0 = some s0) (fun zz => s.length - zz) (0) rfl ⟨rfl, trivial⟩ (ConvH.of (.cons r0 .nil)) hl0 ?_
    clear hl0
    rintro i0 Kb0 lk0 hl0 j0
    conv at hl0 => whnf
    conv => whnf
    refine cond_go rfl ?_
    conv => whnf
    refine cond_s (fun w0 => ?_) (fun w0 => ?_)
    · obtain ⟨e0, hx0, hd0⟩ := ltx w0
      rw [hd0, syntax_clean_L0.eq_2] at hl0
      conv => whnf
      refine block_go rfl ?_
      conv => whnf
      refine idx_str rfl (nn _) hx0 ?_
      obtain ⟨x12, q12, hl0⟩ := bnd hl0
      conv => whnf
      refine call_fn (syntax_control_ok (c := e0) q12) .nil ?_
      rintro _ K12 _ l12 ⟨rfl, rfl⟩
      conv => whnf
      refine cond_go rfl ?_
      conv => whnf
      refine cond_s (fun w12 => ?_) (fun w12 => ?_)
      · replace hl0 := ift w12 hl0
        obtain rfl := si hl0
        replace hm := elr hm
        obtain rfl := si hm
        conv => whnf
        refine EndStep.mk _ (lk0.trans l12) ⟨rfl, rfl⟩ (ConvH.of (.cons r0 .nil))
      · replace hl0 := iff_ w12 hl0
        conv => whnf
        refine int_in (cntz hx0 hk0) ?_
        conv => whnf
        refine RoundStep.mk (i0 + 1) ⟨rfl, trivial⟩ (by repeat (first | exact trivial | refine And.intro rfl ?_)) (ConvH.of (.cons r0 .nil)) (lk0.trans l12) (ltm hx0) hl0
    · rw [lty w0, syntax_clean_L0.eq_1] at hl0
      conv => whnf
      refine cond_T ?_
      conv => whnf
      refine MeetStep.mk (()) trivial (by repeat (first | exact trivial | refine And.intro rfl ?_)) (ConvH.of (.cons r0 .nil)) lk0 (si hl0).symm
  · rintro t0 Kt0 lt0 rfl j0
    replace hm := elg hm
    obtain rfl := si hm
    conv => whnf
    refine EndStep.mk _ lt0 ⟨rfl, rfl⟩ (ConvH.of (.cons r0 .nil))

noncomputable def syntax_Quote_L0 : List UInt8 → Nat → Str → Option (Str)
  | [], _, y0_0 => some y0_0
  | e0 :: xs0, i0, y0_0 =>
    (if decide ((e0.toNat : Int) = 34) then some true else some (decide ((e0.toNat : Int) = 92))).bind fun x25 =>
    if x25 then
    (chk (y0_0.length + ([(92 : UInt8)] : Str).length ≤ lim)).bind fun _ =>
    (chk ((y0_0 ++ ([(92 : UInt8)] : Str)).length + ([e0] : Str).length ≤ lim)).bind fun _ =>
    syntax_Quote_L0 xs0 (i0 + 1) ((y0_0 ++ ([(92 : UInt8)] : Str)) ++ ([e0] : Str))
    else
    (chk (y0_0.length + ([e0] : Str).length ≤ lim)).bind fun _ =>
    syntax_Quote_L0 xs0 (i0 + 1) (y0_0 ++ ([e0] : Str))
noncomputable def syntax_Quote (s : Str) : Option (Str × Err) :=
  (syntax_clean s).bind fun x7 =>
  if (!x7) then
  some (([] : Str), (some 2))
  else
  (chk (s.length ≤ szMax)).bind fun _ =>
  (syntax_Quote_L0 s 0 ([(34 : UInt8)] : Str)).bind fun t0 =>
  (chk (t0.length + ([(34 : UInt8)] : Str).length ≤ lim)).bind fun _ =>
  some ((t0 ++ ([(34 : UInt8)] : Str)), none)
set_option maxHeartbeats 8000000 in
theorem syntax_Quote_ok {s : Str} {K : Hp} {r : Str × Err}
    (hm : syntax_Quote s = some r)  :
    Fn Try.prog 31 [str s] K [] (fun v K' H' => v = .tuple #[str r.1, errV 89 r.2] ∧ H' = []) := by
  refine Fn.enter Try.func31 Try.call31 rfl fun F => ?_
  unfold syntax_Quote at hm
  obtain ⟨x7, q7, hm⟩ := bnd hm
  conv => whnf
  refine call_fn (syntax_clean_ok (s := s) q7) .nil ?_
  rintro _ K7 _ l7 ⟨rfl, rfl⟩
  conv => whnf
  refine un_not ?_
  conv => whnf
  refine cond_go rfl ?_
  conv => whnf
  refine cond_s (fun w8 => ?_) (fun w8 => ?_)
  · replace hm := ift (not_t (ni_t w8)) hm
    conv => whnf
    refine mk_iface rfl ?_
    obtain rfl := si hm
    conv => whnf
    refine EndStep.mk _ l7 ⟨rfl, rfl⟩ (ConvH.of (.cons r0 .nil))
  · replace hm := iff_ (not_f (ni_f w8)) hm
    conv => whnf
    refine bsO (len := 1) (enc := eU) (l := ([(34 : UInt8)] : Str)) (cl := [.int .u8 34]) elT87 rfl rfl (fun _ _ => rfl) rfl rfl rfl ?_ fun b10 => ?_
    · conv => whnf
      refine cond_T ?_
      conv => whnf
      first | done | rfl
    conv => whnf
    refine RStep.of (len_str rfl ?_)
    obtain ⟨hk0, hm⟩ := chkb hm
    obtain ⟨s0, hl0, hm⟩ := bnd hm
    conv => whnf
    refine code_cut (σ := (Str) × Option Addr × Nat) [4, 5, 13, 14, 15, 16, 17, 18, 19, 20, 21, 22, 23, 24, 25, 26, 27, 28, 29, 30, 31, 32, 33, 34, 35] (fun (t0, t0_a0, t0_c0) => [(4, .slice t0_a0 t0.length t0_c0)]) (fun (t0, t0_a0, t0_c0) => [OwnL eU t0_a0 5 1 t0_c0 t0, F]) (fun zz K1 => match zz with | (t0, t0_a0, t0_c0) => (0 < t0.length → Has t0_a0) ∧ t0 = s0) ?_ ?_
    · refine block_go rfl ?_
      conv => whnf
      refine loop_rule (σ := Nat × Str × Option Addr × Nat) [4, 5, 13, 14, 15, 16, 17, 18, 19, 20, 21, 22, 23, 24, 25, 26, 27, 28, 29, 30, 31, 32, 33, 34, 35] (fun (i0, y0_0, y0_a0, y0_c0) => [(13, .int .i64 (i0 : Int)), (4, .slice y0_a0 y0_0.length y0_c0)]) (fun (i0, y0_0, y0_a0, y0_c0) => [OwnL eU y0_a0 5 1 y0_c0 y0_0, F]) (fun zz K1 => match zz with | (i0, y0_0, y0_a0, y0_c0) => (0 < y0_0.length → Has y0_a0) ∧ syntax_Quote_L0 (s.drop i0) i0 y0_0 = some s0) (fun zz => s.length - zz.1) (0, ([(34 : UInt8)] : Str), (some ⟨b10, 0, none⟩), 1) rfl ⟨rfl, rfl, trivial⟩ (ConvH.of (.cons r0 (.cons r0 .nil))) ⟨(fun _ => ⟨_, _, rfl⟩), hl0⟩ ?_
      clear hl0
      rintro ⟨i0, y0_0, y0_a0, y0_c0⟩ Kb0 lk0 ⟨y0_h0, hl0⟩ j0
      conv => whnf
      refine cond_go rfl ?_
      conv => whnf
      refine cond_s (fun w0 => ?_) (fun w0 => ?_)
      · obtain ⟨e0, hx0, hd0⟩ := ltx w0
        rw [hd0, syntax_Quote_L0.eq_2] at hl0
        conv => whnf
        refine block_go rfl ?_
        conv => whnf
        refine idx_str rfl (nn _) hx0 ?_
        conv => whnf
        refine eq_int ?_
        obtain ⟨x25, e25, hl0⟩ := bnd hl0
        conv => whnf
        refine cond_s (fun g20_7 => ?_) (fun g20_7 => ?_)
        · replace e25 := ift g20_7 e25
          conv => whnf
          refine cond_t g20_7 ?_
          conv => whnf
          refine cond_t g20_7 ?_
          conv => whnf
          refine cond_t g20_7 ?_
          conv => whnf
          refine cond_t g20_7 ?_
          conv => whnf
          refine cond_go rfl ?_
          conv => whnf
          refine cond_T ?_
          replace hl0 := ift (si e25).symm hl0
          conv => whnf
          refine bsO (len := 1) (enc := eU) (l := ([(92 : UInt8)] : Str)) (cl := [.int .u8 92]) elT87 rfl rfl (fun _ _ => rfl) rfl rfl rfl ?_ fun b27 => ?_
          · conv => whnf
            refine cond_T ?_
            conv => whnf
            first | done | rfl
          obtain ⟨h28, hl0⟩ := chkb hl0
          conv => whnf
          refine apE rfl r1 elT87 (src_own' rfl r0 rfl (fun _ => rfl) (fun _ => rfl)) h28 ?_
          intro a28 c28 o28
          conv => whnf
          refine idx_str rfl (nn _) hx0 ?_
          conv => whnf
          refine bsO (len := 1) (enc := eU) (l := ([e0] : Str)) (cl := [.int .u8 (e0.toNat : Int)]) elT87 rfl rfl (fun _ _ => rfl) rfl rfl rfl ?_ fun b33 => ?_
          · conv => whnf
            refine cond_T ?_
            conv => whnf
            first | done | rfl
          obtain ⟨h34, hl0⟩ := chkb hl0
          conv => whnf
          refine apE rfl r1 elT87 (src_own' rfl r0 rfl (fun _ => rfl) (fun _ => rfl)) h34 ?_
          intro a34 c34 o34
          conv => whnf
          refine int_in (cntz hx0 hk0) ?_
          conv => whnf
          refine RoundStep.mk (i0 + 1, ((y0_0 ++ ([(92 : UInt8)] : Str)) ++ ([e0] : Str)), a34, c34) ⟨rfl, rfl, trivial⟩ (by repeat (first | exact trivial | refine And.intro rfl ?_)) (ConvH.of (.cons r0 (.cons r2 .nil))) lk0 (ltm hx0) ⟨o34, hl0⟩
        · replace e25 := iff_ g20_7 e25
          conv => whnf
          refine cond_f g20_7 ?_
          conv => whnf
          refine cond_f g20_7 ?_
          conv => whnf
          refine idx_str rfl (nn _) hx0 ?_
          conv => whnf
          refine cond_f g20_7 ?_
          conv => whnf
          refine eq_int ?_
          conv => whnf
          refine cond_f g20_7 ?_
          conv => whnf
          refine cond_go rfl ?_
          conv => whnf
          refine cond_s (fun w25 => ?_) (fun w25 => ?_)
          · replace hl0 := ift ((si e25).symm.trans w25) hl0
            conv => whnf
            refine bsO (len := 1) (enc := eU) (l := ([(92 : UInt8)] : Str)) (cl := [.int .u8 92]) elT87 rfl rfl (fun _ _ => rfl) rfl rfl rfl ?_ fun b27 => ?_
            · conv => whnf
              refine cond_T ?_
              conv => whnf
              first | done | rfl
            obtain ⟨h28, hl0⟩ := chkb hl0
            conv => whnf
            refine apE rfl r1 elT87 (src_own' rfl r0 rfl (fun _ => rfl) (fun _ => rfl)) h28 ?_
            intro a28 c28 o28
            conv => whnf
            refine idx_str rfl (nn _) hx0 ?_
            conv => whnf
            refine bsO (len := 1) (enc := eU) (l := ([e0] : Str)) (cl := [.int .u8 (e0.toNat : Int)]) elT87 rfl rfl (fun _ _ => rfl) rfl rfl rfl ?_ fun b33 => ?_
            · conv => whnf
              refine cond_T ?_
              conv => whnf
              first | done | rfl
            obtain ⟨h34, hl0⟩ := chkb hl0
            conv => whnf
            refine apE rfl r1 elT87 (src_own' rfl r0 rfl (fun _ => rfl) (fun _ => rfl)) h34 ?_
            intro a34 c34 o34
            conv => whnf
            refine int_in (cntz hx0 hk0) ?_
            conv => whnf
            refine RoundStep.mk (i0 + 1, ((y0_0 ++ ([(92 : UInt8)] : Str)) ++ ([e0] : Str)), a34, c34) ⟨rfl, rfl, trivial⟩ (by repeat (first | exact trivial | refine And.intro rfl ?_)) (ConvH.of (.cons r0 (.cons r2 .nil))) lk0 (ltm hx0) ⟨o34, hl0⟩
          · replace hl0 := iff_ ((si e25).symm.trans w25) hl0
            conv => whnf
            refine idx_str rfl (nn _) hx0 ?_
            conv => whnf
            refine bsO (len := 1) (enc := eU) (l := ([e0] : Str)) (cl := [.int .u8 (e0.toNat : Int)]) elT87 rfl rfl (fun _ _ => rfl) rfl rfl rfl ?_ fun b33 => ?_
            · conv => whnf
              refine cond_T ?_
              conv => whnf
              first | done | rfl
            obtain ⟨h34, hl0⟩ := chkb hl0
            conv => whnf
            refine apE rfl r1 elT87 (src_own' rfl r0 rfl (fun _ => rfl) (fun _ => rfl)) h34 ?_
            intro a34 c34 o34
            conv => whnf
            refine int_in (cntz hx0 hk0) ?_
            conv => whnf
            refine RoundStep.mk (i0 + 1, (y0_0 ++ ([e0] : Str)), a34, c34) ⟨rfl, rfl, trivial⟩ (by repeat (first | exact trivial | refine And.intro rfl ?_)) (ConvH.of (.cons r0 (.cons r1 .nil))) lk0 (ltm hx0) ⟨o34, hl0⟩
      · rw [lty w0, syntax_Quote_L0.eq_1] at hl0
        conv => whnf
        refine cond_T ?_
        conv => whnf
        refine MeetStep.mk (y0_0, y0_a0, y0_c0) ⟨rfl, trivial⟩ (by repeat (first | exact trivial | refine And.intro rfl ?_)) (ConvH.of (.cons r0 (.cons r0 .nil))) lk0 ⟨y0_h0, (si hl0)⟩
    · rintro ⟨t0, t0_a0, t0_c0⟩ Kt0 lt0 ⟨t0_h0, rfl⟩ j0
      conv => whnf
      refine bsO (len := 1) (enc := eU) (l := ([(34 : UInt8)] : Str)) (cl := [.int .u8 34]) elT87 rfl rfl (fun _ _ => rfl) rfl rfl rfl ?_ fun b37 => ?_
      · conv => whnf
        refine cond_T ?_
        conv => whnf
        first | done | rfl
      obtain ⟨h38, hm⟩ := chkb hm
      conv => whnf
      refine apE rfl r1 elT87 (src_own' rfl r0 rfl (fun _ => rfl) (fun _ => rfl)) h38 ?_
      intro a38 c38 o38
      conv => whnf
      refine RStep.of (cv_ownE rfl r0 rfl rfl rfl ?_)
      obtain rfl := si hm
      conv => whnf
      refine EndStep.mk _ (l7.trans lt0) ⟨rfl, rfl⟩ (ConvH.of (.cons r2 .nil))

noncomputable def vary_Key_L2 : Nat → Nat → (List Str) → Option ((List Str))
  | 0, _, y2_0 => some y2_0
  | xs2 + 1, i2, y2_0 =>
    (ix y2_0 (i2 : Int)).bind fun x37 =>
    (vary_normal x37).bind fun x39 =>
    (ix y2_0 (i2 : Int)).bind fun x40 =>
    vary_Key_L2 xs2 (i2 + 1) (y2_0.set (((i2 : Int)).toNat) x39)
noncomputable def vary_Key_L0 (f : (List S_field_Field)) : List Str → Nat → (List Str) → Option ((List Str))
  | [], _, y0_0 => some y0_0
  | e0 :: xs0, i0, y0_0 =>
    (field_All f e0).bind fun x20 =>
    if decide ((x20.length : Int) = 0) then
    (chk (y0_0.length + [e0].length ≤ lim)).bind fun _ =>
    vary_Key_L0 f xs0 (i0 + 1) (y0_0 ++ [e0])
    else
    (chk (InI (x20.length : Int))).bind fun _ =>
    (vary_Key_L2 (x20.length : Int).toNat 0 x20).bind fun t2 =>
    (joinM t2 ([44] : Str)).bind fun x44 =>
    (syntax_Quote x44).bind fun x45 =>
    if x45.2.isSome then
    (chk (e0.length + ([61] : Str).length ≤ lim)).bind fun _ =>
    (chk ((e0 ++ ([61] : Str)).length + ([] : Str).length ≤ lim)).bind fun _ =>
    (chk (y0_0.length + ([((e0 ++ ([61] : Str)) ++ ([] : Str))]).length ≤ lim)).bind fun _ =>
    vary_Key_L0 f xs0 (i0 + 1) (y0_0 ++ [((e0 ++ ([61] : Str)) ++ ([] : Str))])
    else
    (chk (e0.length + ([61] : Str).length ≤ lim)).bind fun _ =>
    (chk ((e0 ++ ([61] : Str)).length + x45.1.length ≤ lim)).bind fun _ =>
    (chk (y0_0.length + ([((e0 ++ ([61] : Str)) ++ x45.1)]).length ≤ lim)).bind fun _ =>
    vary_Key_L0 f xs0 (i0 + 1) (y0_0 ++ [((e0 ++ ([61] : Str)) ++ x45.1)])
noncomputable def vary_Key (names : (List Str)) (f : (List S_field_Field)) : Option (Str) :=
  (chk (names.length ≤ szMax)).bind fun _ =>
  (vary_Key_L0 f names 0 []).bind fun t0 =>
  (joinM t0 ([38] : Str)).bind fun x59 =>
  some x59
set_option maxHeartbeats 8000000 in
theorem vary_Key_ok {names : (List Str)} {f : (List S_field_Field)} {ap0_0 : Option Addr} {cp0_0 : Nat} {n0 : Nat} {ap1_0 : Option Addr} {cp1_0 : Nat} {n1 : Nat} {K : Hp} {r : Str}
    (hm : vary_Key names f = some r) (hp0_0 : RdC eS K ap0_0 cp0_0 1 names) (en0 : n0 = names.length) (hp1_0 : RdC S_field_Field.enc K ap1_0 cp1_0 2 f) (en1 : n1 = f.length) :
    Fn Try.prog 12 [.slice ap0_0 n0 cp0_0, .slice ap1_0 n1 cp1_0] K [] (fun v K' H' => v = str r ∧ H' = []) := by
  subst en0
  subst en1
  refine Fn.enter Try.func12 Try.call12 rfl fun F => ?_
  unfold vary_Key at hm
  conv => whnf
  refine RStep.of (len_slice rfl ?_)
  obtain ⟨hk0, hm⟩ := chkb hm
  obtain ⟨s0, hl0, hm⟩ := bnd hm
  conv => whnf
  refine nilC eS 9 1 ?_
  refine code_cut (σ := ((List Str)) × Option Addr × Nat) [5, 7, 8, 9, 10, 11, 14, 15, 16, 17, 18, 19, 20, 21, 22, 23, 24, 25, 26, 27, 28, 29, 30, 31, 32, 33, 34, 35, 36, 37, 38, 39, 40, 41, 42, 43, 44, 45, 46, 47, 48, 49, 50, 51, 52, 53, 54, 55, 56, 57] (fun (t0, t0_a0, t0_c0) => [(5, .slice t0_a0 t0.length t0_c0)]) (fun (t0, t0_a0, t0_c0) => [OwnL eS t0_a0 9 1 t0_c0 t0, F]) (fun zz K1 => match zz with | (t0, t0_a0, t0_c0) => (0 < t0.length → Has t0_a0) ∧ t0 = s0) ?_ ?_
  · refine block_go rfl ?_
    conv => whnf
    refine loop_rule (σ := Nat × (List Str) × Option Addr × Nat) [5, 7, 8, 9, 10, 11, 14, 15, 16, 17, 18, 19, 20, 21, 22, 23, 24, 25, 26, 27, 28, 29, 30, 31, 32, 33, 34, 35, 36, 37, 38, 39, 40, 41, 42, 43, 44, 45, 46, 47, 48, 49, 50, 51, 52, 53, 54, 55, 56, 57] (fun (i0, y0_0, y0_a0, y0_c0) => [(14, .int .i64 (i0 : Int)), (5, .slice y0_a0 y0_0.length y0_c0)]) (fun (i0, y0_0, y0_a0, y0_c0) => [OwnL eS y0_a0 9 1 y0_c0 y0_0, F]) (fun zz K1 => match zz with | (i0, y0_0, y0_a0, y0_c0) => (0 < y0_0.length → Has y0_a0) ∧ vary_Key_L0 f (names.drop i0) i0 y0_0 = some s0) (fun zz => names.length - zz.1) (0, [], none, 0) rfl ⟨rfl, rfl, trivial⟩ (ConvH.of (.cons r0 (.cons r0 .nil))) ⟨(fun h => by simp at h), hl0⟩ ?_
    clear hl0
    rintro ⟨i0, y0_0, y0_a0, y0_c0⟩ Kb0 lk0 ⟨y0_h0, hl0⟩ j0
    conv => whnf
    refine cond_go rfl ?_
    conv => whnf
    refine cond_s (fun w0 => ?_) (fun w0 => ?_)
    · obtain ⟨e0, hx0, hd0⟩ := ltx w0
      rw [hd0, vary_Key_L0.eq_2] at hl0
      conv => whnf
      refine block_go rfl ?_
      conv => whnf
      refine RStep.ofN (index_addr rfl rfl (hasK (hp0_0.mono lk0).rd hx0) (nn _) (lt_ofN hx0) ?_)
      conv => whnf
      refine RStep.of (load_rd i0 0 _ _ (hp0_0.mono lk0).rd rfl (mp hx0) rfl rfl ?_)
      obtain ⟨x20, q20, hl0⟩ := bnd hl0
      conv => whnf
      refine call_fn (field_All_ok (name := e0) q20 (hp1_0.mono lk0) rfl) .nil ?_
      rintro _ K20 _ l20 ⟨a20_0, c20_0, rfl, h20_0, rfl⟩
      conv => whnf
      refine RStep.of (len_slice rfl ?_)
      conv => whnf
      refine eq_int ?_
      conv => whnf
      refine cond_go rfl ?_
      conv => whnf
      refine cond_s (fun w23 => ?_) (fun w23 => ?_)
      · replace hl0 := ift w23 hl0
        conv => whnf
        refine bsO (len := 1) (enc := eS) (l := [e0]) (cl := [str e0]) elT22 rfl rfl (fun _ _ => rfl) rfl rfl rfl ?_ fun b26 => ?_
        · conv => whnf
          refine cond_T ?_
          conv => whnf
          first | done | rfl
        obtain ⟨h27, hl0⟩ := chkb hl0
        conv => whnf
        refine apE rfl r2 elT22 (src_own' rfl r0 rfl (fun _ => rfl) (fun _ => rfl)) h27 ?_
        intro a27 c27 o27
        conv => whnf
        refine cond_T ?_
        conv => whnf
        refine int_in (cntz hx0 hk0) ?_
        conv => whnf
        refine RoundStep.mk (i0 + 1, (y0_0 ++ [e0]), a27, c27) ⟨rfl, rfl, trivial⟩ (by repeat (first | exact trivial | refine And.intro rfl ?_)) (ConvH.of (.cons r0 (.cons r2 .nil))) (lk0.trans l20) (ltm hx0) ⟨o27, hl0⟩
      · replace hl0 := iff_ w23 hl0
        conv => whnf
        refine RStep.of (len_slice rfl ?_)
        obtain ⟨hk2, hl0⟩ := chkb hl0
        obtain ⟨s2, hl2, hl0⟩ := bnd hl0
        conv => whnf
        refine code_cut (σ := ((List Str))) [9, 30, 31, 32, 33, 34, 35, 36, 37, 38, 39, 40, 41] (fun t2 => []) (fun t2 => [OwnL eS a20_0 9 1 c20_0 t2, OwnL eS y0_a0 9 1 y0_c0 y0_0, F]) (fun zz K1 => match zz with | t2 => (0 < t2.length → Has a20_0) ∧ x20.length = t2.length ∧ t2 = s2) ?_ ?_
        · refine block_go rfl ?_
          conv => whnf
          refine loop_rule (σ := Nat × (List Str)) [9, 30, 31, 32, 33, 34, 35, 36, 37, 38, 39, 40, 41] (fun (i2, y2_0) => [(30, .int .i64 (i2 : Int))]) (fun (i2, y2_0) => [OwnL eS a20_0 9 1 c20_0 y2_0, OwnL eS y0_a0 9 1 y0_c0 y0_0, F]) (fun zz K1 => match zz with | (i2, y2_0) => (0 < y2_0.length → Has a20_0) ∧ x20.length = y2_0.length ∧ vary_Key_L2 ((x20.length : Int).toNat - i2) i2 y2_0 = some s2) (fun zz => (x20.length : Int).toNat - zz.1) (0, x20) rfl ⟨rfl, trivial⟩ (ConvH.of (.cons r0 (.cons r0 (.cons r0 .nil)))) ⟨h20_0, rfl, hl2⟩ ?_
          clear hl2
          rintro ⟨i2, y2_0⟩ Kb2 lk2 ⟨y2_h0, y2_n0, hl2⟩ j2
          conv => whnf
          refine cond_go rfl ?_
          conv => whnf
          refine cond_s (fun w2 => ?_) (fun w2 => ?_)
          · rw [ltn w2, vary_Key_L2.eq_2] at hl2
            conv => whnf
            refine block_go rfl ?_
            obtain ⟨x37, l37, k37, hl2⟩ := ixb hl2
            conv => whnf
            refine RStep.ofN (index_addr rfl rfl (hasO y2_h0 k37) l37 (lt_ofE y2_n0 l37 k37) ?_)
            conv => whnf
            refine RStep.of (ld_own (i := ((i2 : Int)).toNat) (o := 0) r0 rfl k37 rfl rfl ?_)
            obtain ⟨x39, q39, hl2⟩ := bnd hl2
            conv => whnf
            refine call_fn (vary_normal_ok (s := x37) q39) .nil ?_
            rintro _ K39 _ l39 ⟨rfl, rfl⟩
            obtain ⟨x40, l40, k40, hl2⟩ := ixb hl2
            conv => whnf
            refine RStep.ofN (index_addr rfl rfl (hasO y2_h0 k40) l40 (lt_ofE y2_n0 l40 k40) ?_)
            conv => whnf
            refine st_own (o := 0) (y := x39) x40 r0 rfl k40 rfl (by (conv => whnf); exact ⟨rfl, rfl, (Nat.le_of_ble_eq_true rfl), rfl, rfl, rfl⟩) ?_
            conv => whnf
            refine int_in (cntn w2 hk2) ?_
            conv => whnf
            refine RoundStep.mk (i2 + 1, (y2_0.set (((i2 : Int)).toNat) x39)) ⟨rfl, trivial⟩ (by repeat (first | exact trivial | refine And.intro rfl ?_)) (ConvH.of (.cons r0 (.cons r0 (.cons r0 .nil)))) (lk2.trans l39) (ltnm w2) ⟨(by simpa using y2_h0), ((y2_n0).trans List.length_set.symm), hl2⟩
          · rw [lto w2, vary_Key_L2.eq_1] at hl2
            conv => whnf
            refine cond_T ?_
            conv => whnf
            refine MeetStep.mk (y2_0) trivial (by repeat (first | exact trivial | refine And.intro rfl ?_)) (ConvH.of (.cons r0 (.cons r0 (.cons r0 .nil)))) lk2 ⟨y2_h0, y2_n0, (si hl2)⟩
        · rintro t2 Kt2 lt2 ⟨t2_h0, t2_n0, rfl⟩ j2
          obtain ⟨x44, q44, hl0⟩ := bnd hl0
          conv => whnf
          refine call_fn (Fn.lend Try.call32 (fun K44_0 l44_0 f44_0 => (join_ok q44 f44_0 t2_n0)) (by exact fun _ _ _ _ h => h)) (.cons r0 .nil) ?_
          rintro _ K44 _ l44 ⟨_, rfl, rfl, rfl⟩
          obtain ⟨x45, q45, hl0⟩ := bnd hl0
          conv => whnf
          refine call_fn (syntax_Quote_ok (s := x44) q45) .nil ?_
          rintro _ K45 _ l45 ⟨rfl, rfl⟩
          conv => whnf
          refine neq_err rfl ?_
          conv => whnf
          refine cond_go rfl ?_
          conv => whnf
          refine cond_s (fun w49 => ?_) (fun w49 => ?_)
          · replace hl0 := ift w49 hl0
            obtain ⟨h52, hl0⟩ := chkb hl0
            conv => whnf
            refine cat_str h52 ?_
            obtain ⟨h54, hl0⟩ := chkb hl0
            conv => whnf
            refine cat_str h54 ?_
            conv => whnf
            refine bsO (len := 1) (enc := eS) (l := [((e0 ++ ([61] : Str)) ++ ([] : Str))]) (cl := [str ((e0 ++ ([61] : Str)) ++ ([] : Str))]) elT22 rfl rfl (fun _ _ => rfl) rfl rfl rfl ?_ fun b55 => ?_
            · conv => whnf
              refine cond_T ?_
              conv => whnf
              first | done | rfl
            obtain ⟨h56, hl0⟩ := chkb hl0
            conv => whnf
            refine apE rfl r2 elT22 (src_own' rfl r0 rfl (fun _ => rfl) (fun _ => rfl)) h56 ?_
            intro a56 c56 o56
            conv => whnf
            refine int_in (cntz hx0 hk0) ?_
            conv => whnf
            refine RoundStep.mk (i0 + 1, (y0_0 ++ [((e0 ++ ([61] : Str)) ++ ([] : Str))]), a56, c56) ⟨rfl, rfl, trivial⟩ (by repeat (first | exact trivial | refine And.intro rfl ?_)) (ConvH.of (.cons r0 (.cons r2 .nil))) ((((lk0.trans l20).trans lt2).trans l44).trans l45) (ltm hx0) ⟨o56, hl0⟩
          · replace hl0 := iff_ w49 hl0
            obtain ⟨h52, hl0⟩ := chkb hl0
            conv => whnf
            refine cat_str h52 ?_
            obtain ⟨h54, hl0⟩ := chkb hl0
            conv => whnf
            refine cat_str h54 ?_
            conv => whnf
            refine bsO (len := 1) (enc := eS) (l := [((e0 ++ ([61] : Str)) ++ x45.1)]) (cl := [str ((e0 ++ ([61] : Str)) ++ x45.1)]) elT22 rfl rfl (fun _ _ => rfl) rfl rfl rfl ?_ fun b55 => ?_
            · conv => whnf
              refine cond_T ?_
              conv => whnf
              first | done | rfl
            obtain ⟨h56, hl0⟩ := chkb hl0
            conv => whnf
            refine apE rfl r2 elT22 (src_own' rfl r0 rfl (fun _ => rfl) (fun _ => rfl)) h56 ?_
            intro a56 c56 o56
            conv => whnf
            refine int_in (cntz hx0 hk0) ?_
            conv => whnf
            refine RoundStep.mk (i0 + 1, (y0_0 ++ [((e0 ++ ([61] : Str)) ++ x45.1)]), a56, c56) ⟨rfl, rfl, trivial⟩ (by repeat (first | exact trivial | refine And.intro rfl ?_)) (ConvH.of (.cons r0 (.cons r2 .nil))) ((((lk0.trans l20).trans lt2).trans l44).trans l45) (ltm hx0) ⟨o56, hl0⟩
    · rw [lty w0, vary_Key_L0.eq_1] at hl0
      conv => whnf
      refine cond_T ?_
      conv => whnf
      refine MeetStep.mk (y0_0, y0_a0, y0_c0) ⟨rfl, trivial⟩ (by repeat (first | exact trivial | refine And.intro rfl ?_)) (ConvH.of (.cons r0 (.cons r0 .nil))) lk0 ⟨y0_h0, (si hl0)⟩
  · rintro ⟨t0, t0_a0, t0_c0⟩ Kt0 lt0 ⟨t0_h0, rfl⟩ j0
    obtain ⟨x59, q59, hm⟩ := bnd hm
    conv => whnf
    refine call_fn (Fn.lend Try.call32 (fun K59_0 l59_0 f59_0 => (join_ok q59 f59_0 rfl)) (by exact fun _ _ _ _ h => h)) (.cons r0 .nil) ?_
    rintro _ K59 _ l59 ⟨_, rfl, rfl, rfl⟩
    obtain rfl := si hm
    conv => whnf
    refine EndStep.mk _ (lt0.trans l59) ⟨rfl, rfl⟩ (ConvH.of (.cons r1 .nil))

noncomputable def slices_Equal_string_L0 (s2' : (List Str)) : List Str → Nat → Option (Fl (Bool) (Unit))
  | [], _ => some (Fl.go ())
  | e0 :: xs0, i0 =>
    (ix s2' (i0 : Int)).bind fun x22 =>
    if decide (e0 ≠ x22) then
    some (Fl.ret false)
    else
    slices_Equal_string_L0 s2' xs0 (i0 + 1)
noncomputable def slices_Equal_string (s1' : (List Str)) (s2' : (List Str)) : Option (Bool) :=
  if decide ((s1'.length : Int) ≠ (s2'.length : Int)) then
  some false
  else
  (chk (s1'.length ≤ szMax)).bind fun _ =>
  (slices_Equal_string_L0 s2' s1' 0).bind fun s0 => s0.el some fun t0 =>
  some true
set_option maxHeartbeats 8000000 in
theorem slices_Equal_string_ok {s1' : (List Str)} {s2' : (List Str)} {ap0_0 : Option Addr} {cp0_0 : Nat} {n0 : Nat} {ap1_0 : Option Addr} {cp1_0 : Nat} {n1 : Nat} {K : Hp} {r : Bool}
    (hm : slices_Equal_string s1' s2' = some r) (hp0_0 : RdC eS K ap0_0 cp0_0 1 s1') (en0 : n0 = s1'.length) (hp1_0 : RdC eS K ap1_0 cp1_0 1 s2') (en1 : n1 = s2'.length) :
    Fn Try.prog 35 [.slice ap0_0 n0 cp0_0, .slice ap1_0 n1 cp1_0] K [] (fun v K' H' => v = .bool r ∧ H' = []) := by
  subst en0
  subst en1
  refine Fn.enter Try.func35 Try.call35 rfl fun F => ?_
  unfold slices_Equal_string at hm
  conv => whnf
  refine RStep.of (len_slice rfl ?_)
  conv => whnf
  refine RStep.of (len_slice rfl ?_)
  conv => whnf
  refine neq_int ?_
  conv => whnf
  refine cond_go rfl ?_
  conv => whnf
  refine cond_s (fun w10 => ?_) (fun w10 => ?_)
  · replace hm := ift w10 hm
    obtain rfl := si hm
    conv => whnf
    refine EndStep.mk _ (Hp.Le.refl _) ⟨rfl, rfl⟩ (ConvH.of (.cons r0 .nil))
  · replace hm := iff_ w10 hm
    conv => whnf
    refine RStep.of (len_slice rfl ?_)
    obtain ⟨hk0, hm⟩ := chkb hm
    obtain ⟨s0, hl0, hm⟩ := bnd hm
    conv => whnf
    refine code_cut (σ := (Unit)) [4, 5, 13, 14, 15, 16, 17, 18, 19, 20, 21, 22, 23, 24, 25] (fun t0 => []) (fun t0 => [F]) (fun zz K1 => match zz with | t0 => s0 = Fl.go t0) ?_ ?_
    · refine block_go rfl ?_
      conv => whnf
      refine loop_rule (σ := Nat) [4, 5, 13, 14, 15, 16, 17, 18, 19, 20, 21, 22, 23, 24, 25] (fun i0 => [(13, .int .i64 (i0 : Int))]) (fun i0 => [F]) (fun zz K1 => match zz with | i0 => slices_Equal_string_L0 s2' (s1'.drop i0) i0 = some s0) (fun zz => s1'.length - zz) (0) rfl ⟨rfl, trivial⟩ (ConvH.of (.cons r0 .nil)) hl0 ?_
      clear hl0
      rintro i0 Kb0 lk0 hl0 j0
      conv at hl0 => whnf
      conv => whnf
      refine cond_go rfl ?_
      conv => whnf
      refine cond_s (fun w0 => ?_) (fun w0 => ?_)
      · obtain ⟨e0, hx0, hd0⟩ := ltx w0
        rw [hd0, slices_Equal_string_L0.eq_2] at hl0
        conv => whnf
        refine block_go rfl ?_
        conv => whnf
        refine draw_go ⟨⟨[], false⟩, _, []⟩ (by kernel_rfl) ⟨Hp.Le.refl _, (ConvH.of .nil)⟩ ?_
        conv => whnf
        refine index_addr rfl rfl (hasK (hp0_0.mono lk0).rd hx0) (nn _) (lt_ofN hx0) ?_
        conv => whnf
        refine load_rd_l i0 0 _ _ (hp0_0.mono lk0).rd rfl (mp hx0) rfl rfl ?_
        obtain ⟨x22, l22, k22, hl0⟩ := ixb hl0
        conv => whnf
        refine index_addr rfl rfl (hasK (hp1_0.mono lk0).rd k22) l22 (lt_ofE rfl l22 k22) ?_
        conv => whnf
        refine load_rd_l (((i0 : Int)).toNat) 0 _ _ (hp1_0.mono lk0).rd rfl (mp k22) rfl rfl ?_
        conv => whnf
        refine neq_str ?_
        conv => whnf
        refine cond_go rfl ?_
        conv => whnf
        refine cond_s (fun w24 => ?_) (fun w24 => ?_)
        · replace hl0 := ift w24 hl0
          obtain rfl := si hl0
          replace hm := elr hm
          obtain rfl := si hm
          conv => whnf
          refine EndStep.mk _ lk0 ⟨rfl, rfl⟩ (ConvH.of (.cons r0 .nil))
        · replace hl0 := iff_ w24 hl0
          conv => whnf
          refine int_in (cntz hx0 hk0) ?_
          conv => whnf
          refine RoundStep.mk (i0 + 1) ⟨rfl, trivial⟩ (by repeat (first | exact trivial | refine And.intro rfl ?_)) (ConvH.of (.cons r0 .nil)) lk0 (ltm hx0) hl0
      · rw [lty w0, slices_Equal_string_L0.eq_1] at hl0
        conv => whnf
        refine cond_T ?_
        conv => whnf
        refine MeetStep.mk (()) trivial (by repeat (first | exact trivial | refine And.intro rfl ?_)) (ConvH.of (.cons r0 .nil)) lk0 (si hl0).symm
    · rintro t0 Kt0 lt0 rfl j0
      replace hm := elg hm
      obtain rfl := si hm
      conv => whnf
      refine EndStep.mk _ lt0 ⟨rfl, rfl⟩ (ConvH.of (.cons r0 .nil))

noncomputable def vary_Set_Put_L0 (id : Int) (x21 : Str) (x18 : (List Str)) : List S_vary_variant → Nat → (List Int) → (List S_vary_variant) → Option ((List Int) × (List S_vary_variant))
  | [], _, y0_0, y0_1 => some (y0_0, y0_1)
  | e0 :: xs0, i0, y0_0, y0_1 =>
    if decide (e0.id = id) then
    vary_Set_Put_L0 id x21 x18 xs0 (i0 + 1) y0_0 y0_1
    else
    (if decide (e0.key = x21) then (slices_Equal_string e0.names x18).bind fun x55 =>
    some x55 else some false).bind fun x56 =>
    if x56 then
    (chk (y0_0.length + [e0.id].length ≤ lim)).bind fun _ =>
    vary_Set_Put_L0 id x21 x18 xs0 (i0 + 1) (y0_0 ++ [e0.id]) y0_1
    else
    (chk (y0_1.length + [e0].length ≤ lim)).bind fun _ =>
    vary_Set_Put_L0 id x21 x18 xs0 (i0 + 1) y0_0 (y0_1 ++ [e0])
noncomputable def vary_Set_Put_L3 (t0 : (List Int) × (List S_vary_variant)) : Nat → (List Int) → Int → Option ((List Int) × Int)
  | 0, _, _ => none
  | xs3 + 1, y3_0, y3_1 =>
    if decide (y3_1 < (t0.2.length : Int)) then
    (ix t0.2 y3_1).bind fun x72 =>
    (chk (y3_0.length + [x72.id].length ≤ lim)).bind fun _ =>
    (chk (InI (y3_1 + 1))).bind fun _ =>
    vary_Set_Put_L3 t0 xs3 (y3_0 ++ [x72.id]) (y3_1 + 1)
    else
    some (y3_0, y3_1)
noncomputable def vary_Set_Put (n : Nat) (s : S_vary_Set) (names : (List Str)) (f : (List S_field_Field)) (id : Int) : Option ((List Int) × S_vary_Set) :=
  (slices_Clone_string names).bind fun x18 =>
  (vary_Key names f).bind fun x21 =>
  (chk (s.list.length ≤ szMax)).bind fun _ =>
  (vary_Set_Put_L0 id x21 x18 s.list 0 [] [(⟨x18, x21, id⟩ : S_vary_variant)]).bind fun t0 =>
  (vary_Set_Put_L3 t0 n t0.1 16).bind fun t3 =>
  (chk (0 ≤ (0 : Int) ∧ (0 : Int) ≤ (min (t0.2.length : Int) 16) ∧ (min (t0.2.length : Int) 16) ≤ (t0.2.length : Int))).bind fun _ =>
  some (t3.1, (⟨(subL t0.2 (0 : Int) (min (t0.2.length : Int) 16))⟩ : S_vary_Set))
set_option maxHeartbeats 8000000 in
theorem vary_Set_Put_ok {n : Nat} {s : S_vary_Set} {names : (List Str)} {f : (List S_field_Field)} {id : Int} {b0 : Nat} {ap0_0 : Option Addr} {cp0_0 : Nat} {sp0_0 : List (List Value)} {ap1_0 : Option Addr} {cp1_0 : Nat} {n1 : Nat} {ap2_0 : Option Addr} {cp2_0 : Nat} {n2 : Nat} {K : Hp} {r : (List Int) × S_vary_Set}
    (hm : vary_Set_Put n s names f id = some r) (hp0_0 : (0 < s.list.length → Has ap0_0)) (rp0_0 : LR S_vary_variant.R K sp0_0 s.list) (hp1_0 : RdC eS K ap1_0 cp1_0 1 names) (en1 : n1 = names.length) (hp2_0 : RdC S_field_Field.enc K ap2_0 cp2_0 2 f) (en2 : n2 = f.length) :
    Fn Try.prog 16 [.pointer (some ⟨b0, 0, none⟩), .slice ap1_0 n1 cp1_0, .slice ap2_0 n2 cp2_0, .int .i64 id] K [Cells b0 75 [.slice ap0_0 s.list.length cp0_0], OwnA ap0_0 78 3 cp0_0 sp0_0] (fun v K' H' => ∃ ar_0 : Option Addr, ∃ cr_0 : Nat, ∃ ar_1 : Option Addr, ∃ cr_1 : Nat, ∃ sr_1 : List (List Value), v = .slice ar_0 r.1.length cr_0 ∧ (0 < r.1.length → Has ar_0) ∧ (0 < r.2.list.length → Has ar_1) ∧ LR S_vary_variant.R K' sr_1 r.2.list ∧ H' = [OwnL eN ar_0 3 1 cr_0 r.1, Cells b0 75 [.slice ar_1 r.2.list.length cr_1], OwnA ar_1 78 3 cr_1 sr_1]) := by
  subst en1
  subst en2
  refine Fn.enter Try.func16 Try.call16 rfl fun F => ?_
  unfold vary_Set_Put at hm
  conv => whnf
  refine eq_ptr_nil rfl ?_
  conv => whnf
  refine cond_go rfl ?_
  conv => whnf
  refine cond_F ?_
  obtain ⟨x18, q18, hm⟩ := bnd hm
  conv => whnf
  refine call_fn (slices_Clone_string_ok q18 hp1_0 rfl) .nil ?_
  rintro _ K18 _ l18 ⟨a18_0, c18_0, rfl, h18_0, rfl⟩
  obtain ⟨x21, q21, hm⟩ := bnd hm
  conv => whnf
  refine call_fn (vary_Key_ok q21 (hp1_0.mono l18) rfl (hp2_0.mono l18) rfl) .nil ?_
  rintro _ K21 _ l21 ⟨rfl, rfl⟩
  conv => whnf
  refine build_struct rfl rfl ?_
  conv => whnf
  refine cond_T ?_
  conv => whnf
  refine cond_T ?_
  conv => whnf
  refine cond_T ?_
  conv => whnf
  refine alloc_rule rfl ?_
  intro b9
  conv => whnf
  refine store_rule r0 rfl ?_
  conv => whnf
  refine ⟨rfl, rfl, (Nat.le_of_ble_eq_true rfl), ?_⟩
  conv => whnf
  refine RStep.of (loadn_s r0 rfl (Nat.le_of_ble_eq_true rfl) ?_)
  conv => whnf
  refine fW r1 fun Kf25_0_0 lf25_0_0 ff25_0_0 => ?_
  refine bsOR (R := S_vary_variant.R) (len := 1) (l := [(⟨x18, x21, id⟩ : S_vary_variant)]) (css := [[.slice a18_0 x18.length c18_0, str x21, .int .i64 id]]) (cl := [.slice a18_0 x18.length c18_0, str x21, .int .i64 id]) S_vary_variant.R_ok elT73 rfl rfl (LR.snoc LR.nil ⟨a18_0, c18_0, rfl, ff25_0_0⟩) rfl rfl rfl ?_ fun b25 => ?_
  · conv => whnf
    refine cond_T ?_
    conv => whnf
    first | done | rfl
  conv => whnf
  refine nil_check ?_
  conv => whnf
  refine field_addr rfl ?_
  conv => whnf
  refine RStep.of (load1_s r2 rfl rfl ?_)
  conv => whnf
  refine RStep.of (len_slice rfl ?_)
  obtain ⟨hk0, hm⟩ := chkb hm
  obtain ⟨s0, hl0, hm⟩ := bnd hm
  conv => whnf
  refine nilC eN 3 1 ?_
  refine code_cut (σ := ((List Int) × (List S_vary_variant)) × Option Addr × Nat × Option Addr × Nat × List (List Value)) [10, 11, 13, 31, 32, 33, 34, 35, 36, 37, 38, 39, 40, 41, 42, 43, 44, 45, 46, 47, 48, 49, 50, 51, 52, 53, 54, 55, 56, 57, 58, 59, 60, 61, 62] (fun (t0, t0_a0, t0_c0, t0_a1, t0_c1, t0_s1) => [(10, .slice t0_a0 t0.1.length t0_c0), (11, .slice t0_a1 t0.2.length t0_c1)]) (fun (t0, t0_a0, t0_c0, t0_a1, t0_c1, t0_s1) => [OwnL eN t0_a0 3 1 t0_c0 t0.1, OwnA t0_a1 78 3 t0_c1 t0_s1, Cells b9 78 [.slice a18_0 x18.length c18_0, str x21, .int .i64 id], Cells b0 75 [.slice ap0_0 s.list.length cp0_0], OwnA ap0_0 78 3 cp0_0 sp0_0, F]) (fun zz K1 => match zz with | (t0, t0_a0, t0_c0, t0_a1, t0_c1, t0_s1) => (0 < t0.1.length → Has t0_a0) ∧ LR S_vary_variant.R K1 t0_s1 t0.2 ∧ (0 < t0.2.length → Has t0_a1) ∧ t0 = s0) ?_ ?_
  · refine block_go rfl ?_
    conv => whnf
    refine loop_rule (σ := Nat × (List Int) × (List S_vary_variant) × Option Addr × Nat × Option Addr × Nat × List (List Value)) [10, 11, 13, 31, 32, 33, 34, 35, 36, 37, 38, 39, 40, 41, 42, 43, 44, 45, 46, 47, 48, 49, 50, 51, 52, 53, 54, 55, 56, 57, 58, 59, 60, 61, 62] (fun (i0, y0_0, y0_1, y0_a0, y0_c0, y0_a1, y0_c1, y0_s1) => [(31, .int .i64 (i0 : Int)), (10, .slice y0_a0 y0_0.length y0_c0), (11, .slice y0_a1 y0_1.length y0_c1)]) (fun (i0, y0_0, y0_1, y0_a0, y0_c0, y0_a1, y0_c1, y0_s1) => [OwnL eN y0_a0 3 1 y0_c0 y0_0, OwnA y0_a1 78 3 y0_c1 y0_s1, Cells b9 78 [.slice a18_0 x18.length c18_0, str x21, .int .i64 id], Cells b0 75 [.slice ap0_0 s.list.length cp0_0], OwnA ap0_0 78 3 cp0_0 sp0_0, F]) (fun zz K1 => match zz with | (i0, y0_0, y0_1, y0_a0, y0_c0, y0_a1, y0_c1, y0_s1) => (0 < y0_0.length → Has y0_a0) ∧ LR S_vary_variant.R K1 y0_s1 y0_1 ∧ (0 < y0_1.length → Has y0_a1) ∧ vary_Set_Put_L0 id x21 x18 (s.list.drop i0) i0 y0_0 y0_1 = some s0) (fun zz => s.list.length - zz.1) (0, [], [(⟨x18, x21, id⟩ : S_vary_variant)], none, 0, (some ⟨b25, 0, none⟩), 1, [[.slice a18_0 x18.length c18_0, str x21, .int .i64 id]]) rfl ⟨rfl, rfl, rfl, trivial⟩ (ConvH.of (.cons r0 (.cons r0 (.cons r0 (.cons r0 (.cons r0 (.cons r0 .nil))))))) ⟨(fun h => by simp at h), (show LR S_vary_variant.R _ [[.slice a18_0 x18.length c18_0, str x21, .int .i64 id]] [(⟨x18, x21, id⟩ : S_vary_variant)] from (LR.snoc LR.nil ⟨a18_0, c18_0, rfl, ff25_0_0⟩)), (fun _ => ⟨_, _, rfl⟩), hl0⟩ ?_
    clear hl0
    rintro ⟨i0, y0_0, y0_1, y0_a0, y0_c0, y0_a1, y0_c1, y0_s1⟩ Kb0 lk0 ⟨y0_h0, y0_r1, y0_h1, hl0⟩ j0
    conv => whnf
    refine cond_go rfl ?_
    conv => whnf
    refine cond_s (fun w0 => ?_) (fun w0 => ?_)
    · obtain ⟨e0, hx0, hd0⟩ := ltx w0
      rw [hd0, vary_Set_Put_L0.eq_2] at hl0
      conv => whnf
      refine block_go rfl ?_
      conv => whnf
      refine RStep.ofN (index_addr rfl rfl (hasO hp0_0 hx0) (nn _) (lt_ofNE rfl hx0) ?_)
      obtain ⟨cc34, hc34, hR34⟩ := LR.get (LR.mono S_vary_variant.R_ok (((l18.trans l21).trans lf25_0_0).trans lk0) rp0_0) hx0
      obtain ⟨a34_0, c34_0, rfl, h34_0⟩ := hR34
      conv => whnf
      refine RStep.of (ldnA (i := i0) r4 rfl hc34 rfl ?_)
      conv => whnf
      refine alloc_rule rfl ?_
      intro b13
      conv => whnf
      refine store_rule r0 rfl ?_
      conv => whnf
      refine ⟨rfl, rfl, (Nat.le_of_ble_eq_true rfl), ?_⟩
      conv => whnf
      refine block_go rfl ?_
      conv => whnf
      refine field_addr rfl ?_
      conv => whnf
      refine RStep.of (load1_s r0 rfl rfl ?_)
      conv => whnf
      refine eq_int ?_
      conv => whnf
      refine cond_go rfl ?_
      conv => whnf
      refine cond_s (fun w39 => ?_) (fun w39 => ?_)
      · replace hl0 := ift w39 hl0
        conv => whnf
        refine int_in (cntz hx0 hk0) ?_
        conv => whnf
        refine RoundStep.mk (i0 + 1, y0_0, y0_1, y0_a0, y0_c0, y0_a1, y0_c1, y0_s1) ⟨rfl, rfl, rfl, trivial⟩ (by repeat (first | exact trivial | refine And.intro rfl ?_)) (ConvH.of (.cons r1 (.cons r1 (.cons r1 (.cons r1 (.cons r1 (.cons r1 .nil))))))) lk0 (ltm hx0) ⟨y0_h0, y0_r1, y0_h1, hl0⟩
      · replace hl0 := iff_ w39 hl0
        conv => whnf
        refine field_addr rfl ?_
        conv => whnf
        refine RStep.of (load1_s r0 rfl rfl ?_)
        conv => whnf
        refine field_addr rfl ?_
        conv => whnf
        refine RStep.of (load1_s r3 rfl rfl ?_)
        conv => whnf
        refine eq_str ?_
        obtain ⟨x56, e56, hl0⟩ := bnd hl0
        conv => whnf
        refine cond_s (fun g50_11 => ?_) (fun g50_11 => ?_)
        · replace e56 := ift g50_11 e56
          conv => whnf
          refine field_addr rfl ?_
          conv => whnf
          refine cond_t g50_11 ?_
          conv => whnf
          refine RStep.of (load1_s r0 rfl rfl ?_)
          conv => whnf
          refine cond_t g50_11 ?_
          conv => whnf
          refine field_addr rfl ?_
          conv => whnf
          refine cond_t g50_11 ?_
          conv => whnf
          refine RStep.of (load1_s r3 rfl rfl ?_)
          conv => whnf
          refine cond_t g50_11 ?_
          obtain ⟨x55, q55, e56⟩ := bnd e56
          conv => whnf
          refine call_fn (slices_Equal_string_ok q55 h34_0 rfl (ff25_0_0.mono lk0) rfl) .nil ?_
          rintro _ K55 _ l55 ⟨rfl, rfl⟩
          conv => whnf
          refine cond_t g50_11 ?_
          conv => whnf
          refine cond_go rfl ?_
          conv => whnf
          refine cond_s (fun w44 => ?_) (fun w44 => ?_)
          · replace hl0 := ift ((si e56).symm.trans w44) hl0
            conv => whnf
            refine field_addr rfl ?_
            conv => whnf
            refine RStep.of (load1_s r0 rfl rfl ?_)
            conv => whnf
            refine bsO (len := 1) (enc := eN) (l := [e0.id]) (cl := [.int .i64 e0.id]) elT35 rfl rfl (fun _ _ => rfl) rfl rfl rfl ?_ fun b60 => ?_
            · conv => whnf
              refine cond_T ?_
              conv => whnf
              first | done | rfl
            obtain ⟨h61, hl0⟩ := chkb hl0
            conv => whnf
            refine apE rfl r2 elT35 (src_own' rfl r0 rfl (fun _ => rfl) (fun _ => rfl)) h61 ?_
            intro a61 c61 o61
            conv => whnf
            refine int_in (cntz hx0 hk0) ?_
            conv => whnf
            refine RoundStep.mk (i0 + 1, (y0_0 ++ [e0.id]), y0_1, a61, c61, y0_a1, y0_c1, y0_s1) ⟨rfl, rfl, rfl, trivial⟩ (by repeat (first | exact trivial | refine And.intro rfl ?_)) (ConvH.of (.cons r0 (.cons r2 (.cons r2 (.cons r2 (.cons r2 (.cons r2 .nil))))))) (lk0.trans l55) (ltm hx0) ⟨o61, (LR.mono S_vary_variant.R_ok l55 y0_r1), y0_h1, hl0⟩
          · replace hl0 := iff_ ((si e56).symm.trans w44) hl0
            conv => whnf
            refine RStep.of (loadn_s r0 rfl (Nat.le_of_ble_eq_true rfl) ?_)
            conv => whnf
            refine bsOR (R := S_vary_variant.R) (len := 1) (l := [e0]) (css := [[.slice a34_0 e0.names.length c34_0, str e0.key, .int .i64 e0.id]]) (cl := [.slice a34_0 e0.names.length c34_0, str e0.key, .int .i64 e0.id]) S_vary_variant.R_ok elT73 rfl rfl (LR.snoc LR.nil ⟨a34_0, c34_0, rfl, (h34_0.mono l55)⟩) rfl rfl rfl ?_ fun b37 => ?_
            · conv => whnf
              refine cond_T ?_
              conv => whnf
              first | done | rfl
            obtain ⟨h38, hl0⟩ := chkb hl0
            conv => whnf
            refine apRl r3 (LR.mono S_vary_variant.R_ok l55 y0_r1) rfl elT73 (src_ownR rfl r0 rfl S_vary_variant.R_ok (show LR S_vary_variant.R _ [[.slice a34_0 e0.names.length c34_0, str e0.key, .int .i64 e0.id]] [e0] from (LR.snoc LR.nil ⟨a34_0, c34_0, rfl, (h34_0.mono l55)⟩))) (show LR S_vary_variant.R _ [[.slice a34_0 e0.names.length c34_0, str e0.key, .int .i64 e0.id]] [e0] from (LR.snoc LR.nil ⟨a34_0, c34_0, rfl, (h34_0.mono l55)⟩)) h38 ?_
            intro a38 c38 s38 r_38 o38
            conv => whnf
            refine int_in (cntz hx0 hk0) ?_
            conv => whnf
            refine RoundStep.mk (i0 + 1, y0_0, (y0_1 ++ [e0]), y0_a0, y0_c0, a38, c38, s38) ⟨rfl, rfl, rfl, trivial⟩ (by repeat (first | exact trivial | refine And.intro rfl ?_)) (ConvH.of (.cons r3 (.cons r0 (.cons r2 (.cons r2 (.cons r2 (.cons r2 .nil))))))) (lk0.trans l55) (ltm hx0) ⟨y0_h0, r_38, o38, hl0⟩
        · replace e56 := iff_ g50_11 e56
          conv => whnf
          refine cond_f g50_11 ?_
          conv => whnf
          refine cond_f g50_11 ?_
          conv => whnf
          refine cond_f g50_11 ?_
          conv => whnf
          refine cond_f g50_11 ?_
          conv => whnf
          refine cond_f g50_11 ?_
          conv => whnf
          refine cond_go rfl ?_
          conv => whnf
          refine cond_F ?_
          replace hl0 := iff_ (si e56).symm hl0
          conv => whnf
          refine RStep.of (loadn_s r0 rfl (Nat.le_of_ble_eq_true rfl) ?_)
          conv => whnf
          refine bsOR (R := S_vary_variant.R) (len := 1) (l := [e0]) (css := [[.slice a34_0 e0.names.length c34_0, str e0.key, .int .i64 e0.id]]) (cl := [.slice a34_0 e0.names.length c34_0, str e0.key, .int .i64 e0.id]) S_vary_variant.R_ok elT73 rfl rfl (LR.snoc LR.nil ⟨a34_0, c34_0, rfl, h34_0⟩) rfl rfl rfl ?_ fun b37 => ?_
          · conv => whnf
            refine cond_T ?_
            conv => whnf
            first | done | rfl
          obtain ⟨h38, hl0⟩ := chkb hl0
          conv => whnf
          refine apRl r3 y0_r1 rfl elT73 (src_ownR rfl r0 rfl S_vary_variant.R_ok (show LR S_vary_variant.R _ [[.slice a34_0 e0.names.length c34_0, str e0.key, .int .i64 e0.id]] [e0] from (LR.snoc LR.nil ⟨a34_0, c34_0, rfl, h34_0⟩))) (show LR S_vary_variant.R _ [[.slice a34_0 e0.names.length c34_0, str e0.key, .int .i64 e0.id]] [e0] from (LR.snoc LR.nil ⟨a34_0, c34_0, rfl, h34_0⟩)) h38 ?_
          intro a38 c38 s38 r_38 o38
          conv => whnf
          refine int_in (cntz hx0 hk0) ?_
          conv => whnf
          refine RoundStep.mk (i0 + 1, y0_0, (y0_1 ++ [e0]), y0_a0, y0_c0, a38, c38, s38) ⟨rfl, rfl, rfl, trivial⟩ (by repeat (first | exact trivial | refine And.intro rfl ?_)) (ConvH.of (.cons r3 (.cons r0 (.cons r2 (.cons r2 (.cons r2 (.cons r2 .nil))))))) lk0 (ltm hx0) ⟨y0_h0, r_38, o38, hl0⟩
    · rw [lty w0, vary_Set_Put_L0.eq_1] at hl0
      conv => whnf
      refine cond_T ?_
      conv => whnf
      refine MeetStep.mk ((y0_0, y0_1), y0_a0, y0_c0, y0_a1, y0_c1, y0_s1) ⟨rfl, rfl, trivial⟩ (by repeat (first | exact trivial | refine And.intro rfl ?_)) (ConvH.of (.cons r0 (.cons r0 (.cons r0 (.cons r0 (.cons r0 (.cons r0 .nil))))))) lk0 ⟨y0_h0, y0_r1, y0_h1, (si hl0)⟩
  · rintro ⟨t0, t0_a0, t0_c0, t0_a1, t0_c1, t0_s1⟩ Kt0 lt0 ⟨t0_h0, t0_r1, t0_h1, rfl⟩ j0
    obtain ⟨s3, hl3, hm⟩ := bnd hm
    conv => whnf
    refine code_cut (σ := ((List Int) × Int) × Option Addr × Nat) [10, 14, 63, 64, 65, 66, 67, 68, 69, 70, 71, 72, 73, 74, 75, 76] (fun (t3, t3_a0, t3_c0) => [(10, .slice t3_a0 t3.1.length t3_c0), (14, .int .i64 t3.2)]) (fun (t3, t3_a0, t3_c0) => [OwnL eN t3_a0 3 1 t3_c0 t3.1, OwnA t0_a1 78 3 t0_c1 t0_s1, Cells b9 78 [.slice a18_0 x18.length c18_0, str x21, .int .i64 id], Cells b0 75 [.slice ap0_0 s.list.length cp0_0], OwnA ap0_0 78 3 cp0_0 sp0_0, F]) (fun zz K1 => match zz with | (t3, t3_a0, t3_c0) => (0 < t3.1.length → Has t3_a0) ∧ t3 = s3) ?_ ?_
    · refine block_go rfl ?_
      conv => whnf
      refine loop_rule (σ := Nat × (List Int) × Int × Option Addr × Nat) [10, 14, 63, 64, 65, 66, 67, 68, 69, 70, 71, 72, 73, 74, 75, 76] (fun (i3, y3_0, y3_1, y3_a0, y3_c0) => [(10, .slice y3_a0 y3_0.length y3_c0), (14, .int .i64 y3_1)]) (fun (i3, y3_0, y3_1, y3_a0, y3_c0) => [OwnL eN y3_a0 3 1 y3_c0 y3_0, OwnA t0_a1 78 3 t0_c1 t0_s1, Cells b9 78 [.slice a18_0 x18.length c18_0, str x21, .int .i64 id], Cells b0 75 [.slice ap0_0 s.list.length cp0_0], OwnA ap0_0 78 3 cp0_0 sp0_0, F]) (fun zz K1 => match zz with | (i3, y3_0, y3_1, y3_a0, y3_c0) => (0 < y3_0.length → Has y3_a0) ∧ vary_Set_Put_L3 t0 i3 y3_0 y3_1 = some s3) (fun zz => zz.1) (n, t0.1, 16, t0_a0, t0_c0) rfl ⟨rfl, rfl, trivial⟩ (ConvH.of (.cons r0 (.cons r0 (.cons r0 (.cons r0 (.cons r0 (.cons r0 .nil))))))) ⟨t0_h0, hl3⟩ ?_
      clear hl3
      rintro ⟨i3, y3_0, y3_1, y3_a0, y3_c0⟩ Kb3 lk3 ⟨y3_h0, hl3⟩ j3
      cases i3 with
      | zero => rw [vary_Set_Put_L3.eq_1] at hl3; cases hl3
      | succ i3 =>
        rw [vary_Set_Put_L3.eq_2] at hl3
        conv => whnf
        refine RStep.of (len_slice rfl ?_)
        conv => whnf
        refine cond_go rfl ?_
        conv => whnf
        refine cond_s (fun w66 => ?_) (fun w66 => ?_)
        · replace hl3 := ift w66 hl3
          conv => whnf
          refine block_go rfl ?_
          obtain ⟨x72, l72, k72, hl3⟩ := ixb hl3
          conv => whnf
          refine RStep.ofN (index_addr rfl rfl (hasO t0_h1 k72) l72 (lt_ofE rfl l72 k72) ?_)
          conv => whnf
          refine eptr_field rfl (hasO t0_h1 k72) ?_
          obtain ⟨cc74, hc74, hR74⟩ := LR.get (LR.mono S_vary_variant.R_ok lk3 t0_r1) k72
          obtain ⟨a74_0, c74_0, rfl, h74_0⟩ := hR74
          conv => whnf
          refine RStep.of (ldA (i := (y3_1).toNat) (o := 2) r1 rfl hc74 rfl rfl ?_)
          conv => whnf
          refine bsO (len := 1) (enc := eN) (l := [x72.id]) (cl := [.int .i64 x72.id]) elT35 rfl rfl (fun _ _ => rfl) rfl rfl rfl ?_ fun b75 => ?_
          · conv => whnf
            refine cond_T ?_
            conv => whnf
            first | done | rfl
          obtain ⟨h76, hl3⟩ := chkb hl3
          conv => whnf
          refine apE rfl r1 elT35 (src_own' rfl r0 rfl (fun _ => rfl) (fun _ => rfl)) h76 ?_
          intro a76 c76 o76
          obtain ⟨h68, hl3⟩ := chkb hl3
          conv => whnf
          refine int_in h68 ?_
          conv => whnf
          refine RoundStep.mk (i3, (y3_0 ++ [x72.id]), (y3_1 + 1), a76, c76) ⟨rfl, rfl, trivial⟩ (by repeat (first | exact trivial | refine And.intro rfl ?_)) (ConvH.of (.cons r0 (.cons r1 (.cons r1 (.cons r1 (.cons r1 (.cons r1 .nil))))))) lk3 (Nat.lt_succ_self _) ⟨o76, hl3⟩
        · replace hl3 := iff_ w66 hl3
          conv => whnf
          refine cond_T ?_
          conv => whnf
          refine MeetStep.mk ((y3_0, y3_1), y3_a0, y3_c0) ⟨rfl, rfl, trivial⟩ (by repeat (first | exact trivial | refine And.intro rfl ?_)) (ConvH.of (.cons r0 (.cons r0 (.cons r0 (.cons r0 (.cons r0 (.cons r0 .nil))))))) lk3 ⟨y3_h0, (si hl3)⟩
    · rintro ⟨t3, t3_a0, t3_c0⟩ Kt3 lt3 ⟨t3_h0, rfl⟩ j3
      conv => whnf
      refine RStep.of (len_slice rfl ?_)
      conv => whnf
      refine RStep.of (min_int ?_)
      obtain ⟨h82, hm⟩ := chkb hm
      conv => whnf
      refine ownSl (l := t0.2) (hi := (some (min (t0.2.length : Int) 16))) rfl r1 (LR.mono S_vary_variant.R_ok lt3 t0_r1).len rfl rfl h82 ?_
      conv => whnf
      refine nil_check ?_
      conv => whnf
      refine field_addr rfl ?_
      conv => whnf
      refine tkAW (min (t0.2.length : Int) 16) r1 ?_
      refine store_rule r3 rfl ?_
      conv => whnf
      refine ⟨rfl, rfl, (Nat.le_of_ble_eq_true rfl), ?_⟩
      obtain rfl := si hm
      conv => whnf
      refine EndStep.mk _ ((((l18.trans l21).trans lf25_0_0).trans lt0).trans lt3) ⟨t3_a0, t3_c0, t0_a1, t0_c1, (subL t0_s1 0 (min (t0.2.length : Int) 16)), rfl, t3_h0, (fun h => t0_h1 (pos_sub h82 h)), (LR.sub0 (min (t0.2.length : Int) 16) (LR.mono S_vary_variant.R_ok lt3 t0_r1)), rfl⟩ (ConvH.of (.cons r2 (.cons r0 (.cons r0 (.cons r2 .nil)))))

noncomputable def vary_Set_Find_L0 (f : (List S_field_Field)) : List S_vary_variant → Nat → (List Int) → Option ((List Int))
  | [], _, y0_0 => some y0_0
  | e0 :: xs0, i0, y0_0 =>
    (vary_Key e0.names f).bind fun x22 =>
    if decide (x22 = e0.key) then
    (chk (y0_0.length + [e0.id].length ≤ lim)).bind fun _ =>
    vary_Set_Find_L0 f xs0 (i0 + 1) (y0_0 ++ [e0.id])
    else
    vary_Set_Find_L0 f xs0 (i0 + 1) y0_0
noncomputable def vary_Set_Find (s : S_vary_Set) (f : (List S_field_Field)) : Option ((List Int)) :=
  (chk (s.list.length ≤ szMax)).bind fun _ =>
  (vary_Set_Find_L0 f s.list 0 []).bind fun t0 =>
  some t0
set_option maxHeartbeats 8000000 in
theorem vary_Set_Find_ok {s : S_vary_Set} {f : (List S_field_Field)} {b0 : Nat} {ap0_0 : Option Addr} {cp0_0 : Nat} {sp0_0 : List (List Value)} {ap1_0 : Option Addr} {cp1_0 : Nat} {n1 : Nat} {K : Hp} {r : (List Int)}
    (hm : vary_Set_Find s f = some r) (hp0_0 : (0 < s.list.length → Has ap0_0)) (rp0_0 : LR S_vary_variant.R K sp0_0 s.list) (hp1_0 : RdC S_field_Field.enc K ap1_0 cp1_0 2 f) (en1 : n1 = f.length) :
    Fn Try.prog 18 [.pointer (some ⟨b0, 0, none⟩), .slice ap1_0 n1 cp1_0] K [Cells b0 75 [.slice ap0_0 s.list.length cp0_0], OwnA ap0_0 78 3 cp0_0 sp0_0] (fun v K' H' => ∃ ar_0 : Option Addr, ∃ cr_0 : Nat, v = .slice ar_0 r.length cr_0 ∧ (0 < r.length → Has ar_0) ∧ H' = [OwnL eN ar_0 3 1 cr_0 r, Cells b0 75 [.slice ap0_0 s.list.length cp0_0], OwnA ap0_0 78 3 cp0_0 sp0_0]) := by
  subst en1
  refine Fn.enter Try.func18 Try.call18 rfl fun F => ?_
  unfold vary_Set_Find at hm
  conv => whnf
  refine eq_ptr_nil rfl ?_
  conv => whnf
  refine cond_go rfl ?_
  conv => whnf
  refine cond_F ?_
  conv => whnf
  refine nil_check ?_
  conv => whnf
  refine field_addr rfl ?_
  conv => whnf
  refine RStep.of (load1_s r0 rfl rfl ?_)
  conv => whnf
  refine RStep.of (len_slice rfl ?_)
  obtain ⟨hk0, hm⟩ := chkb hm
  obtain ⟨s0, hl0, hm⟩ := bnd hm
  conv => whnf
  refine nilC eN 3 1 ?_
  refine code_cut (σ := ((List Int)) × Option Addr × Nat) [5, 7, 15, 16, 17, 18, 19, 20, 21, 22, 23, 24, 25, 26, 27, 28, 29, 30, 31] (fun (t0, t0_a0, t0_c0) => [(5, .slice t0_a0 t0.length t0_c0)]) (fun (t0, t0_a0, t0_c0) => [OwnL eN t0_a0 3 1 t0_c0 t0, Cells b0 75 [.slice ap0_0 s.list.length cp0_0], OwnA ap0_0 78 3 cp0_0 sp0_0, F]) (fun zz K1 => match zz with | (t0, t0_a0, t0_c0) => (0 < t0.length → Has t0_a0) ∧ t0 = s0) ?_ ?_
  · refine block_go rfl ?_
    conv => whnf
    refine loop_rule (σ := Nat × (List Int) × Option Addr × Nat) [5, 7, 15, 16, 17, 18, 19, 20, 21, 22, 23, 24, 25, 26, 27, 28, 29, 30, 31] (fun (i0, y0_0, y0_a0, y0_c0) => [(15, .int .i64 (i0 : Int)), (5, .slice y0_a0 y0_0.length y0_c0)]) (fun (i0, y0_0, y0_a0, y0_c0) => [OwnL eN y0_a0 3 1 y0_c0 y0_0, Cells b0 75 [.slice ap0_0 s.list.length cp0_0], OwnA ap0_0 78 3 cp0_0 sp0_0, F]) (fun zz K1 => match zz with | (i0, y0_0, y0_a0, y0_c0) => (0 < y0_0.length → Has y0_a0) ∧ vary_Set_Find_L0 f (s.list.drop i0) i0 y0_0 = some s0) (fun zz => s.list.length - zz.1) (0, [], none, 0) rfl ⟨rfl, rfl, trivial⟩ (ConvH.of (.cons r0 (.cons r0 (.cons r0 (.cons r0 .nil))))) ⟨(fun h => by simp at h), hl0⟩ ?_
    clear hl0
    rintro ⟨i0, y0_0, y0_a0, y0_c0⟩ Kb0 lk0 ⟨y0_h0, hl0⟩ j0
    conv => whnf
    refine cond_go rfl ?_
    conv => whnf
    refine cond_s (fun w0 => ?_) (fun w0 => ?_)
    · obtain ⟨e0, hx0, hd0⟩ := ltx w0
      rw [hd0, vary_Set_Find_L0.eq_2] at hl0
      conv => whnf
      refine block_go rfl ?_
      conv => whnf
      refine RStep.ofN (index_addr rfl rfl (hasO hp0_0 hx0) (nn _) (lt_ofNE rfl hx0) ?_)
      obtain ⟨cc18, hc18, hR18⟩ := LR.get (LR.mono S_vary_variant.R_ok lk0 rp0_0) hx0
      obtain ⟨a18_0, c18_0, rfl, h18_0⟩ := hR18
      conv => whnf
      refine RStep.of (ldnA (i := i0) r2 rfl hc18 rfl ?_)
      conv => whnf
      refine alloc_rule rfl ?_
      intro b7
      conv => whnf
      refine store_rule r0 rfl ?_
      conv => whnf
      refine ⟨rfl, rfl, (Nat.le_of_ble_eq_true rfl), ?_⟩
      conv => whnf
      refine draw_go ⟨⟨[], false⟩, _, [(_, _)]⟩ (by kernel_rfl) ⟨Hp.Le.refl _, (ConvH.of (.cons r0 .nil))⟩ ?_
      conv => whnf
      refine field_addr rfl ?_
      conv => whnf
      refine load1_l m0 rfl rfl ?_
      obtain ⟨x22, q22, hl0⟩ := bnd hl0
      conv => whnf
      refine call_fn (vary_Key_ok q22 h18_0 rfl (hp1_0.mono lk0) rfl) .nil ?_
      rintro _ K22 _ l22 ⟨rfl, rfl⟩
      conv => whnf
      refine ⟨⟨l22, (ConvH.of (.cons r0 .nil))⟩, ?_⟩
      conv => whnf
      refine field_addr rfl ?_
      conv => whnf
      refine load1_l m0 rfl rfl ?_
      conv => whnf
      refine eq_str ?_
      conv => whnf
      refine cond_go rfl ?_
      conv => whnf
      refine cond_s (fun w25 => ?_) (fun w25 => ?_)
      · replace hl0 := ift w25 hl0
        conv => whnf
        refine field_addr rfl ?_
        conv => whnf
        refine RStep.of (load1_s r0 rfl rfl ?_)
        conv => whnf
        refine bsO (len := 1) (enc := eN) (l := [e0.id]) (cl := [.int .i64 e0.id]) elT35 rfl rfl (fun _ _ => rfl) rfl rfl rfl ?_ fun b29 => ?_
        · conv => whnf
          refine cond_T ?_
          conv => whnf
          first | done | rfl
        obtain ⟨h30, hl0⟩ := chkb hl0
        conv => whnf
        refine apE rfl r2 elT35 (src_own' rfl r0 rfl (fun _ => rfl) (fun _ => rfl)) h30 ?_
        intro a30 c30 o30
        conv => whnf
        refine int_in (cntz hx0 hk0) ?_
        conv => whnf
        refine RoundStep.mk (i0 + 1, (y0_0 ++ [e0.id]), a30, c30) ⟨rfl, rfl, trivial⟩ (by repeat (first | exact trivial | refine And.intro rfl ?_)) (ConvH.of (.cons r0 (.cons r2 (.cons r2 (.cons r2 .nil))))) (lk0.trans l22) (ltm hx0) ⟨o30, hl0⟩
      · replace hl0 := iff_ w25 hl0
        conv => whnf
        refine int_in (cntz hx0 hk0) ?_
        conv => whnf
        refine RoundStep.mk (i0 + 1, y0_0, y0_a0, y0_c0) ⟨rfl, rfl, trivial⟩ (by repeat (first | exact trivial | refine And.intro rfl ?_)) (ConvH.of (.cons r1 (.cons r1 (.cons r1 (.cons r1 .nil))))) (lk0.trans l22) (ltm hx0) ⟨y0_h0, hl0⟩
    · rw [lty w0, vary_Set_Find_L0.eq_1] at hl0
      conv => whnf
      refine cond_T ?_
      conv => whnf
      refine MeetStep.mk (y0_0, y0_a0, y0_c0) ⟨rfl, trivial⟩ (by repeat (first | exact trivial | refine And.intro rfl ?_)) (ConvH.of (.cons r0 (.cons r0 (.cons r0 (.cons r0 .nil))))) lk0 ⟨y0_h0, (si hl0)⟩
  · rintro ⟨t0, t0_a0, t0_c0⟩ Kt0 lt0 ⟨t0_h0, rfl⟩ j0
    obtain rfl := si hm
    conv => whnf
    refine EndStep.mk _ lt0 ⟨t0_a0, t0_c0, rfl, t0_h0, rfl⟩ (ConvH.of (.cons r0 (.cons r0 (.cons r0 (.cons r0 .nil)))))

noncomputable def base_Ints_L0 (b : (List Int)) : List Int → Nat → Option (Fl (Bool) (Unit))
  | [], _ => some (Fl.go ())
  | e0 :: xs0, i0 =>
    (ix b (i0 : Int)).bind fun x22 =>
    if decide (e0 ≠ x22) then
    some (Fl.ret false)
    else
    base_Ints_L0 b xs0 (i0 + 1)
noncomputable def base_Ints (a : (List Int)) (b : (List Int)) : Option (Bool) :=
  if decide ((a.length : Int) ≠ (b.length : Int)) then
  some false
  else
  (chk (a.length ≤ szMax)).bind fun _ =>
  (base_Ints_L0 b a 0).bind fun s0 => s0.el some fun t0 =>
  some true
set_option maxHeartbeats 8000000 in
theorem base_Ints_ok {a : (List Int)} {b : (List Int)} {ap0_0 : Option Addr} {cp0_0 : Nat} {n0 : Nat} {ap1_0 : Option Addr} {cp1_0 : Nat} {n1 : Nat} {K : Hp} {r : Bool}
    (hm : base_Ints a b = some r) (hp0_0 : RdC eN K ap0_0 cp0_0 1 a) (en0 : n0 = a.length) (hp1_0 : RdC eN K ap1_0 cp1_0 1 b) (en1 : n1 = b.length) :
    Fn Try.prog 19 [.slice ap0_0 n0 cp0_0, .slice ap1_0 n1 cp1_0] K [] (fun v K' H' => v = .bool r ∧ H' = []) := by
  subst en0
  subst en1
  refine Fn.enter Try.func19 Try.call19 rfl fun F => ?_
  unfold base_Ints at hm
  conv => whnf
  refine RStep.of (len_slice rfl ?_)
  conv => whnf
  refine RStep.of (len_slice rfl ?_)
  conv => whnf
  refine neq_int ?_
  conv => whnf
  refine cond_go rfl ?_
  conv => whnf
  refine cond_s (fun w10 => ?_) (fun w10 => ?_)
  · replace hm := ift w10 hm
    obtain rfl := si hm
    conv => whnf
    refine EndStep.mk _ (Hp.Le.refl _) ⟨rfl, rfl⟩ (ConvH.of (.cons r0 .nil))
  · replace hm := iff_ w10 hm
    conv => whnf
    refine RStep.of (len_slice rfl ?_)
    obtain ⟨hk0, hm⟩ := chkb hm
    obtain ⟨s0, hl0, hm⟩ := bnd hm
    conv => whnf
    refine code_cut (σ := (Unit)) [4, 5, 13, 14, 15, 16, 17, 18, 19, 20, 21, 22, 23, 24, 25] (fun t0 => []) (fun t0 => [F]) (fun zz K1 => match zz with | t0 => s0 = Fl.go t0) ?_ ?_
    · refine block_go rfl ?_
      conv => whnf
      refine loop_rule (σ := Nat) [4, 5, 13, 14, 15, 16, 17, 18, 19, 20, 21, 22, 23, 24, 25] (fun i0 => [(13, .int .i64 (i0 : Int))]) (fun i0 => [F]) (fun zz K1 => match zz with | i0 => base_Ints_L0 b (a.drop i0) i0 = some s0) (fun zz => a.length - zz) (0) rfl ⟨rfl, trivial⟩ (ConvH.of (.cons r0 .nil)) hl0 ?_
      clear hl0
      rintro i0 Kb0 lk0 hl0 j0
      conv at hl0 => whnf
      conv => whnf
      refine cond_go rfl ?_
      conv => whnf
      refine cond_s (fun w0 => ?_) (fun w0 => ?_)
      · obtain ⟨e0, hx0, hd0⟩ := ltx w0
        rw [hd0, base_Ints_L0.eq_2] at hl0
        conv => whnf
        refine block_go rfl ?_
        conv => whnf
        refine draw_go ⟨⟨[], false⟩, _, []⟩ (by kernel_rfl) ⟨Hp.Le.refl _, (ConvH.of .nil)⟩ ?_
        conv => whnf
        refine index_addr rfl rfl (hasK (hp0_0.mono lk0).rd hx0) (nn _) (lt_ofN hx0) ?_
        conv => whnf
        refine load_rd_l i0 0 _ _ (hp0_0.mono lk0).rd rfl (mp hx0) rfl rfl ?_
        obtain ⟨x22, l22, k22, hl0⟩ := ixb hl0
        conv => whnf
        refine index_addr rfl rfl (hasK (hp1_0.mono lk0).rd k22) l22 (lt_ofE rfl l22 k22) ?_
        conv => whnf
        refine load_rd_l (((i0 : Int)).toNat) 0 _ _ (hp1_0.mono lk0).rd rfl (mp k22) rfl rfl ?_
        conv => whnf
        refine neq_int ?_
        conv => whnf
        refine cond_go rfl ?_
        conv => whnf
        refine cond_s (fun w24 => ?_) (fun w24 => ?_)
        · replace hl0 := ift w24 hl0
          obtain rfl := si hl0
          replace hm := elr hm
          obtain rfl := si hm
          conv => whnf
          refine EndStep.mk _ lk0 ⟨rfl, rfl⟩ (ConvH.of (.cons r0 .nil))
        · replace hl0 := iff_ w24 hl0
          conv => whnf
          refine int_in (cntz hx0 hk0) ?_
          conv => whnf
          refine RoundStep.mk (i0 + 1) ⟨rfl, trivial⟩ (by repeat (first | exact trivial | refine And.intro rfl ?_)) (ConvH.of (.cons r0 .nil)) lk0 (ltm hx0) hl0
      · rw [lty w0, base_Ints_L0.eq_1] at hl0
        conv => whnf
        refine cond_T ?_
        conv => whnf
        refine MeetStep.mk (()) trivial (by repeat (first | exact trivial | refine And.intro rfl ?_)) (ConvH.of (.cons r0 .nil)) lk0 (si hl0).symm
    · rintro t0 Kt0 lt0 rfl j0
      replace hm := elg hm
      obtain rfl := si hm
      conv => whnf
      refine EndStep.mk _ lt0 ⟨rfl, rfl⟩ (ConvH.of (.cons r0 .nil))

noncomputable def law16_awake (n : Nat) : Option (Bool) :=
  (vary_New).bind fun x3 =>
  (vary_Set_Put n x3 ([([97, 99, 99, 101, 112, 116] : Str)]) ([(⟨([97, 99, 99, 101, 112, 116] : Str), ([97] : Str)⟩ : S_field_Field)]) 7).bind fun x9 =>
  (vary_Key ([([97, 99, 99, 101, 112, 116] : Str), ([120] : Str)]) ([(⟨([97, 99, 99, 101, 112, 116] : Str), ([97] : Str)⟩ : S_field_Field)])).bind fun x12 =>
  (if decide (x12 = ([97, 99, 99, 101, 112, 116, 61, 34, 97, 34, 38, 120] : Str)) then (vary_Set_Find x9.2 ([(⟨([97, 99, 99, 101, 112, 116] : Str), ([97] : Str)⟩ : S_field_Field)])).bind fun x17 =>
  (base_Ints x17 [7]).bind fun x19 =>
  some x19 else some false).bind fun x20 =>
  some x20
set_option maxHeartbeats 8000000 in
theorem law16_awake_ok {n : Nat}  {K : Hp} {r : Bool}
    (hm : law16_awake n = some r)  :
    Fn Try.prog 11 [] K [] (fun v K' H' => v = .bool r ∧ H' = []) := by
  refine Fn.enter Try.func11 Try.call11 rfl fun F => ?_
  unfold law16_awake at hm
  obtain ⟨x3, q3, hm⟩ := bnd hm
  conv => whnf
  refine call_fn (vary_New_ok q3) .nil ?_
  rintro _ K3 _ l3 ⟨b3_0, a3_1, c3_1, s3_1, rfl, h3_1, r3_1, rfl⟩
  conv => whnf
  refine build_struct rfl rfl ?_
  conv => whnf
  refine cond_T ?_
  conv => whnf
  refine cond_T ?_
  conv => whnf
  refine bsO (len := 1) (enc := S_field_Field.enc) (l := [(⟨([97, 99, 99, 101, 112, 116] : Str), ([97] : Str)⟩ : S_field_Field)]) (cl := [str ([97, 99, 99, 101, 112, 116] : Str), str ([97] : Str)]) elT29 rfl rfl (fun _ _ => rfl) rfl rfl rfl ?_ fun b5 => ?_
  · conv => whnf
    refine cond_T ?_
    conv => whnf
    first | done | rfl
  conv => whnf
  refine bsO (len := 1) (enc := eS) (l := [([97, 99, 99, 101, 112, 116] : Str)]) (cl := [str ([97, 99, 99, 101, 112, 116] : Str)]) elT22 rfl rfl (fun _ _ => rfl) rfl rfl rfl ?_ fun b7 => ?_
  · conv => whnf
    refine cond_T ?_
    conv => whnf
    first | done | rfl
  obtain ⟨x9, q9, hm⟩ := bnd hm
  conv => whnf
  refine fF Try.call16 r0 fun K9_1 l9_1 f9_1 => ?_
  refine fF Try.call16 r0 fun K9_2 l9_2 f9_2 => ?_
  refine call_fn (vary_Set_Put_ok (s := x3) (id := 7) q9 h3_1 (LR.mono S_vary_variant.R_ok (l9_1.trans l9_2) r3_1) (f9_1.mono l9_2) rfl f9_2 rfl) (.cons r0 (.cons r0 .nil)) ?_
  rintro _ K9 _ l9 ⟨a9_0, c9_0, a9_1, c9_1, s9_1, rfl, h9_0, h9_1, r9_1, rfl⟩
  conv => whnf
  refine bsO (len := 2) (enc := eS) (l := [([97, 99, 99, 101, 112, 116] : Str), ([120] : Str)]) (cl := [str ([97, 99, 99, 101, 112, 116] : Str), str ([120] : Str)]) elT22 rfl rfl (fun _ _ => rfl) rfl rfl rfl ?_ fun b10 => ?_
  · conv => whnf
    refine cond_T ?_
    conv => whnf
    refine cond_T ?_
    conv => whnf
    first | done | rfl
  obtain ⟨x12, q12, hm⟩ := bnd hm
  conv => whnf
  refine call_fn (Fn.lend Try.call12 (fun K12_0 l12_0 f12_0 => (vary_Key_ok q12 f12_0 rfl (f9_2.mono (l9.trans l12_0)) rfl)) (by exact fun _ _ _ _ h => h)) (.cons r0 .nil) ?_
  rintro _ K12 _ l12 ⟨_, rfl, rfl, rfl⟩
  conv => whnf
  refine eq_str ?_
  obtain ⟨x20, e20, hm⟩ := bnd hm
  conv => whnf
  refine cond_s (fun g14_4 => ?_) (fun g14_4 => ?_)
  · replace e20 := ift g14_4 e20
    conv => whnf
    refine cond_t g14_4 ?_
    conv => whnf
    refine cond_t g14_4 ?_
    obtain ⟨x17, q17, e20⟩ := bnd e20
    conv => whnf
    refine call_fn (vary_Set_Find_ok (s := x9.2) q17 h9_1 (LR.mono S_vary_variant.R_ok l12 r9_1) (f9_2.mono (l9.trans l12)) rfl) (.cons r2 (.cons r2 .nil)) ?_
    rintro _ K17 _ l17 ⟨a17_0, c17_0, rfl, h17_0, rfl⟩
    conv => whnf
    refine cond_t g14_4 ?_
    conv => whnf
    refine bsO (len := 1) (enc := eN) (l := [7]) (cl := [.int .i64 7]) elT35 rfl rfl (fun _ _ => rfl) rfl rfl rfl ?_ fun b18 => ?_
    · conv => whnf
      refine cond_T ?_
      conv => whnf
      first | done | rfl
    conv => whnf
    refine cond_t g14_4 ?_
    obtain ⟨x19, q19, e20⟩ := bnd e20
    conv => whnf
    refine call_fn (Fn.lend Try.call19 (fun K19_0 l19_0 f19_0 => (Fn.lend Try.call19 (fun K19_1 l19_1 f19_1 => (base_Ints_ok q19 (f19_0.mono l19_1) rfl f19_1 rfl)) (by exact fun _ _ _ _ h => h))) (by exact fun _ _ _ _ h => h)) (.cons r1 (.cons r0 .nil)) ?_
    rintro _ K19 _ l19 ⟨_, rfl, _, rfl, rfl, rfl⟩
    conv => whnf
    refine cond_t g14_4 ?_
    obtain rfl := si hm
    conv => whnf
    refine EndStep.mk _ ((((((l3.trans l9_1).trans l9_2).trans l9).trans l12).trans l17).trans l19) ⟨(by rw [← (si e20)] <;> rfl), rfl⟩ (ConvH.of (.cons r6 .nil))
  · replace e20 := iff_ g14_4 e20
    conv => whnf
    refine cond_f g14_4 ?_
    conv => whnf
    refine cond_f g14_4 ?_
    conv => whnf
    refine cond_f g14_4 ?_
    conv => whnf
    refine cond_f g14_4 ?_
    conv => whnf
    refine cond_f g14_4 ?_
    obtain rfl := si hm
    conv => whnf
    refine EndStep.mk _ ((((l3.trans l9_1).trans l9_2).trans l9).trans l12) ⟨(by rw [← ((si e20).symm).symm] <;> rfl), rfl⟩ (ConvH.of (.cons r4 .nil))

noncomputable def law16_long_L0 : List Str → Nat → Int → Option (Int)
  | [], _, y0_0 => some y0_0
  | e0 :: xs0, i0, y0_0 =>
    (chk (InI (y0_0 + (e0.length : Int)))).bind fun _ =>
    law16_long_L0 xs0 (i0 + 1) (y0_0 + (e0.length : Int))
noncomputable def law16_long (names : (List Str)) : Option (Bool) :=
  (chk (names.length ≤ szMax)).bind fun _ =>
  (law16_long_L0 names 0 (names.length : Int)).bind fun t0 =>
  some (decide (t0 > 500))
set_option maxHeartbeats 8000000 in
theorem law16_long_ok {names : (List Str)} {ap0_0 : Option Addr} {cp0_0 : Nat} {n0 : Nat} {K : Hp} {r : Bool}
    (hm : law16_long names = some r) (hp0_0 : RdC eS K ap0_0 cp0_0 1 names) (en0 : n0 = names.length) :
    Fn Try.prog 9 [.slice ap0_0 n0 cp0_0] K [] (fun v K' H' => v = .bool r ∧ H' = []) := by
  subst en0
  refine Fn.enter Try.func9 Try.call9 rfl fun F => ?_
  unfold law16_long at hm
  conv => whnf
  refine RStep.of (len_slice rfl ?_)
  conv => whnf
  refine RStep.of (len_slice rfl ?_)
  obtain ⟨hk0, hm⟩ := chkb hm
  obtain ⟨s0, hl0, hm⟩ := bnd hm
  conv => whnf
  refine code_cut (σ := (Int)) [3, 5, 10, 11, 12, 13, 14, 15, 16, 17, 18] (fun t0 => [(3, .int .i64 t0)]) (fun t0 => [F]) (fun zz K1 => match zz with | t0 => t0 = s0) ?_ ?_
  · refine block_go rfl ?_
    conv => whnf
    refine loop_rule (σ := Nat × Int) [3, 5, 10, 11, 12, 13, 14, 15, 16, 17, 18] (fun (i0, y0_0) => [(10, .int .i64 (i0 : Int)), (3, .int .i64 y0_0)]) (fun (i0, y0_0) => [F]) (fun zz K1 => match zz with | (i0, y0_0) => law16_long_L0 (names.drop i0) i0 y0_0 = some s0) (fun zz => names.length - zz.1) (0, (names.length : Int)) rfl ⟨rfl, rfl, trivial⟩ (ConvH.of (.cons r0 .nil)) hl0 ?_
    clear hl0
    rintro ⟨i0, y0_0⟩ Kb0 lk0 hl0 j0
    conv at hl0 => whnf
    conv => whnf
    refine cond_go rfl ?_
    conv => whnf
    refine cond_s (fun w0 => ?_) (fun w0 => ?_)
    · obtain ⟨e0, hx0, hd0⟩ := ltx w0
      rw [hd0, law16_long_L0.eq_2] at hl0
      conv => whnf
      refine block_go rfl ?_
      conv => whnf
      refine RStep.ofN (index_addr rfl rfl (hasK (hp0_0.mono lk0).rd hx0) (nn _) (lt_ofN hx0) ?_)
      conv => whnf
      refine RStep.of (load_rd i0 0 _ _ (hp0_0.mono lk0).rd rfl (mp hx0) rfl rfl ?_)
      conv => whnf
      refine RStep.of (len_str rfl ?_)
      obtain ⟨h17, hl0⟩ := chkb hl0
      conv => whnf
      refine int_in h17 ?_
      conv => whnf
      refine int_in (cntz hx0 hk0) ?_
      conv => whnf
      refine RoundStep.mk (i0 + 1, (y0_0 + (e0.length : Int))) ⟨rfl, rfl, trivial⟩ (by repeat (first | exact trivial | refine And.intro rfl ?_)) (ConvH.of (.cons r0 .nil)) lk0 (ltm hx0) hl0
    · rw [lty w0, law16_long_L0.eq_1] at hl0
      conv => whnf
      refine cond_T ?_
      conv => whnf
      refine MeetStep.mk (y0_0) ⟨rfl, trivial⟩ (by repeat (first | exact trivial | refine And.intro rfl ?_)) (ConvH.of (.cons r0 .nil)) lk0 (si hl0)
  · rintro t0 Kt0 lt0 rfl j0
    obtain rfl := si hm
    conv => whnf
    refine EndStep.mk _ lt0 ⟨rfl, rfl⟩ (ConvH.of (.cons r0 .nil))

noncomputable def law16_large_L2 : List S_ref02_Field → Nat → Int → Option (Int)
  | [], _, y2_0 => some y2_0
  | e2 :: xs2, i2, y2_0 =>
    law16_large_L2 xs2 (i2 + 1) (IntKind.i64.wrap (y2_0 + (IntKind.i64.wrap ((IntKind.i64.wrap (2 + (e2.Name.length : Int))) + (e2.Value.length : Int)))))
noncomputable def law16_large_L0 : List (List S_ref02_Field) → Nat → Int → Option (Int)
  | [], _, y0_0 => some y0_0
  | e0 :: xs0, i0, y0_0 =>
    (chk (e0.length ≤ szMax)).bind fun _ =>
    (law16_large_L2 e0 0 y0_0).bind fun t2 =>
    law16_large_L0 xs0 (i0 + 1) t2
noncomputable def law16_large (lists : (List (List S_ref02_Field))) : Option (Bool) :=
  (chk (lists.length ≤ szMax)).bind fun _ =>
  (law16_large_L0 lists 0 0).bind fun t0 =>
  some (decide (t0 > 3000))
set_option maxHeartbeats 8000000 in
theorem law16_large_ok {lists : (List (List S_ref02_Field))} {ap0_0 : Option Addr} {cp0_0 : Nat} {n0 : Nat} {K : Hp} {r : Bool}
    (hm : law16_large lists = some r) (hp0_0 : LiC (sliL S_ref02_Field.enc 2) K ap0_0 cp0_0 1 lists) (en0 : n0 = lists.length) :
    Fn Try.prog 10 [.slice ap0_0 n0 cp0_0] K [] (fun v K' H' => v = .bool r ∧ H' = []) := by
  subst en0
  refine Fn.enter Try.func10 Try.call10 rfl fun F => ?_
  unfold law16_large at hm
  conv => whnf
  refine RStep.of (len_slice rfl ?_)
  obtain ⟨hk0, hm⟩ := chkb hm
  obtain ⟨s0, hl0, hm⟩ := bnd hm
  conv => whnf
  refine code_cut (σ := (Int)) [3, 5, 7, 10, 11, 12, 13, 14, 15, 16, 17, 18, 19, 20, 21, 22, 23, 24, 25, 26, 27, 28, 29, 30, 31] (fun t0 => [(3, .int .i64 t0)]) (fun t0 => [F]) (fun zz K1 => match zz with | t0 => t0 = s0) ?_ ?_
  · refine block_go rfl ?_
    conv => whnf
    refine loop_rule (σ := Nat × Int) [3, 5, 7, 10, 11, 12, 13, 14, 15, 16, 17, 18, 19, 20, 21, 22, 23, 24, 25, 26, 27, 28, 29, 30, 31] (fun (i0, y0_0) => [(10, .int .i64 (i0 : Int)), (3, .int .i64 y0_0)]) (fun (i0, y0_0) => [F]) (fun zz K1 => match zz with | (i0, y0_0) => law16_large_L0 (lists.drop i0) i0 y0_0 = some s0) (fun zz => lists.length - zz.1) (0, 0) rfl ⟨rfl, rfl, trivial⟩ (ConvH.of (.cons r0 .nil)) hl0 ?_
    clear hl0
    rintro ⟨i0, y0_0⟩ Kb0 lk0 hl0 j0
    conv at hl0 => whnf
    conv => whnf
    refine cond_go rfl ?_
    conv => whnf
    refine cond_s (fun w0 => ?_) (fun w0 => ?_)
    · obtain ⟨e0, hx0, hd0⟩ := ltx w0
      rw [hd0, law16_large_L0.eq_2] at hl0
      conv => whnf
      refine block_go rfl ?_
      conv => whnf
      refine RStep.ofN (index_addr rfl rfl (hasR (LiC.mono sliL_ok lk0 hp0_0).rd hx0) (nn _) (lt_ofN hx0) ?_)
      obtain ⟨ss13, cc13, hr13, hc13, hR13⟩ := LiR.get (LiC.mono sliL_ok lk0 hp0_0).rd hx0
      obtain ⟨a13_0, c13_0, rfl, h13_0⟩ := hR13
      conv => whnf
      refine RStep.of (load_rd i0 0 _ _ hr13 rfl hc13 rfl rfl ?_)
      conv => whnf
      refine RStep.of (len_slice rfl ?_)
      obtain ⟨hk2, hl0⟩ := chkb hl0
      obtain ⟨s2, hl2, hl0⟩ := bnd hl0
      conv => whnf
      refine code_cut (σ := (Int)) [3, 7, 16, 17, 18, 19, 20, 21, 22, 23, 24, 25, 26, 27, 28, 29, 30] (fun t2 => [(3, .int .i64 t2)]) (fun t2 => [F]) (fun zz K1 => match zz with | t2 => t2 = s2) ?_ ?_
      · refine block_go rfl ?_
        conv => whnf
        refine loop_rule (σ := Nat × Int) [3, 7, 16, 17, 18, 19, 20, 21, 22, 23, 24, 25, 26, 27, 28, 29, 30] (fun (i2, y2_0) => [(16, .int .i64 (i2 : Int)), (3, .int .i64 y2_0)]) (fun (i2, y2_0) => [F]) (fun zz K1 => match zz with | (i2, y2_0) => law16_large_L2 (e0.drop i2) i2 y2_0 = some s2) (fun zz => e0.length - zz.1) (0, y0_0) rfl ⟨rfl, rfl, trivial⟩ (ConvH.of (.cons r0 .nil)) hl2 ?_
        clear hl2
        rintro ⟨i2, y2_0⟩ Kb2 lk2 hl2 j2
        conv at hl2 => whnf
        conv => whnf
        refine cond_go rfl ?_
        conv => whnf
        refine cond_s (fun w2 => ?_) (fun w2 => ?_)
        · obtain ⟨e2, hx2, hd2⟩ := ltx w2
          rw [hd2, law16_large_L2.eq_2] at hl2
          conv => whnf
          refine block_go rfl ?_
          conv => whnf
          refine RStep.ofN (index_addr rfl rfl (hasK (h13_0.mono lk2).rd hx2) (nn _) (lt_ofN hx2) ?_)
          conv => whnf
          refine RStep.of (load_rd_agg i2 _ (h13_0.mono lk2).rd rfl (mp hx2) rfl ?_)
          conv => whnf
          refine alloc_rule rfl ?_
          intro b7
          conv => whnf
          refine store_rule r0 rfl ?_
          conv => whnf
          refine ⟨rfl, rfl, (Nat.le_of_ble_eq_true rfl), ?_⟩
          conv => whnf
          refine field_addr rfl ?_
          conv => whnf
          refine RStep.of (load1_s r0 rfl rfl ?_)
          conv => whnf
          refine RStep.of (len_str rfl ?_)
          conv => whnf
          refine int_wrap ?_
          conv => whnf
          refine field_addr rfl ?_
          conv => whnf
          refine RStep.of (load1_s r0 rfl rfl ?_)
          conv => whnf
          refine RStep.of (len_str rfl ?_)
          conv => whnf
          refine int_wrap ?_
          conv => whnf
          refine int_wrap ?_
          conv => whnf
          refine int_in (cntz hx2 hk2) ?_
          conv => whnf
          refine RoundStep.mk (i2 + 1, (IntKind.i64.wrap (y2_0 + (IntKind.i64.wrap ((IntKind.i64.wrap (2 + (e2.Name.length : Int))) + (e2.Value.length : Int)))))) ⟨rfl, rfl, trivial⟩ (by repeat (first | exact trivial | refine And.intro rfl ?_)) (ConvH.of (.cons r1 .nil)) lk2 (ltm hx2) hl2
        · rw [lty w2, law16_large_L2.eq_1] at hl2
          conv => whnf
          refine cond_T ?_
          conv => whnf
          refine MeetStep.mk (y2_0) ⟨rfl, trivial⟩ (by repeat (first | exact trivial | refine And.intro rfl ?_)) (ConvH.of (.cons r0 .nil)) lk2 (si hl2)
      · rintro t2 Kt2 lt2 rfl j2
        conv => whnf
        refine int_in (cntz hx0 hk0) ?_
        conv => whnf
        refine RoundStep.mk (i0 + 1, t2) ⟨rfl, rfl, trivial⟩ (by repeat (first | exact trivial | refine And.intro rfl ?_)) (ConvH.of (.cons r0 .nil)) (lk0.trans lt2) (ltm hx0) hl0
    · rw [lty w0, law16_large_L0.eq_1] at hl0
      conv => whnf
      refine cond_T ?_
      conv => whnf
      refine MeetStep.mk (y0_0) ⟨rfl, trivial⟩ (by repeat (first | exact trivial | refine And.intro rfl ?_)) (ConvH.of (.cons r0 .nil)) lk0 (si hl0)
  · rintro t0 Kt0 lt0 rfl j0
    obtain rfl := si hm
    conv => whnf
    refine EndStep.mk _ lt0 ⟨rfl, rfl⟩ (ConvH.of (.cons r0 .nil))

noncomputable def law02_Fields_L0 : List S_ref02_Field → Nat → (List S_field_Field) → Option ((List S_field_Field))
  | [], _, y0_0 => some y0_0
  | e0 :: xs0, i0, y0_0 =>
    (chk (y0_0.length + [(⟨e0.Name, e0.Value⟩ : S_field_Field)].length ≤ lim)).bind fun _ =>
    law02_Fields_L0 xs0 (i0 + 1) (y0_0 ++ [(⟨e0.Name, e0.Value⟩ : S_field_Field)])
noncomputable def law02_Fields (l : (List S_ref02_Field)) : Option ((List S_field_Field)) :=
  (chk (l.length ≤ szMax)).bind fun _ =>
  (law02_Fields_L0 l 0 []).bind fun t0 =>
  some t0
set_option maxHeartbeats 8000000 in
theorem law02_Fields_ok {l : (List S_ref02_Field)} {ap0_0 : Option Addr} {cp0_0 : Nat} {n0 : Nat} {K : Hp} {r : (List S_field_Field)}
    (hm : law02_Fields l = some r) (hp0_0 : RdC S_ref02_Field.enc K ap0_0 cp0_0 2 l) (en0 : n0 = l.length) :
    Fn Try.prog 13 [.slice ap0_0 n0 cp0_0] K [] (fun v K' H' => ∃ ar_0 : Option Addr, ∃ cr_0 : Nat, v = .slice ar_0 r.length cr_0 ∧ (0 < r.length → Has ar_0) ∧ H' = [OwnL S_field_Field.enc ar_0 65 2 cr_0 r]) := by
  subst en0
  refine Fn.enter Try.func13 Try.call13 rfl fun F => ?_
  unfold law02_Fields at hm
  conv => whnf
  refine RStep.of (len_slice rfl ?_)
  obtain ⟨hk0, hm⟩ := chkb hm
  obtain ⟨s0, hl0, hm⟩ := bnd hm
  conv => whnf
  refine nilC S_field_Field.enc 65 2 ?_
  refine code_cut (σ := ((List S_field_Field)) × Option Addr × Nat) [3, 5, 8, 9, 10, 11, 12, 13, 14, 15, 16, 17, 18, 19, 20] (fun (t0, t0_a0, t0_c0) => [(3, .slice t0_a0 t0.length t0_c0)]) (fun (t0, t0_a0, t0_c0) => [OwnL S_field_Field.enc t0_a0 65 2 t0_c0 t0, F]) (fun zz K1 => match zz with | (t0, t0_a0, t0_c0) => (0 < t0.length → Has t0_a0) ∧ t0 = s0) ?_ ?_
  · refine block_go rfl ?_
    conv => whnf
    refine loop_rule (σ := Nat × (List S_field_Field) × Option Addr × Nat) [3, 5, 8, 9, 10, 11, 12, 13, 14, 15, 16, 17, 18, 19, 20] (fun (i0, y0_0, y0_a0, y0_c0) => [(8, .int .i64 (i0 : Int)), (3, .slice y0_a0 y0_0.length y0_c0)]) (fun (i0, y0_0, y0_a0, y0_c0) => [OwnL S_field_Field.enc y0_a0 65 2 y0_c0 y0_0, F]) (fun zz K1 => match zz with | (i0, y0_0, y0_a0, y0_c0) => (0 < y0_0.length → Has y0_a0) ∧ law02_Fields_L0 (l.drop i0) i0 y0_0 = some s0) (fun zz => l.length - zz.1) (0, [], none, 0) rfl ⟨rfl, rfl, trivial⟩ (ConvH.of (.cons r0 (.cons r0 .nil))) ⟨(fun h => by simp at h), hl0⟩ ?_
    clear hl0
    rintro ⟨i0, y0_0, y0_a0, y0_c0⟩ Kb0 lk0 ⟨y0_h0, hl0⟩ j0
    conv => whnf
    refine cond_go rfl ?_
    conv => whnf
    refine cond_s (fun w0 => ?_) (fun w0 => ?_)
    · obtain ⟨e0, hx0, hd0⟩ := ltx w0
      rw [hd0, law02_Fields_L0.eq_2] at hl0
      conv => whnf
      refine block_go rfl ?_
      conv => whnf
      refine RStep.ofN (index_addr rfl rfl (hasK (hp0_0.mono lk0).rd hx0) (nn _) (lt_ofN hx0) ?_)
      conv => whnf
      refine RStep.of (load_rd_agg i0 _ (hp0_0.mono lk0).rd rfl (mp hx0) rfl ?_)
      conv => whnf
      refine alloc_rule rfl ?_
      intro b5
      conv => whnf
      refine store_rule r0 rfl ?_
      conv => whnf
      refine ⟨rfl, rfl, (Nat.le_of_ble_eq_true rfl), ?_⟩
      conv => whnf
      refine field_addr rfl ?_
      conv => whnf
      refine RStep.of (load1_s r0 rfl rfl ?_)
      conv => whnf
      refine field_addr rfl ?_
      conv => whnf
      refine RStep.of (load1_s r0 rfl rfl ?_)
      conv => whnf
      refine build_struct rfl rfl ?_
      conv => whnf
      refine cond_T ?_
      conv => whnf
      refine cond_T ?_
      conv => whnf
      refine bsO (len := 1) (enc := S_field_Field.enc) (l := [(⟨e0.Name, e0.Value⟩ : S_field_Field)]) (cl := [str e0.Name, str e0.Value]) elT29 rfl rfl (fun _ _ => rfl) rfl rfl rfl ?_ fun b18 => ?_
      · conv => whnf
        refine cond_T ?_
        conv => whnf
        first | done | rfl
      obtain ⟨h19, hl0⟩ := chkb hl0
      conv => whnf
      refine apE rfl r2 elT29 (src_own' rfl r0 rfl (fun _ => rfl) (fun _ => rfl)) h19 ?_
      intro a19 c19 o19
      conv => whnf
      refine int_in (cntz hx0 hk0) ?_
      conv => whnf
      refine RoundStep.mk (i0 + 1, (y0_0 ++ [(⟨e0.Name, e0.Value⟩ : S_field_Field)]), a19, c19) ⟨rfl, rfl, trivial⟩ (by repeat (first | exact trivial | refine And.intro rfl ?_)) (ConvH.of (.cons r0 (.cons r2 .nil))) lk0 (ltm hx0) ⟨o19, hl0⟩
    · rw [lty w0, law02_Fields_L0.eq_1] at hl0
      conv => whnf
      refine cond_T ?_
      conv => whnf
      refine MeetStep.mk (y0_0, y0_a0, y0_c0) ⟨rfl, trivial⟩ (by repeat (first | exact trivial | refine And.intro rfl ?_)) (ConvH.of (.cons r0 (.cons r0 .nil))) lk0 ⟨y0_h0, (si hl0)⟩
  · rintro ⟨t0, t0_a0, t0_c0⟩ Kt0 lt0 ⟨t0_h0, rfl⟩ j0
    obtain rfl := si hm
    conv => whnf
    refine EndStep.mk _ lt0 ⟨t0_a0, t0_c0, rfl, t0_h0, rfl⟩ (ConvH.of (.cons r0 (.cons r0 .nil)))

noncomputable def ref01_Lower_L0 : List UInt8 → Nat → Str → Option (Str)
  | [], _, y0_0 => some y0_0
  | e0 :: xs0, i0, y0_0 =>
    if (decide ((e0.toNat : Int) ≥ 65) && decide ((e0.toNat : Int) ≤ 90)) then
    (chk (y0_0.length + ([(e0 + (32 : UInt8))] : Str).length ≤ lim)).bind fun _ =>
    ref01_Lower_L0 xs0 (i0 + 1) (y0_0 ++ ([(e0 + (32 : UInt8))] : Str))
    else
    (chk (y0_0.length + ([e0] : Str).length ≤ lim)).bind fun _ =>
    ref01_Lower_L0 xs0 (i0 + 1) (y0_0 ++ ([e0] : Str))
noncomputable def ref01_Lower (s : Str) : Option (Str) :=
  (chk (s.length ≤ szMax)).bind fun _ =>
  (ref01_Lower_L0 s 0 ([] : Str)).bind fun t0 =>
  some t0
set_option maxHeartbeats 8000000 in
theorem ref01_Lower_ok {s : Str} {K : Hp} {r : Str}
    (hm : ref01_Lower s = some r)  :
    Fn Try.prog 51 [str s] K [] (fun v K' H' => v = str r ∧ H' = []) := by
  refine Fn.enter Try.func51 Try.call51 rfl fun F => ?_
  unfold ref01_Lower at hm
  conv => whnf
  refine RStep.of (len_str rfl ?_)
  obtain ⟨hk0, hm⟩ := chkb hm
  obtain ⟨s0, hl0, hm⟩ := bnd hm
  conv => whnf
  refine code_cut (σ := (Str)) [3, 4, 5, 8, 9, 10, 11, 12, 13, 14, 15, 16, 17, 18, 19, 20, 21, 22, 23, 24, 25, 26, 27] (fun t0 => [(3, str t0)]) (fun t0 => [F]) (fun zz K1 => match zz with | t0 => t0 = s0) ?_ ?_
  · refine block_go rfl ?_
    conv => whnf
    refine loop_rule (σ := Nat × Str) [3, 4, 5, 8, 9, 10, 11, 12, 13, 14, 15, 16, 17, 18, 19, 20, 21, 22, 23, 24, 25, 26, 27] (fun (i0, y0_0) => [(8, .int .i64 (i0 : Int)), (3, str y0_0)]) (fun (i0, y0_0) => [F]) (fun zz K1 => match zz with | (i0, y0_0) => ref01_Lower_L0 (s.drop i0) i0 y0_0 = some s0) (fun zz => s.length - zz.1) (0, ([] : Str)) rfl ⟨rfl, rfl, trivial⟩ (ConvH.of (.cons r0 .nil)) hl0 ?_
    clear hl0
    rintro ⟨i0, y0_0⟩ Kb0 lk0 hl0 j0
    conv at hl0 => whnf
    conv => whnf
    refine cond_go rfl ?_
    conv => whnf
    refine cond_s (fun w0 => ?_) (fun w0 => ?_)
    · obtain ⟨e0, hx0, hd0⟩ := ltx w0
      rw [hd0, ref01_Lower_L0.eq_2] at hl0
      conv => whnf
      refine block_go rfl ?_
      conv => whnf
      refine idx_str rfl (nn _) hx0 ?_
      conv => whnf
      refine cond_s (fun g16_6 => ?_) (fun g16_6 => ?_)
      · conv => whnf
        refine cond_t g16_6 ?_
        conv => whnf
        refine cond_t g16_6 ?_
        conv => whnf
        refine cond_go rfl ?_
        conv => whnf
        refine cond_s (fun w19 => ?_) (fun w19 => ?_)
        · replace hl0 := ift (and_t g16_6 w19) hl0
          conv => whnf
          refine u8_addS (x := e0) (y := (32 : UInt8)) rfl rfl ?_
          conv => whnf
          refine bsO (len := 1) (enc := eU) (l := ([(e0 + (32 : UInt8))] : Str)) (cl := [.int .u8 ((e0 + (32 : UInt8)).toNat : Int)]) elT87 rfl rfl (fun _ _ => rfl) rfl rfl rfl ?_ fun b24 => ?_
          · conv => whnf
            refine cond_T ?_
            conv => whnf
            first | done | rfl
          conv => whnf
          refine RStep.of (cv_ownE rfl r0 rfl rfl rfl ?_)
          obtain ⟨h26, hl0⟩ := chkb hl0
          conv => whnf
          refine cat_str h26 ?_
          conv => whnf
          refine int_in (cntz hx0 hk0) ?_
          conv => whnf
          refine RoundStep.mk (i0 + 1, (y0_0 ++ ([(e0 + (32 : UInt8))] : Str))) ⟨rfl, rfl, trivial⟩ (by repeat (first | exact trivial | refine And.intro rfl ?_)) (ConvH.of (.cons r1 .nil)) lk0 (ltm hx0) hl0
        · replace hl0 := iff_ (and_g g16_6 w19) hl0
          conv => whnf
          refine bsO (len := 1) (enc := eU) (l := ([e0] : Str)) (cl := [.int .u8 (e0.toNat : Int)]) elT87 rfl rfl (fun _ _ => rfl) rfl rfl rfl ?_ fun b24 => ?_
          · conv => whnf
            refine cond_T ?_
            conv => whnf
            first | done | rfl
          conv => whnf
          refine RStep.of (cv_ownE rfl r0 rfl rfl rfl ?_)
          obtain ⟨h26, hl0⟩ := chkb hl0
          conv => whnf
          refine cat_str h26 ?_
          conv => whnf
          refine int_in (cntz hx0 hk0) ?_
          conv => whnf
          refine RoundStep.mk (i0 + 1, (y0_0 ++ ([e0] : Str))) ⟨rfl, rfl, trivial⟩ (by repeat (first | exact trivial | refine And.intro rfl ?_)) (ConvH.of (.cons r1 .nil)) lk0 (ltm hx0) hl0
      · conv => whnf
        refine cond_f g16_6 ?_
        conv => whnf
        refine cond_f g16_6 ?_
        conv => whnf
        refine cond_go rfl ?_
        conv => whnf
        refine cond_F ?_
        replace hl0 := iff_ (and_f g16_6) hl0
        conv => whnf
        refine bsO (len := 1) (enc := eU) (l := ([e0] : Str)) (cl := [.int .u8 (e0.toNat : Int)]) elT87 rfl rfl (fun _ _ => rfl) rfl rfl rfl ?_ fun b24 => ?_
        · conv => whnf
          refine cond_T ?_
          conv => whnf
          first | done | rfl
        conv => whnf
        refine RStep.of (cv_ownE rfl r0 rfl rfl rfl ?_)
        obtain ⟨h26, hl0⟩ := chkb hl0
        conv => whnf
        refine cat_str h26 ?_
        conv => whnf
        refine int_in (cntz hx0 hk0) ?_
        conv => whnf
        refine RoundStep.mk (i0 + 1, (y0_0 ++ ([e0] : Str))) ⟨rfl, rfl, trivial⟩ (by repeat (first | exact trivial | refine And.intro rfl ?_)) (ConvH.of (.cons r1 .nil)) lk0 (ltm hx0) hl0
    · rw [lty w0, ref01_Lower_L0.eq_1] at hl0
      conv => whnf
      refine cond_T ?_
      conv => whnf
      refine MeetStep.mk (y0_0) ⟨rfl, trivial⟩ (by repeat (first | exact trivial | refine And.intro rfl ?_)) (ConvH.of (.cons r0 .nil)) lk0 (si hl0)
  · rintro t0 Kt0 lt0 rfl j0
    obtain rfl := si hm
    conv => whnf
    refine EndStep.mk _ lt0 ⟨rfl, rfl⟩ (ConvH.of (.cons r0 .nil))

noncomputable def ref02_Of (f : S_ref02_Field) (name : Str) : Option (Bool) :=
  (ref01_Lower f.Name).bind fun x7 =>
  (ref01_Lower name).bind fun x9 =>
  some (decide (x7 = x9))
set_option maxHeartbeats 8000000 in
theorem ref02_Of_ok {f : S_ref02_Field} {name : Str} {K : Hp} {r : Bool}
    (hm : ref02_Of f name = some r)  :
    Fn Try.prog 41 [.agg #[str f.Name, str f.Value], str name] K [] (fun v K' H' => v = .bool r ∧ H' = []) := by
  refine Fn.enter Try.func41 Try.call41 rfl fun F => ?_
  unfold ref02_Of at hm
  conv => whnf
  refine box_rule ?_
  intro b2
  conv => whnf
  refine field_addr rfl ?_
  conv => whnf
  refine RStep.of (load1_s r0 rfl rfl ?_)
  obtain ⟨x7, q7, hm⟩ := bnd hm
  conv => whnf
  refine call_fn (ref01_Lower_ok (s := f.Name) q7) .nil ?_
  rintro _ K7 _ l7 ⟨rfl, rfl⟩
  obtain ⟨x9, q9, hm⟩ := bnd hm
  conv => whnf
  refine call_fn (ref01_Lower_ok (s := name) q9) .nil ?_
  rintro _ K9 _ l9 ⟨rfl, rfl⟩
  conv => whnf
  refine eq_str ?_
  obtain rfl := si hm
  conv => whnf
  refine EndStep.mk _ (l7.trans l9) ⟨rfl, rfl⟩ (ConvH.of (.cons r1 .nil))

noncomputable def ref02_All_L0 (name : Str) : List S_ref02_Field → Nat → (List Str) → Option ((List Str))
  | [], _, y0_0 => some y0_0
  | e0 :: xs0, i0, y0_0 =>
    (ref02_Of e0 name).bind fun x17 =>
    if x17 then
    (chk (y0_0.length + [e0.Value].length ≤ lim)).bind fun _ =>
    ref02_All_L0 name xs0 (i0 + 1) (y0_0 ++ [e0.Value])
    else
    ref02_All_L0 name xs0 (i0 + 1) y0_0
noncomputable def ref02_All (f : (List S_ref02_Field)) (name : Str) : Option ((List Str)) :=
  (chk (f.length ≤ szMax)).bind fun _ =>
  (ref02_All_L0 name f 0 []).bind fun t0 =>
  some t0
set_option maxHeartbeats 8000000 in
theorem ref02_All_ok {f : (List S_ref02_Field)} {name : Str} {ap0_0 : Option Addr} {cp0_0 : Nat} {n0 : Nat} {K : Hp} {r : (List Str)}
    (hm : ref02_All f name = some r) (hp0_0 : RdC S_ref02_Field.enc K ap0_0 cp0_0 2 f) (en0 : n0 = f.length) :
    Fn Try.prog 36 [.slice ap0_0 n0 cp0_0, str name] K [] (fun v K' H' => ∃ ar_0 : Option Addr, ∃ cr_0 : Nat, v = .slice ar_0 r.length cr_0 ∧ (0 < r.length → Has ar_0) ∧ H' = [OwnL eS ar_0 9 1 cr_0 r]) := by
  subst en0
  refine Fn.enter Try.func36 Try.call36 rfl fun F => ?_
  unfold ref02_All at hm
  conv => whnf
  refine RStep.of (len_slice rfl ?_)
  obtain ⟨hk0, hm⟩ := chkb hm
  obtain ⟨s0, hl0, hm⟩ := bnd hm
  conv => whnf
  refine nilC eS 9 1 ?_
  refine code_cut (σ := ((List Str)) × Option Addr × Nat) [5, 6, 9, 10, 11, 12, 13, 14, 15, 16, 17, 18, 19, 20, 21, 22, 23, 24, 25, 26] (fun (t0, t0_a0, t0_c0) => [(5, .slice t0_a0 t0.length t0_c0)]) (fun (t0, t0_a0, t0_c0) => [OwnL eS t0_a0 9 1 t0_c0 t0, F]) (fun zz K1 => match zz with | (t0, t0_a0, t0_c0) => (0 < t0.length → Has t0_a0) ∧ t0 = s0) ?_ ?_
  · refine block_go rfl ?_
    conv => whnf
    refine loop_rule (σ := Nat × (List Str) × Option Addr × Nat) [5, 6, 9, 10, 11, 12, 13, 14, 15, 16, 17, 18, 19, 20, 21, 22, 23, 24, 25, 26] (fun (i0, y0_0, y0_a0, y0_c0) => [(9, .int .i64 (i0 : Int)), (5, .slice y0_a0 y0_0.length y0_c0)]) (fun (i0, y0_0, y0_a0, y0_c0) => [OwnL eS y0_a0 9 1 y0_c0 y0_0, F]) (fun zz K1 => match zz with | (i0, y0_0, y0_a0, y0_c0) => (0 < y0_0.length → Has y0_a0) ∧ ref02_All_L0 name (f.drop i0) i0 y0_0 = some s0) (fun zz => f.length - zz.1) (0, [], none, 0) rfl ⟨rfl, rfl, trivial⟩ (ConvH.of (.cons r0 (.cons r0 .nil))) ⟨(fun h => by simp at h), hl0⟩ ?_
    clear hl0
    rintro ⟨i0, y0_0, y0_a0, y0_c0⟩ Kb0 lk0 ⟨y0_h0, hl0⟩ j0
    conv => whnf
    refine cond_go rfl ?_
    conv => whnf
    refine cond_s (fun w0 => ?_) (fun w0 => ?_)
    · obtain ⟨e0, hx0, hd0⟩ := ltx w0
      rw [hd0, ref02_All_L0.eq_2] at hl0
      conv => whnf
      refine block_go rfl ?_
      conv => whnf
      refine RStep.ofN (index_addr rfl rfl (hasK (hp0_0.mono lk0).rd hx0) (nn _) (lt_ofN hx0) ?_)
      conv => whnf
      refine RStep.of (load_rd_agg i0 _ (hp0_0.mono lk0).rd rfl (mp hx0) rfl ?_)
      obtain ⟨x17, q17, hl0⟩ := bnd hl0
      conv => whnf
      refine call_fn (ref02_Of_ok (f := e0) (name := name) q17) .nil ?_
      rintro _ K17 _ l17 ⟨rfl, rfl⟩
      conv => whnf
      refine cond_go rfl ?_
      conv => whnf
      refine cond_s (fun w17 => ?_) (fun w17 => ?_)
      · replace hl0 := ift w17 hl0
        conv => whnf
        refine RStep.ofN (index_addr rfl rfl (hasK (hp0_0.mono (lk0.trans l17)).rd hx0) (nn _) (lt_ofN hx0) ?_)
        conv => whnf
        refine eptr_field rfl (hasK (hp0_0.mono (lk0.trans l17)).rd hx0) ?_
        conv => whnf
        refine RStep.of (load_rd i0 1 _ _ (hp0_0.mono (lk0.trans l17)).rd rfl (mp hx0) rfl rfl ?_)
        conv => whnf
        refine bsO (len := 1) (enc := eS) (l := [e0.Value]) (cl := [str e0.Value]) elT22 rfl rfl (fun _ _ => rfl) rfl rfl rfl ?_ fun b24 => ?_
        · conv => whnf
          refine cond_T ?_
          conv => whnf
          first | done | rfl
        obtain ⟨h25, hl0⟩ := chkb hl0
        conv => whnf
        refine apE rfl r1 elT22 (src_own' rfl r0 rfl (fun _ => rfl) (fun _ => rfl)) h25 ?_
        intro a25 c25 o25
        conv => whnf
        refine int_in (cntz hx0 hk0) ?_
        conv => whnf
        refine RoundStep.mk (i0 + 1, (y0_0 ++ [e0.Value]), a25, c25) ⟨rfl, rfl, trivial⟩ (by repeat (first | exact trivial | refine And.intro rfl ?_)) (ConvH.of (.cons r0 (.cons r1 .nil))) (lk0.trans l17) (ltm hx0) ⟨o25, hl0⟩
      · replace hl0 := iff_ w17 hl0
        conv => whnf
        refine int_in (cntz hx0 hk0) ?_
        conv => whnf
        refine RoundStep.mk (i0 + 1, y0_0, y0_a0, y0_c0) ⟨rfl, rfl, trivial⟩ (by repeat (first | exact trivial | refine And.intro rfl ?_)) (ConvH.of (.cons r0 (.cons r0 .nil))) (lk0.trans l17) (ltm hx0) ⟨y0_h0, hl0⟩
    · rw [lty w0, ref02_All_L0.eq_1] at hl0
      conv => whnf
      refine cond_T ?_
      conv => whnf
      refine MeetStep.mk (y0_0, y0_a0, y0_c0) ⟨rfl, trivial⟩ (by repeat (first | exact trivial | refine And.intro rfl ?_)) (ConvH.of (.cons r0 (.cons r0 .nil))) lk0 ⟨y0_h0, (si hl0)⟩
  · rintro ⟨t0, t0_a0, t0_c0⟩ Kt0 lt0 ⟨t0_h0, rfl⟩ j0
    obtain rfl := si hm
    conv => whnf
    refine EndStep.mk _ lt0 ⟨t0_a0, t0_c0, rfl, t0_h0, rfl⟩ (ConvH.of (.cons r0 (.cons r0 .nil)))

noncomputable def ref01_Trim_L0 : Nat → Str → Option (Str)
  | 0, _ => none
  | xs0 + 1, y0_0 =>
    if decide ((y0_0.length : Int) > 0) then
    (ix y0_0 0).bind fun x8 =>
    (if decide ((x8.toNat : Int) = 32) then some true else (ix y0_0 0).bind fun x12 =>
    some (decide ((x12.toNat : Int) = 9))).bind fun x14 =>
    if x14 then
    (chk (0 ≤ (1 : Int) ∧ (1 : Int) ≤ (y0_0.length : Int) ∧ (y0_0.length : Int) ≤ (y0_0.length : Int))).bind fun _ =>
    ref01_Trim_L0 xs0 (subL y0_0 (1 : Int) (y0_0.length : Int))
    else
    some y0_0
    else
    some y0_0
noncomputable def ref01_Trim_L2 : Nat → Str → Option (Str)
  | 0, _ => none
  | xs2 + 1, y2_0 =>
    if decide ((y2_0.length : Int) > 0) then
    (chk (InI ((y2_0.length : Int) - 1))).bind fun _ =>
    (ix y2_0 ((y2_0.length : Int) - 1)).bind fun x26 =>
    (if decide ((x26.toNat : Int) = 32) then some true else (chk (InI ((y2_0.length : Int) - 1))).bind fun _ =>
    (ix y2_0 ((y2_0.length : Int) - 1)).bind fun x33 =>
    some (decide ((x33.toNat : Int) = 9))).bind fun x35 =>
    if x35 then
    (chk (InI ((y2_0.length : Int) - 1))).bind fun _ =>
    (chk (0 ≤ (0 : Int) ∧ (0 : Int) ≤ ((y2_0.length : Int) - 1) ∧ ((y2_0.length : Int) - 1) ≤ (y2_0.length : Int))).bind fun _ =>
    ref01_Trim_L2 xs2 (subL y2_0 (0 : Int) ((y2_0.length : Int) - 1))
    else
    some y2_0
    else
    some y2_0
noncomputable def ref01_Trim (n : Nat) (s : Str) : Option (Str) :=
  (ref01_Trim_L0 n s).bind fun t0 =>
  (ref01_Trim_L2 n t0).bind fun t2 =>
  some t2
set_option maxHeartbeats 8000000 in
theorem ref01_Trim_ok {n : Nat} {s : Str} {K : Hp} {r : Str}
    (hm : ref01_Trim n s = some r)  :
    Fn Try.prog 50 [str s] K [] (fun v K' H' => v = str r ∧ H' = []) := by
  refine Fn.enter Try.func50 Try.call50 rfl fun F => ?_
  unfold ref01_Trim at hm
  obtain ⟨s0, hl0, hm⟩ := bnd hm
  conv => whnf
  refine code_cut (σ := (Str)) [0, 3, 4, 5, 6, 7, 8, 9, 10, 11, 12, 13, 14, 15, 16, 17] (fun t0 => [(0, str t0)]) (fun t0 => [F]) (fun zz K1 => match zz with | t0 => t0 = s0) ?_ ?_
  · refine block_go rfl ?_
    conv => whnf
    refine loop_rule (σ := Nat × Str) [0, 3, 4, 5, 6, 7, 8, 9, 10, 11, 12, 13, 14, 15, 16, 17] (fun (i0, y0_0) => [(0, str y0_0)]) (fun (i0, y0_0) => [F]) (fun zz K1 => match zz with | (i0, y0_0) => ref01_Trim_L0 i0 y0_0 = some s0) (fun zz => zz.1) (n, s) rfl ⟨rfl, trivial⟩ (ConvH.of (.cons r0 .nil)) hl0 ?_
    clear hl0
    rintro ⟨i0, y0_0⟩ Kb0 lk0 hl0 j0
    conv at hl0 => whnf
    cases i0 with
    | zero => rw [ref01_Trim_L0.eq_1] at hl0; cases hl0
    | succ i0 =>
      rw [ref01_Trim_L0.eq_2] at hl0
      conv => whnf
      refine RStep.of (len_str rfl ?_)
      conv => whnf
      refine cond_s (fun g6_1 => ?_) (fun g6_1 => ?_)
      · replace hl0 := ift g6_1 hl0
        conv => whnf
        refine cond_t g6_1 ?_
        obtain ⟨x8, l8, k8, hl0⟩ := ixb hl0
        conv => whnf
        refine idx_str rfl l8 k8 ?_
        conv => whnf
        refine cond_t g6_1 ?_
        conv => whnf
        refine eq_int ?_
        conv => whnf
        refine cond_t g6_1 ?_
        obtain ⟨x14, e14, hl0⟩ := bnd hl0
        conv => whnf
        refine cond_s (fun g10_1 => ?_) (fun g10_1 => ?_)
        · replace e14 := ift g10_1 e14
          conv => whnf
          refine cond_t g10_1 ?_
          conv => whnf
          refine cond_t g10_1 ?_
          conv => whnf
          refine cond_t g6_1 ?_
          conv => whnf
          refine cond_t g10_1 ?_
          conv => whnf
          refine cond_t g6_1 ?_
          conv => whnf
          refine cond_go rfl ?_
          conv => whnf
          refine cond_T ?_
          replace hl0 := ift (si e14).symm hl0
          conv => whnf
          refine block_go rfl ?_
          obtain ⟨h17, hl0⟩ := chkb hl0
          conv => whnf
          refine RStep.ofN (sl_str (lo := (some 1)) (hi := none) rfl h17 ?_)
          conv => whnf
          refine RoundStep.mk (i0, (subL y0_0 (1 : Int) (y0_0.length : Int))) ⟨rfl, trivial⟩ (by repeat (first | exact trivial | refine And.intro rfl ?_)) (ConvH.of (.cons r0 .nil)) lk0 (Nat.lt_succ_self _) hl0
        · replace e14 := iff_ g10_1 e14
          conv => whnf
          refine cond_f g10_1 ?_
          obtain ⟨x12, l12, k12, e14⟩ := ixb e14
          conv => whnf
          refine idx_str rfl l12 k12 ?_
          conv => whnf
          refine cond_f g10_1 ?_
          conv => whnf
          refine eq_int ?_
          conv => whnf
          refine cond_t g6_1 ?_
          conv => whnf
          refine cond_f g10_1 ?_
          conv => whnf
          refine cond_t g6_1 ?_
          conv => whnf
          refine cond_go rfl ?_
          conv => whnf
          refine cond_s (fun w15 => ?_) (fun w15 => ?_)
          · replace hl0 := ift ((si e14).symm.trans w15) hl0
            conv => whnf
            refine block_go rfl ?_
            obtain ⟨h17, hl0⟩ := chkb hl0
            conv => whnf
            refine RStep.ofN (sl_str (lo := (some 1)) (hi := none) rfl h17 ?_)
            conv => whnf
            refine RoundStep.mk (i0, (subL y0_0 (1 : Int) (y0_0.length : Int))) ⟨rfl, trivial⟩ (by repeat (first | exact trivial | refine And.intro rfl ?_)) (ConvH.of (.cons r0 .nil)) lk0 (Nat.lt_succ_self _) hl0
          · replace hl0 := iff_ ((si e14).symm.trans w15) hl0
            conv => whnf
            refine cond_T ?_
            conv => whnf
            refine MeetStep.mk (y0_0) ⟨rfl, trivial⟩ (by repeat (first | exact trivial | refine And.intro rfl ?_)) (ConvH.of (.cons r0 .nil)) lk0 (si hl0)
      · replace hl0 := iff_ g6_1 hl0
        conv => whnf
        refine cond_f g6_1 ?_
        conv => whnf
        refine cond_f g6_1 ?_
        conv => whnf
        refine cond_f g6_1 ?_
        conv => whnf
        refine cond_f g6_1 ?_
        conv => whnf
        refine cond_f g6_1 ?_
        conv => whnf
        refine cond_go rfl ?_
        conv => whnf
        refine cond_F ?_
        conv => whnf
        refine cond_T ?_
        conv => whnf
        refine MeetStep.mk (y0_0) ⟨rfl, trivial⟩ (by repeat (first | exact trivial | refine And.intro rfl ?_)) (ConvH.of (.cons r0 .nil)) lk0 (si hl0)
  · rintro t0 Kt0 lt0 rfl j0
    obtain ⟨s2, hl2, hm⟩ := bnd hm
    conv => whnf
    refine code_cut (σ := (Str)) [0, 18, 19, 20, 21, 22, 23, 24, 25, 26, 27, 28, 29, 30, 31, 32, 33, 34, 35, 36, 37, 38, 39, 40, 41] (fun t2 => [(0, str t2)]) (fun t2 => [F]) (fun zz K1 => match zz with | t2 => t2 = s2) ?_ ?_
    · refine block_go rfl ?_
      conv => whnf
      refine loop_rule (σ := Nat × Str) [0, 18, 19, 20, 21, 22, 23, 24, 25, 26, 27, 28, 29, 30, 31, 32, 33, 34, 35, 36, 37, 38, 39, 40, 41] (fun (i2, y2_0) => [(0, str y2_0)]) (fun (i2, y2_0) => [F]) (fun zz K1 => match zz with | (i2, y2_0) => ref01_Trim_L2 i2 y2_0 = some s2) (fun zz => zz.1) (n, t0) rfl ⟨rfl, trivial⟩ (ConvH.of (.cons r0 .nil)) hl2 ?_
      clear hl2
      rintro ⟨i2, y2_0⟩ Kb2 lk2 hl2 j2
      conv at hl2 => whnf
      cases i2 with
      | zero => rw [ref01_Trim_L2.eq_1] at hl2; cases hl2
      | succ i2 =>
        rw [ref01_Trim_L2.eq_2] at hl2
        conv => whnf
        refine RStep.of (len_str rfl ?_)
        conv => whnf
        refine cond_s (fun g21_3 => ?_) (fun g21_3 => ?_)
        · replace hl2 := ift g21_3 hl2
          conv => whnf
          refine cond_t g21_3 ?_
          conv => whnf
          refine cond_t g21_3 ?_
          conv => whnf
          refine RStep.of (len_str rfl ?_)
          conv => whnf
          refine cond_t g21_3 ?_
          obtain ⟨h25, hl2⟩ := chkb hl2
          conv => whnf
          refine int_in h25 ?_
          conv => whnf
          refine cond_t g21_3 ?_
          obtain ⟨x26, l26, k26, hl2⟩ := ixb hl2
          conv => whnf
          refine idx_str rfl l26 k26 ?_
          conv => whnf
          refine cond_t g21_3 ?_
          conv => whnf
          refine eq_int ?_
          conv => whnf
          refine cond_t g21_3 ?_
          obtain ⟨x35, e35, hl2⟩ := bnd hl2
          conv => whnf
          refine cond_s (fun g28_3 => ?_) (fun g28_3 => ?_)
          · replace e35 := ift g28_3 e35
            conv => whnf
            refine cond_t g28_3 ?_
            conv => whnf
            refine cond_t g28_3 ?_
            conv => whnf
            refine cond_t g28_3 ?_
            conv => whnf
            refine cond_t g28_3 ?_
            conv => whnf
            refine cond_t g28_3 ?_
            conv => whnf
            refine cond_t g21_3 ?_
            conv => whnf
            refine cond_t g28_3 ?_
            conv => whnf
            refine cond_t g21_3 ?_
            conv => whnf
            refine cond_go rfl ?_
            conv => whnf
            refine cond_T ?_
            replace hl2 := ift (si e35).symm hl2
            conv => whnf
            refine block_go rfl ?_
            conv => whnf
            refine RStep.of (len_str rfl ?_)
            obtain ⟨h40, hl2⟩ := chkb hl2
            conv => whnf
            refine int_in h40 ?_
            obtain ⟨h41, hl2⟩ := chkb hl2
            conv => whnf
            refine RStep.ofN (sl_str (lo := none) (hi := (some ((y2_0.length : Int) - 1))) rfl h41 ?_)
            conv => whnf
            refine RoundStep.mk (i2, (subL y2_0 (0 : Int) ((y2_0.length : Int) - 1))) ⟨rfl, trivial⟩ (by repeat (first | exact trivial | refine And.intro rfl ?_)) (ConvH.of (.cons r0 .nil)) lk2 (Nat.lt_succ_self _) hl2
          · replace e35 := iff_ g28_3 e35
            conv => whnf
            refine cond_f g28_3 ?_
            conv => whnf
            refine cond_f g28_3 ?_
            conv => whnf
            refine RStep.of (len_str rfl ?_)
            conv => whnf
            refine cond_f g28_3 ?_
            obtain ⟨h32, e35⟩ := chkb e35
            conv => whnf
            refine int_in h32 ?_
            conv => whnf
            refine cond_f g28_3 ?_
            obtain ⟨x33, l33, k33, e35⟩ := ixb e35
            conv => whnf
            refine idx_str rfl l33 k33 ?_
            conv => whnf
            refine cond_f g28_3 ?_
            conv => whnf
            refine eq_int ?_
            conv => whnf
            refine cond_t g21_3 ?_
            conv => whnf
            refine cond_f g28_3 ?_
            conv => whnf
            refine cond_t g21_3 ?_
            conv => whnf
            refine cond_go rfl ?_
            conv => whnf
            refine cond_s (fun w36 => ?_) (fun w36 => ?_)
            · replace hl2 := ift ((si e35).symm.trans w36) hl2
              conv => whnf
              refine block_go rfl ?_
              conv => whnf
              refine RStep.of (len_str rfl ?_)
              obtain ⟨h40, hl2⟩ := chkb hl2
              conv => whnf
              refine int_in h40 ?_
              obtain ⟨h41, hl2⟩ := chkb hl2
              conv => whnf
              refine RStep.ofN (sl_str (lo := none) (hi := (some ((y2_0.length : Int) - 1))) rfl h41 ?_)
              conv => whnf
              refine RoundStep.mk (i2, (subL y2_0 (0 : Int) ((y2_0.length : Int) - 1))) ⟨rfl, trivial⟩ (by repeat (first | exact trivial | refine And.intro rfl ?_)) (ConvH.of (.cons r0 .nil)) lk2 (Nat.lt_succ_self _) hl2
            · replace hl2 := iff_ ((si e35).symm.trans w36) hl2
              conv => whnf
              refine cond_T ?_
              conv => whnf
              refine MeetStep.mk (y2_0) ⟨rfl, trivial⟩ (by repeat (first | exact trivial | refine And.intro rfl ?_)) (ConvH.of (.cons r0 .nil)) lk2 (si hl2)
        · replace hl2 := iff_ g21_3 hl2
          conv => whnf
          refine cond_f g21_3 ?_
          conv => whnf
          refine cond_f g21_3 ?_
          conv => whnf
          refine cond_f g21_3 ?_
          conv => whnf
          refine cond_f g21_3 ?_
          conv => whnf
          refine cond_f g21_3 ?_
          conv => whnf
          refine cond_f g21_3 ?_
          conv => whnf
          refine cond_f g21_3 ?_
          conv => whnf
          refine cond_f g21_3 ?_
          conv => whnf
          refine cond_go rfl ?_
          conv => whnf
          refine cond_F ?_
          conv => whnf
          refine cond_T ?_
          conv => whnf
          refine MeetStep.mk (y2_0) ⟨rfl, trivial⟩ (by repeat (first | exact trivial | refine And.intro rfl ?_)) (ConvH.of (.cons r0 .nil)) lk2 (si hl2)
    · rintro t2 Kt2 lt2 rfl j2
      obtain rfl := si hm
      conv => whnf
      refine EndStep.mk _ (lt0.trans lt2) ⟨rfl, rfl⟩ (ConvH.of (.cons r0 .nil))
