/- Functions of the program: mirrors, and that a call returns what the mirror says. Printed by gen.py. -/
import Derived.Test.YtjjfnlopijnfkaaShelf
import Derived.Test.YtjjfnlopijnfkaaLR
import Derived.KernelRfl
import Derived.Test.YtjjfnlopijnfkaaProg
set_option linter.unusedVariables false
set_option linter.unusedSimpArgs false
open Go Go.SL Go.Proofs
set_option maxRecDepth 1000000
structure S_ref40_Config where
  Name : Str
  Parent : Str
  Children : (List Str)
  Length : Int
  Ppm : Int
  Window : Int
def S_ref40_Config.R : Rp S_ref40_Config := fun K cs x => ∃ a_0 : Option Addr, ∃ c_0 : Nat, cs = [str x.Name, str x.Parent, .slice a_0 x.Children.length c_0, .int .i64 x.Length, .int .i64 x.Ppm, .int .i64 x.Window] ∧ RdC eS K a_0 c_0 1 x.Children
theorem S_ref40_Config.R_ok : RpOK 6 S_ref40_Config.R :=
  ⟨fun hk ⟨a_0, c_0, e, h_0⟩ => ⟨a_0, c_0, e, (h_0.mono hk)⟩, fun ⟨a_0, c_0, e, h_0⟩ => by simp [e], fun ⟨a_0, c_0, e, h_0⟩ v hv => by rw [e] at hv; simp at hv; rcases hv with rfl | rfl | rfl | rfl | rfl | rfl <;> rfl⟩
instance : RpI 6 S_ref40_Config.R := ⟨S_ref40_Config.R_ok⟩
structure S_relay_Config where
  Name : Str
  Parent : Str
  Children : (List Str)
  Length : Int
  Ppm : Int
  Window : Int
def S_relay_Config.R : Rp S_relay_Config := fun K cs x => ∃ a_0 : Option Addr, ∃ c_0 : Nat, cs = [str x.Name, str x.Parent, .slice a_0 x.Children.length c_0, .int .i64 x.Length, .int .i64 x.Ppm, .int .i64 x.Window] ∧ RdC eS K a_0 c_0 1 x.Children
theorem S_relay_Config.R_ok : RpOK 6 S_relay_Config.R :=
  ⟨fun hk ⟨a_0, c_0, e, h_0⟩ => ⟨a_0, c_0, e, (h_0.mono hk)⟩, fun ⟨a_0, c_0, e, h_0⟩ => by simp [e], fun ⟨a_0, c_0, e, h_0⟩ v hv => by rw [e] at hv; simp at hv; rcases hv with rfl | rfl | rfl | rfl | rfl | rfl <;> rfl⟩
instance : RpI 6 S_relay_Config.R := ⟨S_relay_Config.R_ok⟩
structure S_purge_Purge where
  Kind : Int
  Tenant : Int
  Value : Str
abbrev S_purge_Purge.enc (x : S_purge_Purge) : List Go.Value := [.int .i64 x.Kind, .int .i64 x.Tenant, str x.Value]
structure S_gate_Gate where
  window : Int
  applied : Int
  floor : Int
  kept : (List S_purge_Purge)
  aside : (List (Int × S_purge_Purge))
structure S_lease_held where
  number : Int
  endZ : Int
abbrev S_lease_held.enc (x : S_lease_held) : List Go.Value := [.int .i64 x.number, .int .i64 x.endZ]
structure S_lease_Holder where
  ppm : Int
  now : Int
  greatest : Int
  serials : (List Int)
  leases : (List S_lease_held)
def S_lease_Holder.R : Rp S_lease_Holder := fun K cs x => ∃ a_0 : Option Addr, ∃ c_0 : Nat, ∃ a_1 : Option Addr, ∃ c_1 : Nat, cs = [.int .i64 x.ppm, .int .i64 x.now, .int .i64 x.greatest, .slice a_0 x.serials.length c_0, .slice a_1 x.leases.length c_1] ∧ RdC eN K a_0 c_0 1 x.serials ∧ RdC S_lease_held.enc K a_1 c_1 2 x.leases
theorem S_lease_Holder.R_ok : RpOK 5 S_lease_Holder.R :=
  ⟨fun hk ⟨a_0, c_0, a_1, c_1, e, h_0, h_1⟩ => ⟨a_0, c_0, a_1, c_1, e, (h_0.mono hk), (h_1.mono hk)⟩, fun ⟨a_0, c_0, a_1, c_1, e, h_0, h_1⟩ => by simp [e], fun ⟨a_0, c_0, a_1, c_1, e, h_0, h_1⟩ v hv => by rw [e] at hv; simp at hv; rcases hv with rfl | rfl | rfl | rfl | rfl <;> rfl⟩
instance : RpI 5 S_lease_Holder.R := ⟨S_lease_Holder.R_ok⟩
structure S_lease_given where
  child : Str
  number : Int
  untilZ : Int
abbrev S_lease_given.enc (x : S_lease_given) : List Go.Value := [str x.child, .int .i64 x.number, .int .i64 x.untilZ]
structure S_lease_Issuer where
  length : Int
  ppm : Int
  now : Int
  list : (List S_lease_given)
def S_lease_Issuer.R : Rp S_lease_Issuer := fun K cs x => ∃ a_0 : Option Addr, ∃ c_0 : Nat, cs = [.int .i64 x.length, .int .i64 x.ppm, .int .i64 x.now, .slice a_0 x.list.length c_0] ∧ RdC S_lease_given.enc K a_0 c_0 3 x.list
theorem S_lease_Issuer.R_ok : RpOK 4 S_lease_Issuer.R :=
  ⟨fun hk ⟨a_0, c_0, e, h_0⟩ => ⟨a_0, c_0, e, (h_0.mono hk)⟩, fun ⟨a_0, c_0, e, h_0⟩ => by simp [e], fun ⟨a_0, c_0, e, h_0⟩ v hv => by rw [e] at hv; simp at hv; rcases hv with rfl | rfl | rfl | rfl <;> rfl⟩
instance : RpI 4 S_lease_Issuer.R := ⟨S_lease_Issuer.R_ok⟩
structure S_relay_Relay where
  c : S_relay_Config
  gate : S_gate_Gate
  holder : S_lease_Holder
  issuer : S_lease_Issuer
  acks : (List Int)
  now : Int
  first : Int
  asked : Int
  sent : Int
structure S_hop_Message where
  Kind : Int
  ID : Int
  Number : Int
  Total : Int
  Offset : Int
  Text : Str
  List : (List Str)
  Data : Str
def S_hop_Message.R : Rp S_hop_Message := fun K cs x => ∃ a_0 : Option Addr, ∃ c_0 : Nat, ∃ a_1 : Option Addr, ∃ c_1 : Nat, cs = [.int .i64 x.Kind, .int .i64 x.ID, .int .i64 x.Number, .int .i64 x.Total, .int .i64 x.Offset, str x.Text, .slice a_0 x.List.length c_0, .slice a_1 x.Data.length c_1] ∧ RdC eS K a_0 c_0 1 x.List ∧ RdC eU K a_1 c_1 1 x.Data
theorem S_hop_Message.R_ok : RpOK 8 S_hop_Message.R :=
  ⟨fun hk ⟨a_0, c_0, a_1, c_1, e, h_0, h_1⟩ => ⟨a_0, c_0, a_1, c_1, e, (h_0.mono hk), (h_1.mono hk)⟩, fun ⟨a_0, c_0, a_1, c_1, e, h_0, h_1⟩ => by simp [e], fun ⟨a_0, c_0, a_1, c_1, e, h_0, h_1⟩ v hv => by rw [e] at hv; simp at hv; rcases hv with rfl | rfl | rfl | rfl | rfl | rfl | rfl | rfl <;> rfl⟩
instance : RpI 8 S_hop_Message.R := ⟨S_hop_Message.R_ok⟩
structure S_hop_Out where
  To : Str
  Message : S_hop_Message
def S_hop_Out.R : Rp S_hop_Out := fun K cs x => ∃ a_0 : Option Addr, ∃ c_0 : Nat, ∃ a_1 : Option Addr, ∃ c_1 : Nat, cs = [str x.To, .int .i64 x.Message.Kind, .int .i64 x.Message.ID, .int .i64 x.Message.Number, .int .i64 x.Message.Total, .int .i64 x.Message.Offset, str x.Message.Text, .slice a_0 x.Message.List.length c_0, .slice a_1 x.Message.Data.length c_1] ∧ RdC eS K a_0 c_0 1 x.Message.List ∧ RdC eU K a_1 c_1 1 x.Message.Data
theorem S_hop_Out.R_ok : RpOK 9 S_hop_Out.R :=
  ⟨fun hk ⟨a_0, c_0, a_1, c_1, e, h_0, h_1⟩ => ⟨a_0, c_0, a_1, c_1, e, (h_0.mono hk), (h_1.mono hk)⟩, fun ⟨a_0, c_0, a_1, c_1, e, h_0, h_1⟩ => by simp [e], fun ⟨a_0, c_0, a_1, c_1, e, h_0, h_1⟩ v hv => by rw [e] at hv; simp at hv; rcases hv with rfl | rfl | rfl | rfl | rfl | rfl | rfl | rfl | rfl <;> rfl⟩
instance : RpI 9 S_hop_Out.R := ⟨S_hop_Out.R_ok⟩
theorem elT22 : ElT Try.prog 22 9 1 := ElT.mk' rfl rfl rfl rfl rfl
theorem elT56 : ElT Try.prog 56 3 1 := ElT.mk' rfl rfl rfl rfl rfl
theorem elT36 : ElT Try.prog 36 42 9 := ElT.mk' rfl rfl rfl rfl rfl
def GG (K : Hp) : Prop := True
theorem GG.mono {K K' : Hp} (h : GG K) (hk : K.Le K') : GG K' := h
noncomputable def slices_Clone_string (s : (List Str)) : Option ((List Str)) :=
  (chk (([] : List Str).length + s.length ≤ lim)).bind fun _ =>
  some (([] : List Str) ++ s)
set_option maxHeartbeats 8000000 in
theorem slices_Clone_string_ok {s : (List Str)} {ap0_0 : Option Addr} {cp0_0 : Nat} {n0 : Nat} {K : Hp} {r : (List Str)}
    (hm : slices_Clone_string s = some r) (hX : RdC eS K ap0_0 cp0_0 1 s ∧ n0 = s.length) :
    Fn Try.prog 11 [.slice ap0_0 n0 cp0_0] K [] (fun v K' H' => ∃ ar_0 : Option Addr, ∃ cr_0 : Nat, v = .slice ar_0 r.length cr_0 ∧ (0 < r.length → Has ar_0) ∧ H' = [OwnL eS ar_0 9 1 cr_0 r]) := by
 obtain ⟨hp0_0, en0⟩ := hX
 subst en0
 refine Fn.enter Try.func11 Try.call11 rfl fun F => ?_
 unfold slices_Clone_string at hm
 rcases Classical.em (ap0_0 = none) with hz | hz
 subst hz
 obtain rfl := RdC.none_nil hp0_0
 obtain ⟨_, hm⟩ := chkb hm
 obtain rfl := si hm
 conv => whnf
 refine eq_snil_nil rfl ?_
 conv => whnf
 refine cond_go rfl ?_
 conv => whnf
 refine cond_T ?_
 conv => whnf
 refine nilE eS 9 1 ?_
 refine EndStep.mk _ (Hp.Le.refl _) ⟨none, 0, rfl, (fun h => by simp at h), rfl⟩ (ConvH.of (.cons r0 (.cons r0 .nil)))
 conv => whnf
 refine eq_slice_ne hz rfl ?_
 conv => whnf
 refine cond_go rfl ?_
 conv => whnf
 refine cond_F ?_
 conv => whnf
 refine bsO (len := 0) (enc := eS) (l := ([] : List Str)) (cl := []) elT22 rfl rfl (fun _ _ => rfl) rfl rfl rfl ?_ fun b5 => ?_
 · conv => whnf
   first | done | rfl
 obtain ⟨h7, hm⟩ := chkb hm
 conv => whnf
 refine apE rfl r0 elT22 (src_k rfl hp0_0.rd rfl) h7 ?_
 intro a7 c7 o7
 conv => whnf
 exact eE hm

noncomputable def slices_Index_string_L0 (v' : Str) : List Str → Nat → Option (Fl (Int) (Unit))
  | [], _ => some (Fl.go ())
  | e0 :: xs0, i0 =>
    if decide (v' = e0) then
    some (Fl.ret (i0 : Int))
    else
    slices_Index_string_L0 v' xs0 (i0 + 1)
noncomputable def slices_Index_string (s : (List Str)) (v' : Str) : Option (Int) :=
  (chk (s.length ≤ szMax)).bind fun _ =>
  (slices_Index_string_L0 v' s 0).bind fun s0 => s0.el some fun t0 =>
  some (-1)
set_option maxHeartbeats 8000000 in
theorem slices_Index_string_ok {s : (List Str)} {v' : Str} {ap0_0 : Option Addr} {cp0_0 : Nat} {n0 : Nat} {K : Hp} {r : Int}
    (hm : slices_Index_string s v' = some r) (hX : RdC eS K ap0_0 cp0_0 1 s ∧ n0 = s.length) :
    Fn Try.prog 25 [.slice ap0_0 n0 cp0_0, str v'] K [] (fun v K' H' => v = .int .i64 r ∧ H' = []) := by
 obtain ⟨hp0_0, en0⟩ := hX
 subst en0
 refine Fn.enter Try.func25 Try.call25 rfl fun F => ?_
 unfold slices_Index_string at hm
 conv => whnf
 refine RStep.of (len_slice rfl ?_)
 obtain ⟨hk0, hm⟩ := chkb hm
 obtain ⟨s0, hl0, hm⟩ := bnd hm
 conv => whnf
 refine lD (σ := (Unit)) [4, 5, 8, 9, 10, 11, 12, 13, 14, 15, 16, 17, 18] [0] (fun i0 => [(8, .int .i64 (i0 : Int))]) (fun _ => []) (fun _ => []) (fun _ => True) (fun i0 _ => slices_Index_string_L0 v' (s.drop i0) i0 = some s0) (fun t0 => s0 = Fl.go t0) (fun i0 => s.length - i0) 0 () hl0 (And.intro qe (And.intro ?_ ?_))
 clear hl0
 rintro i0 _ _ hl0 j0
 conv at hl0 => whnf
 conv => whnf
 refine cond_go rfl ?_
 conv => whnf
 refine cond_s (fun w0 => ?_) (fun w0 => ?_)
 obtain ⟨e0, hx0, hd0⟩ := ltx w0
 rw [hd0, slices_Index_string_L0.eq_2] at hl0
 conv => whnf
 refine block_go rfl ?_
 conv => whnf
 refine RStep.ofN (index_addr rfl rfl (hasK hp0_0.rd hx0) (nn _) (lt_ofN hx0) ?_)
 conv => whnf
 refine RStep.of (load_rd i0 0 _ _ hp0_0.rd rfl (mp hx0) rfl rfl ?_)
 conv => whnf
 refine eq_str ?_
 conv => whnf
 refine cs rfl rfl hl0 (fun w16 hl0 => ?_) fun w16 hl0 => ?_
 conv => whnf
 exact eE (er hl0 hm)
 conv => whnf
 refine int_in (cntz hx0 hk0) ?_
 conv => whnf
 exact eR hl0 (_, ())
 rw [lty w0, slices_Index_string_L0.eq_1] at hl0
 conv => whnf
 refine cond_T ?_
 conv => whnf
 exact eM hl0 _
 rintro t0 _ rfl j0
 replace hm := elg hm
 conv => whnf
 exact eE hm

noncomputable def slices_Contains_string (s : (List Str)) (v' : Str) : Option (Bool) :=
  (slices_Index_string s v').bind fun x7 =>
  some (decide (x7 ≥ 0))
set_option maxHeartbeats 8000000 in
theorem slices_Contains_string_ok {s : (List Str)} {v' : Str} {ap0_0 : Option Addr} {cp0_0 : Nat} {n0 : Nat} {K : Hp} {r : Bool}
    (hm : slices_Contains_string s v' = some r) (hX : RdC eS K ap0_0 cp0_0 1 s ∧ n0 = s.length) :
    Fn Try.prog 13 [.slice ap0_0 n0 cp0_0, str v'] K [] (fun v K' H' => v = .bool r ∧ H' = []) := by
 obtain ⟨hp0_0, en0⟩ := hX
 subst en0
 refine Fn.enter Try.func13 Try.call13 rfl fun F => ?_
 unfold slices_Contains_string at hm
 conv => whnf
 refine cb hm fun x7 q7 hm => cgx (slices_Index_string_ok q7 :) ?_
 conv => whnf
 exact eE hm

noncomputable def gate_New (window : Int) : Option (Option S_gate_Gate × Err) :=
  if (decide (window < 1) || decide (window > 1024)) then
  some (none, (some 1))
  else
  some ((some (⟨window, 0, 0, [], []⟩ : S_gate_Gate)), none)
set_option maxHeartbeats 8000000 in
theorem gate_New_ok {window : Int} {K : Hp} {r : Option S_gate_Gate × Err}
    (hm : gate_New window = some r)  :
    Fn Try.prog 15 [.int .i64 window] K [] (fun v K' H' => match r.1 with | none => (v = .tuple #[.pointer none, errV 47 r.2] ∧ H' = []) | some ro => (∃ br_0 : Nat, ∃ ar_1 : Option Addr, ∃ cr_1 : Nat, ∃ mr_2 : Nat, v = .tuple #[.pointer (some ⟨br_0, 0, none⟩), errV 47 r.2] ∧ (0 < ro.kept.length → Has ar_1) ∧ H' = [Cells br_0 70 [.int .i64 ro.window, .int .i64 ro.applied, .int .i64 ro.floor, .slice ar_1 ro.kept.length cr_1, .map (some mr_2)], OwnL S_purge_Purge.enc ar_1 120 3 cr_1 ro.kept, MapE intK (fun x => .agg (S_purge_Purge.enc x).toArray) mr_2 ro.aside])) := by
 refine Fn.enter Try.func15 Try.call15 rfl fun F => ?_
 unfold gate_New at hm
 conv => whnf
 refine guard_go rfl ?_
 conv => whnf
 refine cond_s (fun g6_1 => ?_) (fun g6_1 => ?_)
 conv => whnf
 refine cond_t g6_1 ?_
 conv => whnf
 refine cond_t g6_1 ?_
 conv => whnf
 refine cond_go rfl ?_
 conv => whnf
 refine cond_T ?_
 replace hm := ift (or_t g6_1) hm
 conv => whnf
 refine mk_iface rfl ?_
 conv => whnf
 exact eE hm
 conv => whnf
 refine cond_f g6_1 ?_
 conv => whnf
 refine cond_f g6_1 ?_
 conv => whnf
 refine cond_go rfl ?_
 conv => whnf
 refine cond_s (fun w9 => ?_) (fun w9 => ?_)
 replace hm := ift (or_u g6_1 w9) hm
 conv => whnf
 refine mk_iface rfl ?_
 conv => whnf
 exact eE hm
 replace hm := iff_ (or_f g6_1 w9) hm
 conv => whnf
 refine makeMap_rule intK (fun x => .agg (S_purge_Purge.enc x).toArray) fun b12 => ?_
 conv => whnf
 refine build_struct rfl rfl ?_
 conv => whnf
 refine cond_T ?_
 conv => whnf
 refine cond_T ?_
 conv => whnf
 refine box_rule ?_
 intro b14
 conv => whnf
 refine nilE S_purge_Purge.enc 120 3 ?_
 exact eE hm

noncomputable def lease_NewIssuer (length : Int) (ppm : Int) : Option (Option S_lease_Issuer × Err) :=
  if (decide (length < 1) || decide (length > 1073741824)) then
  some (none, (some 1))
  else
  some ((some (⟨length, ppm, 0, []⟩ : S_lease_Issuer)), none)
set_option maxHeartbeats 8000000 in
theorem lease_NewIssuer_ok {length : Int} {ppm : Int} {K : Hp} {r : Option S_lease_Issuer × Err}
    (hm : lease_NewIssuer length ppm = some r)  :
    Fn Try.prog 16 [.int .i64 length, .int .i64 ppm] K [] (fun v K' H' => match r.1 with | none => (v = .tuple #[.pointer none, errV 47 r.2] ∧ H' = []) | some ro => (∃ br_0 : Nat, ∃ ar_1 : Option Addr, ∃ cr_1 : Nat, v = .tuple #[.pointer (some ⟨br_0, 0, none⟩), errV 47 r.2] ∧ (0 < ro.list.length → Has ar_1) ∧ H' = [Cells br_0 73 [.int .i64 ro.length, .int .i64 ro.ppm, .int .i64 ro.now, .slice ar_1 ro.list.length cr_1], OwnL S_lease_given.enc ar_1 104 3 cr_1 ro.list])) := by
 refine Fn.enter Try.func16 Try.call16 rfl fun F => ?_
 unfold lease_NewIssuer at hm
 conv => whnf
 refine guard_go rfl ?_
 conv => whnf
 refine cond_s (fun g8_1 => ?_) (fun g8_1 => ?_)
 conv => whnf
 refine cond_t g8_1 ?_
 conv => whnf
 refine cond_t g8_1 ?_
 conv => whnf
 refine cond_go rfl ?_
 conv => whnf
 refine cond_T ?_
 replace hm := ift (or_t g8_1) hm
 conv => whnf
 refine mk_iface rfl ?_
 conv => whnf
 exact eE hm
 conv => whnf
 refine cond_f g8_1 ?_
 conv => whnf
 refine cond_f g8_1 ?_
 conv => whnf
 refine cond_go rfl ?_
 conv => whnf
 refine cond_s (fun w11 => ?_) (fun w11 => ?_)
 replace hm := ift (or_u g8_1 w11) hm
 conv => whnf
 refine mk_iface rfl ?_
 conv => whnf
 exact eE hm
 replace hm := iff_ (or_f g8_1 w11) hm
 conv => whnf
 refine build_struct rfl rfl ?_
 conv => whnf
 refine cond_T ?_
 conv => whnf
 refine cond_T ?_
 conv => whnf
 refine box_rule ?_
 intro b16
 conv => whnf
 refine nilE S_lease_given.enc 104 3 ?_
 exact eE hm

noncomputable def lease_NewHolder (ppm : Int) : Option (S_lease_Holder) :=
  some (⟨ppm, 0, 0, [], []⟩ : S_lease_Holder)
set_option maxHeartbeats 8000000 in
theorem lease_NewHolder_ok {ppm : Int} {K : Hp} {r : S_lease_Holder}
    (hm : lease_NewHolder ppm = some r)  :
    Fn Try.prog 17 [.int .i64 ppm] K [] (fun v K' H' => ∃ br_0 : Nat, ∃ ar_1 : Option Addr, ∃ cr_1 : Nat, ∃ ar_2 : Option Addr, ∃ cr_2 : Nat, v = .pointer (some ⟨br_0, 0, none⟩) ∧ (0 < r.serials.length → Has ar_1) ∧ (0 < r.leases.length → Has ar_2) ∧ H' = [Cells br_0 76 [.int .i64 r.ppm, .int .i64 r.now, .int .i64 r.greatest, .slice ar_1 r.serials.length cr_1, .slice ar_2 r.leases.length cr_2], OwnL eN ar_1 3 1 cr_1 r.serials, OwnL S_lease_held.enc ar_2 122 2 cr_2 r.leases]) := by
 refine Fn.enter Try.func17 Try.call17 rfl fun F => ?_
 unfold lease_NewHolder at hm
 conv => whnf
 refine build_struct rfl rfl ?_
 conv => whnf
 refine cond_T ?_
 conv => whnf
 refine box_rule ?_
 intro b5
 conv => whnf
 refine nilE eN 3 1 ?_
 refine nilE S_lease_held.enc 122 2 ?_
 exact eE hm

noncomputable def relay_New (c : S_relay_Config) : Option (Option S_relay_Relay × Err) :=
  (chk ([c.Name, c.Parent].length + c.Children.length ≤ lim)).bind fun _ =>
  (slices_Clone_string ([c.Name, c.Parent] ++ c.Children)).bind fun x18 =>
  (sortSM x18).bind fun x20 =>
  (slices_Contains_string ([c.Name, c.Parent] ++ c.Children) ([] : Str)).bind fun x22 =>
  (if x22 then some true else (compactM x20).bind fun x25 =>
  some (decide ((x25.length : Int) < ((([c.Name, c.Parent] ++ c.Children).length) : Int)))).bind fun x30 =>
  if (x30 || decide ((c.Children.length : Int) > 64)) then
  some (none, (some 8))
  else
  if (((decide (c.Length < 4) || decide (c.Length > 1073741824)) || decide (c.Window < 1)) || decide (c.Window > 1024)) then
  some (none, (some 1))
  else
  (slices_Clone_string c.Children).bind fun x59 =>
  (gate_New c.Window).bind fun x64 =>
  Option.elim x64.1 (
  if x64.2.isSome then
  some (none, (some 1))
  else
  (lease_NewIssuer c.Length c.Ppm).bind fun x75 =>
  Option.elim x75.1 (
  if x75.2.isSome then
  some (none, (some 1))
  else
  (lease_NewHolder c.Ppm).bind fun x85 =>
  (chk ((0 : Int) ≤ (x59.length : Int) ∧ (x59.length : Int) ≤ (lim : Int))).bind fun _ =>
  none)
   fun o75 =>
  if x75.2.isSome then
  some (none, (some 1))
  else
  (lease_NewHolder c.Ppm).bind fun x85 =>
  (chk ((0 : Int) ≤ (x59.length : Int) ∧ (x59.length : Int) ≤ (lim : Int))).bind fun _ =>
  none)
   fun o64 =>
  if x64.2.isSome then
  some (none, (some 1))
  else
  (lease_NewIssuer c.Length c.Ppm).bind fun x75 =>
  Option.elim x75.1 (
  if x75.2.isSome then
  some (none, (some 1))
  else
  (lease_NewHolder c.Ppm).bind fun x85 =>
  (chk ((0 : Int) ≤ (x59.length : Int) ∧ (x59.length : Int) ≤ (lim : Int))).bind fun _ =>
  none)
   fun o75 =>
  if x75.2.isSome then
  some (none, (some 1))
  else
  (lease_NewHolder c.Ppm).bind fun x85 =>
  (chk ((0 : Int) ≤ (x59.length : Int) ∧ (x59.length : Int) ≤ (lim : Int))).bind fun _ =>
  some ((some (⟨(⟨c.Name, c.Parent, x59, c.Length, c.Ppm, c.Window⟩ : S_relay_Config), o64, x85, o75, (List.replicate (Int.toNat (x59.length : Int)) (0 : Int)), 0, (-1), (-1), 0⟩ : S_relay_Relay)), none)
set_option maxHeartbeats 8000000 in
theorem relay_New_ok {c : S_relay_Config} {ap0_0 : Option Addr} {cp0_0 : Nat} {K : Hp} {r : Option S_relay_Relay × Err}
    (hm : relay_New c = some r) (hp0_0 : RdC eS K ap0_0 cp0_0 1 c.Children) :
    Fn Try.prog 5 [.agg #[str c.Name, str c.Parent, .slice ap0_0 c.Children.length cp0_0, .int .i64 c.Length, .int .i64 c.Ppm, .int .i64 c.Window]] K [] (fun v K' H' => match r.1 with | none => (v = .tuple #[.pointer none, errV 47 r.2] ∧ H' = []) | some ro => (∃ br_0 : Nat, ∃ ar_1 : Option Addr, ∃ cr_1 : Nat, ∃ br_2 : Nat, ∃ ar_3 : Option Addr, ∃ cr_3 : Nat, ∃ mr_4 : Nat, ∃ br_5 : Nat, ∃ ar_6 : Option Addr, ∃ cr_6 : Nat, ∃ ar_7 : Option Addr, ∃ cr_7 : Nat, ∃ br_8 : Nat, ∃ ar_9 : Option Addr, ∃ cr_9 : Nat, ∃ ar_10 : Option Addr, ∃ cr_10 : Nat, v = .tuple #[.pointer (some ⟨br_0, 0, none⟩), errV 47 r.2] ∧ RdC eS K' ar_1 cr_1 1 ro.c.Children ∧ (0 < ro.gate.kept.length → Has ar_3) ∧ (0 < ro.holder.serials.length → Has ar_6) ∧ (0 < ro.holder.leases.length → Has ar_7) ∧ (0 < ro.issuer.list.length → Has ar_9) ∧ (0 < ro.acks.length → Has ar_10) ∧ H' = [Cells br_0 58 [str ro.c.Name, str ro.c.Parent, .slice ar_1 ro.c.Children.length cr_1, .int .i64 ro.c.Length, .int .i64 ro.c.Ppm, .int .i64 ro.c.Window, .pointer (some ⟨br_2, 0, none⟩), .pointer (some ⟨br_5, 0, none⟩), .pointer (some ⟨br_8, 0, none⟩), .slice ar_10 ro.acks.length cr_10, .int .i64 ro.now, .int .i64 ro.first, .int .i64 ro.asked, .int .i64 ro.sent], Cells br_2 70 [.int .i64 ro.gate.window, .int .i64 ro.gate.applied, .int .i64 ro.gate.floor, .slice ar_3 ro.gate.kept.length cr_3, .map (some mr_4)], OwnL S_purge_Purge.enc ar_3 120 3 cr_3 ro.gate.kept, MapE intK (fun x => .agg (S_purge_Purge.enc x).toArray) mr_4 ro.gate.aside, Cells br_5 76 [.int .i64 ro.holder.ppm, .int .i64 ro.holder.now, .int .i64 ro.holder.greatest, .slice ar_6 ro.holder.serials.length cr_6, .slice ar_7 ro.holder.leases.length cr_7], OwnL eN ar_6 3 1 cr_6 ro.holder.serials, OwnL S_lease_held.enc ar_7 122 2 cr_7 ro.holder.leases, Cells br_8 73 [.int .i64 ro.issuer.length, .int .i64 ro.issuer.ppm, .int .i64 ro.issuer.now, .slice ar_9 ro.issuer.list.length cr_9], OwnL S_lease_given.enc ar_9 104 3 cr_9 ro.issuer.list, OwnL eN ar_10 3 1 cr_10 ro.acks])) := by
 refine Fn.enter Try.func5 Try.call5 rfl fun F => ?_
 unfold relay_New at hm
 conv => whnf
 refine box_rule ?_
 intro b1
 conv => whnf
 refine field_addr rfl ?_
 conv => whnf
 refine RStep.of (load1_s r0 rfl rfl ?_)
 conv => whnf
 refine field_addr rfl ?_
 conv => whnf
 refine RStep.of (load1_s r0 rfl rfl ?_)
 conv => whnf
 refine bsO (len := 2) (enc := eS) (l := [c.Name, c.Parent]) (cl := [str c.Name, str c.Parent]) elT22 rfl rfl (fun _ _ => rfl) rfl rfl rfl ?_ fun b13 => ?_
 · conv => whnf
   refine cond_T ?_
   conv => whnf
   refine cond_T ?_
   conv => whnf
   first | done | rfl
 conv => whnf
 refine field_addr rfl ?_
 conv => whnf
 refine RStep.of (load1_s r1 rfl rfl ?_)
 obtain ⟨h16, hm⟩ := chkb hm
 conv => whnf
 refine apE rfl r0 elT22 (src_k rfl hp0_0.rd rfl) h16 ?_
 intro a16 c16 o16
 conv => whnf
 refine cb hm fun x18 q18 hm => ck0 (Fn.lend Try.call11 (fun K18_0 l18_0 f18_0 => (slices_Clone_string_ok q18 ⟨f18_0, rfl⟩)) (by exact fun _ _ _ _ h => h)) ?_
 rintro _ _ _ ⟨_, rfl, a18_0, c18_0, rfl, h18_0, rfl⟩
 conv => whnf
 refine cb hm fun x20 q20 hm => cg0 (sort_string_ok q20 rfl) ?_
 conv => whnf
 refine guard_go rfl ?_
 conv => whnf
 refine cb hm fun x22 q22 hm => ck0 (Fn.lend Try.call13 (fun K22_0 l22_0 f22_0 => (slices_Contains_string_ok (v' := ([] : Str)) q22 ⟨f22_0, rfl⟩)) (by exact fun _ _ _ _ h => h)) ?_
 rintro _ _ _ ⟨_, rfl, rfl, rfl⟩
 obtain ⟨x30, e30, hm⟩ := bnd hm
 conv => whnf
 refine cS e30 (fun g23_4 e30 => ?_) fun g23_4 e30 => ?_
 conv => whnf
 refine cond_t g23_4 ?_
 conv => whnf
 refine cond_t g23_4 ?_
 conv => whnf
 refine cond_t g23_4 ?_
 conv => whnf
 refine cond_t g23_4 ?_
 conv => whnf
 refine cond_t g23_4 ?_
 conv => whnf
 refine cond_t g23_4 ?_
 conv => whnf
 refine cond_T ?_
 conv => whnf
 refine cond_T ?_
 conv => whnf
 refine cond_T ?_
 conv => whnf
 refine cond_T ?_
 conv => whnf
 refine cond_T ?_
 conv => whnf
 refine cond_go rfl ?_
 conv => whnf
 refine cond_T ?_
 replace hm := ift (or_t (si e30).symm) hm
 conv => whnf
 refine mk_iface rfl ?_
 conv => whnf
 exact eE hm
 conv => whnf
 refine cond_f g23_4 ?_
 conv => whnf
 refine cb e30 fun x25 q25 e30 => cg0 (compact_string_ok q25 (Eq.trans (rfl) (sortSM_len q20).symm)) ?_
 conv => whnf
 refine cond_f g23_4 ?_
 conv => whnf
 refine RStep.of (len_slice rfl ?_)
 conv => whnf
 refine cond_f g23_4 ?_
 conv => whnf
 refine cond_f g23_4 ?_
 conv => whnf
 refine RStep.of (len_slice rfl ?_)
 conv => whnf
 refine cond_f g23_4 ?_
 conv => whnf
 refine cond_f g23_4 ?_
 conv => whnf
 refine cond_s (fun g31_4 => ?_) (fun g31_4 => ?_)
 conv => whnf
 refine cond_t g31_4 ?_
 conv => whnf
 refine cond_t g31_4 ?_
 conv => whnf
 refine cond_t g31_4 ?_
 conv => whnf
 refine cond_t g31_4 ?_
 conv => whnf
 refine cond_go rfl ?_
 conv => whnf
 refine cond_T ?_
 replace hm := ift (or_t ((si e30).symm.trans g31_4)) hm
 conv => whnf
 refine mk_iface rfl ?_
 conv => whnf
 exact eE hm
 conv => whnf
 refine field_addr rfl ?_
 conv => whnf
 refine cond_f g31_4 ?_
 conv => whnf
 refine RStep.of (load1_s r2 rfl rfl ?_)
 conv => whnf
 refine cond_f g31_4 ?_
 conv => whnf
 refine RStep.of (len_slice rfl ?_)
 conv => whnf
 refine cond_f g31_4 ?_
 conv => whnf
 refine cond_f g31_4 ?_
 conv => whnf
 refine cond_go rfl ?_
 conv => whnf
 refine cond_s (fun w36 => ?_) (fun w36 => ?_)
 replace hm := ift (or_u ((si e30).symm.trans g31_4) w36) hm
 conv => whnf
 refine mk_iface rfl ?_
 conv => whnf
 exact eE hm
 replace hm := iff_ (or_f ((si e30).symm.trans g31_4) w36) hm
 conv => whnf
 refine jR (σ := Unit) [38, 39, 40, 41, 42, 43, 44, 45, 46, 47, 48, 49, 50, 51, 52, 53, 54, 55] (fun _ => [(55, .bool (((decide (c.Length < 4) || decide (c.Length > 1073741824)) || decide (c.Window < 1)) || decide (c.Window > 1024)))]) (fun t902 => True) ?_ ?_
 refine guard_go rfl ?_
 conv => whnf
 refine field_addr rfl ?_
 conv => whnf
 refine RStep.of (load1_s r2 rfl rfl ?_)
 conv => whnf
 refine cond_s (fun g41_6 => ?_) (fun g41_6 => ?_)
 conv => whnf
 refine cond_t g41_6 ?_
 conv => whnf
 refine cond_t g41_6 ?_
 conv => whnf
 refine cond_t g41_6 ?_
 conv => whnf
 refine cond_T ?_
 conv => whnf
 refine cond_T ?_
 conv => whnf
 refine cond_T ?_
 conv => whnf
 refine cond_T ?_
 conv => whnf
 refine cond_T ?_
 conv => whnf
 refine cond_T ?_
 conv => whnf
 refine cond_T ?_
 conv => whnf
 refine cond_T ?_
 conv => whnf
 exact eMt () ⟨bq (((or_t (or_t (or_t g41_6)))).symm), trivial⟩
 conv => whnf
 refine field_addr rfl ?_
 conv => whnf
 refine cond_f g41_6 ?_
 conv => whnf
 refine RStep.of (load1_s r2 rfl rfl ?_)
 conv => whnf
 refine cond_f g41_6 ?_
 conv => whnf
 refine cond_f g41_6 ?_
 conv => whnf
 refine cond_s (fun g46_6 => ?_) (fun g46_6 => ?_)
 conv => whnf
 refine cond_t g46_6 ?_
 conv => whnf
 refine cond_t g46_6 ?_
 conv => whnf
 refine cond_t g46_6 ?_
 conv => whnf
 refine cond_T ?_
 conv => whnf
 refine cond_T ?_
 conv => whnf
 refine cond_T ?_
 conv => whnf
 refine cond_T ?_
 conv => whnf
 exact eMt () ⟨bq (((or_t (or_t (or_u g41_6 g46_6)))).symm), trivial⟩
 conv => whnf
 refine field_addr rfl ?_
 conv => whnf
 refine cond_f g46_6 ?_
 conv => whnf
 refine RStep.of (load1_s r2 rfl rfl ?_)
 conv => whnf
 refine cond_f g46_6 ?_
 conv => whnf
 refine cond_f g46_6 ?_
 conv => whnf
 refine cond_s (fun g51_6 => ?_) (fun g51_6 => ?_)
 conv => whnf
 refine cond_t g51_6 ?_
 conv => whnf
 refine cond_t g51_6 ?_
 conv => whnf
 refine cond_t g51_6 ?_
 conv => whnf
 exact eMt () ⟨bq (((or_t (or_u (or_f g41_6 g46_6) g51_6))).symm), trivial⟩
 conv => whnf
 refine field_addr rfl ?_
 conv => whnf
 refine cond_f g51_6 ?_
 conv => whnf
 refine RStep.of (load1_s r2 rfl rfl ?_)
 conv => whnf
 refine cond_f g51_6 ?_
 conv => whnf
 refine cond_f g51_6 ?_
 conv => whnf
 exact eMt () ⟨bq (or_e (b := decide (c.Window > 1024)) (or_f (or_f g41_6 g46_6) g51_6)), trivial⟩
 rintro _ _ j902
 conv => whnf
 refine cs rfl rfl hm (fun w55 hm => ?_) fun w55 hm => ?_
 conv => whnf
 refine mk_iface rfl ?_
 conv => whnf
 exact eE hm
 conv => whnf
 refine field_addr rfl ?_
 conv => whnf
 refine RStep.of (load1_s r2 rfl rfl ?_)
 conv => whnf
 refine cb hm fun x59 q59 hm => ckx (slices_Clone_string_ok q59 :) ?_
 rintro _ _ _ ⟨a59_0, c59_0, rfl, h59_0, rfl⟩
 conv => whnf
 refine field_addr rfl ?_
 conv => whnf
 refine store_rule r3 rfl ?_
 conv => whnf
 refine ⟨rfl, rfl, (Nat.le_of_ble_eq_true rfl), ?_⟩
 conv => whnf
 refine field_addr rfl ?_
 conv => whnf
 refine RStep.of (load1_s r0 rfl rfl ?_)
 conv => whnf
 refine cb hm fun x64 q64 hm => ck0 (gate_New_ok q64 :) ?_
 rintro v64 _ H64 p64
 rcases hq64 : x64.1 with _ | o64
 rw [hq64] at p64 hm
 obtain ⟨rfl, rfl⟩ := p64
 replace hm := oe_n hm
 conv => whnf
 refine neq_err rfl ?_
 conv => whnf
 refine cs rfl rfl hm (fun w68 hm => ?_) fun w68 hm => ?_
 conv => whnf
 refine mk_iface rfl ?_
 conv => whnf
 exact eE hm
 conv => whnf
 refine field_addr rfl ?_
 conv => whnf
 refine RStep.of (load1_s r0 rfl rfl ?_)
 conv => whnf
 refine field_addr rfl ?_
 conv => whnf
 refine RStep.of (load1_s r0 rfl rfl ?_)
 conv => whnf
 refine cb hm fun x75 q75 hm => ck0 (lease_NewIssuer_ok q75 :) ?_
 rintro v75 _ H75 p75
 rcases hq75 : x75.1 with _ | o75
 rw [hq75] at p75 hm
 obtain ⟨rfl, rfl⟩ := p75
 replace hm := oe_n hm
 conv => whnf
 refine neq_err rfl ?_
 conv => whnf
 refine cs rfl rfl hm (fun w79 hm => ?_) fun w79 hm => ?_
 conv => whnf
 refine mk_iface rfl ?_
 conv => whnf
 exact eE hm
 conv => whnf
 refine draw_go_F ⟨⟨[], false⟩, _, [(_, _)], []⟩ 14 rfl (by kernel_rfl) ⟨Hp.Le.refl _, (ConvH.of (.cons r0 .nil)), ci0⟩ ?_
 conv => whnf
 refine loadn_l m0 rfl (Nat.le_of_ble_eq_true rfl) ?_
 conv => whnf
 refine field_addr rfl ?_
 conv => whnf
 refine load1_l m0 rfl rfl ?_
 conv => whnf
 intro GG4
 conv => whnf
 refine cb hm fun x85 q85 hm => ck0 (lease_NewHolder_ok q85 :) ?_
 rintro _ _ _ ⟨b85_0, a85_1, c85_1, a85_2, c85_2, rfl, h85_1, h85_2, rfl⟩
 conv => whnf
 refine ⟨⟨(Hp.Le.refl _), (ConvH.of (.cons r3 .nil)), ci0⟩, ?_⟩
 refine ⟨_, .cons r8 .nil, ⟨(Hp.Le.refl _), (ConvH.of (.cons r3 .nil)), ci0⟩, ?_⟩
 conv => whnf
 refine field_addr rfl ?_
 conv => whnf
 refine load1_l m0 rfl rfl ?_
 conv => whnf
 refine len_sliceN rfl ?_
 obtain ⟨h90, hm⟩ := chkb hm
 conv => whnf
 refine mk_sliceA elT56 rfl h90 fun b90 => ?_
 conv => whnf
 refine build_struct rfl rfl ?_
 conv => whnf
 refine cond_T ?_
 conv => whnf
 refine cond_T ?_
 conv => whnf
 refine cond_T ?_
 conv => whnf
 refine cond_T ?_
 conv => whnf
 refine cond_T ?_
 conv => whnf
 refine cond_T ?_
 conv => whnf
 refine cond_T ?_
 conv => whnf
 intro GG11
 conv => whnf
 refine box_rule ?_
 intro b92
 conv => whnf
 refine ⟨⟨(Hp.Le.refl _), (ConvH.of (.cons r5 .nil)), ci0⟩, ?_⟩
 refine ⟨_, .cons r10 .nil, ⟨(Hp.Le.refl _), (ConvH.of (.cons r5 .nil)), ci0⟩, ?_⟩
 cases hm
 rw [hq75] at p75 hm
 obtain ⟨b75_0, a75_1, c75_1, rfl, h75_1, rfl⟩ := p75
 replace hm := oe_s hm
 conv => whnf
 refine neq_err rfl ?_
 conv => whnf
 refine cs rfl rfl hm (fun w79 hm => ?_) fun w79 hm => ?_
 conv => whnf
 refine mk_iface rfl ?_
 conv => whnf
 exact eE hm
 conv => whnf
 refine draw_go_F ⟨⟨[], false⟩, _, [(_, _)], []⟩ 14 rfl (by kernel_rfl) ⟨Hp.Le.refl _, (ConvH.of (.cons r2 .nil)), ci0⟩ ?_
 conv => whnf
 refine loadn_l m0 rfl (Nat.le_of_ble_eq_true rfl) ?_
 conv => whnf
 refine field_addr rfl ?_
 conv => whnf
 refine load1_l m0 rfl rfl ?_
 conv => whnf
 intro GG4
 conv => whnf
 refine cb hm fun x85 q85 hm => ck0 (lease_NewHolder_ok q85 :) ?_
 rintro _ _ _ ⟨b85_0, a85_1, c85_1, a85_2, c85_2, rfl, h85_1, h85_2, rfl⟩
 conv => whnf
 refine ⟨⟨(Hp.Le.refl _), (ConvH.of (.cons r5 .nil)), ci0⟩, ?_⟩
 refine ⟨_, .cons r10 .nil, ⟨(Hp.Le.refl _), (ConvH.of (.cons r5 .nil)), ci0⟩, ?_⟩
 conv => whnf
 refine field_addr rfl ?_
 conv => whnf
 refine load1_l m0 rfl rfl ?_
 conv => whnf
 refine len_sliceN rfl ?_
 obtain ⟨h90, hm⟩ := chkb hm
 conv => whnf
 refine mk_sliceA elT56 rfl h90 fun b90 => ?_
 conv => whnf
 refine build_struct rfl rfl ?_
 conv => whnf
 refine cond_T ?_
 conv => whnf
 refine cond_T ?_
 conv => whnf
 refine cond_T ?_
 conv => whnf
 refine cond_T ?_
 conv => whnf
 refine cond_T ?_
 conv => whnf
 refine cond_T ?_
 conv => whnf
 refine cond_T ?_
 conv => whnf
 intro GG11
 conv => whnf
 refine box_rule ?_
 intro b92
 conv => whnf
 refine ⟨⟨(Hp.Le.refl _), (ConvH.of (.cons r7 .nil)), ci0⟩, ?_⟩
 refine ⟨_, .cons r12 .nil, ⟨(Hp.Le.refl _), (ConvH.of (.cons r7 .nil)), ci0⟩, ?_⟩
 cases hm
 rw [hq64] at p64 hm
 obtain ⟨b64_0, a64_1, c64_1, m64_2, rfl, h64_1, rfl⟩ := p64
 replace hm := oe_s hm
 conv => whnf
 refine neq_err rfl ?_
 conv => whnf
 refine cs rfl rfl hm (fun w68 hm => ?_) fun w68 hm => ?_
 conv => whnf
 refine mk_iface rfl ?_
 conv => whnf
 exact eE hm
 conv => whnf
 refine field_addr rfl ?_
 conv => whnf
 refine RStep.of (load1_s r3 rfl rfl ?_)
 conv => whnf
 refine field_addr rfl ?_
 conv => whnf
 refine RStep.of (load1_s r3 rfl rfl ?_)
 conv => whnf
 refine cb hm fun x75 q75 hm => ck0 (lease_NewIssuer_ok q75 :) ?_
 rintro v75 _ H75 p75
 rcases hq75 : x75.1 with _ | o75
 rw [hq75] at p75 hm
 obtain ⟨rfl, rfl⟩ := p75
 replace hm := oe_n hm
 conv => whnf
 refine neq_err rfl ?_
 conv => whnf
 refine cs rfl rfl hm (fun w79 hm => ?_) fun w79 hm => ?_
 conv => whnf
 refine mk_iface rfl ?_
 conv => whnf
 exact eE hm
 conv => whnf
 refine draw_go_F ⟨⟨[], false⟩, _, [(_, _)], []⟩ 14 rfl (by kernel_rfl) ⟨Hp.Le.refl _, (ConvH.of (.cons r3 .nil)), ci0⟩ ?_
 conv => whnf
 refine loadn_l m0 rfl (Nat.le_of_ble_eq_true rfl) ?_
 conv => whnf
 refine field_addr rfl ?_
 conv => whnf
 refine load1_l m0 rfl rfl ?_
 conv => whnf
 intro GG4
 conv => whnf
 refine cb hm fun x85 q85 hm => ck0 (lease_NewHolder_ok q85 :) ?_
 rintro _ _ _ ⟨b85_0, a85_1, c85_1, a85_2, c85_2, rfl, h85_1, h85_2, rfl⟩
 conv => whnf
 refine ⟨⟨(Hp.Le.refl _), (ConvH.of (.cons r6 .nil)), ci0⟩, ?_⟩
 refine ⟨_, .cons r11 .nil, ⟨(Hp.Le.refl _), (ConvH.of (.cons r6 .nil)), ci0⟩, ?_⟩
 conv => whnf
 refine field_addr rfl ?_
 conv => whnf
 refine load1_l m0 rfl rfl ?_
 conv => whnf
 refine len_sliceN rfl ?_
 obtain ⟨h90, hm⟩ := chkb hm
 conv => whnf
 refine mk_sliceA elT56 rfl h90 fun b90 => ?_
 conv => whnf
 refine build_struct rfl rfl ?_
 conv => whnf
 refine cond_T ?_
 conv => whnf
 refine cond_T ?_
 conv => whnf
 refine cond_T ?_
 conv => whnf
 refine cond_T ?_
 conv => whnf
 refine cond_T ?_
 conv => whnf
 refine cond_T ?_
 conv => whnf
 refine cond_T ?_
 conv => whnf
 intro GG11
 conv => whnf
 refine box_rule ?_
 intro b92
 conv => whnf
 refine ⟨⟨(Hp.Le.refl _), (ConvH.of (.cons r8 .nil)), ci0⟩, ?_⟩
 refine ⟨_, .cons r13 .nil, ⟨(Hp.Le.refl _), (ConvH.of (.cons r8 .nil)), ci0⟩, ?_⟩
 cases hm
 rw [hq75] at p75 hm
 obtain ⟨b75_0, a75_1, c75_1, rfl, h75_1, rfl⟩ := p75
 replace hm := oe_s hm
 conv => whnf
 refine neq_err rfl ?_
 conv => whnf
 refine cs rfl rfl hm (fun w79 hm => ?_) fun w79 hm => ?_
 conv => whnf
 refine mk_iface rfl ?_
 conv => whnf
 exact eE hm
 conv => whnf
 refine draw_go_F ⟨⟨[], false⟩, _, [(_, _)], []⟩ 14 rfl (by kernel_rfl) ⟨Hp.Le.refl _, (ConvH.of (.cons r5 .nil)), ci0⟩ ?_
 conv => whnf
 refine loadn_l m0 rfl (Nat.le_of_ble_eq_true rfl) ?_
 conv => whnf
 refine field_addr rfl ?_
 conv => whnf
 refine load1_l m0 rfl rfl ?_
 conv => whnf
 intro GG4
 conv => whnf
 refine cb hm fun x85 q85 hm => ck0 (lease_NewHolder_ok q85 :) ?_
 rintro _ _ _ ⟨b85_0, a85_1, c85_1, a85_2, c85_2, rfl, h85_1, h85_2, rfl⟩
 conv => whnf
 refine ⟨⟨(Hp.Le.refl _), (ConvH.of (.cons r8 .nil)), ci0⟩, ?_⟩
 refine ⟨_, .cons r13 .nil, ⟨(Hp.Le.refl _), (ConvH.of (.cons r8 .nil)), ci0⟩, ?_⟩
 conv => whnf
 refine field_addr rfl ?_
 conv => whnf
 refine load1_l m0 rfl rfl ?_
 conv => whnf
 refine len_sliceN rfl ?_
 obtain ⟨h90, hm⟩ := chkb hm
 conv => whnf
 refine mk_sliceA elT56 rfl h90 fun b90 => ?_
 conv => whnf
 refine build_struct rfl rfl ?_
 conv => whnf
 refine cond_T ?_
 conv => whnf
 refine cond_T ?_
 conv => whnf
 refine cond_T ?_
 conv => whnf
 refine cond_T ?_
 conv => whnf
 refine cond_T ?_
 conv => whnf
 refine cond_T ?_
 conv => whnf
 refine cond_T ?_
 conv => whnf
 intro GG11
 conv => whnf
 refine box_rule ?_
 intro b92
 conv => whnf
 refine ⟨⟨(Hp.Le.refl _), (ConvH.of (.cons r10 .nil)), ci0⟩, ?_⟩
 refine ⟨_, .cons r15 .nil, ⟨(Hp.Le.refl _), (ConvH.of (.cons r10 .nil)), ci0⟩, ?_⟩
 conv => whnf
 refine madeE (enc := eN) (0 : Int) elT56 rfl rfl rfl (lim_n h90) r1 ?_
 refine fE r11 fun Kz5 lz5 fz5 => ?_
 refine cellsE r1 (congrArg (fun q_ : Nat => ([str c.Name, str c.Parent, .slice a59_0 x59.length c59_0, .int .i64 c.Length, .int .i64 c.Ppm, .int .i64 c.Window, .pointer (some ⟨b64_0, 0, none⟩), .pointer (some ⟨b85_0, 0, none⟩), .pointer (some ⟨b75_0, 0, none⟩), .slice (some ⟨b90, 0, none⟩) q_ (Int.toNat (x59.length : Int)), .int .i64 0, .int .i64 (-1), .int .i64 (-1), .int .i64 0] : List Value)) (show (Int.toNat (x59.length : Int)) = (List.replicate (Int.toNat (x59.length : Int)) (0 : Int)).length from List.length_replicate.symm)) ?_
 exact eE hm

noncomputable def relay_Relay_begin (r' : S_relay_Relay) (now : Int) : Option (S_relay_Relay) :=
  if decide (r'.first < 0) then
  some (⟨r'.c, r'.gate, r'.holder, r'.issuer, r'.acks, (max r'.now (min (max now 0) 1099511627776)), (max r'.now (min (max now 0) 1099511627776)), r'.asked, r'.sent⟩ : S_relay_Relay)
  else
  some (⟨r'.c, r'.gate, r'.holder, r'.issuer, r'.acks, (max r'.now (min (max now 0) 1099511627776)), r'.first, r'.asked, r'.sent⟩ : S_relay_Relay)
set_option maxHeartbeats 8000000 in
theorem relay_Relay_begin_ok {r' : S_relay_Relay} {now : Int} {b0 : Nat} {ap0_0 : Option Addr} {cp0_0 : Nat} {bp0_1 : Nat} {ap0_2 : Option Addr} {cp0_2 : Nat} {mp0_3 : Nat} {bp0_4 : Nat} {ap0_5 : Option Addr} {cp0_5 : Nat} {ap0_6 : Option Addr} {cp0_6 : Nat} {bp0_7 : Nat} {ap0_8 : Option Addr} {cp0_8 : Nat} {ap0_9 : Option Addr} {cp0_9 : Nat} {K : Hp} {r : S_relay_Relay}
    (hm : relay_Relay_begin r' now = some r) (hX : RdC eS K ap0_0 cp0_0 1 r'.c.Children ∧ (0 < r'.gate.kept.length → Has ap0_2) ∧ (0 < r'.holder.serials.length → Has ap0_5) ∧ (0 < r'.holder.leases.length → Has ap0_6) ∧ (0 < r'.issuer.list.length → Has ap0_8) ∧ (0 < r'.acks.length → Has ap0_9)) :
    Fn Try.prog 18 [.pointer (some ⟨b0, 0, none⟩), .int .i64 now] K [Cells b0 58 [str r'.c.Name, str r'.c.Parent, .slice ap0_0 r'.c.Children.length cp0_0, .int .i64 r'.c.Length, .int .i64 r'.c.Ppm, .int .i64 r'.c.Window, .pointer (some ⟨bp0_1, 0, none⟩), .pointer (some ⟨bp0_4, 0, none⟩), .pointer (some ⟨bp0_7, 0, none⟩), .slice ap0_9 r'.acks.length cp0_9, .int .i64 r'.now, .int .i64 r'.first, .int .i64 r'.asked, .int .i64 r'.sent], Cells bp0_1 70 [.int .i64 r'.gate.window, .int .i64 r'.gate.applied, .int .i64 r'.gate.floor, .slice ap0_2 r'.gate.kept.length cp0_2, .map (some mp0_3)], OwnL S_purge_Purge.enc ap0_2 120 3 cp0_2 r'.gate.kept, MapE intK (fun x => .agg (S_purge_Purge.enc x).toArray) mp0_3 r'.gate.aside, Cells bp0_4 76 [.int .i64 r'.holder.ppm, .int .i64 r'.holder.now, .int .i64 r'.holder.greatest, .slice ap0_5 r'.holder.serials.length cp0_5, .slice ap0_6 r'.holder.leases.length cp0_6], OwnL eN ap0_5 3 1 cp0_5 r'.holder.serials, OwnL S_lease_held.enc ap0_6 122 2 cp0_6 r'.holder.leases, Cells bp0_7 73 [.int .i64 r'.issuer.length, .int .i64 r'.issuer.ppm, .int .i64 r'.issuer.now, .slice ap0_8 r'.issuer.list.length cp0_8], OwnL S_lease_given.enc ap0_8 104 3 cp0_8 r'.issuer.list, OwnL eN ap0_9 3 1 cp0_9 r'.acks] (fun v K' H' => ∃ br_0 : Nat, ∃ ar_1 : Option Addr, ∃ cr_1 : Nat, ∃ mr_2 : Nat, ∃ br_3 : Nat, ∃ ar_4 : Option Addr, ∃ cr_4 : Nat, ∃ ar_5 : Option Addr, ∃ cr_5 : Nat, ∃ br_6 : Nat, ∃ ar_7 : Option Addr, ∃ cr_7 : Nat, ∃ ar_8 : Option Addr, ∃ cr_8 : Nat, v = .tuple #[] ∧ (0 < r.gate.kept.length → Has ar_1) ∧ (0 < r.holder.serials.length → Has ar_4) ∧ (0 < r.holder.leases.length → Has ar_5) ∧ (0 < r.issuer.list.length → Has ar_7) ∧ (0 < r.acks.length → Has ar_8) ∧ H' = [Cells b0 58 [str r'.c.Name, str r'.c.Parent, .slice ap0_0 r'.c.Children.length cp0_0, .int .i64 r'.c.Length, .int .i64 r'.c.Ppm, .int .i64 r'.c.Window, .pointer (some ⟨br_0, 0, none⟩), .pointer (some ⟨br_3, 0, none⟩), .pointer (some ⟨br_6, 0, none⟩), .slice ar_8 r.acks.length cr_8, .int .i64 r.now, .int .i64 r.first, .int .i64 r.asked, .int .i64 r.sent], Cells br_0 70 [.int .i64 r.gate.window, .int .i64 r.gate.applied, .int .i64 r.gate.floor, .slice ar_1 r.gate.kept.length cr_1, .map (some mr_2)], OwnL S_purge_Purge.enc ar_1 120 3 cr_1 r.gate.kept, MapE intK (fun x => .agg (S_purge_Purge.enc x).toArray) mr_2 r.gate.aside, Cells br_3 76 [.int .i64 r.holder.ppm, .int .i64 r.holder.now, .int .i64 r.holder.greatest, .slice ar_4 r.holder.serials.length cr_4, .slice ar_5 r.holder.leases.length cr_5], OwnL eN ar_4 3 1 cr_4 r.holder.serials, OwnL S_lease_held.enc ar_5 122 2 cr_5 r.holder.leases, Cells br_6 73 [.int .i64 r.issuer.length, .int .i64 r.issuer.ppm, .int .i64 r.issuer.now, .slice ar_7 r.issuer.list.length cr_7], OwnL S_lease_given.enc ar_7 104 3 cr_7 r.issuer.list, OwnL eN ar_8 3 1 cr_8 r.acks]) := by
 obtain ⟨hp0_0, hp0_2, hp0_5, hp0_6, hp0_8, hp0_9⟩ := hX
 refine Fn.enter Try.func18 Try.call18 rfl fun F => ?_
 unfold relay_Relay_begin at hm
 conv => whnf
 refine nil_check ?_
 conv => whnf
 refine field_addr rfl ?_
 conv => whnf
 refine RStep.of (load1_s r0 rfl rfl ?_)
 conv => whnf
 refine RStep.of (max_int ?_)
 conv => whnf
 refine RStep.of (min_int ?_)
 conv => whnf
 refine RStep.of (max_int ?_)
 conv => whnf
 refine nil_check ?_
 conv => whnf
 refine field_addr rfl ?_
 conv => whnf
 refine store_rule r0 rfl ?_
 conv => whnf
 refine ⟨rfl, rfl, (Nat.le_of_ble_eq_true rfl), ?_⟩
 conv => whnf
 refine nil_check ?_
 conv => whnf
 refine field_addr rfl ?_
 conv => whnf
 refine RStep.of (load1_s r0 rfl rfl ?_)
 conv => whnf
 refine cs rfl rfl hm (fun w19 hm => ?_) fun w19 hm => ?_
 conv => whnf
 refine nil_check ?_
 conv => whnf
 refine field_addr rfl ?_
 conv => whnf
 refine RStep.of (load1_s r0 rfl rfl ?_)
 conv => whnf
 refine nil_check ?_
 conv => whnf
 refine field_addr rfl ?_
 conv => whnf
 refine store_rule r0 rfl ?_
 conv => whnf
 refine ⟨rfl, rfl, (Nat.le_of_ble_eq_true rfl), ?_⟩
 conv => whnf
 exact eE hm
 conv => whnf
 exact eE hm

noncomputable def clock_limited (n' : Int) (limit : Int) : Option (Int) :=
  some (max 0 (min n' limit))
set_option maxHeartbeats 8000000 in
theorem clock_limited_ok {n' : Int} {limit : Int} {K : Hp} {r : Int}
    (hm : clock_limited n' limit = some r)  :
    Fn Try.prog 40 [.int .i64 n', .int .i64 limit] K [] (fun v K' H' => v = .int .i64 r ∧ H' = []) := by
 refine Fn.enter Try.func40 Try.call40 rfl fun F => ?_
 unfold clock_limited at hm
 conv => whnf
 refine RStep.of (min_int ?_)
 conv => whnf
 refine RStep.of (max_int ?_)
 conv => whnf
 exact eE hm

noncomputable def clock_Hold (l : Int) (ppm : Int) : Option (Int) :=
  (clock_limited l 1099511627776).bind fun x6 =>
  (clock_limited ppm 100000).bind fun x8 =>
  (chk (InI (1000000 - x8))).bind fun _ =>
  (chk (InI (x6 * (1000000 - x8)))).bind fun _ =>
  (chk ((1000000 : Int) ≠ 0 ∧ InI (Int.tdiv (x6 * (1000000 - x8)) 1000000))).bind fun _ =>
  some (Int.tdiv (x6 * (1000000 - x8)) 1000000)
set_option maxHeartbeats 8000000 in
theorem clock_Hold_ok {l : Int} {ppm : Int} {K : Hp} {r : Int}
    (hm : clock_Hold l ppm = some r)  :
    Fn Try.prog 26 [.int .i64 l, .int .i64 ppm] K [] (fun v K' H' => v = .int .i64 r ∧ H' = []) := by
 refine Fn.enter Try.func26 Try.call26 rfl fun F => ?_
 unfold clock_Hold at hm
 conv => whnf
 refine cb hm fun x6 q6 hm => cg0 (clock_limited_ok q6 :) ?_
 conv => whnf
 refine cb hm fun x8 q8 hm => cg0 (clock_limited_ok q8 :) ?_
 obtain ⟨h9, hm⟩ := chkb hm
 conv => whnf
 refine int_in h9 ?_
 obtain ⟨h10, hm⟩ := chkb hm
 conv => whnf
 refine int_in h10 ?_
 obtain ⟨h11, hm⟩ := chkb hm
 conv => whnf
 refine quo_t h11.1 h11.2 ?_
 conv => whnf
 exact eE hm

noncomputable def relay_Relay_period (r' : S_relay_Relay) : Option (Int) :=
  (clock_Hold r'.c.Length r'.c.Ppm).bind fun x13 =>
  (chk ((4 : Int) ≠ 0 ∧ InI (Int.tdiv x13 4))).bind fun _ =>
  some (max 1 (Int.tdiv x13 4))
set_option maxHeartbeats 8000000 in
theorem relay_Relay_period_ok {r' : S_relay_Relay} {b0 : Nat} {ap0_0 : Option Addr} {cp0_0 : Nat} {bp0_1 : Nat} {ap0_2 : Option Addr} {cp0_2 : Nat} {mp0_3 : Nat} {bp0_4 : Nat} {ap0_5 : Option Addr} {cp0_5 : Nat} {ap0_6 : Option Addr} {cp0_6 : Nat} {bp0_7 : Nat} {ap0_8 : Option Addr} {cp0_8 : Nat} {ap0_9 : Option Addr} {cp0_9 : Nat} {K : Hp} {r : Int}
    (hm : relay_Relay_period r' = some r) (hX : RdC eS K ap0_0 cp0_0 1 r'.c.Children ∧ (0 < r'.gate.kept.length → Has ap0_2) ∧ (0 < r'.holder.serials.length → Has ap0_5) ∧ (0 < r'.holder.leases.length → Has ap0_6) ∧ (0 < r'.issuer.list.length → Has ap0_8) ∧ (0 < r'.acks.length → Has ap0_9)) :
    Fn Try.prog 19 [.pointer (some ⟨b0, 0, none⟩)] K [Cells b0 58 [str r'.c.Name, str r'.c.Parent, .slice ap0_0 r'.c.Children.length cp0_0, .int .i64 r'.c.Length, .int .i64 r'.c.Ppm, .int .i64 r'.c.Window, .pointer (some ⟨bp0_1, 0, none⟩), .pointer (some ⟨bp0_4, 0, none⟩), .pointer (some ⟨bp0_7, 0, none⟩), .slice ap0_9 r'.acks.length cp0_9, .int .i64 r'.now, .int .i64 r'.first, .int .i64 r'.asked, .int .i64 r'.sent], Cells bp0_1 70 [.int .i64 r'.gate.window, .int .i64 r'.gate.applied, .int .i64 r'.gate.floor, .slice ap0_2 r'.gate.kept.length cp0_2, .map (some mp0_3)], OwnL S_purge_Purge.enc ap0_2 120 3 cp0_2 r'.gate.kept, MapE intK (fun x => .agg (S_purge_Purge.enc x).toArray) mp0_3 r'.gate.aside, Cells bp0_4 76 [.int .i64 r'.holder.ppm, .int .i64 r'.holder.now, .int .i64 r'.holder.greatest, .slice ap0_5 r'.holder.serials.length cp0_5, .slice ap0_6 r'.holder.leases.length cp0_6], OwnL eN ap0_5 3 1 cp0_5 r'.holder.serials, OwnL S_lease_held.enc ap0_6 122 2 cp0_6 r'.holder.leases, Cells bp0_7 73 [.int .i64 r'.issuer.length, .int .i64 r'.issuer.ppm, .int .i64 r'.issuer.now, .slice ap0_8 r'.issuer.list.length cp0_8], OwnL S_lease_given.enc ap0_8 104 3 cp0_8 r'.issuer.list, OwnL eN ap0_9 3 1 cp0_9 r'.acks] (fun v K' H' => v = .int .i64 r ∧ H' = [Cells b0 58 [str r'.c.Name, str r'.c.Parent, .slice ap0_0 r'.c.Children.length cp0_0, .int .i64 r'.c.Length, .int .i64 r'.c.Ppm, .int .i64 r'.c.Window, .pointer (some ⟨bp0_1, 0, none⟩), .pointer (some ⟨bp0_4, 0, none⟩), .pointer (some ⟨bp0_7, 0, none⟩), .slice ap0_9 r'.acks.length cp0_9, .int .i64 r'.now, .int .i64 r'.first, .int .i64 r'.asked, .int .i64 r'.sent], Cells bp0_1 70 [.int .i64 r'.gate.window, .int .i64 r'.gate.applied, .int .i64 r'.gate.floor, .slice ap0_2 r'.gate.kept.length cp0_2, .map (some mp0_3)], OwnL S_purge_Purge.enc ap0_2 120 3 cp0_2 r'.gate.kept, MapE intK (fun x => .agg (S_purge_Purge.enc x).toArray) mp0_3 r'.gate.aside, Cells bp0_4 76 [.int .i64 r'.holder.ppm, .int .i64 r'.holder.now, .int .i64 r'.holder.greatest, .slice ap0_5 r'.holder.serials.length cp0_5, .slice ap0_6 r'.holder.leases.length cp0_6], OwnL eN ap0_5 3 1 cp0_5 r'.holder.serials, OwnL S_lease_held.enc ap0_6 122 2 cp0_6 r'.holder.leases, Cells bp0_7 73 [.int .i64 r'.issuer.length, .int .i64 r'.issuer.ppm, .int .i64 r'.issuer.now, .slice ap0_8 r'.issuer.list.length cp0_8], OwnL S_lease_given.enc ap0_8 104 3 cp0_8 r'.issuer.list, OwnL eN ap0_9 3 1 cp0_9 r'.acks]) := by
 obtain ⟨hp0_0, hp0_2, hp0_5, hp0_6, hp0_8, hp0_9⟩ := hX
 refine Fn.enter Try.func19 Try.call19 rfl fun F => ?_
 unfold relay_Relay_period at hm
 conv => whnf
 refine draw_go ⟨⟨[], false⟩, _, [(_, _)], []⟩ (by kernel_rfl) ⟨Hp.Le.refl _, (ConvH.of (.cons r0 .nil)), ci0⟩ ?_
 conv => whnf
 refine nil_check ?_
 conv => whnf
 refine field_addr rfl ?_
 conv => whnf
 refine field_addr rfl ?_
 conv => whnf
 refine load1_l m0 rfl rfl ?_
 conv => whnf
 refine nil_check ?_
 conv => whnf
 refine field_addr rfl ?_
 conv => whnf
 refine field_addr rfl ?_
 conv => whnf
 refine load1_l m0 rfl rfl ?_
 conv => whnf
 refine cb hm fun x13 q13 hm => cg0 (clock_Hold_ok q13 :) ?_
 conv => whnf
 refine qk (ConvH.of (.cons r0 .nil)) ?_
 obtain ⟨h14, hm⟩ := chkb hm
 conv => whnf
 refine quo_t h14.1 h14.2 ?_
 conv => whnf
 refine max_intN ?_
 conv => whnf
 exact eE hm

noncomputable def lease_reading (now : Int) (last : Int) : Option (Int) :=
  some (max (max last (min now 1099511627776)) 0)
set_option maxHeartbeats 8000000 in
theorem lease_reading_ok {now : Int} {last : Int} {K : Hp} {r : Int}
    (hm : lease_reading now last = some r)  :
    Fn Try.prog 27 [.int .i64 now, .int .i64 last] K [] (fun v K' H' => v = .int .i64 r ∧ H' = []) := by
 refine Fn.enter Try.func27 Try.call27 rfl fun F => ?_
 unfold lease_reading at hm
 conv => whnf
 refine RStep.of (min_int ?_)
 conv => whnf
 refine RStep.of (max3_int ?_)
 conv => whnf
 exact eE hm

noncomputable def lease_Holder_Ask (h : S_lease_Holder) (now : Int) : Option (Int × S_lease_Holder) :=
  (lease_reading now h.now).bind fun x14 =>
  (chk (InI (x14 + 1))).bind fun _ =>
  if decide ((x14 + 1) ≤ h.greatest) then
  some (0, (⟨h.ppm, x14, h.greatest, h.serials, h.leases⟩ : S_lease_Holder))
  else
  (chk (h.serials.length + [(x14 + 1)].length ≤ lim)).bind fun _ =>
  if decide ((((h.serials ++ [(x14 + 1)]).length) : Int) > 16) then
  (chk (0 ≤ (1 : Int) ∧ (1 : Int) ≤ ((h.serials ++ [(x14 + 1)]).length : Int) ∧ ((h.serials ++ [(x14 + 1)]).length : Int) ≤ ((h.serials ++ [(x14 + 1)]).length : Int))).bind fun _ =>
  none
  else
  some ((x14 + 1), (⟨h.ppm, x14, (x14 + 1), (h.serials ++ [(x14 + 1)]), h.leases⟩ : S_lease_Holder))
set_option maxHeartbeats 8000000 in
theorem lease_Holder_Ask_ok {h : S_lease_Holder} {now : Int} {b0 : Nat} {ap0_0 : Option Addr} {cp0_0 : Nat} {ap0_1 : Option Addr} {cp0_1 : Nat} {K : Hp} {r : Int × S_lease_Holder}
    (hm : lease_Holder_Ask h now = some r) (hX : (0 < h.serials.length → Has ap0_0) ∧ (0 < h.leases.length → Has ap0_1)) :
    Fn Try.prog 20 [.pointer (some ⟨b0, 0, none⟩), .int .i64 now] K [Cells b0 76 [.int .i64 h.ppm, .int .i64 h.now, .int .i64 h.greatest, .slice ap0_0 h.serials.length cp0_0, .slice ap0_1 h.leases.length cp0_1], OwnL eN ap0_0 3 1 cp0_0 h.serials, OwnL S_lease_held.enc ap0_1 122 2 cp0_1 h.leases] (fun v K' H' => ∃ ar_0 : Option Addr, ∃ cr_0 : Nat, ∃ ar_1 : Option Addr, ∃ cr_1 : Nat, v = .int .i64 r.1 ∧ (0 < r.2.serials.length → Has ar_0) ∧ (0 < r.2.leases.length → Has ar_1) ∧ H' = [Cells b0 76 [.int .i64 r.2.ppm, .int .i64 r.2.now, .int .i64 r.2.greatest, .slice ar_0 r.2.serials.length cr_0, .slice ar_1 r.2.leases.length cr_1], OwnL eN ar_0 3 1 cr_0 r.2.serials, OwnL S_lease_held.enc ar_1 122 2 cr_1 r.2.leases]) := by
 obtain ⟨hp0_0, hp0_1⟩ := hX
 refine Fn.enter Try.func20 Try.call20 rfl fun F => ?_
 unfold lease_Holder_Ask at hm
 conv => whnf
 refine eq_ptr_nil rfl ?_
 conv => whnf
 refine cond_go rfl ?_
 conv => whnf
 refine cond_F ?_
 conv => whnf
 refine nil_check ?_
 conv => whnf
 refine field_addr rfl ?_
 conv => whnf
 refine RStep.of (load1_s r0 rfl rfl ?_)
 conv => whnf
 refine cb hm fun x14 q14 hm => cg0 (lease_reading_ok q14 :) ?_
 conv => whnf
 refine nil_check ?_
 conv => whnf
 refine field_addr rfl ?_
 conv => whnf
 refine store_rule r0 rfl ?_
 conv => whnf
 refine ⟨rfl, rfl, (Nat.le_of_ble_eq_true rfl), ?_⟩
 conv => whnf
 refine nil_check ?_
 conv => whnf
 refine field_addr rfl ?_
 conv => whnf
 refine RStep.of (load1_s r0 rfl rfl ?_)
 obtain ⟨h21, hm⟩ := chkb hm
 conv => whnf
 refine int_in h21 ?_
 conv => whnf
 refine nil_check ?_
 conv => whnf
 refine field_addr rfl ?_
 conv => whnf
 refine RStep.of (load1_s r0 rfl rfl ?_)
 conv => whnf
 refine cs rfl rfl hm (fun w27 hm => ?_) fun w27 hm => ?_
 conv => whnf
 exact eE hm
 conv => whnf
 refine nil_check ?_
 conv => whnf
 refine field_addr rfl ?_
 conv => whnf
 refine store_rule r0 rfl ?_
 conv => whnf
 refine ⟨rfl, rfl, (Nat.le_of_ble_eq_true rfl), ?_⟩
 conv => whnf
 refine nil_check ?_
 conv => whnf
 refine field_addr rfl ?_
 conv => whnf
 refine RStep.of (load1_s r0 rfl rfl ?_)
 conv => whnf
 refine bsO (len := 1) (enc := eN) (l := [(x14 + 1)]) (cl := [.int .i64 (x14 + 1)]) elT56 rfl rfl (fun _ _ => rfl) rfl rfl rfl ?_ fun b38 => ?_
 · conv => whnf
   refine cond_T ?_
   conv => whnf
   first | done | rfl
 obtain ⟨h39, hm⟩ := chkb hm
 conv => whnf
 refine apE rfl r2 elT56 (src_own' rfl r0 rfl (fun _ => rfl) (fun _ => rfl)) h39 ?_
 intro a39 c39 o39
 conv => whnf
 refine nil_check ?_
 conv => whnf
 refine field_addr rfl ?_
 conv => whnf
 refine store_rule r2 rfl ?_
 conv => whnf
 refine ⟨rfl, rfl, (Nat.le_of_ble_eq_true rfl), ?_⟩
 conv => whnf
 refine nil_check ?_
 conv => whnf
 refine field_addr rfl ?_
 conv => whnf
 refine RStep.of (load1_s r0 rfl rfl ?_)
 conv => whnf
 refine RStep.of (len_slice rfl ?_)
 conv => whnf
 refine CStep.ownLe r1 fun hc2 => ?_
 conv => whnf
 refine CStep.ownLe r2 fun hc3 => ?_
 conv => whnf
 refine CStep.ownLe r3 fun hc4 => ?_
 conv => whnf
 refine cs rfl rfl hm (fun w47 hm => ?_) fun w47 hm => ?_
 conv => whnf
 refine nil_check ?_
 conv => whnf
 refine field_addr rfl ?_
 conv => whnf
 refine RStep.of (load1_s r0 rfl rfl ?_)
 obtain ⟨h53, hm⟩ := chkb hm
 conv => whnf
 refine RStep.ofN (sl_part (l := (h.serials ++ [(x14 + 1)])) (lo := (some 1)) (hi := none) rfl rfl rfl hc2 h53 ?_)
 conv => whnf
 refine nil_check ?_
 conv => whnf
 refine field_addr rfl ?_
 conv => whnf
 refine store_rule r0 rfl ?_
 conv => whnf
 refine ⟨rfl, rfl, (Nat.le_of_ble_eq_true rfl), ?_⟩
 cases hm
 conv => whnf
 exact eE hm

noncomputable def gate_Gate_Applied (g : S_gate_Gate) : Option (Int) :=
  some g.applied
set_option maxHeartbeats 8000000 in
theorem gate_Gate_Applied_ok {g : S_gate_Gate} {b0 : Nat} {ap0_0 : Option Addr} {cp0_0 : Nat} {mp0_1 : Nat} {K : Hp} {r : Int}
    (hm : gate_Gate_Applied g = some r) (hp0_0 : (0 < g.kept.length → Has ap0_0)) :
    Fn Try.prog 21 [.pointer (some ⟨b0, 0, none⟩)] K [Cells b0 70 [.int .i64 g.window, .int .i64 g.applied, .int .i64 g.floor, .slice ap0_0 g.kept.length cp0_0, .map (some mp0_1)], OwnL S_purge_Purge.enc ap0_0 120 3 cp0_0 g.kept, MapE intK (fun x => .agg (S_purge_Purge.enc x).toArray) mp0_1 g.aside] (fun v K' H' => v = .int .i64 r ∧ H' = [Cells b0 70 [.int .i64 g.window, .int .i64 g.applied, .int .i64 g.floor, .slice ap0_0 g.kept.length cp0_0, .map (some mp0_1)], OwnL S_purge_Purge.enc ap0_0 120 3 cp0_0 g.kept, MapE intK (fun x => .agg (S_purge_Purge.enc x).toArray) mp0_1 g.aside]) := by
 refine Fn.enter Try.func21 Try.call21 rfl fun F => ?_
 unfold gate_Gate_Applied at hm
 conv => whnf
 refine eq_ptr_nil rfl ?_
 conv => whnf
 refine cond_go rfl ?_
 conv => whnf
 refine cond_F ?_
 conv => whnf
 refine nil_check ?_
 conv => whnf
 refine field_addr rfl ?_
 conv => whnf
 refine RStep.of (load1_s r0 rfl rfl ?_)
 conv => whnf
 exact eE hm

noncomputable def clock_up (a : Int) (b : Int) : Option (Int) :=
  (chk (InI (a + b))).bind fun _ =>
  (chk (InI ((a + b) - 1))).bind fun _ =>
  (chk (b ≠ 0 ∧ InI (Int.tdiv ((a + b) - 1) b))).bind fun _ =>
  some (Int.tdiv ((a + b) - 1) b)
set_option maxHeartbeats 8000000 in
theorem clock_up_ok {a : Int} {b : Int} {K : Hp} {r : Int}
    (hm : clock_up a b = some r)  :
    Fn Try.prog 52 [.int .i64 a, .int .i64 b] K [] (fun v K' H' => v = .int .i64 r ∧ H' = []) := by
 refine Fn.enter Try.func52 Try.call52 rfl fun F => ?_
 unfold clock_up at hm
 obtain ⟨h7, hm⟩ := chkb hm
 conv => whnf
 refine int_in h7 ?_
 obtain ⟨h8, hm⟩ := chkb hm
 conv => whnf
 refine int_in h8 ?_
 obtain ⟨h10, hm⟩ := chkb hm
 conv => whnf
 refine quo_t h10.1 h10.2 ?_
 conv => whnf
 exact eE hm

noncomputable def clock_Wait (l : Int) (ppm : Int) : Option (Int) :=
  (clock_limited l 1099511627776).bind fun x6 =>
  if decide (x6 = 0) then
  some 0
  else
  (chk (InI (x6 - 1))).bind fun _ =>
  (clock_limited ppm 100000).bind fun x12 =>
  (chk (InI (1000000 + x12))).bind fun _ =>
  (chk (InI ((x6 - 1) * (1000000 + x12)))).bind fun _ =>
  (clock_up ((x6 - 1) * (1000000 + x12)) 1000000).bind fun x15 =>
  (chk (InI (x15 + 1))).bind fun _ =>
  some (x15 + 1)
set_option maxHeartbeats 8000000 in
theorem clock_Wait_ok {l : Int} {ppm : Int} {K : Hp} {r : Int}
    (hm : clock_Wait l ppm = some r)  :
    Fn Try.prog 51 [.int .i64 l, .int .i64 ppm] K [] (fun v K' H' => v = .int .i64 r ∧ H' = []) := by
 refine Fn.enter Try.func51 Try.call51 rfl fun F => ?_
 unfold clock_Wait at hm
 conv => whnf
 refine cb hm fun x6 q6 hm => cg0 (clock_limited_ok q6 :) ?_
 conv => whnf
 refine eq_int ?_
 conv => whnf
 refine cs rfl rfl hm (fun w8 hm => ?_) fun w8 hm => ?_
 conv => whnf
 exact eE hm
 obtain ⟨h10, hm⟩ := chkb hm
 conv => whnf
 refine int_in h10 ?_
 conv => whnf
 refine cb hm fun x12 q12 hm => cg0 (clock_limited_ok q12 :) ?_
 obtain ⟨h13, hm⟩ := chkb hm
 conv => whnf
 refine int_in h13 ?_
 obtain ⟨h14, hm⟩ := chkb hm
 conv => whnf
 refine int_in h14 ?_
 conv => whnf
 refine cb hm fun x15 q15 hm => cg0 (clock_up_ok q15 :) ?_
 obtain ⟨h16, hm⟩ := chkb hm
 conv => whnf
 refine int_in h16 ?_
 conv => whnf
 exact eE hm

noncomputable def relay_Relay_fresh (r' : S_relay_Relay) : Option (Bool) :=
  (chk (InI (r'.now - r'.first))).bind fun _ =>
  (clock_Wait r'.c.Length r'.c.Ppm).bind fun x22 =>
  some (decide ((r'.now - r'.first) < x22))
set_option maxHeartbeats 8000000 in
theorem relay_Relay_fresh_ok {r' : S_relay_Relay} {b0 : Nat} {ap0_0 : Option Addr} {cp0_0 : Nat} {bp0_1 : Nat} {ap0_2 : Option Addr} {cp0_2 : Nat} {mp0_3 : Nat} {bp0_4 : Nat} {ap0_5 : Option Addr} {cp0_5 : Nat} {ap0_6 : Option Addr} {cp0_6 : Nat} {bp0_7 : Nat} {ap0_8 : Option Addr} {cp0_8 : Nat} {ap0_9 : Option Addr} {cp0_9 : Nat} {K : Hp} {r : Bool}
    (hm : relay_Relay_fresh r' = some r) (hX : RdC eS K ap0_0 cp0_0 1 r'.c.Children ∧ (0 < r'.gate.kept.length → Has ap0_2) ∧ (0 < r'.holder.serials.length → Has ap0_5) ∧ (0 < r'.holder.leases.length → Has ap0_6) ∧ (0 < r'.issuer.list.length → Has ap0_8) ∧ (0 < r'.acks.length → Has ap0_9)) :
    Fn Try.prog 48 [.pointer (some ⟨b0, 0, none⟩)] K [Cells b0 58 [str r'.c.Name, str r'.c.Parent, .slice ap0_0 r'.c.Children.length cp0_0, .int .i64 r'.c.Length, .int .i64 r'.c.Ppm, .int .i64 r'.c.Window, .pointer (some ⟨bp0_1, 0, none⟩), .pointer (some ⟨bp0_4, 0, none⟩), .pointer (some ⟨bp0_7, 0, none⟩), .slice ap0_9 r'.acks.length cp0_9, .int .i64 r'.now, .int .i64 r'.first, .int .i64 r'.asked, .int .i64 r'.sent], Cells bp0_1 70 [.int .i64 r'.gate.window, .int .i64 r'.gate.applied, .int .i64 r'.gate.floor, .slice ap0_2 r'.gate.kept.length cp0_2, .map (some mp0_3)], OwnL S_purge_Purge.enc ap0_2 120 3 cp0_2 r'.gate.kept, MapE intK (fun x => .agg (S_purge_Purge.enc x).toArray) mp0_3 r'.gate.aside, Cells bp0_4 76 [.int .i64 r'.holder.ppm, .int .i64 r'.holder.now, .int .i64 r'.holder.greatest, .slice ap0_5 r'.holder.serials.length cp0_5, .slice ap0_6 r'.holder.leases.length cp0_6], OwnL eN ap0_5 3 1 cp0_5 r'.holder.serials, OwnL S_lease_held.enc ap0_6 122 2 cp0_6 r'.holder.leases, Cells bp0_7 73 [.int .i64 r'.issuer.length, .int .i64 r'.issuer.ppm, .int .i64 r'.issuer.now, .slice ap0_8 r'.issuer.list.length cp0_8], OwnL S_lease_given.enc ap0_8 104 3 cp0_8 r'.issuer.list, OwnL eN ap0_9 3 1 cp0_9 r'.acks] (fun v K' H' => v = .bool r ∧ H' = [Cells b0 58 [str r'.c.Name, str r'.c.Parent, .slice ap0_0 r'.c.Children.length cp0_0, .int .i64 r'.c.Length, .int .i64 r'.c.Ppm, .int .i64 r'.c.Window, .pointer (some ⟨bp0_1, 0, none⟩), .pointer (some ⟨bp0_4, 0, none⟩), .pointer (some ⟨bp0_7, 0, none⟩), .slice ap0_9 r'.acks.length cp0_9, .int .i64 r'.now, .int .i64 r'.first, .int .i64 r'.asked, .int .i64 r'.sent], Cells bp0_1 70 [.int .i64 r'.gate.window, .int .i64 r'.gate.applied, .int .i64 r'.gate.floor, .slice ap0_2 r'.gate.kept.length cp0_2, .map (some mp0_3)], OwnL S_purge_Purge.enc ap0_2 120 3 cp0_2 r'.gate.kept, MapE intK (fun x => .agg (S_purge_Purge.enc x).toArray) mp0_3 r'.gate.aside, Cells bp0_4 76 [.int .i64 r'.holder.ppm, .int .i64 r'.holder.now, .int .i64 r'.holder.greatest, .slice ap0_5 r'.holder.serials.length cp0_5, .slice ap0_6 r'.holder.leases.length cp0_6], OwnL eN ap0_5 3 1 cp0_5 r'.holder.serials, OwnL S_lease_held.enc ap0_6 122 2 cp0_6 r'.holder.leases, Cells bp0_7 73 [.int .i64 r'.issuer.length, .int .i64 r'.issuer.ppm, .int .i64 r'.issuer.now, .slice ap0_8 r'.issuer.list.length cp0_8], OwnL S_lease_given.enc ap0_8 104 3 cp0_8 r'.issuer.list, OwnL eN ap0_9 3 1 cp0_9 r'.acks]) := by
 obtain ⟨hp0_0, hp0_2, hp0_5, hp0_6, hp0_8, hp0_9⟩ := hX
 refine Fn.enter Try.func48 Try.call48 rfl fun F => ?_
 unfold relay_Relay_fresh at hm
 conv => whnf
 refine draw_go ⟨⟨[], false⟩, _, [(_, _)], []⟩ (by kernel_rfl) ⟨Hp.Le.refl _, (ConvH.of (.cons r0 .nil)), ci0⟩ ?_
 conv => whnf
 refine nil_check ?_
 conv => whnf
 refine field_addr rfl ?_
 conv => whnf
 refine load1_l m0 rfl rfl ?_
 conv => whnf
 refine nil_check ?_
 conv => whnf
 refine field_addr rfl ?_
 conv => whnf
 refine load1_l m0 rfl rfl ?_
 obtain ⟨h11, hm⟩ := chkb hm
 conv => whnf
 refine int_in h11 ?_
 conv => whnf
 refine nil_check ?_
 conv => whnf
 refine field_addr rfl ?_
 conv => whnf
 refine field_addr rfl ?_
 conv => whnf
 refine load1_l m0 rfl rfl ?_
 conv => whnf
 refine nil_check ?_
 conv => whnf
 refine field_addr rfl ?_
 conv => whnf
 refine field_addr rfl ?_
 conv => whnf
 refine load1_l m0 rfl rfl ?_
 conv => whnf
 refine cb hm fun x22 q22 hm => cg0 (clock_Wait_ok q22 :) ?_
 conv => whnf
 refine qk (ConvH.of (.cons r0 .nil)) ?_
 conv => whnf
 exact eE hm

noncomputable def lease_Issuer_Free_L0 (child : Str) (number : Int) (x19 : Int) (i : S_lease_Issuer) : List S_lease_given → Nat → Option (Fl (Bool × S_lease_Issuer) (Unit))
  | [], _ => some (Fl.go ())
  | e0 :: xs0, i0 =>
    if ((decide (e0.child = child) && decide (e0.number < number)) && decide (e0.untilZ > x19)) then
    some (Fl.ret (false, (⟨i.length, i.ppm, x19, i.list⟩ : S_lease_Issuer)))
    else
    lease_Issuer_Free_L0 child number x19 i xs0 (i0 + 1)
noncomputable def lease_Issuer_Free (i : S_lease_Issuer) (child : Str) (number : Int) (now : Int) : Option (Bool × S_lease_Issuer) :=
  (lease_reading now i.now).bind fun x19 =>
  (chk (i.list.length ≤ szMax)).bind fun _ =>
  (lease_Issuer_Free_L0 child number x19 i i.list 0).bind fun s0 => s0.el some fun t0 =>
  some (true, (⟨i.length, i.ppm, x19, i.list⟩ : S_lease_Issuer))
set_option maxHeartbeats 8000000 in
theorem lease_Issuer_Free_ok {i : S_lease_Issuer} {child : Str} {number : Int} {now : Int} {b0 : Nat} {ap0_0 : Option Addr} {cp0_0 : Nat} {K : Hp} {r : Bool × S_lease_Issuer}
    (hm : lease_Issuer_Free i child number now = some r) (hp0_0 : (0 < i.list.length → Has ap0_0)) :
    Fn Try.prog 49 [.pointer (some ⟨b0, 0, none⟩), str child, .int .i64 number, .int .i64 now] K [Cells b0 73 [.int .i64 i.length, .int .i64 i.ppm, .int .i64 i.now, .slice ap0_0 i.list.length cp0_0], OwnL S_lease_given.enc ap0_0 104 3 cp0_0 i.list] (fun v K' H' => ∃ ar_0 : Option Addr, ∃ cr_0 : Nat, v = .bool r.1 ∧ (0 < r.2.list.length → Has ar_0) ∧ H' = [Cells b0 73 [.int .i64 r.2.length, .int .i64 r.2.ppm, .int .i64 r.2.now, .slice ar_0 r.2.list.length cr_0], OwnL S_lease_given.enc ar_0 104 3 cr_0 r.2.list]) := by
 refine Fn.enter Try.func49 Try.call49 rfl fun F => ?_
 unfold lease_Issuer_Free at hm
 conv => whnf
 refine eq_ptr_nil rfl ?_
 conv => whnf
 refine cond_go rfl ?_
 conv => whnf
 refine cond_F ?_
 conv => whnf
 refine nil_check ?_
 conv => whnf
 refine field_addr rfl ?_
 conv => whnf
 refine RStep.of (load1_s r0 rfl rfl ?_)
 conv => whnf
 refine cb hm fun x19 q19 hm => cg0 (lease_reading_ok q19 :) ?_
 conv => whnf
 refine nil_check ?_
 conv => whnf
 refine field_addr rfl ?_
 conv => whnf
 refine store_rule r0 rfl ?_
 conv => whnf
 refine ⟨rfl, rfl, (Nat.le_of_ble_eq_true rfl), ?_⟩
 conv => whnf
 refine nil_check ?_
 conv => whnf
 refine field_addr rfl ?_
 conv => whnf
 refine RStep.of (load1_s r0 rfl rfl ?_)
 conv => whnf
 refine RStep.of (len_slice rfl ?_)
 obtain ⟨hk0, hm⟩ := chkb hm
 obtain ⟨s0, hl0, hm⟩ := bnd hm
 conv => whnf
 refine lD (σ := (Unit)) [8, 10, 27, 28, 29, 30, 31, 32, 33, 34, 35, 36, 37, 38, 39, 40, 41, 42, 43, 44, 45, 46, 47, 48, 49, 50] [0, 1, 2] (fun i0 => [(27, .int .i64 (i0 : Int))]) (fun _ => []) (fun _ => []) (fun _ => True) (fun i0 _ => lease_Issuer_Free_L0 child number x19 i (i.list.drop i0) i0 = some s0) (fun t0 => s0 = Fl.go t0) (fun i0 => i.list.length - i0) 0 () hl0 (And.intro qe (And.intro ?_ ?_))
 clear hl0
 rintro i0 _ _ hl0 j0
 conv at hl0 => whnf
 conv => whnf
 refine cond_go rfl ?_
 conv => whnf
 refine cond_s (fun w0 => ?_) (fun w0 => ?_)
 obtain ⟨e0, hx0, hd0⟩ := ltx w0
 rw [hd0, lease_Issuer_Free_L0.eq_2] at hl0
 conv => whnf
 refine block_go rfl ?_
 conv => whnf
 refine RStep.ofN (index_addr rfl rfl (hasO hp0_0 hx0) (nn _) (lt_ofNE rfl hx0) ?_)
 conv => whnf
 refine RStep.of (ldn_own (i := i0) r1 rfl hx0 rfl rfl ?_)
 conv => whnf
 refine alloc_rule rfl ?_
 intro b10
 conv => whnf
 refine store_rule r0 rfl ?_
 conv => whnf
 refine ⟨rfl, rfl, (Nat.le_of_ble_eq_true rfl), ?_⟩
 conv => whnf
 refine draw_go ⟨⟨[], false⟩, _, [(_, _), (_, _)], []⟩ (by kernel_rfl) ⟨Hp.Le.refl _, (ConvH.of (.cons r0 (.cons r0 .nil))), ci0⟩ ?_
 conv => whnf
 refine field_addr rfl ?_
 conv => whnf
 refine load1_l m0 rfl rfl ?_
 conv => whnf
 refine eq_str ?_
 conv => whnf
 refine cond_s (fun g35_7 => ?_) (fun g35_7 => ?_)
 conv => whnf
 refine field_addr rfl ?_
 conv => whnf
 refine cond_t g35_7 ?_
 conv => whnf
 refine load1_l m0 rfl rfl ?_
 conv => whnf
 refine cond_t g35_7 ?_
 conv => whnf
 refine cond_t g35_7 ?_
 conv => whnf
 refine cond_t g35_7 ?_
 conv => whnf
 refine cond_s (fun g41_7 => ?_) (fun g41_7 => ?_)
 conv => whnf
 refine field_addr rfl ?_
 conv => whnf
 refine cond_t g41_7 ?_
 conv => whnf
 refine load1_l m0 rfl rfl ?_
 conv => whnf
 refine cond_t g41_7 ?_
 conv => whnf
 refine cond_t g41_7 ?_
 conv => whnf
 refine nil_check ?_
 conv => whnf
 refine cond_t g41_7 ?_
 conv => whnf
 refine field_addr rfl ?_
 conv => whnf
 refine cond_t g41_7 ?_
 conv => whnf
 refine load1_l m1 rfl rfl ?_
 conv => whnf
 refine cond_t g41_7 ?_
 conv => whnf
 refine cond_t g41_7 ?_
 conv => whnf
 refine cond_go rfl ?_
 conv => whnf
 refine cond_s (fun w49 => ?_) (fun w49 => ?_)
 replace hl0 := ift (and_t (and_t g35_7 g41_7) w49) hl0
 conv => whnf
 exact eE (er hl0 hm)
 replace hl0 := iff_ (and_g (and_t g35_7 g41_7) w49) hl0
 conv => whnf
 refine int_in (cntz hx0 hk0) ?_
 conv => whnf
 exact eR hl0 (_, ())
 conv => whnf
 refine cond_f g41_7 ?_
 conv => whnf
 refine cond_f g41_7 ?_
 conv => whnf
 refine cond_f g41_7 ?_
 conv => whnf
 refine cond_f g41_7 ?_
 conv => whnf
 refine cond_f g41_7 ?_
 conv => whnf
 refine cond_f g41_7 ?_
 conv => whnf
 refine cond_f g41_7 ?_
 conv => whnf
 refine cond_go rfl ?_
 conv => whnf
 refine cond_F ?_
 replace hl0 := iff_ (and_f (and_g g35_7 g41_7)) hl0
 conv => whnf
 refine int_in (cntz hx0 hk0) ?_
 conv => whnf
 exact eR hl0 (_, ())
 conv => whnf
 refine cond_f g35_7 ?_
 conv => whnf
 refine cond_f g35_7 ?_
 conv => whnf
 refine cond_f g35_7 ?_
 conv => whnf
 refine cond_f g35_7 ?_
 conv => whnf
 refine cond_F ?_
 conv => whnf
 refine cond_F ?_
 conv => whnf
 refine cond_F ?_
 conv => whnf
 refine cond_F ?_
 conv => whnf
 refine cond_F ?_
 conv => whnf
 refine cond_F ?_
 conv => whnf
 refine cond_F ?_
 conv => whnf
 refine cond_F ?_
 conv => whnf
 refine cond_go rfl ?_
 conv => whnf
 refine cond_F ?_
 replace hl0 := iff_ (and_f (and_f g35_7)) hl0
 conv => whnf
 refine int_in (cntz hx0 hk0) ?_
 conv => whnf
 exact eR hl0 (_, ())
 rw [lty w0, lease_Issuer_Free_L0.eq_1] at hl0
 conv => whnf
 refine cond_T ?_
 conv => whnf
 exact eM hl0 _
 rintro t0 _ rfl j0
 replace hm := elg hm
 conv => whnf
 exact eE hm

noncomputable def relay_Relay_free_L0 (child : Str) (r' : S_relay_Relay) : Nat → Int → Int → S_lease_Issuer → Option (Int × Int × S_lease_Issuer)
  | 0, _, _, _ => none
  | xs0 + 1, y0_0, y0_1, y0_2 =>
    if decide (y0_0 < y0_1) then
    (chk (InI (y0_1 - y0_0))).bind fun _ =>
    (chk (InI ((y0_1 - y0_0) + 1))).bind fun _ =>
    (chk ((2 : Int) ≠ 0 ∧ InI (Int.tdiv ((y0_1 - y0_0) + 1) 2))).bind fun _ =>
    (chk (InI (y0_0 + (Int.tdiv ((y0_1 - y0_0) + 1) 2)))).bind fun _ =>
    (lease_Issuer_Free y0_2 child (y0_0 + (Int.tdiv ((y0_1 - y0_0) + 1) 2)) r'.now).bind fun x45 =>
    if x45.1 then
    relay_Relay_free_L0 child r' xs0 (y0_0 + (Int.tdiv ((y0_1 - y0_0) + 1) 2)) y0_1 x45.2
    else
    (chk (InI ((y0_0 + (Int.tdiv ((y0_1 - y0_0) + 1) 2)) - 1))).bind fun _ =>
    relay_Relay_free_L0 child r' xs0 y0_0 ((y0_0 + (Int.tdiv ((y0_1 - y0_0) + 1) 2)) - 1) x45.2
    else
    some (y0_0, y0_1, y0_2)
noncomputable def relay_Relay_free (n : Nat) (r' : S_relay_Relay) (child : Str) (acked : Int) (n' : Int) : Option (Int × S_relay_Relay) :=
  (if decide (acked ≥ n') then some true else (relay_Relay_fresh r').bind fun x17 =>
  some x17).bind fun t901 =>
  if t901 then
  some ((min acked n'), r')
  else
  (relay_Relay_free_L0 child r' n (max acked 0) n' r'.issuer).bind fun t0 =>
  some (t0.1, (⟨r'.c, r'.gate, r'.holder, t0.2.2, r'.acks, r'.now, r'.first, r'.asked, r'.sent⟩ : S_relay_Relay))
set_option maxHeartbeats 8000000 in
theorem relay_Relay_free_ok {n : Nat} {r' : S_relay_Relay} {child : Str} {acked : Int} {n' : Int} {b0 : Nat} {ap0_0 : Option Addr} {cp0_0 : Nat} {bp0_1 : Nat} {ap0_2 : Option Addr} {cp0_2 : Nat} {mp0_3 : Nat} {bp0_4 : Nat} {ap0_5 : Option Addr} {cp0_5 : Nat} {ap0_6 : Option Addr} {cp0_6 : Nat} {bp0_7 : Nat} {ap0_8 : Option Addr} {cp0_8 : Nat} {ap0_9 : Option Addr} {cp0_9 : Nat} {K : Hp} {r : Int × S_relay_Relay}
    (hm : relay_Relay_free n r' child acked n' = some r) (hX : RdC eS K ap0_0 cp0_0 1 r'.c.Children ∧ (0 < r'.gate.kept.length → Has ap0_2) ∧ (0 < r'.holder.serials.length → Has ap0_5) ∧ (0 < r'.holder.leases.length → Has ap0_6) ∧ (0 < r'.issuer.list.length → Has ap0_8) ∧ (0 < r'.acks.length → Has ap0_9)) :
    Fn Try.prog 41 [.pointer (some ⟨b0, 0, none⟩), str child, .int .i64 acked, .int .i64 n'] K [Cells b0 58 [str r'.c.Name, str r'.c.Parent, .slice ap0_0 r'.c.Children.length cp0_0, .int .i64 r'.c.Length, .int .i64 r'.c.Ppm, .int .i64 r'.c.Window, .pointer (some ⟨bp0_1, 0, none⟩), .pointer (some ⟨bp0_4, 0, none⟩), .pointer (some ⟨bp0_7, 0, none⟩), .slice ap0_9 r'.acks.length cp0_9, .int .i64 r'.now, .int .i64 r'.first, .int .i64 r'.asked, .int .i64 r'.sent], Cells bp0_1 70 [.int .i64 r'.gate.window, .int .i64 r'.gate.applied, .int .i64 r'.gate.floor, .slice ap0_2 r'.gate.kept.length cp0_2, .map (some mp0_3)], OwnL S_purge_Purge.enc ap0_2 120 3 cp0_2 r'.gate.kept, MapE intK (fun x => .agg (S_purge_Purge.enc x).toArray) mp0_3 r'.gate.aside, Cells bp0_4 76 [.int .i64 r'.holder.ppm, .int .i64 r'.holder.now, .int .i64 r'.holder.greatest, .slice ap0_5 r'.holder.serials.length cp0_5, .slice ap0_6 r'.holder.leases.length cp0_6], OwnL eN ap0_5 3 1 cp0_5 r'.holder.serials, OwnL S_lease_held.enc ap0_6 122 2 cp0_6 r'.holder.leases, Cells bp0_7 73 [.int .i64 r'.issuer.length, .int .i64 r'.issuer.ppm, .int .i64 r'.issuer.now, .slice ap0_8 r'.issuer.list.length cp0_8], OwnL S_lease_given.enc ap0_8 104 3 cp0_8 r'.issuer.list, OwnL eN ap0_9 3 1 cp0_9 r'.acks] (fun v K' H' => ∃ br_0 : Nat, ∃ ar_1 : Option Addr, ∃ cr_1 : Nat, ∃ mr_2 : Nat, ∃ br_3 : Nat, ∃ ar_4 : Option Addr, ∃ cr_4 : Nat, ∃ ar_5 : Option Addr, ∃ cr_5 : Nat, ∃ br_6 : Nat, ∃ ar_7 : Option Addr, ∃ cr_7 : Nat, ∃ ar_8 : Option Addr, ∃ cr_8 : Nat, v = .int .i64 r.1 ∧ (0 < r.2.gate.kept.length → Has ar_1) ∧ (0 < r.2.holder.serials.length → Has ar_4) ∧ (0 < r.2.holder.leases.length → Has ar_5) ∧ (0 < r.2.issuer.list.length → Has ar_7) ∧ (0 < r.2.acks.length → Has ar_8) ∧ H' = [Cells b0 58 [str r'.c.Name, str r'.c.Parent, .slice ap0_0 r'.c.Children.length cp0_0, .int .i64 r'.c.Length, .int .i64 r'.c.Ppm, .int .i64 r'.c.Window, .pointer (some ⟨br_0, 0, none⟩), .pointer (some ⟨br_3, 0, none⟩), .pointer (some ⟨br_6, 0, none⟩), .slice ar_8 r.2.acks.length cr_8, .int .i64 r.2.now, .int .i64 r.2.first, .int .i64 r.2.asked, .int .i64 r.2.sent], Cells br_0 70 [.int .i64 r.2.gate.window, .int .i64 r.2.gate.applied, .int .i64 r.2.gate.floor, .slice ar_1 r.2.gate.kept.length cr_1, .map (some mr_2)], OwnL S_purge_Purge.enc ar_1 120 3 cr_1 r.2.gate.kept, MapE intK (fun x => .agg (S_purge_Purge.enc x).toArray) mr_2 r.2.gate.aside, Cells br_3 76 [.int .i64 r.2.holder.ppm, .int .i64 r.2.holder.now, .int .i64 r.2.holder.greatest, .slice ar_4 r.2.holder.serials.length cr_4, .slice ar_5 r.2.holder.leases.length cr_5], OwnL eN ar_4 3 1 cr_4 r.2.holder.serials, OwnL S_lease_held.enc ar_5 122 2 cr_5 r.2.holder.leases, Cells br_6 73 [.int .i64 r.2.issuer.length, .int .i64 r.2.issuer.ppm, .int .i64 r.2.issuer.now, .slice ar_7 r.2.issuer.list.length cr_7], OwnL S_lease_given.enc ar_7 104 3 cr_7 r.2.issuer.list, OwnL eN ar_8 3 1 cr_8 r.2.acks]) := by
 obtain ⟨hp0_0, hp0_2, hp0_5, hp0_6, hp0_8, hp0_9⟩ := hX
 refine Fn.enter Try.func41 Try.call41 rfl fun F => ?_
 unfold relay_Relay_free at hm
 obtain ⟨s901, hl901, hm⟩ := bnd hm
 conv => whnf
 refine jR (σ := Bool) [12, 13, 14, 15, 16, 17, 18] (fun t901 => [(18, .bool t901)]) (fun t901 => t901 = s901) ?_ ?_
 replace hl901 := bsm hl901
 refine guard_go rfl ?_
 obtain ⟨x18, e18, hl901⟩ := bnd hl901
 conv => whnf
 refine cS e18 (fun g15_1 e18 => ?_) fun g15_1 e18 => ?_
 conv => whnf
 refine cond_t g15_1 ?_
 conv => whnf
 refine cond_t g15_1 ?_
 conv => whnf
 exact eMq hl901 _ ⟨bq (si e18), trivial⟩
 conv => whnf
 refine cond_f g15_1 ?_
 conv => whnf
 refine cb e18 fun x17 q17 e18 => cgx (relay_Relay_fresh_ok q17 :) ?_
 conv => whnf
 refine cond_f g15_1 ?_
 conv => whnf
 exact eMq hl901 _ ⟨bq (si e18), trivial⟩
 rintro t901 rfl j901
 conv => whnf
 refine cs rfl rfl hm (fun w18 hm => ?_) fun w18 hm => ?_
 conv => whnf
 refine RStep.of (min_int ?_)
 conv => whnf
 exact eE hm
 conv => whnf
 refine RStep.of (max_int ?_)
 obtain ⟨s0, hl0, hm⟩ := bnd hm
 conv => whnf
 refine lD (σ := (Int × Int × S_lease_Issuer) × Option Addr × Nat) [9, 10, 11, 25, 26, 27, 28, 29, 30, 31, 32, 33, 34, 35, 36, 37, 38, 39, 40, 41, 42, 43, 44, 45, 46, 47, 48] [0, 1, 2, 3, 4, 5, 6, 9, 10] (fun _ => []) (fun (t0, at0_2_0, ct0_2_0) => [(9, .int .i64 t0.1), (10, .int .i64 t0.2.1)]) (fun (t0, at0_2_0, ct0_2_0) => [Cells bp0_7 73 [.int .i64 t0.2.2.length, .int .i64 t0.2.2.ppm, .int .i64 t0.2.2.now, .slice at0_2_0 t0.2.2.list.length ct0_2_0], OwnL S_lease_given.enc at0_2_0 104 3 ct0_2_0 t0.2.2.list]) (fun (t0, at0_2_0, ct0_2_0) => (0 < t0.2.2.list.length → Has at0_2_0) ∧ True) (fun i0 (t0, at0_2_0, ct0_2_0) => relay_Relay_free_L0 child r' i0 t0.1 t0.2.1 t0.2.2 = some s0) (fun (t0, at0_2_0, ct0_2_0) => t0 = s0) (fun i0 => i0) n ((_, _, _), _, _) hl0 (And.intro qe (And.intro ?_ ?_))
 clear hl0
 rintro i0 ⟨⟨y0_0, y0_1, y0_2⟩, ay0_2_0, cy0_2_0⟩ ⟨hy0_2_0, _⟩ hl0 j0
 dsimp only at hl0 ⊢
 cases i0 with
 | zero => rw [relay_Relay_free_L0.eq_1] at hl0; cases hl0
 | succ i0 =>
  rw [relay_Relay_free_L0.eq_2] at hl0
  conv => whnf
  refine cs rfl rfl hl0 (fun w27 hl0 => ?_) fun w27 hl0 => ?_
  conv => whnf
  refine block_go rfl ?_
  obtain ⟨h31, hl0⟩ := chkb hl0
  conv => whnf
  refine int_in h31 ?_
  obtain ⟨h32, hl0⟩ := chkb hl0
  conv => whnf
  refine int_in h32 ?_
  obtain ⟨h33, hl0⟩ := chkb hl0
  conv => whnf
  refine quo_t h33.1 h33.2 ?_
  obtain ⟨h34, hl0⟩ := chkb hl0
  conv => whnf
  refine int_in h34 ?_
  conv => whnf
  refine draw_go ⟨⟨[], false⟩, _, [(_, _)], []⟩ (by kernel_rfl) ⟨Hp.Le.refl _, (ConvH.of (.cons r2 .nil)), ci0⟩ ?_
  conv => whnf
  refine nil_check ?_
  conv => whnf
  refine field_addr rfl ?_
  conv => whnf
  refine load1_l m0 rfl rfl ?_
  conv => whnf
  refine nil_check ?_
  conv => whnf
  refine field_addr rfl ?_
  conv => whnf
  refine load1_l m0 rfl rfl ?_
  conv => whnf
  refine cb hl0 fun x45 q45 hl0 => ckx (lease_Issuer_Free_ok q45 :) ?_
  rintro _ _ _ ⟨a45_0, c45_0, rfl, h45_0, rfl⟩
  conv => whnf
  refine qk (ConvH.of (.cons r2 .nil)) ?_
  conv => whnf
  refine cs rfl rfl hl0 (fun w45 hl0 => ?_) fun w45 hl0 => ?_
  conv => whnf
  exact eR hl0 (_, (_, _, _), _, _)
  obtain ⟨h48, hl0⟩ := chkb hl0
  conv => whnf
  refine int_in h48 ?_
  conv => whnf
  exact eR hl0 (_, (_, _, _), _, _)
  conv => whnf
  refine cond_T ?_
  conv => whnf
  exact eM hl0 (_, _, _)
 rintro ⟨t0, at0_2_0, ct0_2_0⟩ ⟨ht0_2_0, _⟩ rfl j0
 conv => whnf
 exact eE hm

noncomputable def relay_Relay_acknowledged_L0 (r' : S_relay_Relay) (n : Nat) : List Str → Nat → Int → S_relay_Relay → Option (Int × S_relay_Relay)
  | [], _, y0_0, y0_1 => some (y0_0, (⟨r'.c, y0_1.gate, y0_1.holder, y0_1.issuer, y0_1.acks, y0_1.now, y0_1.first, y0_1.asked, y0_1.sent⟩ : S_relay_Relay))
  | e0 :: xs0, i0, y0_0, y0_1 =>
    (ix y0_1.acks (i0 : Int)).bind fun x30 =>
    (relay_Relay_free n (⟨r'.c, y0_1.gate, y0_1.holder, y0_1.issuer, y0_1.acks, y0_1.now, y0_1.first, y0_1.asked, y0_1.sent⟩ : S_relay_Relay) e0 x30 y0_0).bind fun x33 =>
    relay_Relay_acknowledged_L0 r' n xs0 (i0 + 1) (min y0_0 x33.1) (⟨r'.c, x33.2.gate, x33.2.holder, x33.2.issuer, x33.2.acks, x33.2.now, x33.2.first, x33.2.asked, x33.2.sent⟩ : S_relay_Relay)
noncomputable def relay_Relay_acknowledged (n : Nat) (r' : S_relay_Relay) : Option (Int × S_relay_Relay) :=
  (gate_Gate_Applied r'.gate).bind fun x10 =>
  (chk (r'.c.Children.length ≤ szMax)).bind fun _ =>
  (relay_Relay_acknowledged_L0 r' n r'.c.Children 0 x10 r').bind fun t0 =>
  some (t0.1, (⟨r'.c, t0.2.gate, t0.2.holder, t0.2.issuer, t0.2.acks, t0.2.now, t0.2.first, t0.2.asked, t0.2.sent⟩ : S_relay_Relay))
set_option maxHeartbeats 8000000 in
theorem relay_Relay_acknowledged_ok {n : Nat} {r' : S_relay_Relay} {b0 : Nat} {ap0_0 : Option Addr} {cp0_0 : Nat} {bp0_1 : Nat} {ap0_2 : Option Addr} {cp0_2 : Nat} {mp0_3 : Nat} {bp0_4 : Nat} {ap0_5 : Option Addr} {cp0_5 : Nat} {ap0_6 : Option Addr} {cp0_6 : Nat} {bp0_7 : Nat} {ap0_8 : Option Addr} {cp0_8 : Nat} {ap0_9 : Option Addr} {cp0_9 : Nat} {K : Hp} {r : Int × S_relay_Relay}
    (hm : relay_Relay_acknowledged n r' = some r) (hX : RdC eS K ap0_0 cp0_0 1 r'.c.Children ∧ (0 < r'.gate.kept.length → Has ap0_2) ∧ (0 < r'.holder.serials.length → Has ap0_5) ∧ (0 < r'.holder.leases.length → Has ap0_6) ∧ (0 < r'.issuer.list.length → Has ap0_8) ∧ (0 < r'.acks.length → Has ap0_9)) :
    Fn Try.prog 28 [.pointer (some ⟨b0, 0, none⟩)] K [Cells b0 58 [str r'.c.Name, str r'.c.Parent, .slice ap0_0 r'.c.Children.length cp0_0, .int .i64 r'.c.Length, .int .i64 r'.c.Ppm, .int .i64 r'.c.Window, .pointer (some ⟨bp0_1, 0, none⟩), .pointer (some ⟨bp0_4, 0, none⟩), .pointer (some ⟨bp0_7, 0, none⟩), .slice ap0_9 r'.acks.length cp0_9, .int .i64 r'.now, .int .i64 r'.first, .int .i64 r'.asked, .int .i64 r'.sent], Cells bp0_1 70 [.int .i64 r'.gate.window, .int .i64 r'.gate.applied, .int .i64 r'.gate.floor, .slice ap0_2 r'.gate.kept.length cp0_2, .map (some mp0_3)], OwnL S_purge_Purge.enc ap0_2 120 3 cp0_2 r'.gate.kept, MapE intK (fun x => .agg (S_purge_Purge.enc x).toArray) mp0_3 r'.gate.aside, Cells bp0_4 76 [.int .i64 r'.holder.ppm, .int .i64 r'.holder.now, .int .i64 r'.holder.greatest, .slice ap0_5 r'.holder.serials.length cp0_5, .slice ap0_6 r'.holder.leases.length cp0_6], OwnL eN ap0_5 3 1 cp0_5 r'.holder.serials, OwnL S_lease_held.enc ap0_6 122 2 cp0_6 r'.holder.leases, Cells bp0_7 73 [.int .i64 r'.issuer.length, .int .i64 r'.issuer.ppm, .int .i64 r'.issuer.now, .slice ap0_8 r'.issuer.list.length cp0_8], OwnL S_lease_given.enc ap0_8 104 3 cp0_8 r'.issuer.list, OwnL eN ap0_9 3 1 cp0_9 r'.acks] (fun v K' H' => ∃ br_0 : Nat, ∃ ar_1 : Option Addr, ∃ cr_1 : Nat, ∃ mr_2 : Nat, ∃ br_3 : Nat, ∃ ar_4 : Option Addr, ∃ cr_4 : Nat, ∃ ar_5 : Option Addr, ∃ cr_5 : Nat, ∃ br_6 : Nat, ∃ ar_7 : Option Addr, ∃ cr_7 : Nat, ∃ ar_8 : Option Addr, ∃ cr_8 : Nat, v = .int .i64 r.1 ∧ (0 < r.2.gate.kept.length → Has ar_1) ∧ (0 < r.2.holder.serials.length → Has ar_4) ∧ (0 < r.2.holder.leases.length → Has ar_5) ∧ (0 < r.2.issuer.list.length → Has ar_7) ∧ (0 < r.2.acks.length → Has ar_8) ∧ H' = [Cells b0 58 [str r'.c.Name, str r'.c.Parent, .slice ap0_0 r'.c.Children.length cp0_0, .int .i64 r'.c.Length, .int .i64 r'.c.Ppm, .int .i64 r'.c.Window, .pointer (some ⟨br_0, 0, none⟩), .pointer (some ⟨br_3, 0, none⟩), .pointer (some ⟨br_6, 0, none⟩), .slice ar_8 r.2.acks.length cr_8, .int .i64 r.2.now, .int .i64 r.2.first, .int .i64 r.2.asked, .int .i64 r.2.sent], Cells br_0 70 [.int .i64 r.2.gate.window, .int .i64 r.2.gate.applied, .int .i64 r.2.gate.floor, .slice ar_1 r.2.gate.kept.length cr_1, .map (some mr_2)], OwnL S_purge_Purge.enc ar_1 120 3 cr_1 r.2.gate.kept, MapE intK (fun x => .agg (S_purge_Purge.enc x).toArray) mr_2 r.2.gate.aside, Cells br_3 76 [.int .i64 r.2.holder.ppm, .int .i64 r.2.holder.now, .int .i64 r.2.holder.greatest, .slice ar_4 r.2.holder.serials.length cr_4, .slice ar_5 r.2.holder.leases.length cr_5], OwnL eN ar_4 3 1 cr_4 r.2.holder.serials, OwnL S_lease_held.enc ar_5 122 2 cr_5 r.2.holder.leases, Cells br_6 73 [.int .i64 r.2.issuer.length, .int .i64 r.2.issuer.ppm, .int .i64 r.2.issuer.now, .slice ar_7 r.2.issuer.list.length cr_7], OwnL S_lease_given.enc ar_7 104 3 cr_7 r.2.issuer.list, OwnL eN ar_8 3 1 cr_8 r.2.acks]) := by
 obtain ⟨hp0_0, hp0_2, hp0_5, hp0_6, hp0_8, hp0_9⟩ := hX
 refine Fn.enter Try.func28 Try.call28 rfl fun F => ?_
 unfold relay_Relay_acknowledged at hm
 conv => whnf
 refine nil_check ?_
 conv => whnf
 refine field_addr rfl ?_
 conv => whnf
 refine RStep.of (load1_s r0 rfl rfl ?_)
 conv => whnf
 refine cb hm fun x10 q10 hm => cgx (gate_Gate_Applied_ok q10 :) ?_
 conv => whnf
 refine nil_check ?_
 conv => whnf
 refine field_addr rfl ?_
 conv => whnf
 refine field_addr rfl ?_
 conv => whnf
 refine RStep.of (load1_s r3 rfl rfl ?_)
 conv => whnf
 refine RStep.of (len_slice rfl ?_)
 obtain ⟨hk0, hm⟩ := chkb hm
 obtain ⟨s0, hl0, hm⟩ := bnd hm
 conv => whnf
 refine lD (σ := (Int × S_relay_Relay) × Nat × Option Addr × Nat × Nat × Nat × Option Addr × Nat × Option Addr × Nat × Nat × Option Addr × Nat × Option Addr × Nat) [3, 4, 5, 17, 18, 19, 20, 21, 22, 23, 24, 25, 26, 27, 28, 29, 30, 31, 32, 33, 34, 35] [10] (fun i0 => [(17, .int .i64 (i0 : Int))]) (fun (t0, bt0_1_0, at0_1_1, ct0_1_1, mt0_1_2, bt0_1_3, at0_1_4, ct0_1_4, at0_1_5, ct0_1_5, bt0_1_6, at0_1_7, ct0_1_7, at0_1_8, ct0_1_8) => [(3, .int .i64 t0.1)]) (fun (t0, bt0_1_0, at0_1_1, ct0_1_1, mt0_1_2, bt0_1_3, at0_1_4, ct0_1_4, at0_1_5, ct0_1_5, bt0_1_6, at0_1_7, ct0_1_7, at0_1_8, ct0_1_8) => [Cells b0 58 [str r'.c.Name, str r'.c.Parent, .slice ap0_0 r'.c.Children.length cp0_0, .int .i64 r'.c.Length, .int .i64 r'.c.Ppm, .int .i64 r'.c.Window, .pointer (some ⟨bt0_1_0, 0, none⟩), .pointer (some ⟨bt0_1_3, 0, none⟩), .pointer (some ⟨bt0_1_6, 0, none⟩), .slice at0_1_8 t0.2.acks.length ct0_1_8, .int .i64 t0.2.now, .int .i64 t0.2.first, .int .i64 t0.2.asked, .int .i64 t0.2.sent], Cells bt0_1_0 70 [.int .i64 t0.2.gate.window, .int .i64 t0.2.gate.applied, .int .i64 t0.2.gate.floor, .slice at0_1_1 t0.2.gate.kept.length ct0_1_1, .map (some mt0_1_2)], OwnL S_purge_Purge.enc at0_1_1 120 3 ct0_1_1 t0.2.gate.kept, MapE intK (fun x => .agg (S_purge_Purge.enc x).toArray) mt0_1_2 t0.2.gate.aside, Cells bt0_1_3 76 [.int .i64 t0.2.holder.ppm, .int .i64 t0.2.holder.now, .int .i64 t0.2.holder.greatest, .slice at0_1_4 t0.2.holder.serials.length ct0_1_4, .slice at0_1_5 t0.2.holder.leases.length ct0_1_5], OwnL eN at0_1_4 3 1 ct0_1_4 t0.2.holder.serials, OwnL S_lease_held.enc at0_1_5 122 2 ct0_1_5 t0.2.holder.leases, Cells bt0_1_6 73 [.int .i64 t0.2.issuer.length, .int .i64 t0.2.issuer.ppm, .int .i64 t0.2.issuer.now, .slice at0_1_7 t0.2.issuer.list.length ct0_1_7], OwnL S_lease_given.enc at0_1_7 104 3 ct0_1_7 t0.2.issuer.list, OwnL eN at0_1_8 3 1 ct0_1_8 t0.2.acks]) (fun (t0, bt0_1_0, at0_1_1, ct0_1_1, mt0_1_2, bt0_1_3, at0_1_4, ct0_1_4, at0_1_5, ct0_1_5, bt0_1_6, at0_1_7, ct0_1_7, at0_1_8, ct0_1_8) => (0 < t0.2.gate.kept.length → Has at0_1_1) ∧ (0 < t0.2.holder.serials.length → Has at0_1_4) ∧ (0 < t0.2.holder.leases.length → Has at0_1_5) ∧ (0 < t0.2.issuer.list.length → Has at0_1_7) ∧ (0 < t0.2.acks.length → Has at0_1_8)) (fun i0 (t0, bt0_1_0, at0_1_1, ct0_1_1, mt0_1_2, bt0_1_3, at0_1_4, ct0_1_4, at0_1_5, ct0_1_5, bt0_1_6, at0_1_7, ct0_1_7, at0_1_8, ct0_1_8) => relay_Relay_acknowledged_L0 r' n (r'.c.Children.drop i0) i0 t0.1 t0.2 = some s0) (fun (t0, bt0_1_0, at0_1_1, ct0_1_1, mt0_1_2, bt0_1_3, at0_1_4, ct0_1_4, at0_1_5, ct0_1_5, bt0_1_6, at0_1_7, ct0_1_7, at0_1_8, ct0_1_8) => t0 = s0) (fun i0 => r'.c.Children.length - i0) 0 ((_, _), _, _, _, _, _, _, _, _, _, _, _, _, _, _) hl0 (And.intro qe (And.intro ?_ ?_))
 clear hl0
 rintro i0 ⟨⟨y0_0, y0_1⟩, by0_1_0, ay0_1_1, cy0_1_1, my0_1_2, by0_1_3, ay0_1_4, cy0_1_4, ay0_1_5, cy0_1_5, by0_1_6, ay0_1_7, cy0_1_7, ay0_1_8, cy0_1_8⟩ ⟨hy0_1_1, hy0_1_4, hy0_1_5, hy0_1_7, hy0_1_8⟩ hl0 j0
 dsimp only at hl0 ⊢
 conv => whnf
 refine cond_go rfl ?_
 conv => whnf
 refine cond_s (fun w0 => ?_) (fun w0 => ?_)
 obtain ⟨e0, hx0, hd0⟩ := ltx w0
 rw [hd0, relay_Relay_acknowledged_L0.eq_2] at hl0
 conv => whnf
 refine block_go rfl ?_
 conv => whnf
 refine RStep.ofN (index_addr rfl rfl (hasK hp0_0.rd hx0) (nn _) (lt_ofN hx0) ?_)
 conv => whnf
 refine RStep.of (load_rd i0 0 _ _ hp0_0.rd rfl (mp hx0) rfl rfl ?_)
 conv => whnf
 refine nil_check ?_
 conv => whnf
 refine field_addr rfl ?_
 conv => whnf
 refine RStep.of (load1_s r0 rfl rfl ?_)
 obtain ⟨x30, l30, k30, hl0⟩ := ixb hl0
 conv => whnf
 refine RStep.ofN (index_addr rfl rfl (hasO hy0_1_8 k30) l30 (lt_ofE rfl l30 k30) ?_)
 conv => whnf
 refine RStep.of (ld_own (i := ((i0 : Int)).toNat) (o := 0) r9 rfl k30 rfl rfl ?_)
 conv => whnf
 refine cb hl0 fun x33 q33 hl0 => ckx (relay_Relay_free_ok q33 :) ?_
 rintro _ _ _ ⟨b33_0, a33_1, c33_1, m33_2, b33_3, a33_4, c33_4, a33_5, c33_5, b33_6, a33_7, c33_7, a33_8, c33_8, rfl, h33_1, h33_4, h33_5, h33_7, h33_8, rfl⟩
 conv => whnf
 refine RStep.of (min_int ?_)
 conv => whnf
 refine int_in (cntz hx0 hk0) ?_
 conv => whnf
 exact eR hl0 (_, (_, _), _, _, _, _, _, _, _, _, _, _, _, _, _, _)
 rw [lty w0, relay_Relay_acknowledged_L0.eq_1] at hl0
 conv => whnf
 refine cond_T ?_
 conv => whnf
 exact eM hl0 (_, _, _, _, _, _, _, _, _, _, _, _, _, _, _)
 rintro ⟨t0, bt0_1_0, at0_1_1, ct0_1_1, mt0_1_2, bt0_1_3, at0_1_4, ct0_1_4, at0_1_5, ct0_1_5, bt0_1_6, at0_1_7, ct0_1_7, at0_1_8, ct0_1_8⟩ ⟨ht0_1_1, ht0_1_4, ht0_1_5, ht0_1_7, ht0_1_8⟩ rfl j0
 conv => whnf
 exact eE hm

noncomputable def relay_Relay_ack (n : Nat) (r' : S_relay_Relay) (always : Bool) : Option ((List S_hop_Out) × S_relay_Relay) :=
  (relay_Relay_acknowledged n r').bind fun x7 =>
  ((if decide (x7.1 ≤ x7.2.sent) then
  some (!(always && decide (x7.1 > 0)))
  else
  some false) : Option (Bool)).bind fun t901 =>
  if t901 then
  some ([], (⟨r'.c, x7.2.gate, x7.2.holder, x7.2.issuer, x7.2.acks, x7.2.now, x7.2.first, x7.2.asked, x7.2.sent⟩ : S_relay_Relay))
  else
  some ([(⟨r'.c.Parent, (⟨10, 0, x7.1, 0, 0, ([] : Str), [], []⟩ : S_hop_Message)⟩ : S_hop_Out)], (⟨r'.c, x7.2.gate, x7.2.holder, x7.2.issuer, x7.2.acks, x7.2.now, x7.2.first, x7.2.asked, (max x7.2.sent x7.1)⟩ : S_relay_Relay))
set_option maxHeartbeats 8000000 in
theorem relay_Relay_ack_ok {n : Nat} {r' : S_relay_Relay} {always : Bool} {b0 : Nat} {ap0_0 : Option Addr} {cp0_0 : Nat} {bp0_1 : Nat} {ap0_2 : Option Addr} {cp0_2 : Nat} {mp0_3 : Nat} {bp0_4 : Nat} {ap0_5 : Option Addr} {cp0_5 : Nat} {ap0_6 : Option Addr} {cp0_6 : Nat} {bp0_7 : Nat} {ap0_8 : Option Addr} {cp0_8 : Nat} {ap0_9 : Option Addr} {cp0_9 : Nat} {K : Hp} {r : (List S_hop_Out) × S_relay_Relay}
    (hm : relay_Relay_ack n r' always = some r) (hX : RdC eS K ap0_0 cp0_0 1 r'.c.Children ∧ (0 < r'.gate.kept.length → Has ap0_2) ∧ (0 < r'.holder.serials.length → Has ap0_5) ∧ (0 < r'.holder.leases.length → Has ap0_6) ∧ (0 < r'.issuer.list.length → Has ap0_8) ∧ (0 < r'.acks.length → Has ap0_9)) :
    Fn Try.prog 22 [.pointer (some ⟨b0, 0, none⟩), .bool always] K [Cells b0 58 [str r'.c.Name, str r'.c.Parent, .slice ap0_0 r'.c.Children.length cp0_0, .int .i64 r'.c.Length, .int .i64 r'.c.Ppm, .int .i64 r'.c.Window, .pointer (some ⟨bp0_1, 0, none⟩), .pointer (some ⟨bp0_4, 0, none⟩), .pointer (some ⟨bp0_7, 0, none⟩), .slice ap0_9 r'.acks.length cp0_9, .int .i64 r'.now, .int .i64 r'.first, .int .i64 r'.asked, .int .i64 r'.sent], Cells bp0_1 70 [.int .i64 r'.gate.window, .int .i64 r'.gate.applied, .int .i64 r'.gate.floor, .slice ap0_2 r'.gate.kept.length cp0_2, .map (some mp0_3)], OwnL S_purge_Purge.enc ap0_2 120 3 cp0_2 r'.gate.kept, MapE intK (fun x => .agg (S_purge_Purge.enc x).toArray) mp0_3 r'.gate.aside, Cells bp0_4 76 [.int .i64 r'.holder.ppm, .int .i64 r'.holder.now, .int .i64 r'.holder.greatest, .slice ap0_5 r'.holder.serials.length cp0_5, .slice ap0_6 r'.holder.leases.length cp0_6], OwnL eN ap0_5 3 1 cp0_5 r'.holder.serials, OwnL S_lease_held.enc ap0_6 122 2 cp0_6 r'.holder.leases, Cells bp0_7 73 [.int .i64 r'.issuer.length, .int .i64 r'.issuer.ppm, .int .i64 r'.issuer.now, .slice ap0_8 r'.issuer.list.length cp0_8], OwnL S_lease_given.enc ap0_8 104 3 cp0_8 r'.issuer.list, OwnL eN ap0_9 3 1 cp0_9 r'.acks] (fun v K' H' => ∃ ar_0 : Option Addr, ∃ cr_0 : Nat, ∃ sr_0 : List (List Value), ∃ br_1 : Nat, ∃ ar_2 : Option Addr, ∃ cr_2 : Nat, ∃ mr_3 : Nat, ∃ br_4 : Nat, ∃ ar_5 : Option Addr, ∃ cr_5 : Nat, ∃ ar_6 : Option Addr, ∃ cr_6 : Nat, ∃ br_7 : Nat, ∃ ar_8 : Option Addr, ∃ cr_8 : Nat, ∃ ar_9 : Option Addr, ∃ cr_9 : Nat, v = .slice ar_0 r.1.length cr_0 ∧ (0 < r.1.length → Has ar_0) ∧ LR S_hop_Out.R K' sr_0 r.1 ∧ (0 < r.2.gate.kept.length → Has ar_2) ∧ (0 < r.2.holder.serials.length → Has ar_5) ∧ (0 < r.2.holder.leases.length → Has ar_6) ∧ (0 < r.2.issuer.list.length → Has ar_8) ∧ (0 < r.2.acks.length → Has ar_9) ∧ H' = [OwnA ar_0 42 9 cr_0 sr_0, Cells b0 58 [str r'.c.Name, str r'.c.Parent, .slice ap0_0 r'.c.Children.length cp0_0, .int .i64 r'.c.Length, .int .i64 r'.c.Ppm, .int .i64 r'.c.Window, .pointer (some ⟨br_1, 0, none⟩), .pointer (some ⟨br_4, 0, none⟩), .pointer (some ⟨br_7, 0, none⟩), .slice ar_9 r.2.acks.length cr_9, .int .i64 r.2.now, .int .i64 r.2.first, .int .i64 r.2.asked, .int .i64 r.2.sent], Cells br_1 70 [.int .i64 r.2.gate.window, .int .i64 r.2.gate.applied, .int .i64 r.2.gate.floor, .slice ar_2 r.2.gate.kept.length cr_2, .map (some mr_3)], OwnL S_purge_Purge.enc ar_2 120 3 cr_2 r.2.gate.kept, MapE intK (fun x => .agg (S_purge_Purge.enc x).toArray) mr_3 r.2.gate.aside, Cells br_4 76 [.int .i64 r.2.holder.ppm, .int .i64 r.2.holder.now, .int .i64 r.2.holder.greatest, .slice ar_5 r.2.holder.serials.length cr_5, .slice ar_6 r.2.holder.leases.length cr_6], OwnL eN ar_5 3 1 cr_5 r.2.holder.serials, OwnL S_lease_held.enc ar_6 122 2 cr_6 r.2.holder.leases, Cells br_7 73 [.int .i64 r.2.issuer.length, .int .i64 r.2.issuer.ppm, .int .i64 r.2.issuer.now, .slice ar_8 r.2.issuer.list.length cr_8], OwnL S_lease_given.enc ar_8 104 3 cr_8 r.2.issuer.list, OwnL eN ar_9 3 1 cr_9 r.2.acks]) := by
 obtain ⟨hp0_0, hp0_2, hp0_5, hp0_6, hp0_8, hp0_9⟩ := hX
 refine Fn.enter Try.func22 Try.call22 rfl fun F => ?_
 unfold relay_Relay_ack at hm
 conv => whnf
 refine cb hm fun x7 q7 hm => ckx (relay_Relay_acknowledged_ok q7 :) ?_
 rintro _ _ _ ⟨b7_0, a7_1, c7_1, m7_2, b7_3, a7_4, c7_4, a7_5, c7_5, b7_6, a7_7, c7_7, a7_8, c7_8, rfl, h7_1, h7_4, h7_5, h7_7, h7_8, rfl⟩
 obtain ⟨s901, hl901, hm⟩ := bnd hm
 conv => whnf
 refine jR (σ := Bool) [8, 9, 10, 11, 12, 13, 14, 15, 16, 17, 18, 19, 20, 21] (fun t901 => [(21, .bool t901)]) (fun t901 => t901 = s901) ?_ ?_
 refine guard_go rfl ?_
 conv => whnf
 refine nil_check ?_
 conv => whnf
 refine field_addr rfl ?_
 conv => whnf
 refine RStep.of (load1_s r0 rfl rfl ?_)
 conv => whnf
 refine cS hl901 (fun g14_2 hl901 => ?_) fun g14_2 hl901 => ?_
 conv => whnf
 refine cond_t g14_2 ?_
 conv => whnf
 refine cond_s (fun g16_2 => ?_) (fun g16_2 => ?_)
 conv => whnf
 refine cond_t g16_2 ?_
 conv => whnf
 refine cond_t g14_2 ?_
 conv => whnf
 refine cond_t g16_2 ?_
 conv => whnf
 refine cond_t g14_2 ?_
 conv => whnf
 refine un_not ?_
 conv => whnf
 refine cond_t g14_2 ?_
 conv => whnf
 exact eMq hl901 _ ⟨bq (not_e (and_e (b := decide (x7.1 > 0)) g16_2)), trivial⟩
 conv => whnf
 refine cond_f g16_2 ?_
 conv => whnf
 refine cond_t g14_2 ?_
 conv => whnf
 refine cond_f g16_2 ?_
 conv => whnf
 refine cond_t g14_2 ?_
 conv => whnf
 refine un_not ?_
 conv => whnf
 refine cond_t g14_2 ?_
 conv => whnf
 exact eMq hl901 _ ⟨bq (((not_t (and_f g16_2))).symm), trivial⟩
 conv => whnf
 refine cond_f g14_2 ?_
 conv => whnf
 refine cond_f g14_2 ?_
 conv => whnf
 refine cond_f g14_2 ?_
 conv => whnf
 refine cond_f g14_2 ?_
 conv => whnf
 exact eM hl901 _
 rintro t901 rfl j901
 conv => whnf
 refine cs rfl rfl hm (fun w21 hm => ?_) fun w21 hm => ?_
 conv => whnf
 refine nilE (fun _ : S_hop_Out => []) 42 9 ?_
 exact eE hm
 conv => whnf
 refine nil_check ?_
 conv => whnf
 refine field_addr rfl ?_
 conv => whnf
 refine RStep.of (load1_s r0 rfl rfl ?_)
 conv => whnf
 refine RStep.of (max_int ?_)
 conv => whnf
 refine nil_check ?_
 conv => whnf
 refine field_addr rfl ?_
 conv => whnf
 refine store_rule r0 rfl ?_
 conv => whnf
 refine ⟨rfl, rfl, (Nat.le_of_ble_eq_true rfl), ?_⟩
 conv => whnf
 refine nil_check ?_
 conv => whnf
 refine field_addr rfl ?_
 conv => whnf
 refine field_addr rfl ?_
 conv => whnf
 refine RStep.of (load1_s r0 rfl rfl ?_)
 conv => whnf
 refine build_struct rfl rfl ?_
 conv => whnf
 refine cond_T ?_
 conv => whnf
 refine cond_T ?_
 conv => whnf
 refine build_struct rfl rfl ?_
 conv => whnf
 refine cond_T ?_
 conv => whnf
 refine cond_T ?_
 conv => whnf
 refine bsOR (R := S_hop_Out.R) (len := 1) (l := [(⟨r'.c.Parent, (⟨10, 0, x7.1, 0, 0, ([] : Str), [], []⟩ : S_hop_Message)⟩ : S_hop_Out)]) (css := [[str r'.c.Parent, .int .i64 10, .int .i64 0, .int .i64 x7.1, .int .i64 0, .int .i64 0, str ([] : Str), .slice none 0 0, .slice none 0 0]]) (cl := [str r'.c.Parent, .int .i64 10, .int .i64 0, .int .i64 x7.1, .int .i64 0, .int .i64 0, str ([] : Str), .slice none 0 0, .slice none 0 0]) S_hop_Out.R_ok elT36 rfl rfl (LR.snoc LR.nil ⟨none, 0, none, 0, rfl, RdC.nil, RdC.nil⟩) rfl rfl rfl ?_ fun b39 => ?_
 · conv => whnf
   refine cond_T ?_
   conv => whnf
   first | done | rfl
 obtain rfl := si hm
 conv => whnf
 refine EndStep.mk _ (Hp.Le.refl _) ⟨(some ⟨b39, 0, none⟩), 1, ([[str r'.c.Parent, .int .i64 10, .int .i64 0, .int .i64 x7.1, .int .i64 0, .int .i64 0, str ([] : Str), .slice none 0 0, .slice none 0 0]]), b7_0, a7_1, c7_1, m7_2, b7_3, a7_4, c7_4, a7_5, c7_5, b7_6, a7_7, c7_7, a7_8, c7_8, rfl, (fun _ => ⟨_, _, rfl⟩), (show LR S_hop_Out.R _ [[str r'.c.Parent, .int .i64 10, .int .i64 0, .int .i64 x7.1, .int .i64 0, .int .i64 0, str ([] : Str), .slice none 0 0, .slice none 0 0]] [(⟨r'.c.Parent, (⟨10, 0, x7.1, 0, 0, ([] : Str), [], []⟩ : S_hop_Message)⟩ : S_hop_Out)] from (LR.snoc LR.nil ⟨none, 0, none, 0, rfl, RdC.nil, RdC.nil⟩)), h7_1, h7_4, h7_5, h7_7, h7_8, rfl⟩ (ConvH.of (.cons r0 (.cons r0 (.cons r0 (.cons r0 (.cons r0 (.cons r0 (.cons r0 (.cons r0 (.cons r0 (.cons r0 (.cons r0 (.cons r0 .nil)))))))))))))

noncomputable def relay_Relay_Tick (n : Nat) (r' : S_relay_Relay) (now : Int) : Option ((List S_hop_Out) × S_relay_Relay) :=
  (relay_Relay_begin r' now).bind fun x10 =>
  (if decide (x10.asked < 0) then some true else (chk (InI (x10.now - x10.asked))).bind fun _ =>
  (relay_Relay_period (⟨r'.c, x10.gate, x10.holder, x10.issuer, x10.acks, x10.now, x10.first, x10.asked, x10.sent⟩ : S_relay_Relay)).bind fun x27 =>
  some (decide ((x10.now - x10.asked) ≥ x27))).bind fun t901 =>
  if t901 then
  (lease_Holder_Ask x10.holder x10.now).bind fun x51 =>
  (gate_Gate_Applied x10.gate).bind fun x56 =>
  (chk (([(⟨r'.c.Parent, (⟨11, x51.1, x56, 0, 0, ([] : Str), [], []⟩ : S_hop_Message)⟩ : S_hop_Out)]).length ≤ lim)).bind fun _ =>
  (relay_Relay_ack n (⟨r'.c, x10.gate, x51.2, x10.issuer, x10.acks, x10.now, x10.first, x10.now, x10.sent⟩ : S_relay_Relay) false).bind fun x63 =>
  (chk (([(⟨r'.c.Parent, (⟨11, x51.1, x56, 0, 0, ([] : Str), [], []⟩ : S_hop_Message)⟩ : S_hop_Out)]).length + x63.1.length ≤ lim)).bind fun _ =>
  some (([(⟨r'.c.Parent, (⟨11, x51.1, x56, 0, 0, ([] : Str), [], []⟩ : S_hop_Message)⟩ : S_hop_Out)] ++ x63.1), (⟨r'.c, x63.2.gate, x63.2.holder, x63.2.issuer, x63.2.acks, x63.2.now, x63.2.first, x63.2.asked, x63.2.sent⟩ : S_relay_Relay))
  else
  (relay_Relay_ack n (⟨r'.c, x10.gate, x10.holder, x10.issuer, x10.acks, x10.now, x10.first, x10.asked, x10.sent⟩ : S_relay_Relay) false).bind fun x63 =>
  (chk (x63.1.length ≤ lim)).bind fun _ =>
  some (x63.1, (⟨r'.c, x63.2.gate, x63.2.holder, x63.2.issuer, x63.2.acks, x63.2.now, x63.2.first, x63.2.asked, x63.2.sent⟩ : S_relay_Relay))
set_option maxHeartbeats 8000000 in
theorem relay_Relay_Tick_ok {n : Nat} {r' : S_relay_Relay} {now : Int} {b0 : Nat} {ap0_0 : Option Addr} {cp0_0 : Nat} {bp0_1 : Nat} {ap0_2 : Option Addr} {cp0_2 : Nat} {mp0_3 : Nat} {bp0_4 : Nat} {ap0_5 : Option Addr} {cp0_5 : Nat} {ap0_6 : Option Addr} {cp0_6 : Nat} {bp0_7 : Nat} {ap0_8 : Option Addr} {cp0_8 : Nat} {ap0_9 : Option Addr} {cp0_9 : Nat} {K : Hp} {r : (List S_hop_Out) × S_relay_Relay}
    (hm : relay_Relay_Tick n r' now = some r) (hX : RdC eS K ap0_0 cp0_0 1 r'.c.Children ∧ (0 < r'.gate.kept.length → Has ap0_2) ∧ (0 < r'.holder.serials.length → Has ap0_5) ∧ (0 < r'.holder.leases.length → Has ap0_6) ∧ (0 < r'.issuer.list.length → Has ap0_8) ∧ (0 < r'.acks.length → Has ap0_9)) :
    Fn Try.prog 9 [.pointer (some ⟨b0, 0, none⟩), .int .i64 now] K [Cells b0 58 [str r'.c.Name, str r'.c.Parent, .slice ap0_0 r'.c.Children.length cp0_0, .int .i64 r'.c.Length, .int .i64 r'.c.Ppm, .int .i64 r'.c.Window, .pointer (some ⟨bp0_1, 0, none⟩), .pointer (some ⟨bp0_4, 0, none⟩), .pointer (some ⟨bp0_7, 0, none⟩), .slice ap0_9 r'.acks.length cp0_9, .int .i64 r'.now, .int .i64 r'.first, .int .i64 r'.asked, .int .i64 r'.sent], Cells bp0_1 70 [.int .i64 r'.gate.window, .int .i64 r'.gate.applied, .int .i64 r'.gate.floor, .slice ap0_2 r'.gate.kept.length cp0_2, .map (some mp0_3)], OwnL S_purge_Purge.enc ap0_2 120 3 cp0_2 r'.gate.kept, MapE intK (fun x => .agg (S_purge_Purge.enc x).toArray) mp0_3 r'.gate.aside, Cells bp0_4 76 [.int .i64 r'.holder.ppm, .int .i64 r'.holder.now, .int .i64 r'.holder.greatest, .slice ap0_5 r'.holder.serials.length cp0_5, .slice ap0_6 r'.holder.leases.length cp0_6], OwnL eN ap0_5 3 1 cp0_5 r'.holder.serials, OwnL S_lease_held.enc ap0_6 122 2 cp0_6 r'.holder.leases, Cells bp0_7 73 [.int .i64 r'.issuer.length, .int .i64 r'.issuer.ppm, .int .i64 r'.issuer.now, .slice ap0_8 r'.issuer.list.length cp0_8], OwnL S_lease_given.enc ap0_8 104 3 cp0_8 r'.issuer.list, OwnL eN ap0_9 3 1 cp0_9 r'.acks] (fun v K' H' => ∃ ar_0 : Option Addr, ∃ cr_0 : Nat, ∃ sr_0 : List (List Value), ∃ br_1 : Nat, ∃ ar_2 : Option Addr, ∃ cr_2 : Nat, ∃ mr_3 : Nat, ∃ br_4 : Nat, ∃ ar_5 : Option Addr, ∃ cr_5 : Nat, ∃ ar_6 : Option Addr, ∃ cr_6 : Nat, ∃ br_7 : Nat, ∃ ar_8 : Option Addr, ∃ cr_8 : Nat, ∃ ar_9 : Option Addr, ∃ cr_9 : Nat, v = .slice ar_0 r.1.length cr_0 ∧ (0 < r.1.length → Has ar_0) ∧ LR S_hop_Out.R K' sr_0 r.1 ∧ (0 < r.2.gate.kept.length → Has ar_2) ∧ (0 < r.2.holder.serials.length → Has ar_5) ∧ (0 < r.2.holder.leases.length → Has ar_6) ∧ (0 < r.2.issuer.list.length → Has ar_8) ∧ (0 < r.2.acks.length → Has ar_9) ∧ H' = [OwnA ar_0 42 9 cr_0 sr_0, Cells b0 58 [str r'.c.Name, str r'.c.Parent, .slice ap0_0 r'.c.Children.length cp0_0, .int .i64 r'.c.Length, .int .i64 r'.c.Ppm, .int .i64 r'.c.Window, .pointer (some ⟨br_1, 0, none⟩), .pointer (some ⟨br_4, 0, none⟩), .pointer (some ⟨br_7, 0, none⟩), .slice ar_9 r.2.acks.length cr_9, .int .i64 r.2.now, .int .i64 r.2.first, .int .i64 r.2.asked, .int .i64 r.2.sent], Cells br_1 70 [.int .i64 r.2.gate.window, .int .i64 r.2.gate.applied, .int .i64 r.2.gate.floor, .slice ar_2 r.2.gate.kept.length cr_2, .map (some mr_3)], OwnL S_purge_Purge.enc ar_2 120 3 cr_2 r.2.gate.kept, MapE intK (fun x => .agg (S_purge_Purge.enc x).toArray) mr_3 r.2.gate.aside, Cells br_4 76 [.int .i64 r.2.holder.ppm, .int .i64 r.2.holder.now, .int .i64 r.2.holder.greatest, .slice ar_5 r.2.holder.serials.length cr_5, .slice ar_6 r.2.holder.leases.length cr_6], OwnL eN ar_5 3 1 cr_5 r.2.holder.serials, OwnL S_lease_held.enc ar_6 122 2 cr_6 r.2.holder.leases, Cells br_7 73 [.int .i64 r.2.issuer.length, .int .i64 r.2.issuer.ppm, .int .i64 r.2.issuer.now, .slice ar_8 r.2.issuer.list.length cr_8], OwnL S_lease_given.enc ar_8 104 3 cr_8 r.2.issuer.list, OwnL eN ar_9 3 1 cr_9 r.2.acks]) := by
 obtain ⟨hp0_0, hp0_2, hp0_5, hp0_6, hp0_8, hp0_9⟩ := hX
 refine Fn.enter Try.func9 Try.call9 rfl fun F => ?_
 unfold relay_Relay_Tick at hm
 conv => whnf
 refine eq_ptr_nil rfl ?_
 conv => whnf
 refine cond_go rfl ?_
 conv => whnf
 refine cond_F ?_
 conv => whnf
 refine cb hm fun x10 q10 hm => ckx (relay_Relay_begin_ok q10 :) ?_
 rintro _ _ _ ⟨b10_0, a10_1, c10_1, m10_2, b10_3, a10_4, c10_4, a10_5, c10_5, b10_6, a10_7, c10_7, a10_8, c10_8, rfl, h10_1, h10_4, h10_5, h10_7, h10_8, rfl⟩
 obtain ⟨s901, hl901, hm⟩ := bnd hm
 conv => whnf
 refine dR (σ := Bool) [11, 12, 13, 14, 15, 16, 17, 18, 19, 20, 21, 22, 23, 24, 25, 26, 27, 28, 29] (fun t901 => [(29, .bool t901)]) (fun t901 => t901 = s901) ?_ ?_
 replace hl901 := bsm hl901
 refine draw_go ⟨⟨[], false⟩, _, [(_, _)], []⟩ (by kernel_rfl) ⟨Hp.Le.refl _, (ConvH.of (.cons r0 .nil)), ci0⟩ ?_
 conv => whnf
 refine nil_check ?_
 conv => whnf
 refine field_addr rfl ?_
 conv => whnf
 refine load1_l m0 rfl rfl ?_
 obtain ⟨x29, e29, hl901⟩ := bnd hl901
 conv => whnf
 refine cS e29 (fun g16_5 e29 => ?_) fun g16_5 e29 => ?_
 conv => whnf
 refine cond_t g16_5 ?_
 conv => whnf
 refine cond_t g16_5 ?_
 conv => whnf
 refine cond_t g16_5 ?_
 conv => whnf
 refine cond_t g16_5 ?_
 conv => whnf
 refine cond_t g16_5 ?_
 conv => whnf
 refine cond_t g16_5 ?_
 conv => whnf
 refine cond_t g16_5 ?_
 conv => whnf
 refine cond_t g16_5 ?_
 conv => whnf
 refine cond_t g16_5 ?_
 conv => whnf
 refine cond_t g16_5 ?_
 conv => whnf
 refine cond_t g16_5 ?_
 conv => whnf
 refine cond_t g16_5 ?_
 conv => whnf
 exact eMq hl901 _ ⟨bq (si e29), trivial⟩
 conv => whnf
 refine cond_f g16_5 ?_
 conv => whnf
 refine nil_check ?_
 conv => whnf
 refine cond_f g16_5 ?_
 conv => whnf
 refine field_addr rfl ?_
 conv => whnf
 refine cond_f g16_5 ?_
 conv => whnf
 refine load1_l m0 rfl rfl ?_
 conv => whnf
 refine cond_f g16_5 ?_
 conv => whnf
 refine cond_f g16_5 ?_
 conv => whnf
 refine nil_check ?_
 conv => whnf
 refine cond_f g16_5 ?_
 conv => whnf
 refine field_addr rfl ?_
 conv => whnf
 refine cond_f g16_5 ?_
 conv => whnf
 refine load1_l m0 rfl rfl ?_
 conv => whnf
 refine cond_f g16_5 ?_
 obtain ⟨h25, e29⟩ := chkb e29
 conv => whnf
 refine int_in h25 ?_
 conv => whnf
 refine cond_f g16_5 ?_
 conv => whnf
 refine cond_f g16_5 ?_
 conv => whnf
 refine cb e29 fun x27 q27 e29 => cgx (relay_Relay_period_ok q27 :) ?_
 conv => whnf
 refine qk (ConvH.of (.cons r0 .nil)) ?_
 conv => whnf
 refine cond_f g16_5 ?_
 conv => whnf
 refine cond_f g16_5 ?_
 conv => whnf
 exact eMq hl901 _ ⟨bq (si e29), trivial⟩
 rintro t901 rfl j901
 conv => whnf
 refine cs rfl rfl hm (fun w29 hm => ?_) fun w29 hm => ?_
 conv => whnf
 refine nil_check ?_
 conv => whnf
 refine field_addr rfl ?_
 conv => whnf
 refine RStep.of (load1_s r0 rfl rfl ?_)
 conv => whnf
 refine nil_check ?_
 conv => whnf
 refine field_addr rfl ?_
 conv => whnf
 refine store_rule r0 rfl ?_
 conv => whnf
 refine ⟨rfl, rfl, (Nat.le_of_ble_eq_true rfl), ?_⟩
 conv => whnf
 refine draw_go ⟨⟨[], false⟩, _, [(_, _)], []⟩ (by kernel_rfl) ⟨Hp.Le.refl _, (ConvH.of (.cons r0 .nil)), ci0⟩ ?_
 conv => whnf
 refine nil_check ?_
 conv => whnf
 refine field_addr rfl ?_
 conv => whnf
 refine field_addr rfl ?_
 conv => whnf
 refine load1_l m0 rfl rfl ?_
 conv => whnf
 refine nil_check ?_
 conv => whnf
 refine field_addr rfl ?_
 conv => whnf
 refine load1_l m0 rfl rfl ?_
 conv => whnf
 refine nil_check ?_
 conv => whnf
 refine field_addr rfl ?_
 conv => whnf
 refine load1_l m0 rfl rfl ?_
 conv => whnf
 refine cb hm fun x51 q51 hm => ckx (lease_Holder_Ask_ok q51 :) ?_
 rintro _ _ _ ⟨a51_0, c51_0, a51_1, c51_1, rfl, h51_0, h51_1, rfl⟩
 conv => whnf
 refine qk (ConvH.of (.cons r3 .nil)) ?_
 conv => whnf
 refine nil_check ?_
 conv => whnf
 refine field_addr rfl ?_
 conv => whnf
 refine load1_l m0 rfl rfl ?_
 conv => whnf
 refine cb hm fun x56 q56 hm => cgx (gate_Gate_Applied_ok q56 :) ?_
 conv => whnf
 refine qk (ConvH.of (.cons r6 .nil)) ?_
 conv => whnf
 refine build_struct rfl rfl ?_
 conv => whnf
 refine cond_T ?_
 conv => whnf
 refine cond_T ?_
 conv => whnf
 refine cond_T ?_
 conv => whnf
 refine build_struct rfl rfl ?_
 conv => whnf
 refine cond_T ?_
 conv => whnf
 refine cond_T ?_
 conv => whnf
 refine bsOR (R := S_hop_Out.R) (len := 1) (l := [(⟨r'.c.Parent, (⟨11, x51.1, x56, 0, 0, ([] : Str), [], []⟩ : S_hop_Message)⟩ : S_hop_Out)]) (css := [[str r'.c.Parent, .int .i64 11, .int .i64 x51.1, .int .i64 x56, .int .i64 0, .int .i64 0, str ([] : Str), .slice none 0 0, .slice none 0 0]]) (cl := [str r'.c.Parent, .int .i64 11, .int .i64 x51.1, .int .i64 x56, .int .i64 0, .int .i64 0, str ([] : Str), .slice none 0 0, .slice none 0 0]) S_hop_Out.R_ok elT36 rfl rfl (LR.snoc LR.nil ⟨none, 0, none, 0, rfl, RdC.nil, RdC.nil⟩) rfl rfl rfl ?_ fun b59 => ?_
 · conv => whnf
   refine cond_T ?_
   conv => whnf
   first | done | rfl
 conv => whnf
 refine qk (ConvH.of (.cons r7 .nil)) ?_
 obtain ⟨h60, hm⟩ := chkb hm
 conv => whnf
 refine apnRl (R := S_hop_Out.R) elT36 (src_ownR rfl r0 rfl S_hop_Out.R_ok (show LR S_hop_Out.R _ [[str r'.c.Parent, .int .i64 11, .int .i64 x51.1, .int .i64 x56, .int .i64 0, .int .i64 0, str ([] : Str), .slice none 0 0, .slice none 0 0]] [(⟨r'.c.Parent, (⟨11, x51.1, x56, 0, 0, ([] : Str), [], []⟩ : S_hop_Message)⟩ : S_hop_Out)] from (LR.snoc LR.nil ⟨none, 0, none, 0, rfl, RdC.nil, RdC.nil⟩))) (show LR S_hop_Out.R _ [[str r'.c.Parent, .int .i64 11, .int .i64 x51.1, .int .i64 x56, .int .i64 0, .int .i64 0, str ([] : Str), .slice none 0 0, .slice none 0 0]] [(⟨r'.c.Parent, (⟨11, x51.1, x56, 0, 0, ([] : Str), [], []⟩ : S_hop_Message)⟩ : S_hop_Out)] from (LR.snoc LR.nil ⟨none, 0, none, 0, rfl, RdC.nil, RdC.nil⟩)) h60 ?_
 intro a60 c60 s60 r_60 o60
 conv => whnf
 refine qk (ConvH.of (.cons r8 .nil)) ?_
 conv => whnf
 refine cb hm fun x63 q63 hm => cfx (relay_Relay_ack_ok q63 :) ?_
 rintro _ K63 _ l63 ⟨a63_0, c63_0, s63_0, b63_1, a63_2, c63_2, m63_3, b63_4, a63_5, c63_5, a63_6, c63_6, b63_7, a63_8, c63_8, a63_9, c63_9, rfl, h63_0, r63_0, h63_2, h63_5, h63_6, h63_8, h63_9, rfl⟩
 obtain ⟨h64, hm⟩ := chkb hm
 conv => whnf
 refine apRl r11 (LR.mono S_hop_Out.R_ok l63 r_60) rfl elT36 (src_ownR rfl r0 rfl S_hop_Out.R_ok r63_0) r63_0 h64 ?_
 intro a64 c64 s64 r_64 o64
 conv => whnf
 exact eE hm
 conv => whnf
 refine cb hm fun x63 q63 hm => cfx (relay_Relay_ack_ok q63 :) ?_
 rintro _ K63 _ l63 ⟨a63_0, c63_0, s63_0, b63_1, a63_2, c63_2, m63_3, b63_4, a63_5, c63_5, a63_6, c63_6, b63_7, a63_8, c63_8, a63_9, c63_9, rfl, h63_0, r63_0, h63_2, h63_5, h63_6, h63_8, h63_9, rfl⟩
 obtain ⟨h64, hm⟩ := chkb hm
 conv => whnf
 refine apnRl (R := S_hop_Out.R) elT36 (src_ownR rfl r0 rfl S_hop_Out.R_ok r63_0) r63_0 h64 ?_
 intro a64 c64 s64 r_64 o64
 conv => whnf
 exact eE hm

noncomputable def relay_Relay_Next (r' : S_relay_Relay) : Option (Int) :=
  if decide (r'.asked < 0) then
  some 0
  else
  (relay_Relay_period r').bind fun x17 =>
  (chk (InI (r'.asked + x17))).bind fun _ =>
  some (r'.asked + x17)
set_option maxHeartbeats 8000000 in
theorem relay_Relay_Next_ok {r' : S_relay_Relay} {b0 : Nat} {ap0_0 : Option Addr} {cp0_0 : Nat} {bp0_1 : Nat} {ap0_2 : Option Addr} {cp0_2 : Nat} {mp0_3 : Nat} {bp0_4 : Nat} {ap0_5 : Option Addr} {cp0_5 : Nat} {ap0_6 : Option Addr} {cp0_6 : Nat} {bp0_7 : Nat} {ap0_8 : Option Addr} {cp0_8 : Nat} {ap0_9 : Option Addr} {cp0_9 : Nat} {K : Hp} {r : Int}
    (hm : relay_Relay_Next r' = some r) (hX : RdC eS K ap0_0 cp0_0 1 r'.c.Children ∧ (0 < r'.gate.kept.length → Has ap0_2) ∧ (0 < r'.holder.serials.length → Has ap0_5) ∧ (0 < r'.holder.leases.length → Has ap0_6) ∧ (0 < r'.issuer.list.length → Has ap0_8) ∧ (0 < r'.acks.length → Has ap0_9)) :
    Fn Try.prog 10 [.pointer (some ⟨b0, 0, none⟩)] K [Cells b0 58 [str r'.c.Name, str r'.c.Parent, .slice ap0_0 r'.c.Children.length cp0_0, .int .i64 r'.c.Length, .int .i64 r'.c.Ppm, .int .i64 r'.c.Window, .pointer (some ⟨bp0_1, 0, none⟩), .pointer (some ⟨bp0_4, 0, none⟩), .pointer (some ⟨bp0_7, 0, none⟩), .slice ap0_9 r'.acks.length cp0_9, .int .i64 r'.now, .int .i64 r'.first, .int .i64 r'.asked, .int .i64 r'.sent], Cells bp0_1 70 [.int .i64 r'.gate.window, .int .i64 r'.gate.applied, .int .i64 r'.gate.floor, .slice ap0_2 r'.gate.kept.length cp0_2, .map (some mp0_3)], OwnL S_purge_Purge.enc ap0_2 120 3 cp0_2 r'.gate.kept, MapE intK (fun x => .agg (S_purge_Purge.enc x).toArray) mp0_3 r'.gate.aside, Cells bp0_4 76 [.int .i64 r'.holder.ppm, .int .i64 r'.holder.now, .int .i64 r'.holder.greatest, .slice ap0_5 r'.holder.serials.length cp0_5, .slice ap0_6 r'.holder.leases.length cp0_6], OwnL eN ap0_5 3 1 cp0_5 r'.holder.serials, OwnL S_lease_held.enc ap0_6 122 2 cp0_6 r'.holder.leases, Cells bp0_7 73 [.int .i64 r'.issuer.length, .int .i64 r'.issuer.ppm, .int .i64 r'.issuer.now, .slice ap0_8 r'.issuer.list.length cp0_8], OwnL S_lease_given.enc ap0_8 104 3 cp0_8 r'.issuer.list, OwnL eN ap0_9 3 1 cp0_9 r'.acks] (fun v K' H' => v = .int .i64 r ∧ H' = [Cells b0 58 [str r'.c.Name, str r'.c.Parent, .slice ap0_0 r'.c.Children.length cp0_0, .int .i64 r'.c.Length, .int .i64 r'.c.Ppm, .int .i64 r'.c.Window, .pointer (some ⟨bp0_1, 0, none⟩), .pointer (some ⟨bp0_4, 0, none⟩), .pointer (some ⟨bp0_7, 0, none⟩), .slice ap0_9 r'.acks.length cp0_9, .int .i64 r'.now, .int .i64 r'.first, .int .i64 r'.asked, .int .i64 r'.sent], Cells bp0_1 70 [.int .i64 r'.gate.window, .int .i64 r'.gate.applied, .int .i64 r'.gate.floor, .slice ap0_2 r'.gate.kept.length cp0_2, .map (some mp0_3)], OwnL S_purge_Purge.enc ap0_2 120 3 cp0_2 r'.gate.kept, MapE intK (fun x => .agg (S_purge_Purge.enc x).toArray) mp0_3 r'.gate.aside, Cells bp0_4 76 [.int .i64 r'.holder.ppm, .int .i64 r'.holder.now, .int .i64 r'.holder.greatest, .slice ap0_5 r'.holder.serials.length cp0_5, .slice ap0_6 r'.holder.leases.length cp0_6], OwnL eN ap0_5 3 1 cp0_5 r'.holder.serials, OwnL S_lease_held.enc ap0_6 122 2 cp0_6 r'.holder.leases, Cells bp0_7 73 [.int .i64 r'.issuer.length, .int .i64 r'.issuer.ppm, .int .i64 r'.issuer.now, .slice ap0_8 r'.issuer.list.length cp0_8], OwnL S_lease_given.enc ap0_8 104 3 cp0_8 r'.issuer.list, OwnL eN ap0_9 3 1 cp0_9 r'.acks]) := by
 obtain ⟨hp0_0, hp0_2, hp0_5, hp0_6, hp0_8, hp0_9⟩ := hX
 refine Fn.enter Try.func10 Try.call10 rfl fun F => ?_
 unfold relay_Relay_Next at hm
 conv => whnf
 refine guard_go rfl ?_
 conv => whnf
 refine eq_ptr_nil rfl ?_
 conv => whnf
 refine cond_F ?_
 conv => whnf
 refine cond_F ?_
 conv => whnf
 refine nil_check ?_
 conv => whnf
 refine cond_F ?_
 conv => whnf
 refine field_addr rfl ?_
 conv => whnf
 refine cond_F ?_
 conv => whnf
 refine RStep.of (load1_s r0 rfl rfl ?_)
 conv => whnf
 refine cond_F ?_
 conv => whnf
 refine cond_F ?_
 conv => whnf
 refine cs rfl rfl hm (fun w11 hm => ?_) fun w11 hm => ?_
 conv => whnf
 exact eE hm
 conv => whnf
 refine draw_go ⟨⟨[], false⟩, _, [(_, _)], []⟩ (by kernel_rfl) ⟨Hp.Le.refl _, (ConvH.of (.cons r0 .nil)), ci0⟩ ?_
 conv => whnf
 refine nil_check ?_
 conv => whnf
 refine field_addr rfl ?_
 conv => whnf
 refine load1_l m0 rfl rfl ?_
 conv => whnf
 refine cb hm fun x17 q17 hm => cgx (relay_Relay_period_ok q17 :) ?_
 conv => whnf
 refine qk (ConvH.of (.cons r0 .nil)) ?_
 obtain ⟨h18, hm⟩ := chkb hm
 conv => whnf
 refine int_in h18 ?_
 conv => whnf
 exact eE hm

noncomputable def law40_awake (n : Nat) : Option (Bool) :=
  (relay_New (⟨([114] : Str), ([112] : Str), [([97] : Str)], 1000, 0, 10⟩ : S_relay_Config)).bind fun x7 =>
  Option.elim x7.1 (
  ((if x7.2.isSome then
  some ()
  else
  some ()) : Option (Unit)).bind fun t901 =>
  some false)
   fun o7 =>
  ((if x7.2.isSome then
  some true
  else
  some false) : Option (Bool)).bind fun t902 =>
  if t902 then
  some false
  else
  (relay_Relay_Tick n o7 5).bind fun x17 =>
  (if decide ((x17.1.length : Int) = 1) then (ix x17.1 0).bind fun x23 =>
  some (decide (x23.To = ([112] : Str))) else some false).bind fun x27 =>
  (if x27 then (ix x17.1 0).bind fun x30 =>
  some (decide (x30.Message.Kind = 11)) else some false).bind fun x35 =>
  (if x35 then (ix x17.1 0).bind fun x38 =>
  some (decide (x38.Message.ID = 6)) else some false).bind fun x43 =>
  (if x43 then (relay_Relay_Next (⟨o7.c, x17.2.gate, x17.2.holder, x17.2.issuer, x17.2.acks, x17.2.now, x17.2.first, x17.2.asked, x17.2.sent⟩ : S_relay_Relay)).bind fun x46 =>
  some (decide (x46 = 255)) else some false).bind fun x48 =>
  some x48
set_option maxHeartbeats 8000000 in
theorem law40_awake_ok {n : Nat}  {K : Hp} {r : Bool}
    (hm : law40_awake n = some r)  :
    Fn Try.prog 4 [] K [] (fun v K' H' => v = .bool r ∧ H' = []) := by
 refine Fn.enter Try.func4 Try.call4 rfl fun F => ?_
 unfold law40_awake at hm
 conv => whnf
 refine bsO (len := 1) (enc := eS) (l := [([97] : Str)]) (cl := [str ([97] : Str)]) elT22 rfl rfl (fun _ _ => rfl) rfl rfl rfl ?_ fun b5 => ?_
 · conv => whnf
   refine cond_T ?_
   conv => whnf
   first | done | rfl
 conv => whnf
 refine build_struct rfl rfl ?_
 conv => whnf
 refine cond_T ?_
 conv => whnf
 refine cond_T ?_
 conv => whnf
 refine cond_T ?_
 conv => whnf
 refine cond_T ?_
 conv => whnf
 refine cond_T ?_
 conv => whnf
 refine fF Try.call5 r0 fun Kf7_0_0 lf7_0_0 ff7_0_0 => ?_
 refine cb hm fun x7 q7 hm => cfx (relay_New_ok q7 :) ?_
 rintro v7 K7 H7 l7 p7
 rcases hq7 : x7.1 with _ | o7
 rw [hq7] at p7 hm
 obtain ⟨rfl, rfl⟩ := p7
 replace hm := oe_n hm
 obtain ⟨s901, hl901, hm⟩ := bnd hm
 conv => whnf
 refine jR (σ := Unit) [10, 11, 12, 13, 14, 15] (fun _ => [(15, .bool true)]) (fun t901 => t901 = s901) ?_ ?_
 refine guard_go rfl ?_
 conv => whnf
 refine neq_err rfl ?_
 conv => whnf
 refine cS hl901 (fun g12_2 hl901 => ?_) fun g12_2 hl901 => ?_
 conv => whnf
 refine cond_t g12_2 ?_
 conv => whnf
 refine cond_t g12_2 ?_
 conv => whnf
 exact eM hl901 _
 conv => whnf
 refine cond_f g12_2 ?_
 conv => whnf
 refine eq_nil_nil rfl ?_
 conv => whnf
 refine cond_f g12_2 ?_
 conv => whnf
 exact eM hl901 _
 rintro _ rfl j901
 conv => whnf
 refine cond_go rfl ?_
 conv => whnf
 refine cond_T ?_
 conv => whnf
 exact eE hm
 rw [hq7] at p7 hm
 obtain ⟨b7_0, a7_1, c7_1, b7_2, a7_3, c7_3, m7_4, b7_5, a7_6, c7_6, a7_7, c7_7, b7_8, a7_9, c7_9, a7_10, c7_10, rfl, h7_1, h7_3, h7_6, h7_7, h7_9, h7_10, rfl⟩ := p7
 replace hm := oe_s hm
 obtain ⟨s902, hl902, hm⟩ := bnd hm
 conv => whnf
 refine jR (σ := Bool) [10, 11, 12, 13, 14, 15] (fun t902 => [(15, .bool t902)]) (fun t902 => t902 = s902) ?_ ?_
 refine guard_go rfl ?_
 conv => whnf
 refine neq_err rfl ?_
 conv => whnf
 refine cS hl902 (fun g12_2 hl902 => ?_) fun g12_2 hl902 => ?_
 conv => whnf
 refine cond_t g12_2 ?_
 conv => whnf
 refine cond_t g12_2 ?_
 conv => whnf
 exact eM hl902 _
 conv => whnf
 refine cond_f g12_2 ?_
 conv => whnf
 refine eq_ptr_nil rfl ?_
 conv => whnf
 refine cond_f g12_2 ?_
 conv => whnf
 exact eM hl902 _
 rintro t902 rfl j902
 conv => whnf
 refine cs rfl rfl hm (fun w15 hm => ?_) fun w15 hm => ?_
 conv => whnf
 exact eE hm
 conv => whnf
 refine cb hm fun x17 q17 hm => cfx (relay_Relay_Tick_ok q17 :) ?_
 rintro _ K17 _ l17 ⟨a17_0, c17_0, s17_0, b17_1, a17_2, c17_2, m17_3, b17_4, a17_5, c17_5, a17_6, c17_6, b17_7, a17_8, c17_8, a17_9, c17_9, rfl, h17_0, r17_0, h17_2, h17_5, h17_6, h17_8, h17_9, rfl⟩
 conv => whnf
 refine guard_go rfl ?_
 conv => whnf
 refine RStep.of (len_slice rfl ?_)
 conv => whnf
 refine eq_int ?_
 obtain ⟨x27, e27, hm⟩ := bnd hm
 conv => whnf
 refine cS e27 (fun g21_5 e27 => ?_) fun g21_5 e27 => ?_
 conv => whnf
 refine cond_t g21_5 ?_
 obtain ⟨x23, l23, k23, e27⟩ := ixb e27
 conv => whnf
 refine RStep.ofN (index_addr rfl rfl (hasO h17_0 k23) l23 (lt_ofE rfl l23 k23) ?_)
 conv => whnf
 refine cond_t g21_5 ?_
 conv => whnf
 refine eptr_field rfl (hasO h17_0 k23) ?_
 conv => whnf
 refine cond_t g21_5 ?_
 obtain ⟨cc25, hc25, hR25⟩ := LR.get r17_0 k23
 obtain ⟨a25_0, c25_0, a25_1, c25_1, rfl, h25_0, h25_1⟩ := hR25
 conv => whnf
 refine RStep.of (ldA (i := (0 : Int).toNat) (o := 0) r0 rfl hc25 rfl rfl ?_)
 conv => whnf
 refine cond_t g21_5 ?_
 conv => whnf
 refine eq_str ?_
 conv => whnf
 refine cond_t g21_5 ?_
 obtain ⟨x35, e35, hm⟩ := bnd hm
 conv => whnf
 refine cond_s (fun g28_5 => ?_) (fun g28_5 => ?_)
 replace e35 := ift ((si e27).symm.trans g28_5) e35
 conv => whnf
 refine cond_t g28_5 ?_
 obtain ⟨x30, l30, k30, e35⟩ := ixb e35
 conv => whnf
 refine RStep.ofN (index_addr rfl rfl (hasO h17_0 k30) l30 (lt_ofE rfl l30 k30) ?_)
 conv => whnf
 refine cond_t g28_5 ?_
 conv => whnf
 refine eptr_field rfl (hasO h17_0 k30) ?_
 conv => whnf
 refine cond_t g28_5 ?_
 conv => whnf
 refine eptr_field rfl (hasO h17_0 k30) ?_
 conv => whnf
 refine cond_t g28_5 ?_
 obtain ⟨cc33, hc33, hR33⟩ := LR.get r17_0 k30
 obtain ⟨a33_0, c33_0, a33_1, c33_1, rfl, h33_0, h33_1⟩ := hR33
 conv => whnf
 refine RStep.of (ldA (i := (0 : Int).toNat) (o := 1) r0 rfl hc33 rfl rfl ?_)
 conv => whnf
 refine cond_t g28_5 ?_
 conv => whnf
 refine eq_int ?_
 conv => whnf
 refine cond_t g28_5 ?_
 obtain ⟨x43, e43, hm⟩ := bnd hm
 conv => whnf
 refine cond_s (fun g36_5 => ?_) (fun g36_5 => ?_)
 replace e43 := ift ((si e35).symm.trans g36_5) e43
 conv => whnf
 refine cond_t g36_5 ?_
 obtain ⟨x38, l38, k38, e43⟩ := ixb e43
 conv => whnf
 refine RStep.ofN (index_addr rfl rfl (hasO h17_0 k38) l38 (lt_ofE rfl l38 k38) ?_)
 conv => whnf
 refine cond_t g36_5 ?_
 conv => whnf
 refine eptr_field rfl (hasO h17_0 k38) ?_
 conv => whnf
 refine cond_t g36_5 ?_
 conv => whnf
 refine eptr_field rfl (hasO h17_0 k38) ?_
 conv => whnf
 refine cond_t g36_5 ?_
 obtain ⟨cc41, hc41, hR41⟩ := LR.get r17_0 k38
 obtain ⟨a41_0, c41_0, a41_1, c41_1, rfl, h41_0, h41_1⟩ := hR41
 conv => whnf
 refine RStep.of (ldA (i := (0 : Int).toNat) (o := 2) r0 rfl hc41 rfl rfl ?_)
 conv => whnf
 refine cond_t g36_5 ?_
 conv => whnf
 refine eq_int ?_
 conv => whnf
 refine cond_t g36_5 ?_
 obtain ⟨x48, e48, hm⟩ := bnd hm
 conv => whnf
 refine cond_s (fun g44_5 => ?_) (fun g44_5 => ?_)
 replace e48 := ift ((si e43).symm.trans g44_5) e48
 conv => whnf
 refine cond_t g44_5 ?_
 conv => whnf
 refine cb e48 fun x46 q46 e48 => cgx (relay_Relay_Next_ok q46 :) ?_
 conv => whnf
 refine cond_t g44_5 ?_
 conv => whnf
 refine eq_int ?_
 conv => whnf
 refine cond_t g44_5 ?_
 conv => whnf
 exact bE (si e48) (eE hm)
 replace e48 := iff_ ((si e43).symm.trans g44_5) e48
 conv => whnf
 refine cond_f g44_5 ?_
 conv => whnf
 refine cond_f g44_5 ?_
 conv => whnf
 refine cond_f g44_5 ?_
 conv => whnf
 exact bE (si e48) (eE hm)
 replace e43 := iff_ ((si e35).symm.trans g36_5) e43
 conv => whnf
 refine cond_f g36_5 ?_
 conv => whnf
 refine cond_f g36_5 ?_
 conv => whnf
 refine cond_f g36_5 ?_
 conv => whnf
 refine cond_f g36_5 ?_
 conv => whnf
 refine cond_f g36_5 ?_
 conv => whnf
 refine cond_f g36_5 ?_
 obtain ⟨x48, e48, hm⟩ := bnd hm
 replace e48 := iff_ (si e43).symm e48
 conv => whnf
 refine cond_F ?_
 conv => whnf
 refine cond_F ?_
 conv => whnf
 refine cond_F ?_
 conv => whnf
 refine cond_F ?_
 conv => whnf
 exact bE (si e48) (eE hm)
 replace e35 := iff_ ((si e27).symm.trans g28_5) e35
 conv => whnf
 refine cond_f g28_5 ?_
 conv => whnf
 refine cond_f g28_5 ?_
 conv => whnf
 refine cond_f g28_5 ?_
 conv => whnf
 refine cond_f g28_5 ?_
 conv => whnf
 refine cond_f g28_5 ?_
 conv => whnf
 refine cond_f g28_5 ?_
 obtain ⟨x43, e43, hm⟩ := bnd hm
 replace e43 := iff_ (si e35).symm e43
 conv => whnf
 refine cond_F ?_
 conv => whnf
 refine cond_F ?_
 conv => whnf
 refine cond_F ?_
 conv => whnf
 refine cond_F ?_
 conv => whnf
 refine cond_F ?_
 conv => whnf
 refine cond_F ?_
 conv => whnf
 refine cond_F ?_
 obtain ⟨x48, e48, hm⟩ := bnd hm
 replace e48 := iff_ (si e43).symm e48
 conv => whnf
 refine cond_F ?_
 conv => whnf
 refine cond_F ?_
 conv => whnf
 refine cond_F ?_
 conv => whnf
 refine cond_F ?_
 conv => whnf
 exact bE (si e48) (eE hm)
 conv => whnf
 refine cond_f g21_5 ?_
 conv => whnf
 refine cond_f g21_5 ?_
 conv => whnf
 refine cond_f g21_5 ?_
 conv => whnf
 refine cond_f g21_5 ?_
 conv => whnf
 refine cond_f g21_5 ?_
 obtain ⟨x35, e35, hm⟩ := bnd hm
 replace e35 := iff_ (si e27).symm e35
 conv => whnf
 refine cond_F ?_
 conv => whnf
 refine cond_F ?_
 conv => whnf
 refine cond_F ?_
 conv => whnf
 refine cond_F ?_
 conv => whnf
 refine cond_F ?_
 conv => whnf
 refine cond_F ?_
 conv => whnf
 refine cond_F ?_
 obtain ⟨x43, e43, hm⟩ := bnd hm
 replace e43 := iff_ (si e35).symm e43
 conv => whnf
 refine cond_F ?_
 conv => whnf
 refine cond_F ?_
 conv => whnf
 refine cond_F ?_
 conv => whnf
 refine cond_F ?_
 conv => whnf
 refine cond_F ?_
 conv => whnf
 refine cond_F ?_
 conv => whnf
 refine cond_F ?_
 obtain ⟨x48, e48, hm⟩ := bnd hm
 replace e48 := iff_ (si e43).symm e48
 conv => whnf
 refine cond_F ?_
 conv => whnf
 refine cond_F ?_
 conv => whnf
 refine cond_F ?_
 conv => whnf
 refine cond_F ?_
 conv => whnf
 exact bE (si e48) (eE hm)

noncomputable def law40_Config (c : S_ref40_Config) : Option (S_relay_Config) :=
  (chk (([] : List Str).length + c.Children.length ≤ lim)).bind fun _ =>
  some (⟨c.Name, c.Parent, (([] : List Str) ++ c.Children), c.Length, c.Ppm, c.Window⟩ : S_relay_Config)
set_option maxHeartbeats 8000000 in
theorem law40_Config_ok {c : S_ref40_Config} {ap0_0 : Option Addr} {cp0_0 : Nat} {K : Hp} {r : S_relay_Config}
    (hm : law40_Config c = some r) (hp0_0 : RdC eS K ap0_0 cp0_0 1 c.Children) :
    Fn Try.prog 6 [.agg #[str c.Name, str c.Parent, .slice ap0_0 c.Children.length cp0_0, .int .i64 c.Length, .int .i64 c.Ppm, .int .i64 c.Window]] K [] (fun v K' H' => ∃ ar_0 : Option Addr, ∃ cr_0 : Nat, v = .agg #[str r.Name, str r.Parent, .slice ar_0 r.Children.length cr_0, .int .i64 r.Length, .int .i64 r.Ppm, .int .i64 r.Window] ∧ (0 < r.Children.length → Has ar_0) ∧ H' = [OwnL eS ar_0 9 1 cr_0 r.Children]) := by
 refine Fn.enter Try.func6 Try.call6 rfl fun F => ?_
 unfold law40_Config at hm
 conv => whnf
 refine box_rule ?_
 intro b1
 conv => whnf
 refine alloc_rule rfl ?_
 intro b2
 conv => whnf
 refine draw_go ⟨⟨[], false⟩, _, [(_, _)], []⟩ (by kernel_rfl) ⟨Hp.Le.refl _, (ConvH.of (.cons r1 .nil)), ci0⟩ ?_
 conv => whnf
 refine field_addr rfl ?_
 conv => whnf
 refine load1_l m0 rfl rfl ?_
 conv => whnf
 refine field_addr rfl ?_
 conv => whnf
 refine load1_l m0 rfl rfl ?_
 conv => whnf
 refine bsO (len := 0) (enc := eS) (l := ([] : List Str)) (cl := []) elT22 rfl rfl (fun _ _ => rfl) rfl rfl rfl ?_ fun b7 => ?_
 · conv => whnf
   first | done | rfl
 conv => whnf
 refine qk (ConvH.of (.cons r2 .nil)) ?_
 conv => whnf
 refine field_addr rfl ?_
 conv => whnf
 refine load1_l m0 rfl rfl ?_
 obtain ⟨h10, hm⟩ := chkb hm
 conv => whnf
 refine apE rfl r0 elT22 (src_k rfl hp0_0.rd rfl) h10 ?_
 intro a10 c10 o10
 conv => whnf
 refine qk (ConvH.of (.cons r2 .nil)) ?_
 conv => whnf
 refine field_addr rfl ?_
 conv => whnf
 refine load1_l m0 rfl rfl ?_
 conv => whnf
 refine field_addr rfl ?_
 conv => whnf
 refine load1_l m0 rfl rfl ?_
 conv => whnf
 refine field_addr rfl ?_
 conv => whnf
 refine load1_l m0 rfl rfl ?_
 conv => whnf
 refine build_struct rfl rfl ?_
 conv => whnf
 refine cond_T ?_
 conv => whnf
 refine cond_T ?_
 conv => whnf
 refine cond_T ?_
 conv => whnf
 refine cond_T ?_
 conv => whnf
 refine cond_T ?_
 conv => whnf
 refine cond_T ?_
 conv => whnf
 refine store_rule r1 rfl ?_
 conv => whnf
 refine ⟨rfl, rfl, (Nat.le_of_ble_eq_true rfl), ?_⟩
 conv => whnf
 refine qk (ConvH.of (.cons r2 .nil)) ?_
 conv => whnf
 refine RStep.of (loadn_s r0 rfl (Nat.le_of_ble_eq_true rfl) ?_)
 conv => whnf
 exact eE hm

noncomputable def ref40_Code_L2 (y0_0 : Int) (c : S_ref40_Config) : Nat → Int → Option (Fl (Int) (Int))
  | 0, _ => none
  | xs2 + 1, y2_0 =>
    if decide (y2_0 < y0_0) then
    (ix (([c.Name] ++ c.Children) ++ [c.Parent]) y2_0).bind fun x34 =>
    (ix (([c.Name] ++ c.Children) ++ [c.Parent]) y0_0).bind fun x38 =>
    if decide (x34 = x38) then
    some (Fl.ret 8)
    else
    (chk (InI (y2_0 + 1))).bind fun _ =>
    ref40_Code_L2 y0_0 c xs2 (y2_0 + 1)
    else
    some (Fl.go y2_0)
noncomputable def ref40_Code_L0 (c : S_ref40_Config) (n : Nat) : Nat → Int → Option (Fl (Int) (Int))
  | 0, _ => none
  | xs0 + 1, y0_0 =>
    if decide (y0_0 < (((([c.Name] ++ c.Children) ++ [c.Parent]).length) : Int)) then
    (ref40_Code_L2 y0_0 c n 0).bind fun s2 => s2.el (fun r => some (Fl.ret r)) fun t2 =>
    (ix (([c.Name] ++ c.Children) ++ [c.Parent]) y0_0).bind fun x43 =>
    if decide (x43 = ([] : Str)) then
    some (Fl.ret 8)
    else
    (chk (InI (y0_0 + 1))).bind fun _ =>
    ref40_Code_L0 c n xs0 (y0_0 + 1)
    else
    some (Fl.go y0_0)
noncomputable def ref40_Code_L2b (y0_0 : Int) (c : S_ref40_Config) : Nat → Int → Option (Fl (Int) (Int))
  | 0, _ => none
  | xs2 + 1, y2_0 =>
    if decide (y2_0 < y0_0) then
    (ix ([c.Name] ++ c.Children) y2_0).bind fun x34 =>
    (ix ([c.Name] ++ c.Children) y0_0).bind fun x38 =>
    if decide (x34 = x38) then
    some (Fl.ret 8)
    else
    (chk (InI (y2_0 + 1))).bind fun _ =>
    ref40_Code_L2b y0_0 c xs2 (y2_0 + 1)
    else
    some (Fl.go y2_0)
noncomputable def ref40_Code_L0b (c : S_ref40_Config) (n : Nat) : Nat → Int → Option (Fl (Int) (Int))
  | 0, _ => none
  | xs0 + 1, y0_0 =>
    if decide (y0_0 < ((([c.Name] ++ c.Children).length) : Int)) then
    (ref40_Code_L2b y0_0 c n 0).bind fun s2 => s2.el (fun r => some (Fl.ret r)) fun t2 =>
    (ix ([c.Name] ++ c.Children) y0_0).bind fun x43 =>
    if decide (x43 = ([] : Str)) then
    some (Fl.ret 8)
    else
    (chk (InI (y0_0 + 1))).bind fun _ =>
    ref40_Code_L0b c n xs0 (y0_0 + 1)
    else
    some (Fl.go y0_0)
noncomputable def ref40_Code (n : Nat) (c : S_ref40_Config) (root : Bool) : Option (Int) :=
  (chk ([c.Name].length + c.Children.length ≤ lim)).bind fun _ =>
  if (!root) then
  (chk (([c.Name] ++ c.Children).length + [c.Parent].length ≤ lim)).bind fun _ =>
  (ref40_Code_L0 c n n 0).bind fun s0 => s0.el some fun t0 =>
  if decide ((c.Children.length : Int) > 64) then
  some 8
  else
  if (((decide (c.Length < 4) || decide (c.Length > 1073741824)) || decide (c.Window < 1)) || decide (c.Window > 1024)) then
  some 1
  else
  some 0
  else
  (ref40_Code_L0b c n n 0).bind fun s0 => s0.el some fun t0 =>
  if decide ((c.Children.length : Int) > 64) then
  some 8
  else
  if (((decide (c.Length < 4) || decide (c.Length > 1073741824)) || decide (c.Window < 1)) || decide (c.Window > 1024)) then
  some 1
  else
  some 0
set_option maxHeartbeats 8000000 in
theorem ref40_Code_ok {n : Nat} {c : S_ref40_Config} {root : Bool} {ap0_0 : Option Addr} {cp0_0 : Nat} {K : Hp} {r : Int}
    (hm : ref40_Code n c root = some r) (hp0_0 : RdC eS K ap0_0 cp0_0 1 c.Children) :
    Fn Try.prog 7 [.agg #[str c.Name, str c.Parent, .slice ap0_0 c.Children.length cp0_0, .int .i64 c.Length, .int .i64 c.Ppm, .int .i64 c.Window], .bool root] K [] (fun v K' H' => v = .int .i64 r ∧ H' = []) := by
 refine Fn.enter Try.func7 Try.call7 rfl fun F => ?_
 unfold ref40_Code at hm
 conv => whnf
 refine box_rule ?_
 intro b2
 conv => whnf
 refine field_addr rfl ?_
 conv => whnf
 refine RStep.of (load1_s r0 rfl rfl ?_)
 conv => whnf
 refine bsO (len := 1) (enc := eS) (l := [c.Name]) (cl := [str c.Name]) elT22 rfl rfl (fun _ _ => rfl) rfl rfl rfl ?_ fun b10 => ?_
 · conv => whnf
   refine cond_T ?_
   conv => whnf
   first | done | rfl
 conv => whnf
 refine field_addr rfl ?_
 conv => whnf
 refine RStep.of (load1_s r1 rfl rfl ?_)
 obtain ⟨h13, hm⟩ := chkb hm
 conv => whnf
 refine apE rfl r0 elT22 (src_k rfl hp0_0.rd rfl) h13 ?_
 intro a13 c13 o13
 conv => whnf
 refine un_not ?_
 conv => whnf
 refine cs rfl rfl hm (fun w15 hm => ?_) fun w15 hm => ?_
 conv => whnf
 refine field_addr rfl ?_
 conv => whnf
 refine RStep.of (load1_s r1 rfl rfl ?_)
 conv => whnf
 refine bsO (len := 1) (enc := eS) (l := [c.Parent]) (cl := [str c.Parent]) elT22 rfl rfl (fun _ _ => rfl) rfl rfl rfl ?_ fun b19 => ?_
 · conv => whnf
   refine cond_T ?_
   conv => whnf
   first | done | rfl
 obtain ⟨h20, hm⟩ := chkb hm
 conv => whnf
 refine apE rfl r1 elT22 (src_own' rfl r0 rfl (fun _ => rfl) (fun _ => rfl)) h20 ?_
 intro a20 c20 o20
 obtain ⟨s0, hl0, hm⟩ := bnd hm
 conv => whnf
 refine lD (σ := (Int)) [4, 6, 7, 21, 22, 23, 24, 25, 26, 27, 28, 29, 30, 31, 32, 33, 34, 35, 36, 37, 38, 39, 40, 41, 42, 43, 44, 45] [0, 1, 2, 3] (fun _ => []) (fun t0 => [(6, .int .i64 t0)]) (fun _ => []) (fun _ => True) (fun i0 t0 => ref40_Code_L0 c n i0 t0 = some s0) (fun t0 => s0 = Fl.go t0) (fun i0 => i0) n _ hl0 (And.intro qe (And.intro ?_ ?_))
 clear hl0
 rintro i0 y0_0 _ hl0 j0
 conv at hl0 => whnf
 cases i0 with
 | zero => rw [ref40_Code_L0.eq_1] at hl0; cases hl0
 | succ i0 =>
  rw [ref40_Code_L0.eq_2] at hl0
  conv => whnf
  refine RStep.of (len_slice rfl ?_)
  conv => whnf
  refine cs rfl rfl hl0 (fun w24 hl0 => ?_) fun w24 hl0 => ?_
  conv => whnf
  refine block_go rfl ?_
  obtain ⟨s2, hl2, hl0⟩ := bnd hl0
  conv => whnf
  refine lD (σ := (Int)) [4, 7, 27, 28, 29, 30, 31, 32, 33, 34, 35, 36, 37, 38, 39, 40] [0, 1, 2, 3] (fun _ => []) (fun t2 => [(7, .int .i64 t2)]) (fun _ => []) (fun _ => True) (fun i2 t2 => ref40_Code_L2 y0_0 c i2 t2 = some s2) (fun t2 => s2 = Fl.go t2) (fun i2 => i2) n _ hl2 (And.intro qe (And.intro ?_ ?_))
  clear hl2
  rintro i2 y2_0 _ hl2 j2
  conv at hl2 => whnf
  cases i2 with
  | zero => rw [ref40_Code_L2.eq_1] at hl2; cases hl2
  | succ i2 =>
   rw [ref40_Code_L2.eq_2] at hl2
   conv => whnf
   refine cs rfl rfl hl2 (fun w29 hl2 => ?_) fun w29 hl2 => ?_
   conv => whnf
   refine block_go rfl ?_
   conv => whnf
   refine draw_go ⟨⟨[], true⟩, _, [], []⟩ (by kernel_rfl) ⟨Hp.Le.refl _, (ConvH.of .nil), ci0⟩ ?_
   obtain ⟨x34, l34, k34, hl2⟩ := ixb hl2
   conv => whnf
   refine index_addr rfl rfl (hasO o20 k34) l34 (lt_ofE rfl l34 k34) ?_
   conv => whnf
   refine ld_own (i := (y2_0).toNat) (o := 0) r0 rfl k34 rfl rfl ?_
   obtain ⟨x38, l38, k38, hl2⟩ := ixb hl2
   conv => whnf
   refine index_addr rfl rfl (hasO o20 k38) l38 (lt_ofE rfl l38 k38) ?_
   conv => whnf
   refine ld_own (i := (y0_0).toNat) (o := 0) r0 rfl k38 rfl rfl ?_
   conv => whnf
   refine eq_str ?_
   conv => whnf
   refine cs rfl rfl hl2 (fun w40 hl2 => ?_) fun w40 hl2 => ?_
   conv => whnf
   exact eE (er (er hl2 hl0 :) hm)
   obtain ⟨h31, hl2⟩ := chkb hl2
   conv => whnf
   refine int_in h31 ?_
   conv => whnf
   exact eR hl2 (_, _)
   conv => whnf
   refine cond_T ?_
   conv => whnf
   exact eM hl2 _
  rintro t2 _ rfl j2
  replace hl0 := elg hl0
  obtain ⟨x43, l43, k43, hl0⟩ := ixb hl0
  conv => whnf
  refine RStep.ofN (index_addr rfl rfl (hasO o20 k43) l43 (lt_ofE rfl l43 k43) ?_)
  conv => whnf
  refine RStep.of (ld_own (i := (y0_0).toNat) (o := 0) r0 rfl k43 rfl rfl ?_)
  conv => whnf
  refine eq_str ?_
  conv => whnf
  refine cs rfl rfl hl0 (fun w45 hl0 => ?_) fun w45 hl0 => ?_
  conv => whnf
  exact eE (er hl0 hm)
  obtain ⟨h26, hl0⟩ := chkb hl0
  conv => whnf
  refine int_in h26 ?_
  conv => whnf
  exact eR hl0 (_, _)
  conv => whnf
  refine cond_T ?_
  conv => whnf
  exact eM hl0 _
 rintro t0 _ rfl j0
 replace hm := elg hm
 conv => whnf
 refine field_addr rfl ?_
 conv => whnf
 refine RStep.of (load1_s r2 rfl rfl ?_)
 conv => whnf
 refine RStep.of (len_slice rfl ?_)
 conv => whnf
 refine cs rfl rfl hm (fun w49 hm => ?_) fun w49 hm => ?_
 conv => whnf
 exact eE hm
 conv => whnf
 refine guard_go rfl ?_
 conv => whnf
 refine field_addr rfl ?_
 conv => whnf
 refine RStep.of (load1_s r2 rfl rfl ?_)
 conv => whnf
 refine cond_s (fun g53_16 => ?_) (fun g53_16 => ?_)
 conv => whnf
 refine cond_t g53_16 ?_
 conv => whnf
 refine cond_t g53_16 ?_
 conv => whnf
 refine cond_t g53_16 ?_
 conv => whnf
 refine cond_T ?_
 conv => whnf
 refine cond_T ?_
 conv => whnf
 refine cond_T ?_
 conv => whnf
 refine cond_T ?_
 conv => whnf
 refine cond_T ?_
 conv => whnf
 refine cond_T ?_
 conv => whnf
 refine cond_T ?_
 conv => whnf
 refine cond_T ?_
 conv => whnf
 refine cond_go rfl ?_
 conv => whnf
 refine cond_T ?_
 replace hm := ift (or_t (or_t (or_t g53_16))) hm
 conv => whnf
 exact eE hm
 conv => whnf
 refine field_addr rfl ?_
 conv => whnf
 refine cond_f g53_16 ?_
 conv => whnf
 refine RStep.of (load1_s r2 rfl rfl ?_)
 conv => whnf
 refine cond_f g53_16 ?_
 conv => whnf
 refine cond_f g53_16 ?_
 conv => whnf
 refine cond_s (fun g58_16 => ?_) (fun g58_16 => ?_)
 conv => whnf
 refine cond_t g58_16 ?_
 conv => whnf
 refine cond_t g58_16 ?_
 conv => whnf
 refine cond_t g58_16 ?_
 conv => whnf
 refine cond_T ?_
 conv => whnf
 refine cond_T ?_
 conv => whnf
 refine cond_T ?_
 conv => whnf
 refine cond_T ?_
 conv => whnf
 refine cond_go rfl ?_
 conv => whnf
 refine cond_T ?_
 replace hm := ift (or_t (or_t (or_u g53_16 g58_16))) hm
 conv => whnf
 exact eE hm
 conv => whnf
 refine field_addr rfl ?_
 conv => whnf
 refine cond_f g58_16 ?_
 conv => whnf
 refine RStep.of (load1_s r2 rfl rfl ?_)
 conv => whnf
 refine cond_f g58_16 ?_
 conv => whnf
 refine cond_f g58_16 ?_
 conv => whnf
 refine cond_s (fun g63_16 => ?_) (fun g63_16 => ?_)
 conv => whnf
 refine cond_t g63_16 ?_
 conv => whnf
 refine cond_t g63_16 ?_
 conv => whnf
 refine cond_t g63_16 ?_
 conv => whnf
 refine cond_go rfl ?_
 conv => whnf
 refine cond_T ?_
 replace hm := ift (or_t (or_u (or_f g53_16 g58_16) g63_16)) hm
 conv => whnf
 exact eE hm
 conv => whnf
 refine field_addr rfl ?_
 conv => whnf
 refine cond_f g63_16 ?_
 conv => whnf
 refine RStep.of (load1_s r2 rfl rfl ?_)
 conv => whnf
 refine cond_f g63_16 ?_
 conv => whnf
 refine cond_f g63_16 ?_
 conv => whnf
 refine cond_go rfl ?_
 conv => whnf
 refine cond_s (fun w67 => ?_) (fun w67 => ?_)
 replace hm := ift (or_u (or_f (or_f g53_16 g58_16) g63_16) w67) hm
 conv => whnf
 exact eE hm
 replace hm := iff_ (or_f (or_f (or_f g53_16 g58_16) g63_16) w67) hm
 conv => whnf
 exact eE hm
 obtain ⟨s0, hl0, hm⟩ := bnd hm
 conv => whnf
 refine lD (σ := (Int)) [4, 6, 7, 21, 22, 23, 24, 25, 26, 27, 28, 29, 30, 31, 32, 33, 34, 35, 36, 37, 38, 39, 40, 41, 42, 43, 44, 45] [0, 1, 2] (fun _ => []) (fun t0 => [(6, .int .i64 t0)]) (fun _ => []) (fun _ => True) (fun i0 t0 => ref40_Code_L0b c n i0 t0 = some s0) (fun t0 => s0 = Fl.go t0) (fun i0 => i0) n _ hl0 (And.intro qe (And.intro ?_ ?_))
 clear hl0
 rintro i0 y0_0 _ hl0 j0
 conv at hl0 => whnf
 cases i0 with
 | zero => rw [ref40_Code_L0b.eq_1] at hl0; cases hl0
 | succ i0 =>
  rw [ref40_Code_L0b.eq_2] at hl0
  conv => whnf
  refine RStep.of (len_slice rfl ?_)
  conv => whnf
  refine cs rfl rfl hl0 (fun w24 hl0 => ?_) fun w24 hl0 => ?_
  conv => whnf
  refine block_go rfl ?_
  obtain ⟨s2, hl2, hl0⟩ := bnd hl0
  conv => whnf
  refine lD (σ := (Int)) [4, 7, 27, 28, 29, 30, 31, 32, 33, 34, 35, 36, 37, 38, 39, 40] [0, 1, 2] (fun _ => []) (fun t2 => [(7, .int .i64 t2)]) (fun _ => []) (fun _ => True) (fun i2 t2 => ref40_Code_L2b y0_0 c i2 t2 = some s2) (fun t2 => s2 = Fl.go t2) (fun i2 => i2) n _ hl2 (And.intro qe (And.intro ?_ ?_))
  clear hl2
  rintro i2 y2_0 _ hl2 j2
  conv at hl2 => whnf
  cases i2 with
  | zero => rw [ref40_Code_L2b.eq_1] at hl2; cases hl2
  | succ i2 =>
   rw [ref40_Code_L2b.eq_2] at hl2
   conv => whnf
   refine cs rfl rfl hl2 (fun w29 hl2 => ?_) fun w29 hl2 => ?_
   conv => whnf
   refine block_go rfl ?_
   conv => whnf
   refine draw_go ⟨⟨[], true⟩, _, [], []⟩ (by kernel_rfl) ⟨Hp.Le.refl _, (ConvH.of .nil), ci0⟩ ?_
   obtain ⟨x34, l34, k34, hl2⟩ := ixb hl2
   conv => whnf
   refine index_addr rfl rfl (hasO o13 k34) l34 (lt_ofE rfl l34 k34) ?_
   conv => whnf
   refine ld_own (i := (y2_0).toNat) (o := 0) r0 rfl k34 rfl rfl ?_
   obtain ⟨x38, l38, k38, hl2⟩ := ixb hl2
   conv => whnf
   refine index_addr rfl rfl (hasO o13 k38) l38 (lt_ofE rfl l38 k38) ?_
   conv => whnf
   refine ld_own (i := (y0_0).toNat) (o := 0) r0 rfl k38 rfl rfl ?_
   conv => whnf
   refine eq_str ?_
   conv => whnf
   refine cs rfl rfl hl2 (fun w40 hl2 => ?_) fun w40 hl2 => ?_
   conv => whnf
   exact eE (er (er hl2 hl0 :) hm)
   obtain ⟨h31, hl2⟩ := chkb hl2
   conv => whnf
   refine int_in h31 ?_
   conv => whnf
   exact eR hl2 (_, _)
   conv => whnf
   refine cond_T ?_
   conv => whnf
   exact eM hl2 _
  rintro t2 _ rfl j2
  replace hl0 := elg hl0
  obtain ⟨x43, l43, k43, hl0⟩ := ixb hl0
  conv => whnf
  refine RStep.ofN (index_addr rfl rfl (hasO o13 k43) l43 (lt_ofE rfl l43 k43) ?_)
  conv => whnf
  refine RStep.of (ld_own (i := (y0_0).toNat) (o := 0) r0 rfl k43 rfl rfl ?_)
  conv => whnf
  refine eq_str ?_
  conv => whnf
  refine cs rfl rfl hl0 (fun w45 hl0 => ?_) fun w45 hl0 => ?_
  conv => whnf
  exact eE (er hl0 hm)
  obtain ⟨h26, hl0⟩ := chkb hl0
  conv => whnf
  refine int_in h26 ?_
  conv => whnf
  exact eR hl0 (_, _)
  conv => whnf
  refine cond_T ?_
  conv => whnf
  exact eM hl0 _
 rintro t0 _ rfl j0
 replace hm := elg hm
 conv => whnf
 refine field_addr rfl ?_
 conv => whnf
 refine RStep.of (load1_s r1 rfl rfl ?_)
 conv => whnf
 refine RStep.of (len_slice rfl ?_)
 conv => whnf
 refine cs rfl rfl hm (fun w49 hm => ?_) fun w49 hm => ?_
 conv => whnf
 exact eE hm
 conv => whnf
 refine guard_go rfl ?_
 conv => whnf
 refine field_addr rfl ?_
 conv => whnf
 refine RStep.of (load1_s r1 rfl rfl ?_)
 conv => whnf
 refine cond_s (fun g53_16 => ?_) (fun g53_16 => ?_)
 conv => whnf
 refine cond_t g53_16 ?_
 conv => whnf
 refine cond_t g53_16 ?_
 conv => whnf
 refine cond_t g53_16 ?_
 conv => whnf
 refine cond_T ?_
 conv => whnf
 refine cond_T ?_
 conv => whnf
 refine cond_T ?_
 conv => whnf
 refine cond_T ?_
 conv => whnf
 refine cond_T ?_
 conv => whnf
 refine cond_T ?_
 conv => whnf
 refine cond_T ?_
 conv => whnf
 refine cond_T ?_
 conv => whnf
 refine cond_go rfl ?_
 conv => whnf
 refine cond_T ?_
 replace hm := ift (or_t (or_t (or_t g53_16))) hm
 conv => whnf
 exact eE hm
 conv => whnf
 refine field_addr rfl ?_
 conv => whnf
 refine cond_f g53_16 ?_
 conv => whnf
 refine RStep.of (load1_s r1 rfl rfl ?_)
 conv => whnf
 refine cond_f g53_16 ?_
 conv => whnf
 refine cond_f g53_16 ?_
 conv => whnf
 refine cond_s (fun g58_16 => ?_) (fun g58_16 => ?_)
 conv => whnf
 refine cond_t g58_16 ?_
 conv => whnf
 refine cond_t g58_16 ?_
 conv => whnf
 refine cond_t g58_16 ?_
 conv => whnf
 refine cond_T ?_
 conv => whnf
 refine cond_T ?_
 conv => whnf
 refine cond_T ?_
 conv => whnf
 refine cond_T ?_
 conv => whnf
 refine cond_go rfl ?_
 conv => whnf
 refine cond_T ?_
 replace hm := ift (or_t (or_t (or_u g53_16 g58_16))) hm
 conv => whnf
 exact eE hm
 conv => whnf
 refine field_addr rfl ?_
 conv => whnf
 refine cond_f g58_16 ?_
 conv => whnf
 refine RStep.of (load1_s r1 rfl rfl ?_)
 conv => whnf
 refine cond_f g58_16 ?_
 conv => whnf
 refine cond_f g58_16 ?_
 conv => whnf
 refine cond_s (fun g63_16 => ?_) (fun g63_16 => ?_)
 conv => whnf
 refine cond_t g63_16 ?_
 conv => whnf
 refine cond_t g63_16 ?_
 conv => whnf
 refine cond_t g63_16 ?_
 conv => whnf
 refine cond_go rfl ?_
 conv => whnf
 refine cond_T ?_
 replace hm := ift (or_t (or_u (or_f g53_16 g58_16) g63_16)) hm
 conv => whnf
 exact eE hm
 conv => whnf
 refine field_addr rfl ?_
 conv => whnf
 refine cond_f g63_16 ?_
 conv => whnf
 refine RStep.of (load1_s r1 rfl rfl ?_)
 conv => whnf
 refine cond_f g63_16 ?_
 conv => whnf
 refine cond_f g63_16 ?_
 conv => whnf
 refine cond_go rfl ?_
 conv => whnf
 refine cond_s (fun w67 => ?_) (fun w67 => ?_)
 replace hm := ift (or_u (or_f (or_f g53_16 g58_16) g63_16) w67) hm
 conv => whnf
 exact eE hm
 replace hm := iff_ (or_f (or_f (or_f g53_16 g58_16) g63_16) w67) hm
 conv => whnf
 exact eE hm

noncomputable def base_Num (e : Err) : Option (Int) :=
  if e.isNone then
  some 0
  else
  if (!e.isSome) then
  some (-1)
  else
  some (e.getD 0)
set_option maxHeartbeats 8000000 in
theorem base_Num_ok {e : Err} {K : Hp} {r : Int}
    (hm : base_Num e = some r)  :
    Fn Try.prog 8 [errV 47 e] K [] (fun v K' H' => v = .int .i64 r ∧ H' = []) := by
 refine Fn.enter Try.func8 Try.call8 rfl fun F => ?_
 unfold base_Num at hm
 conv => whnf
 refine eq_err rfl ?_
 conv => whnf
 refine cs rfl rfl hm (fun w6 hm => ?_) fun w6 hm => ?_
 conv => whnf
 exact eE hm
 conv => whnf
 refine asrt rfl rfl rfl ?_
 conv => whnf
 refine un_not ?_
 conv => whnf
 refine cs rfl rfl hm (fun w13 hm => ?_) fun w13 hm => ?_
 conv => whnf
 exact eE hm
 conv => whnf
 exact eE hm

noncomputable def law40_RelayMakes (n : Nat) (c : S_ref40_Config) : Option (Bool) :=
  (((law40_awake n).bind fun x6 =>
  some ((!x6) || decide ((c.Children.length : Int) > 200))) : Option (Bool)).bind fun t901 =>
  if t901 then
  (law40_awake n).bind fun x14 =>
  some x14
  else
  (law40_Config c).bind fun x17 =>
  (relay_New x17).bind fun x18 =>
  Option.elim x18.1 (
  (ref40_Code n c false).bind fun x22 =>
  (base_Num x18.2).bind fun x24 =>
  some (decide (x24 = x22) && (true == (decide (x22 ≠ 0)))))
   fun o18 =>
  (ref40_Code n c false).bind fun x22 =>
  (base_Num x18.2).bind fun x24 =>
  some (decide (x24 = x22) && (false == (decide (x22 ≠ 0))))
set_option maxHeartbeats 8000000 in
theorem law40_RelayMakes_ok {n : Nat} {c : S_ref40_Config} {ap0_0 : Option Addr} {cp0_0 : Nat} {K : Hp} {r : Bool}
    (hm : law40_RelayMakes n c = some r) (hp0_0 : RdC eS K ap0_0 cp0_0 1 c.Children) :
    Fn Try.prog 3 [.agg #[str c.Name, str c.Parent, .slice ap0_0 c.Children.length cp0_0, .int .i64 c.Length, .int .i64 c.Ppm, .int .i64 c.Window]] K [] (fun v K' H' => v = .bool r ∧ H' = []) := by
 refine Fn.enter Try.func3 Try.call3 rfl fun F => ?_
 unfold law40_RelayMakes at hm
 conv => whnf
 refine box_rule ?_
 intro b1
 obtain ⟨s901, hl901, hm⟩ := bnd hm
 conv => whnf
 refine jR (σ := Bool) [6, 7, 8, 9, 10, 11, 12, 13] (fun t901 => [(13, .bool t901)]) (fun t901 => t901 = s901) ?_ ?_
 refine guard_go rfl ?_
 conv => whnf
 refine cb hl901 fun x6 q6 hl901 => cg0 (law40_awake_ok q6 :) ?_
 conv => whnf
 refine un_not ?_
 conv => whnf
 refine cond_s (fun g8_1 => ?_) (fun g8_1 => ?_)
 conv => whnf
 refine cond_t g8_1 ?_
 conv => whnf
 refine cond_t g8_1 ?_
 conv => whnf
 refine cond_t g8_1 ?_
 conv => whnf
 refine cond_t g8_1 ?_
 conv => whnf
 exact eMq hl901 _ ⟨bq (((or_t (not_t (ni_t g8_1)))).symm), trivial⟩
 conv => whnf
 refine field_addr rfl ?_
 conv => whnf
 refine cond_f g8_1 ?_
 conv => whnf
 refine RStep.of (load1_s r0 rfl rfl ?_)
 conv => whnf
 refine cond_f g8_1 ?_
 conv => whnf
 refine RStep.of (len_slice rfl ?_)
 conv => whnf
 refine cond_f g8_1 ?_
 conv => whnf
 refine cond_f g8_1 ?_
 conv => whnf
 exact eMq hl901 _ ⟨bq (or_e (b := decide ((c.Children.length : Int) > 200)) (not_f (ni_f g8_1))), trivial⟩
 rintro t901 rfl j901
 conv => whnf
 refine cs rfl rfl hm (fun w13 hm => ?_) fun w13 hm => ?_
 conv => whnf
 refine cb hm fun x14 q14 hm => cg0 (law40_awake_ok q14 :) ?_
 conv => whnf
 exact eE hm
 conv => whnf
 refine RStep.of (loadn_s r0 rfl (Nat.le_of_ble_eq_true rfl) ?_)
 conv => whnf
 refine cb hm fun x17 q17 hm => ckx (law40_Config_ok q17 :) ?_
 rintro _ _ _ ⟨a17_0, c17_0, rfl, h17_0, rfl⟩
 conv => whnf
 refine fF Try.call5 r0 fun Kf18_0_0 lf18_0_0 ff18_0_0 => ?_
 refine cb hm fun x18 q18 hm => cfx (relay_New_ok q18 :) ?_
 rintro v18 K18 H18 l18 p18
 rcases hq18 : x18.1 with _ | o18
 rw [hq18] at p18 hm
 obtain ⟨rfl, rfl⟩ := p18
 replace hm := oe_n hm
 conv => whnf
 refine RStep.of (loadn_s r0 rfl (Nat.le_of_ble_eq_true rfl) ?_)
 conv => whnf
 refine cb hm fun x22 q22 hm => cgx (ref40_Code_ok q22 :) ?_
 conv => whnf
 refine guard_go rfl ?_
 conv => whnf
 refine cb hm fun x24 q24 hm => cg0 (base_Num_ok q24 :) ?_
 conv => whnf
 refine eq_int ?_
 conv => whnf
 refine cond_s (fun g27_5 => ?_) (fun g27_5 => ?_)
 conv => whnf
 refine cond_t g27_5 ?_
 conv => whnf
 refine eq_nil_nil rfl ?_
 conv => whnf
 refine cond_t g27_5 ?_
 conv => whnf
 refine cond_t g27_5 ?_
 conv => whnf
 refine neq_int ?_
 conv => whnf
 refine cond_t g27_5 ?_
 conv => whnf
 refine eq_bool rfl ?_
 conv => whnf
 refine cond_t g27_5 ?_
 conv => whnf
 exact bE (and_e (b := (true == (decide (x22 ≠ 0)))) g27_5) (eE hm)
 conv => whnf
 refine cond_f g27_5 ?_
 conv => whnf
 refine cond_f g27_5 ?_
 conv => whnf
 refine cond_f g27_5 ?_
 conv => whnf
 refine cond_f g27_5 ?_
 conv => whnf
 refine cond_f g27_5 ?_
 conv => whnf
 exact bE (((and_f g27_5)).symm) (eE hm)
 rw [hq18] at p18 hm
 obtain ⟨b18_0, a18_1, c18_1, b18_2, a18_3, c18_3, m18_4, b18_5, a18_6, c18_6, a18_7, c18_7, b18_8, a18_9, c18_9, a18_10, c18_10, rfl, h18_1, h18_3, h18_6, h18_7, h18_9, h18_10, rfl⟩ := p18
 replace hm := oe_s hm
 conv => whnf
 refine RStep.of (loadn_s r10 rfl (Nat.le_of_ble_eq_true rfl) ?_)
 conv => whnf
 refine cb hm fun x22 q22 hm => cgx (ref40_Code_ok q22 :) ?_
 conv => whnf
 refine guard_go rfl ?_
 conv => whnf
 refine cb hm fun x24 q24 hm => cg0 (base_Num_ok q24 :) ?_
 conv => whnf
 refine eq_int ?_
 conv => whnf
 refine cond_s (fun g27_5 => ?_) (fun g27_5 => ?_)
 conv => whnf
 refine cond_t g27_5 ?_
 conv => whnf
 refine eq_ptr_nil rfl ?_
 conv => whnf
 refine cond_t g27_5 ?_
 conv => whnf
 refine cond_t g27_5 ?_
 conv => whnf
 refine neq_int ?_
 conv => whnf
 refine cond_t g27_5 ?_
 conv => whnf
 refine eq_bool rfl ?_
 conv => whnf
 refine cond_t g27_5 ?_
 conv => whnf
 exact bE (and_e (b := (false == (decide (x22 ≠ 0)))) g27_5) (eE hm)
 conv => whnf
 refine cond_f g27_5 ?_
 conv => whnf
 refine cond_f g27_5 ?_
 conv => whnf
 refine cond_f g27_5 ?_
 conv => whnf
 refine cond_f g27_5 ?_
 conv => whnf
 refine cond_f g27_5 ?_
 conv => whnf
 exact bE (((and_f g27_5)).symm) (eE hm)
