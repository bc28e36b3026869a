/- Functions of the program: mirrors, and that a call returns what the mirror says. Printed by gen.py. -/
import Derived.Test.YtmpdebfckeahmaaGreatDoorShelf
import Derived.Test.YtmpdebfckeahmaaGreatDoorLS
import Derived.KernelRfl
import Derived.Test.YtmpdebfckeahmaaGreatDoorProg
set_option linter.unusedVariables false
set_option linter.unusedSimpArgs false
open Go Go.SL Go.Proofs
set_option maxRecDepth 1000000
def Jm : List Str := [[109, 101, 116, 104, 111, 100], [104, 111, 115, 116], [112, 97, 116, 104], [113, 117, 101, 114, 121]]
def Jr : List Str := [[104, 101, 97, 100, 101, 114], [104, 97, 115], [97, 114, 103], [108, 101, 110], [108, 111, 119, 101, 114], [112, 97, 114, 116], [116, 101, 120, 116], [110, 117, 109, 98, 101, 114]]
def Jn : List Str := [[43], [45], [42], [61, 61], [33, 61], [60], [60, 61], [115, 116, 97, 114, 116, 115], [101, 110, 100, 115], [99, 111, 110, 116, 97, 105, 110, 115]]
structure JD where
  f0 : Int
  f1 : Int
abbrev JD.enc (x : JD) : List Go.Value := [.int .u32 x.f0, .int .u32 x.f1]
structure Je where
  Op : Int
  N : Int
  S : Str
abbrev Je.enc (x : Je) : List Go.Value := [.int .i64 x.Op, .int .i64 x.N, str x.S]
structure Jg where
  Name : Str
  Value : Str
abbrev Jg.enc (x : Jg) : List Go.Value := [str x.Name, str x.Value]
structure Jt where
  Method : Str
  Host : Str
  Path : Str
  Query : Str
  Fields : (List Jg)
def Jt.R : Rp Jt := fun K cs x => ∃ a_0 : Option Addr, ∃ c_0 : Nat, cs = [str x.Method, str x.Host, str x.Path, str x.Query, .slice a_0 x.Fields.length c_0] ∧ RdC Jg.enc K a_0 c_0 2 x.Fields
theorem Jt.R_ok : RpOK 5 Jt.R :=
  ⟨fun hk ⟨a_0, c_0, e, h_0⟩ => ⟨a_0, c_0, e, (h_0.mono hk)⟩, fun ⟨a_0, c_0, e, h_0⟩ => by simp [e], fun ⟨a_0, c_0, e, h_0⟩ v hv => by rw [e] at hv; simp at hv; rcases hv with rfl | rfl | rfl | rfl | rfl <;> rfl⟩
structure Jf where
  Path : Str
  Query : Str
  Headers : (List Jg)
  Vary : (List Str)
  Tags : (List Str)
  TTL : Int
  Deny : Int
  Steps : Int
  Pass : Bool
  Token : Bool
def Jf.R : Rp Jf := fun K cs x => ∃ a_0 : Option Addr, ∃ c_0 : Nat, ∃ a_1 : Option Addr, ∃ c_1 : Nat, ∃ a_2 : Option Addr, ∃ c_2 : Nat, cs = [str x.Path, str x.Query, .slice a_0 x.Headers.length c_0, .slice a_1 x.Vary.length c_1, .slice a_2 x.Tags.length c_2, .int .i64 x.TTL, .int .i64 x.Deny, .int .i64 x.Steps, .bool x.Pass, .bool x.Token] ∧ RdC Jg.enc K a_0 c_0 2 x.Headers ∧ RdC eS K a_1 c_1 1 x.Vary ∧ RdC eS K a_2 c_2 1 x.Tags
theorem Jf.R_ok : RpOK 10 Jf.R :=
  ⟨fun hk ⟨a_0, c_0, a_1, c_1, a_2, c_2, e, h_0, h_1, h_2⟩ => ⟨a_0, c_0, a_1, c_1, a_2, c_2, e, (h_0.mono hk), (h_1.mono hk), (h_2.mono hk)⟩, fun ⟨a_0, c_0, a_1, c_1, a_2, c_2, e, h_0, h_1, h_2⟩ => by simp [e], fun ⟨a_0, c_0, a_1, c_1, a_2, c_2, e, h_0, h_1, h_2⟩ v hv => by rw [e] at hv; simp at hv; rcases hv with rfl | rfl | rfl | rfl | rfl | rfl | rfl | rfl | rfl | rfl <;> rfl⟩
structure JC where
  f0 : Int
  f1 : Int
  f2 : Int
  f3 : Int
  f4 : Int
  f5 : Int
  f6 : Int
  f7 : Int
abbrev JC.enc (x : JC) : List Go.Value := [.int .u64 x.f0, .int .u64 x.f1, .int .u64 x.f2, .int .u64 x.f3, .int .u64 x.f4, .int .u64 x.f5, .int .u64 x.f6, .int .u64 x.f7]
structure Jc where
  reached : Bool
  depth : Int
  stored : JC
abbrev Jc.enc (x : Jc) : List Go.Value := [.bool x.reached, .int .i64 x.depth, .int .u64 x.stored.f0, .int .u64 x.stored.f1, .int .u64 x.stored.f2, .int .u64 x.stored.f3, .int .u64 x.stored.f4, .int .u64 x.stored.f5, .int .u64 x.stored.f6, .int .u64 x.stored.f7]
structure Jd where
  kind : Int
  n : Int
  s : Str
  isZ : Bool
abbrev Jd.enc (x : Jd) : List Go.Value := [.int .i64 x.kind, .int .i64 x.n, str x.s, .bool x.isZ]
structure Jb where
  inZ : Jt
  most : Int
  result : Jf
  stack : (List Jd)
  slots : (List Jd)
structure Jag where
  Host : Str
  Path : Str
  Query : Str
  HasQuery : Bool
abbrev Jag.enc (x : Jag) : List Go.Value := [str x.Host, str x.Path, str x.Query, .bool x.HasQuery]
structure Ji where
  TypeZ : Int
  N : Int
  S : Str
  Is : Bool
abbrev Ji.enc (x : Ji) : List Go.Value := [.int .i64 x.TypeZ, .int .i64 x.N, str x.S, .bool x.Is]
structure Jj where
  Name : Str
  Value : Str
abbrev Jj.enc (x : Jj) : List Go.Value := [str x.Name, str x.Value]
structure Ju where
  Method : Str
  Host : Str
  Path : Str
  Query : Str
  Fields : (List Jj)
def Ju.R : Rp Ju := fun K cs x => ∃ a_0 : Option Addr, ∃ c_0 : Nat, cs = [str x.Method, str x.Host, str x.Path, str x.Query, .slice a_0 x.Fields.length c_0] ∧ RdC Jj.enc K a_0 c_0 2 x.Fields
theorem Ju.R_ok : RpOK 5 Ju.R :=
  ⟨fun hk ⟨a_0, c_0, e, h_0⟩ => ⟨a_0, c_0, e, (h_0.mono hk)⟩, fun ⟨a_0, c_0, e, h_0⟩ => by simp [e], fun ⟨a_0, c_0, e, h_0⟩ v hv => by rw [e] at hv; simp at hv; rcases hv with rfl | rfl | rfl | rfl | rfl <;> rfl⟩
structure Jar where
  Host : Str
  Path : Str
  Query : Str
  HasQuery : Bool
abbrev Jar.enc (x : Jar) : List Go.Value := [str x.Host, str x.Path, str x.Query, .bool x.HasQuery]
theorem elT38 : ElT Tryz.prog 38 54 3 := ElT.mk' rfl rfl rfl rfl rfl
theorem elT200 : ElT Tryz.prog 200 204 10 := ElT.mk' rfl rfl rfl rfl rfl
theorem elT130 : ElT Tryz.prog 130 5 1 := ElT.mk' rfl rfl rfl rfl rfl
theorem elT93 : ElT Tryz.prog 93 95 4 := ElT.mk' rfl rfl rfl rfl rfl
theorem elT31 : ElT Tryz.prog 31 9 1 := ElT.mk' rfl rfl rfl rfl rfl
theorem elT30 : ElT Tryz.prog 30 77 2 := ElT.mk' rfl rfl rfl rfl rfl
theorem elT52 : ElT Tryz.prog 52 51 2 := ElT.mk' rfl rfl rfl rfl rfl
noncomputable def JW : List UInt8 → Nat → Str → Option (Fl (Str × Err) (Str))
  | [], _, y0_0 => some (Fl.go y0_0)
  | e0 :: xs0, i0, y0_0 =>
    (if decide ((e0.toNat : Int) < 32) then some true else some (decide ((e0.toNat : Int) > 126))).bind fun t901 =>
    if t901 then
    some (Fl.ret (([] : Str), (some 2)))
    else
    (if decide ((e0.toNat : Int) = 34) then some true else some (decide ((e0.toNat : Int) = 92))).bind fun x32 =>
    if x32 then
    (chk (y0_0.length + ([(92 : UInt8)] : Str).length ≤ lim)).bind fun _ =>
    (chk ((y0_0 ++ ([(92 : UInt8)] : Str)).length + ([e0] : Str).length ≤ lim)).bind fun _ =>
    JW xs0 (i0 + 1) ((y0_0 ++ ([(92 : UInt8)] : Str)) ++ ([e0] : Str))
    else
    (chk (y0_0.length + ([e0] : Str).length ≤ lim)).bind fun _ =>
    JW xs0 (i0 + 1) (y0_0 ++ ([e0] : Str))
noncomputable def Jbc (s : Str) : Option (Str × Err) :=
  (chk (s.length ≤ szMax)).bind fun _ =>
  (JW s 0 ([(34 : UInt8)] : Str)).bind fun s0 => s0.el some fun t0 =>
  (chk (t0.length + ([(34 : UInt8)] : Str).length ≤ lim)).bind fun _ =>
  some ((t0 ++ ([(34 : UInt8)] : Str)), none)
set_option maxHeartbeats 8000000 in
theorem Jce {s : Str} {K : Hp} {r : Str × Err}
    (hm : Jbc s = some r)  :
    Fn Tryz.prog 173 [str s] K [] (fun v K' H' => v = .tuple #[str r.1, errV 87 r.2] ∧ H' = []) := by
 refine Fn.enter Tryz.func173 Tryz.call173 rfl fun F => ?_
 unfold Jbc at hm
 refine bsO (len := 1) (enc := eU) (l := ([(34 : UInt8)] : Str)) (cl := [.int .u8 34]) elT130 rfl rfl (fun _ _ => rfl) rfl rfl rfl ?_ fun b6 => ?_
 · conv => whnf
   refine cond_T ?_
   first | done | rfl
 refine RStep.of (len_str rfl ?_)
 obtain ⟨hk0, hm⟩ := chkb hm
 obtain ⟨s0, hl0, hm⟩ := bnd hm
 refine code_cut (σ := (Str) × Option Addr × Nat) [2, 3, 4, 5, 9, 10, 11, 12, 13, 14, 15, 16, 17, 18, 19, 20, 21, 22, 23, 24, 25, 26, 27, 28, 29, 30, 31, 32, 33, 34, 35, 36, 37, 38, 39, 40, 41, 42] (fun (t0, t0_a0, t0_c0) => [(4, .slice t0_a0 t0.length t0_c0)]) (fun (t0, t0_a0, t0_c0) => [OwnL eU t0_a0 5 1 t0_c0 t0, F]) (fun zz K1 => match zz with | (t0, t0_a0, t0_c0) => (0 < t0.length → Has t0_a0) ∧ s0 = Fl.go t0) ?_ ?_
 refine block_go rfl ?_
 refine loop_rule (σ := Nat × Str × Option Addr × Nat) [2, 3, 4, 5, 9, 10, 11, 12, 13, 14, 15, 16, 17, 18, 19, 20, 21, 22, 23, 24, 25, 26, 27, 28, 29, 30, 31, 32, 33, 34, 35, 36, 37, 38, 39, 40, 41, 42] (fun (i0, y0_0, y0_a0, y0_c0) => [(9, .int .i64 (i0 : Int)), (4, .slice y0_a0 y0_0.length y0_c0)]) (fun (i0, y0_0, y0_a0, y0_c0) => [OwnL eU y0_a0 5 1 y0_c0 y0_0, F]) (fun zz K1 => match zz with | (i0, y0_0, y0_a0, y0_c0) => (0 < y0_0.length → Has y0_a0) ∧ JW (s.drop i0) i0 y0_0 = some s0) (fun zz => s.length - zz.1) (0, ([(34 : UInt8)] : Str), (some ⟨b6, 0, none⟩), 1) rfl ⟨rfl, rfl, trivial⟩ (ConvH.of (.cons r0 (.cons r0 .nil))) ⟨(fun _ => ⟨_, _, rfl⟩), hl0⟩ ?_
 clear hl0
 rintro ⟨i0, y0_0, y0_a0, y0_c0⟩ Kb0 lk0 ⟨y0_h0, hl0⟩ j0
 refine cond_go rfl ?_
 refine cond_s (fun w0 => ?_) (fun w0 => ?_)
 obtain ⟨e0, hx0, hd0⟩ := ltx w0
 rw [hd0, JW.eq_2] at hl0
 refine block_go rfl ?_
 obtain ⟨s901, hl901, hl0⟩ := bnd hl0
 refine code_cut (σ := Bool) [12, 13, 14, 15, 16, 17, 18, 19, 20, 21] (fun t901 => [(21, .bool t901)]) (fun _ => [OwnL eU y0_a0 5 1 y0_c0 y0_0, F]) (fun t901 K1 => K1 = Kb0 ∧ t901 = s901) ?_ ?_
 replace hl901 := bsm hl901
 refine guard_go rfl ?_
 refine idx_str rfl (nn _) hx0 ?_
 obtain ⟨x21, e21, hl901⟩ := bnd hl901
 refine cond_s (fun g16_5 => ?_) (fun g16_5 => ?_)
 replace e21 := ift g16_5 e21
 refine cond_t g16_5 (cond_t g16_5 (cond_t g16_5 (cond_t g16_5 ?_)))
 refine MeetStep.mk (x21) ⟨(by rw [← ((si e21).symm).symm] <;> rfl), trivial⟩ (by repeat (first | exact trivial | refine And.intro rfl ?_)) (ConvH.of (.cons r0 (.cons r0 .nil))) (Hp.Le.refl _) ⟨rfl, (si hl901)⟩
 replace e21 := iff_ g16_5 e21
 refine cond_f g16_5 (cond_f g16_5 (idx_str rfl (nn _) hx0 (cond_f g16_5 (cond_f g16_5 ?_))))
 refine MeetStep.mk (x21) ⟨(by rw [← (si e21)] <;> rfl), trivial⟩ (by repeat (first | exact trivial | refine And.intro rfl ?_)) (ConvH.of (.cons r0 (.cons r0 .nil))) (Hp.Le.refl _) ⟨rfl, (si hl901)⟩
 rintro t901 _ _ ⟨rfl, rfl⟩ j901
 refine cs rfl rfl hl0 (fun w21 hl0 => ?_) fun w21 hl0 => ?_
 refine mk_iface rfl ?_
 obtain rfl := si hl0
 replace hm := elr hm
 obtain rfl := si hm
 refine EndStep.mk _ lk0 ⟨rfl, rfl⟩ (ConvH.of (.cons r1 .nil))
 refine guard_go rfl ?_
 refine idx_str rfl (nn _) hx0 (eq_int ?_)
 obtain ⟨x32, e32, hl0⟩ := bnd hl0
 refine cond_s (fun g27_7 => ?_) (fun g27_7 => ?_)
 replace e32 := ift g27_7 e32
 refine cond_t g27_7 (cond_t g27_7 (cond_t g27_7 (cond_t g27_7 (cond_go rfl (cond_T ?_)))))
 replace hl0 := ift (si e32).symm hl0
 refine bsO (len := 1) (enc := eU) (l := ([(92 : UInt8)] : Str)) (cl := [.int .u8 92]) elT130 rfl rfl (fun _ _ => rfl) rfl rfl rfl ?_ fun b34 => ?_
 · conv => whnf
   refine cond_T ?_
   first | done | rfl
 obtain ⟨h35, hl0⟩ := chkb hl0
 refine apE rfl r1 elT130 (src_own' rfl r0 rfl (fun _ => rfl) (fun _ => rfl)) h35 ?_
 intro a35 c35 o35
 refine idx_str rfl (nn _) hx0 ?_
 refine bsO (len := 1) (enc := eU) (l := ([e0] : Str)) (cl := [.int .u8 (e0.toNat : Int)]) elT130 rfl rfl (fun _ _ => rfl) rfl rfl rfl ?_ fun b40 => ?_
 · conv => whnf
   refine cond_T ?_
   first | done | rfl
 obtain ⟨h41, hl0⟩ := chkb hl0
 refine apE rfl r1 elT130 (src_own' rfl r0 rfl (fun _ => rfl) (fun _ => rfl)) h41 ?_
 intro a41 c41 o41
 refine int_in (cntz hx0 hk0) ?_
 refine RoundStep.mk (i0 + 1, ((y0_0 ++ ([(92 : UInt8)] : Str)) ++ ([e0] : Str)), a41, c41) ⟨rfl, rfl, trivial⟩ (by repeat (first | exact trivial | refine And.intro rfl ?_)) (ConvH.of (.cons r0 (.cons r2 .nil))) lk0 (ltm hx0) ⟨o41, hl0⟩
 replace e32 := iff_ g27_7 e32
 refine cond_f g27_7 (cond_f g27_7 (idx_str rfl (nn _) hx0 (cond_f g27_7 (eq_int (cond_f g27_7 ?_)))))
 refine cond_go rfl ?_
 refine cond_s (fun w32 => ?_) (fun w32 => ?_)
 replace hl0 := ift ((si e32).symm.trans w32) hl0
 refine bsO (len := 1) (enc := eU) (l := ([(92 : UInt8)] : Str)) (cl := [.int .u8 92]) elT130 rfl rfl (fun _ _ => rfl) rfl rfl rfl ?_ fun b34 => ?_
 · conv => whnf
   refine cond_T ?_
   first | done | rfl
 obtain ⟨h35, hl0⟩ := chkb hl0
 refine apE rfl r1 elT130 (src_own' rfl r0 rfl (fun _ => rfl) (fun _ => rfl)) h35 ?_
 intro a35 c35 o35
 refine idx_str rfl (nn _) hx0 ?_
 refine bsO (len := 1) (enc := eU) (l := ([e0] : Str)) (cl := [.int .u8 (e0.toNat : Int)]) elT130 rfl rfl (fun _ _ => rfl) rfl rfl rfl ?_ fun b40 => ?_
 · conv => whnf
   refine cond_T ?_
   first | done | rfl
 obtain ⟨h41, hl0⟩ := chkb hl0
 refine apE rfl r1 elT130 (src_own' rfl r0 rfl (fun _ => rfl) (fun _ => rfl)) h41 ?_
 intro a41 c41 o41
 refine int_in (cntz hx0 hk0) ?_
 refine RoundStep.mk (i0 + 1, ((y0_0 ++ ([(92 : UInt8)] : Str)) ++ ([e0] : Str)), a41, c41) ⟨rfl, rfl, trivial⟩ (by repeat (first | exact trivial | refine And.intro rfl ?_)) (ConvH.of (.cons r0 (.cons r2 .nil))) lk0 (ltm hx0) ⟨o41, hl0⟩
 replace hl0 := iff_ ((si e32).symm.trans w32) hl0
 refine idx_str rfl (nn _) hx0 ?_
 refine bsO (len := 1) (enc := eU) (l := ([e0] : Str)) (cl := [.int .u8 (e0.toNat : Int)]) elT130 rfl rfl (fun _ _ => rfl) rfl rfl rfl ?_ fun b40 => ?_
 · conv => whnf
   refine cond_T ?_
   first | done | rfl
 obtain ⟨h41, hl0⟩ := chkb hl0
 refine apE rfl r1 elT130 (src_own' rfl r0 rfl (fun _ => rfl) (fun _ => rfl)) h41 ?_
 intro a41 c41 o41
 refine int_in (cntz hx0 hk0) ?_
 refine RoundStep.mk (i0 + 1, (y0_0 ++ ([e0] : Str)), a41, c41) ⟨rfl, rfl, trivial⟩ (by repeat (first | exact trivial | refine And.intro rfl ?_)) (ConvH.of (.cons r0 (.cons r1 .nil))) lk0 (ltm hx0) ⟨o41, hl0⟩
 rw [lty w0, JW.eq_1] at hl0
 refine cond_T ?_
 refine MeetStep.mk (y0_0, y0_a0, y0_c0) ⟨rfl, trivial⟩ (by repeat (first | exact trivial | refine And.intro rfl ?_)) (ConvH.of (.cons r0 (.cons r0 .nil))) lk0 ⟨y0_h0, (si hl0).symm⟩
 rintro ⟨t0, t0_a0, t0_c0⟩ Kt0 lt0 ⟨t0_h0, rfl⟩ j0
 replace hm := elg hm
 refine bsO (len := 1) (enc := eU) (l := ([(34 : UInt8)] : Str)) (cl := [.int .u8 34]) elT130 rfl rfl (fun _ _ => rfl) rfl rfl rfl ?_ fun b44 => ?_
 · conv => whnf
   refine cond_T ?_
   first | done | rfl
 obtain ⟨h45, hm⟩ := chkb hm
 refine apE rfl r1 elT130 (src_own' rfl r0 rfl (fun _ => rfl) (fun _ => rfl)) h45 ?_
 intro a45 c45 o45
 refine RStep.of (cv_ownE rfl r0 rfl rfl rfl ?_)
 obtain rfl := si hm
 refine EndStep.mk _ lt0 ⟨rfl, rfl⟩ (ConvH.of (.cons r2 .nil))

noncomputable def JQ (s : Str) : Option (Bool) :=
  (Jbc s).bind fun x7 =>
  some x7.2.isNone
set_option maxHeartbeats 8000000 in
theorem JaC {s : Str} {K : Hp} {r : Bool}
    (hm : JQ s = some r)  :
    Fn Tryz.prog 140 [str s] K [] (fun v K' H' => v = .bool r ∧ H' = []) := by
 refine Fn.enter Tryz.func140 Tryz.call140 rfl fun F => ?_
 unfold JQ at hm
 obtain ⟨x7, q7, hm⟩ := bnd hm
 refine call_fn (Jce (s := s) q7) .nil ?_
 rintro _ K7 _ l7 ⟨rfl, rfl⟩
 refine eq_err rfl ?_
 obtain rfl := si hm
 refine EndStep.mk _ l7 ⟨rfl, rfl⟩ (ConvH.of (.cons r0 .nil))

noncomputable def JE (v' : Str) : List Str → Nat → Option (Fl (Int) (Unit))
  | [], _ => some (Fl.go ())
  | e0 :: xs0, i0 =>
    if decide (v' = e0) then
    some (Fl.ret (i0 : Int))
    else
    JE v' xs0 (i0 + 1)
noncomputable def Jav (s : (List Str)) (v' : Str) : Option (Int) :=
  (chk (s.length ≤ szMax)).bind fun _ =>
  (JE v' s 0).bind fun s0 => s0.el some fun t0 =>
  some (-1)
set_option maxHeartbeats 8000000 in
theorem Jbz {s : (List Str)} {v' : Str} {ap0_0 : Option Addr} {cp0_0 : Nat} {n0 : Nat} {K : Hp} {r : Int}
    (hm : Jav s v' = some r) (hp0_0 : RdC eS K ap0_0 cp0_0 1 s) (en0 : n0 = s.length) :
    Fn Tryz.prog 149 [.slice ap0_0 n0 cp0_0, str v'] K [] (fun v K' H' => v = .int .i64 r ∧ H' = []) := by
 subst en0
 refine Fn.enter Tryz.func149 Tryz.call149 rfl fun F => ?_
 unfold Jav at hm
 refine RStep.of (len_slice rfl ?_)
 obtain ⟨hk0, hm⟩ := chkb hm
 obtain ⟨s0, hl0, hm⟩ := bnd hm
 refine code_cut (σ := (Unit)) [4, 5, 8, 9, 10, 11, 12, 13, 14, 15, 16, 17, 18] (fun t0 => []) (fun t0 => [F]) (fun zz K1 => match zz with | t0 => s0 = Fl.go t0) ?_ ?_
 refine block_go rfl ?_
 refine loop_rule (σ := Nat) [4, 5, 8, 9, 10, 11, 12, 13, 14, 15, 16, 17, 18] (fun i0 => [(8, .int .i64 (i0 : Int))]) (fun i0 => [F]) (fun zz K1 => match zz with | i0 => JE v' (s.drop i0) i0 = some s0) (fun zz => s.length - zz) (0) rfl ⟨rfl, trivial⟩ (ConvH.of (.cons r0 .nil)) hl0 ?_
 clear hl0
 rintro i0 Kb0 lk0 hl0 j0
 conv at hl0 => whnf
 refine cond_go rfl ?_
 refine cond_s (fun w0 => ?_) (fun w0 => ?_)
 obtain ⟨e0, hx0, hd0⟩ := ltx w0
 rw [hd0, JE.eq_2] at hl0
 refine block_go rfl ?_
 refine RStep.ofN (index_addr rfl rfl (hasK (hp0_0.mono lk0).rd hx0) (nn _) (lt_ofN hx0) (RStep.of (load_rd i0 0 _ _ (hp0_0.mono lk0).rd rfl (mp hx0) rfl rfl (eq_str ?_))))
 refine cs rfl rfl hl0 (fun w16 hl0 => ?_) fun w16 hl0 => ?_
 obtain rfl := si hl0
 replace hm := elr hm
 obtain rfl := si hm
 refine EndStep.mk _ lk0 ⟨rfl, rfl⟩ (ConvH.of (.cons r0 .nil))
 refine int_in (cntz hx0 hk0) ?_
 refine RoundStep.mk (i0 + 1) ⟨rfl, trivial⟩ (by repeat (first | exact trivial | refine And.intro rfl ?_)) (ConvH.of (.cons r0 .nil)) lk0 (ltm hx0) hl0
 rw [lty w0, JE.eq_1] at hl0
 refine cond_T ?_
 refine MeetStep.mk (()) trivial (by repeat (first | exact trivial | refine And.intro rfl ?_)) (ConvH.of (.cons r0 .nil)) lk0 (si hl0).symm
 rintro t0 Kt0 lt0 rfl j0
 replace hm := elg hm
 obtain rfl := si hm
 refine EndStep.mk _ lt0 ⟨rfl, rfl⟩ (ConvH.of (.cons r0 .nil))

noncomputable def Jv (s : (List Str)) (v' : Str) : Option (Bool) :=
  (Jav s v').bind fun x7 =>
  some (decide (x7 ≥ 0))
set_option maxHeartbeats 8000000 in
theorem JN {s : (List Str)} {v' : Str} {ap0_0 : Option Addr} {cp0_0 : Nat} {n0 : Nat} {K : Hp} {r : Bool}
    (hm : Jv s v' = some r) (hp0_0 : RdC eS K ap0_0 cp0_0 1 s) (en0 : n0 = s.length) :
    Fn Tryz.prog 113 [.slice ap0_0 n0 cp0_0, str v'] K [] (fun v K' H' => v = .bool r ∧ H' = []) := by
 subst en0
 refine Fn.enter Tryz.func113 Tryz.call113 rfl fun F => ?_
 unfold Jv at hm
 obtain ⟨x7, q7, hm⟩ := bnd hm
 refine call_fn (Jbz (v' := v') q7 hp0_0 rfl) .nil ?_
 rintro _ K7 _ l7 ⟨rfl, rfl⟩
 obtain rfl := si hm
 refine EndStep.mk _ l7 ⟨rfl, rfl⟩ (ConvH.of (.cons r0 .nil))

noncomputable def Jz (s : Str) (prefixZ : Str) : Option (Bool) :=
  (if decide ((s.length : Int) ≥ (prefixZ.length : Int)) then (chk (0 ≤ (0 : Int) ∧ (0 : Int) ≤ (prefixZ.length : Int) ∧ (prefixZ.length : Int) ≤ (s.length : Int))).bind fun _ =>
  some (decide ((subL s (0 : Int) (prefixZ.length : Int)) = prefixZ)) else some false).bind fun x17 =>
  some x17
set_option maxHeartbeats 8000000 in
theorem Jak {s : Str} {prefixZ : Str} {K : Hp} {r : Bool}
    (hm : Jz s prefixZ = some r)  :
    Fn Tryz.prog 112 [str s, str prefixZ] K [] (fun v K' H' => v = .bool r ∧ H' = []) := by
 refine Fn.enter Tryz.func112 Tryz.call112 rfl fun F => ?_
 unfold Jz at hm
 refine guard_go rfl ?_
 refine RStep.of (len_str rfl (RStep.of (len_str rfl ?_)))
 obtain ⟨x17, e17, hm⟩ := bnd hm
 refine cond_s (fun g10_1 => ?_) (fun g10_1 => ?_)
 replace e17 := ift g10_1 e17
 refine cond_t g10_1 (cond_t g10_1 (RStep.of (len_str rfl (cond_t g10_1 ?_))))
 obtain ⟨h14, e17⟩ := chkb e17
 refine RStep.ofN (sl_str (lo := none) (hi := (some (prefixZ.length : Int))) rfl h14 (cond_t g10_1 (cond_t g10_1 (eq_str (cond_t g10_1 ?_)))))
 obtain rfl := si hm
 refine EndStep.mk _ (Hp.Le.refl _) ⟨(by rw [← (si e17)] <;> rfl), rfl⟩ (ConvH.of (.cons r0 .nil))
 replace e17 := iff_ g10_1 e17
 refine cond_f g10_1 (cond_f g10_1 (cond_f g10_1 (cond_f g10_1 (cond_f g10_1 (cond_f g10_1 ?_)))))
 obtain rfl := si hm
 refine EndStep.mk _ (Hp.Le.refl _) ⟨(by rw [← ((si e17).symm).symm] <;> rfl), rfl⟩ (ConvH.of (.cons r0 .nil))

noncomputable def JL (s : Str) (prefixZ : Str) : Option (Str × Bool) :=
  (Jz s prefixZ).bind fun x8 =>
  if (!x8) then
  some (s, false)
  else
  (chk (0 ≤ (prefixZ.length : Int) ∧ (prefixZ.length : Int) ≤ (s.length : Int) ∧ (s.length : Int) ≤ (s.length : Int))).bind fun _ =>
  some ((subL s (prefixZ.length : Int) (s.length : Int)), true)
set_option maxHeartbeats 8000000 in
theorem JaR {s : Str} {prefixZ : Str} {K : Hp} {r : Str × Bool}
    (hm : JL s prefixZ = some r)  :
    Fn Tryz.prog 200 [str s, str prefixZ] K [] (fun v K' H' => v = .tuple #[str r.1, .bool r.2] ∧ H' = []) := by
 refine Fn.enter Tryz.func200 Tryz.call200 rfl fun F => ?_
 unfold JL at hm
 obtain ⟨x8, q8, hm⟩ := bnd hm
 refine call_fn (Jak (s := s) (prefixZ := prefixZ) q8) .nil ?_
 rintro _ K8 _ l8 ⟨rfl, rfl⟩
 refine un_not (cond_go rfl ?_)
 refine cond_s (fun w9 => ?_) (fun w9 => ?_)
 replace hm := ift (not_t (ni_t w9)) hm
 obtain rfl := si hm
 refine EndStep.mk _ l8 ⟨rfl, rfl⟩ (ConvH.of (.cons r0 .nil))
 replace hm := iff_ (not_f (ni_f w9)) hm
 refine RStep.of (len_str rfl ?_)
 obtain ⟨h14, hm⟩ := chkb hm
 refine RStep.ofN (sl_str (lo := (some (prefixZ.length : Int))) (hi := none) rfl h14 ?_)
 obtain rfl := si hm
 refine EndStep.mk _ l8 ⟨rfl, rfl⟩ (ConvH.of (.cons r0 .nil))

noncomputable def Jah (s : Str) (prefixZ : Str) : Option (Str × Bool) :=
  (JL s prefixZ).bind fun x8 =>
  some (x8.1, x8.2)
set_option maxHeartbeats 8000000 in
theorem Jbb {s : Str} {prefixZ : Str} {K : Hp} {r : Str × Bool}
    (hm : Jah s prefixZ = some r)  :
    Fn Tryz.prog 174 [str s, str prefixZ] K [] (fun v K' H' => v = .tuple #[str r.1, .bool r.2] ∧ H' = []) := by
 refine Fn.enter Tryz.func174 Tryz.call174 rfl fun F => ?_
 unfold Jah at hm
 obtain ⟨x8, q8, hm⟩ := bnd hm
 refine call_fn (JaR (s := s) (prefixZ := prefixZ) q8) .nil ?_
 rintro _ K8 _ l8 ⟨rfl, rfl⟩
 obtain rfl := si hm
 refine EndStep.mk _ l8 ⟨rfl, rfl⟩ (ConvH.of (.cons r0 .nil))

noncomputable def Ja3 (s : Str) : Option (Int × Bool) :=
  if decide (s = ([112, 97, 116, 104] : Str)) then
  some (1, true)
  else
  if decide (s = ([113, 117, 101, 114, 121] : Str)) then
  some (1, true)
  else
  if decide (s = ([116, 97, 103] : Str)) then
  some (1, true)
  else
  if decide (s = ([116, 116, 108] : Str)) then
  some (1, true)
  else
  if decide (s = ([100, 101, 110, 121] : Str)) then
  some (1, true)
  else
  if decide (s = ([112, 97, 115, 115] : Str)) then
  some (0, true)
  else
  if decide (s = ([116, 111, 107, 101, 110] : Str)) then
  some (0, true)
  else
  (Jah s ([104, 101, 97, 100, 101, 114, 58] : Str)).bind fun x20 =>
  if x20.2 then
  (JQ x20.1).bind fun x25 =>
  some (1, x25)
  else
  (Jah s ([118, 97, 114, 121, 58] : Str)).bind fun x28 =>
  (if x28.2 then (JQ x28.1).bind fun x34 =>
  some x34 else some false).bind fun x35 =>
  some (0, x35)
set_option maxHeartbeats 8000000 in
theorem Jck {s : Str} {K : Hp} {r : Int × Bool}
    (hm : Ja3 s = some r)  :
    Fn Tryz.prog 141 [str s] K [] (fun v K' H' => v = .tuple #[.int .i64 r.1, .bool r.2] ∧ H' = []) := by
 refine Fn.enter Tryz.func141 Tryz.call141 rfl fun F => ?_
 unfold Ja3 at hm
 refine block_go rfl ?_
 refine eq_str ?_
 refine cs rfl rfl hm (fun w9 hm => ?_) fun w9 hm => ?_
 refine cond_go rfl (cond_t w9 ?_)
 obtain rfl := si hm
 refine EndStep.mk _ (Hp.Le.refl _) ⟨rfl, rfl⟩ (ConvH.of (.cons r0 .nil))
 refine eq_str ?_
 refine cs rfl rfl hm (fun w9 hm => ?_) fun w9 hm => ?_
 refine cond_go rfl (cond_t w9 ?_)
 obtain rfl := si hm
 refine EndStep.mk _ (Hp.Le.refl _) ⟨rfl, rfl⟩ (ConvH.of (.cons r0 .nil))
 refine eq_str ?_
 refine cs rfl rfl hm (fun w9 hm => ?_) fun w9 hm => ?_
 refine cond_go rfl (cond_t w9 ?_)
 obtain rfl := si hm
 refine EndStep.mk _ (Hp.Le.refl _) ⟨rfl, rfl⟩ (ConvH.of (.cons r0 .nil))
 refine eq_str ?_
 refine cs rfl rfl hm (fun w9 hm => ?_) fun w9 hm => ?_
 refine cond_go rfl (cond_t w9 ?_)
 obtain rfl := si hm
 refine EndStep.mk _ (Hp.Le.refl _) ⟨rfl, rfl⟩ (ConvH.of (.cons r0 .nil))
 refine eq_str ?_
 refine cs rfl rfl hm (fun w9 hm => ?_) fun w9 hm => ?_
 obtain rfl := si hm
 refine EndStep.mk _ (Hp.Le.refl _) ⟨rfl, rfl⟩ (ConvH.of (.cons r0 .nil))
 refine eq_str ?_
 refine cs rfl rfl hm (fun w15 hm => ?_) fun w15 hm => ?_
 refine cond_go rfl (cond_t w15 ?_)
 obtain rfl := si hm
 refine EndStep.mk _ (Hp.Le.refl _) ⟨rfl, rfl⟩ (ConvH.of (.cons r0 .nil))
 refine eq_str ?_
 refine cs rfl rfl hm (fun w15 hm => ?_) fun w15 hm => ?_
 obtain rfl := si hm
 refine EndStep.mk _ (Hp.Le.refl _) ⟨rfl, rfl⟩ (ConvH.of (.cons r0 .nil))
 obtain ⟨x20, q20, hm⟩ := bnd hm
 refine call_fn (Jbb (s := s) (prefixZ := ([104, 101, 97, 100, 101, 114, 58] : Str)) q20) .nil ?_
 rintro _ K20 _ l20 ⟨rfl, rfl⟩
 refine cs rfl rfl hm (fun w23 hm => ?_) fun w23 hm => ?_
 obtain ⟨x25, q25, hm⟩ := bnd hm
 refine call_fn (JaC (s := x20.1) q25) .nil ?_
 rintro _ K25 _ l25 ⟨rfl, rfl⟩
 obtain rfl := si hm
 refine EndStep.mk _ (l20.trans l25) ⟨rfl, rfl⟩ (ConvH.of (.cons r0 .nil))
 obtain ⟨x28, q28, hm⟩ := bnd hm
 refine call_fn (Jbb (s := s) (prefixZ := ([118, 97, 114, 121, 58] : Str)) q28) .nil ?_
 rintro _ K28 _ l28 ⟨rfl, rfl⟩
 refine guard_go rfl ?_
 obtain ⟨x35, e35, hm⟩ := bnd hm
 refine cond_s (fun g32_15 => ?_) (fun g32_15 => ?_)
 replace e35 := ift g32_15 e35
 refine cond_t g32_15 ?_
 obtain ⟨x34, q34, e35⟩ := bnd e35
 refine call_fn (JaC (s := x28.1) q34) .nil ?_
 rintro _ K34 _ l34 ⟨rfl, rfl⟩
 refine cond_t g32_15 ?_
 obtain rfl := si hm
 refine EndStep.mk _ ((l20.trans l28).trans l34) ⟨(by rw [← (si e35)] <;> rfl), rfl⟩ (ConvH.of (.cons r0 .nil))
 replace e35 := iff_ g32_15 e35
 refine cond_f g32_15 (cond_f g32_15 ?_)
 obtain rfl := si hm
 refine EndStep.mk _ (l20.trans l28) ⟨(by rw [← ((si e35).symm).symm] <;> rfl), rfl⟩ (ConvH.of (.cons r0 .nil))

noncomputable def JaH (x : Je) : Option (Int × Int × Bool) :=
  if decide (x.Op = 1) then
  some (0, 1, ((decide (x.S = ([] : Str)) && decide (x.N ≥ 0)) && decide (x.N ≤ 999999999)))
  else
  if decide (x.Op = 2) then
  (if decide (x.N = 0) then (JQ x.S).bind fun x46 =>
  some x46 else some false).bind fun x47 =>
  some (0, 1, x47)
  else
  if decide (x.Op = 3) then
  some (0, 1, ((decide (x.S = ([] : Str)) && decide (x.N ≥ 0)) && decide (x.N ≤ 511)))
  else
  if decide (x.Op = 4) then
  some (1, 0, ((decide (x.S = ([] : Str)) && decide (x.N ≥ 0)) && decide (x.N ≤ 511)))
  else
  if decide (x.Op = 5) then
  (if decide (x.N = 0) then (Jv Jm x.S).bind fun x61 =>
  some x61 else some false).bind fun x62 =>
  some (0, 1, x62)
  else
  if decide (x.Op = 6) then
  (if decide (x.N = 0) then (Jv Jr x.S).bind fun x70 =>
  some x70 else some false).bind fun x71 =>
  some (1, 1, x71)
  else
  if decide (x.Op = 7) then
  (if decide (x.N = 0) then (Jv Jn x.S).bind fun x79 =>
  some x79 else some false).bind fun x80 =>
  some (2, 1, x80)
  else
  if decide (x.Op = 8) then
  some (1, 1, (decide (x.N = 0) && decide (x.S = ([] : Str))))
  else
  if decide (x.Op = 9) then
  some (0, 0, decide (x.S = ([] : Str)))
  else
  if decide (x.Op = 10) then
  some (1, 0, decide (x.S = ([] : Str)))
  else
  if decide (x.Op = 11) then
  (Ja3 x.S).bind fun x98 =>
  some (x98.1, 0, (decide (x.N = 0) && x98.2))
  else
  if decide (x.Op = 12) then
  some (0, 0, (decide (x.N = 0) && decide (x.S = ([] : Str))))
  else
  some (0, 0, false)
set_option maxHeartbeats 8000000 in
theorem Jb1 {x : Je} {K : Hp} {r : Int × Int × Bool}
    (hm : JaH x = some r) (hG0 : GlL eS 1 0 Jm K) (hG1 : GlL eS 1 1 Jr K) (hG2 : GlL eS 1 2 Jn K) (hG3 : GlN 3 K) (hG5 : GlA 5 (Go.Lib.pow10Tab.map fun z => Value.int .u64 z) K) :
    Fn Tryz.prog 100 [.agg #[.int .i64 x.Op, .int .i64 x.N, str x.S]] K [] (fun v K' H' => v = .tuple #[.int .i64 r.1, .int .i64 r.2.1, .bool r.2.2] ∧ H' = []) := by
 obtain ⟨ga0, gn0, gc0, gn_, gs0, gd0⟩ := id hG0
 subst gn_
 obtain ⟨ga1, gn1, gc1, gn_, gs1, gd1⟩ := id hG1
 subst gn_
 obtain ⟨ga2, gn2, gc2, gn_, gs2, gd2⟩ := id hG2
 subst gn_
 refine Fn.enter Tryz.func100 Tryz.call100 rfl fun F => ?_
 unfold JaH at hm
 refine box_rule ?_
 intro b1
 refine Ja rfl (RStep.of (load1_s r0 rfl rfl (eq_int (Ja rfl (RStep.of (load1_s r0 rfl rfl (eq_str ?_)))))))
 refine code_cut (σ := Unit) [7, 14, 15, 16, 17, 18, 19, 20, 21, 22, 23, 24] (fun _ => [(7, .bool ((decide (x.S = ([] : Str)) && decide (x.N ≥ 0)) && decide (x.N ≤ 511)))]) (fun _ => [Cells b1 54 [.int .i64 x.Op, .int .i64 x.N, str x.S], F]) (fun t901 K1 => K1 = K) ?_ ?_
 refine guard_go rfl ?_
 refine cond_s (fun g15_3 => ?_) (fun g15_3 => ?_)
 refine Ja rfl (cond_t g15_3 (RStep.of (load1_s r0 rfl rfl (cond_t g15_3 (cond_t g15_3 ?_)))))
 refine cond_s (fun g20_3 => ?_) (fun g20_3 => ?_)
 refine Ja rfl (cond_t g20_3 (RStep.of (load1_s r0 rfl rfl (cond_t g20_3 (cond_t g20_3 ?_)))))
 refine MeetStep.mk (()) ⟨(by rw [← (and_e (b := decide (x.N ≤ 511)) (and_t g15_3 g20_3))] <;> rfl), trivial⟩ (by repeat (first | exact trivial | refine And.intro rfl ?_)) (ConvH.of (.cons r0 (.cons r0 .nil))) (Hp.Le.refl _) rfl
 refine cond_f g20_3 (cond_f g20_3 (cond_f g20_3 ?_))
 refine MeetStep.mk (()) ⟨(by rw [← ((and_f (and_g g15_3 g20_3))).symm] <;> rfl), trivial⟩ (by repeat (first | exact trivial | refine And.intro rfl ?_)) (ConvH.of (.cons r0 (.cons r0 .nil))) (Hp.Le.refl _) rfl
 refine cond_f g15_3 (cond_f g15_3 (cond_f g15_3 (cond_F (cond_F (cond_F ?_)))))
 refine cond_F ?_
 refine MeetStep.mk (()) ⟨(by rw [← ((and_f (and_f g15_3))).symm] <;> rfl), trivial⟩ (by repeat (first | exact trivial | refine And.intro rfl ?_)) (ConvH.of (.cons r0 (.cons r0 .nil))) (Hp.Le.refl _) rfl
 rintro _ _ _ rfl j901
 refine Ja rfl (RStep.of (load1_s r0 rfl rfl ?_))
 refine block_go rfl ?_
 refine eq_int ?_
 refine cs rfl rfl hm (fun w27 hm => ?_) fun w27 hm => ?_
 refine draw_go ⟨⟨[], false⟩, _, [(_, _)], []⟩ (by kernel_rfl) ⟨Hp.Le.refl _, (ConvH.of (.cons r0 .nil)), ci0⟩ ?_
 refine cond_s (fun g30_6 => ?_) (fun g30_6 => ?_)
 refine Ja rfl (cond_t g30_6 (load1_l m0 rfl rfl (cond_t g30_6 (cond_t g30_6 ?_))))
 refine cond_s (fun g35_6 => ?_) (fun g35_6 => ?_)
 refine Ja rfl (cond_t g35_6 (load1_l m0 rfl rfl (cond_t g35_6 (cond_t g35_6 ?_))))
 obtain rfl := si hm
 refine EndStep.mk _ (Hp.Le.refl _) ⟨(by rw [← (and_e (b := decide (x.N ≤ 999999999)) (and_t g30_6 g35_6))] <;> rfl), rfl⟩ (ConvH.of (.cons r1 .nil))
 refine cond_f g35_6 (cond_f g35_6 (cond_f g35_6 ?_))
 obtain rfl := si hm
 refine EndStep.mk _ (Hp.Le.refl _) ⟨(by rw [← ((and_f (and_g g30_6 g35_6))).symm] <;> rfl), rfl⟩ (ConvH.of (.cons r1 .nil))
 refine cond_f g30_6 (cond_f g30_6 (cond_f g30_6 (cond_F (cond_F (cond_F ?_)))))
 refine cond_F ?_
 obtain rfl := si hm
 refine EndStep.mk _ (Hp.Le.refl _) ⟨(by rw [← ((and_f (and_f g30_6))).symm] <;> rfl), rfl⟩ (ConvH.of (.cons r1 .nil))
 refine eq_int ?_
 refine cs rfl rfl hm (fun w40 hm => ?_) fun w40 hm => ?_
 refine guard_go rfl ?_
 obtain ⟨x47, e47, hm⟩ := bnd hm
 refine cond_s (fun g43_8 => ?_) (fun g43_8 => ?_)
 replace e47 := ift g43_8 e47
 refine Ja rfl (cond_t g43_8 (RStep.of (load1_s r0 rfl rfl (cond_t g43_8 ?_))))
 obtain ⟨x46, q46, e47⟩ := bnd e47
 refine call_fn (JaC (s := x.S) q46) .nil ?_
 rintro _ K46 _ l46 ⟨rfl, rfl⟩
 refine cond_t g43_8 ?_
 obtain rfl := si hm
 refine EndStep.mk _ l46 ⟨(by rw [← (si e47)] <;> rfl), rfl⟩ (ConvH.of (.cons r1 .nil))
 replace e47 := iff_ g43_8 e47
 refine cond_f g43_8 (cond_f g43_8 (cond_f g43_8 ?_))
 obtain rfl := si hm
 refine EndStep.mk _ (Hp.Le.refl _) ⟨(by rw [← ((si e47).symm).symm] <;> rfl), rfl⟩ (ConvH.of (.cons r1 .nil))
 refine eq_int ?_
 refine cs rfl rfl hm (fun w48 hm => ?_) fun w48 hm => ?_
 obtain rfl := si hm
 refine EndStep.mk _ (Hp.Le.refl _) ⟨rfl, rfl⟩ (ConvH.of (.cons r1 .nil))
 refine eq_int ?_
 refine cs rfl rfl hm (fun w51 hm => ?_) fun w51 hm => ?_
 obtain rfl := si hm
 refine EndStep.mk _ (Hp.Le.refl _) ⟨rfl, rfl⟩ (ConvH.of (.cons r1 .nil))
 refine eq_int ?_
 refine cs rfl rfl hm (fun w54 hm => ?_) fun w54 hm => ?_
 refine guard_go rfl ?_
 obtain ⟨x62, e62, hm⟩ := bnd hm
 refine cond_s (fun g57_14 => ?_) (fun g57_14 => ?_)
 replace e62 := ift g57_14 e62
 refine RStep.of (g_load gs0 rfl (cond_t g57_14 (Ja rfl (cond_t g57_14 (RStep.of (load1_s r0 rfl rfl (cond_t g57_14 ?_)))))))
 obtain ⟨x61, q61, e62⟩ := bnd e62
 refine call_fn (JN (v' := x.S) q61 gd0 rfl) .nil ?_
 rintro _ K61 _ l61 ⟨rfl, rfl⟩
 refine cond_t g57_14 ?_
 obtain rfl := si hm
 refine EndStep.mk _ l61 ⟨(by rw [← (si e62)] <;> rfl), rfl⟩ (ConvH.of (.cons r1 .nil))
 replace e62 := iff_ g57_14 e62
 refine cond_f g57_14 (cond_f g57_14 (cond_f g57_14 (cond_f g57_14 ?_)))
 obtain rfl := si hm
 refine EndStep.mk _ (Hp.Le.refl _) ⟨(by rw [← ((si e62).symm).symm] <;> rfl), rfl⟩ (ConvH.of (.cons r1 .nil))
 refine eq_int ?_
 refine cs rfl rfl hm (fun w63 hm => ?_) fun w63 hm => ?_
 refine guard_go rfl ?_
 obtain ⟨x71, e71, hm⟩ := bnd hm
 refine cond_s (fun g66_16 => ?_) (fun g66_16 => ?_)
 replace e71 := ift g66_16 e71
 refine RStep.of (g_load gs1 rfl (cond_t g66_16 (Ja rfl (cond_t g66_16 (RStep.of (load1_s r0 rfl rfl (cond_t g66_16 ?_)))))))
 obtain ⟨x70, q70, e71⟩ := bnd e71
 refine call_fn (JN (v' := x.S) q70 gd1 rfl) .nil ?_
 rintro _ K70 _ l70 ⟨rfl, rfl⟩
 refine cond_t g66_16 ?_
 obtain rfl := si hm
 refine EndStep.mk _ l70 ⟨(by rw [← (si e71)] <;> rfl), rfl⟩ (ConvH.of (.cons r1 .nil))
 replace e71 := iff_ g66_16 e71
 refine cond_f g66_16 (cond_f g66_16 (cond_f g66_16 (cond_f g66_16 ?_)))
 obtain rfl := si hm
 refine EndStep.mk _ (Hp.Le.refl _) ⟨(by rw [← ((si e71).symm).symm] <;> rfl), rfl⟩ (ConvH.of (.cons r1 .nil))
 refine eq_int ?_
 refine cs rfl rfl hm (fun w72 hm => ?_) fun w72 hm => ?_
 refine guard_go rfl ?_
 obtain ⟨x80, e80, hm⟩ := bnd hm
 refine cond_s (fun g75_18 => ?_) (fun g75_18 => ?_)
 replace e80 := ift g75_18 e80
 refine RStep.of (g_load gs2 rfl (cond_t g75_18 (Ja rfl (cond_t g75_18 (RStep.of (load1_s r0 rfl rfl (cond_t g75_18 ?_)))))))
 obtain ⟨x79, q79, e80⟩ := bnd e80
 refine call_fn (JN (v' := x.S) q79 gd2 rfl) .nil ?_
 rintro _ K79 _ l79 ⟨rfl, rfl⟩
 refine cond_t g75_18 ?_
 obtain rfl := si hm
 refine EndStep.mk _ l79 ⟨(by rw [← (si e80)] <;> rfl), rfl⟩ (ConvH.of (.cons r1 .nil))
 replace e80 := iff_ g75_18 e80
 refine cond_f g75_18 (cond_f g75_18 (cond_f g75_18 (cond_f g75_18 ?_)))
 obtain rfl := si hm
 refine EndStep.mk _ (Hp.Le.refl _) ⟨(by rw [← ((si e80).symm).symm] <;> rfl), rfl⟩ (ConvH.of (.cons r1 .nil))
 refine eq_int ?_
 refine cs rfl rfl hm (fun w81 hm => ?_) fun w81 hm => ?_
 refine guard_go rfl ?_
 refine cond_s (fun g84_20 => ?_) (fun g84_20 => ?_)
 refine cond_t g84_20 ?_
 obtain rfl := si hm
 refine EndStep.mk _ (Hp.Le.refl _) ⟨(by rw [← (and_e (b := decide (x.S = ([] : Str))) g84_20)] <;> rfl), rfl⟩ (ConvH.of (.cons r1 .nil))
 refine cond_f g84_20 ?_
 obtain rfl := si hm
 refine EndStep.mk _ (Hp.Le.refl _) ⟨(by rw [← ((and_f g84_20)).symm] <;> rfl), rfl⟩ (ConvH.of (.cons r1 .nil))
 refine eq_int ?_
 refine cs rfl rfl hm (fun w87 hm => ?_) fun w87 hm => ?_
 obtain rfl := si hm
 refine EndStep.mk _ (Hp.Le.refl _) ⟨rfl, rfl⟩ (ConvH.of (.cons r1 .nil))
 refine eq_int ?_
 refine cs rfl rfl hm (fun w90 hm => ?_) fun w90 hm => ?_
 obtain rfl := si hm
 refine EndStep.mk _ (Hp.Le.refl _) ⟨rfl, rfl⟩ (ConvH.of (.cons r1 .nil))
 refine eq_int ?_
 refine cs rfl rfl hm (fun w93 hm => ?_) fun w93 hm => ?_
 refine Ja rfl (RStep.of (load1_s r0 rfl rfl ?_))
 obtain ⟨x98, q98, hm⟩ := bnd hm
 refine call_fn (Jck (s := x.S) q98) .nil ?_
 rintro _ K98 _ l98 ⟨rfl, rfl⟩
 refine guard_go rfl ?_
 refine cond_s (fun g103_27 => ?_) (fun g103_27 => ?_)
 refine cond_t g103_27 ?_
 obtain rfl := si hm
 refine EndStep.mk _ l98 ⟨(by rw [← (and_e (b := x98.2) g103_27)] <;> rfl), rfl⟩ (ConvH.of (.cons r1 .nil))
 refine cond_f g103_27 ?_
 obtain rfl := si hm
 refine EndStep.mk _ l98 ⟨(by rw [← ((and_f g103_27)).symm] <;> rfl), rfl⟩ (ConvH.of (.cons r1 .nil))
 refine eq_int ?_
 refine cs rfl rfl hm (fun w106 hm => ?_) fun w106 hm => ?_
 refine guard_go rfl ?_
 refine cond_s (fun g109_29 => ?_) (fun g109_29 => ?_)
 refine cond_t g109_29 ?_
 obtain rfl := si hm
 refine EndStep.mk _ (Hp.Le.refl _) ⟨(by rw [← (and_e (b := decide (x.S = ([] : Str))) g109_29)] <;> rfl), rfl⟩ (ConvH.of (.cons r1 .nil))
 refine cond_f g109_29 ?_
 obtain rfl := si hm
 refine EndStep.mk _ (Hp.Le.refl _) ⟨(by rw [← ((and_f g109_29)).symm] <;> rfl), rfl⟩ (ConvH.of (.cons r1 .nil))
 obtain rfl := si hm
 refine EndStep.mk _ (Hp.Le.refl _) ⟨rfl, rfl⟩ (ConvH.of (.cons r1 .nil))

noncomputable def J8 (s : Jc) (slot : Int) : Option (Bool) :=
  (chk ((64 : Int) ≠ 0 ∧ InI (Int.tdiv slot 64))).bind fun _ =>
  (chk (0 ≤ (Int.tdiv slot 64) ∧ (Int.tdiv slot 64) < 8)).bind fun _ =>
  (chk (0 ≤ (Int.tmod slot 64))).bind fun _ =>
  some (decide ((u64and (u64shr (List.getD [s.stored.f0, s.stored.f1, s.stored.f2, s.stored.f3, s.stored.f4, s.stored.f5, s.stored.f6, s.stored.f7] (Int.toNat (Int.tdiv slot 64)) 0) (Int.tmod slot 64)) 1) = 1))
set_option maxHeartbeats 8000000 in
theorem JbD {s : Jc} {slot : Int} {K : Hp} {r : Bool}
    (hm : J8 s slot = some r)  :
    Fn Tryz.prog 101 [.agg #[.bool s.reached, .int .i64 s.depth, .int .u64 s.stored.f0, .int .u64 s.stored.f1, .int .u64 s.stored.f2, .int .u64 s.stored.f3, .int .u64 s.stored.f4, .int .u64 s.stored.f5, .int .u64 s.stored.f6, .int .u64 s.stored.f7], .int .i64 slot] K [] (fun v K' H' => v = .bool r ∧ H' = []) := by
 refine Fn.enter Tryz.func101 Tryz.call101 rfl fun F => ?_
 unfold J8 at hm
 refine box_rule ?_
 intro b2
 obtain ⟨h6, hm⟩ := chkb hm
 refine quo_t h6.1 h6.2 (Ja rfl ?_)
 obtain ⟨h8, hm⟩ := chkb hm
 refine RStep.ofN (arr_addrV (sz := 1) rfl rfl h8.1 h8.2 (RStep.of (ld_arr (L := [s.stored.f0, s.stored.f1, s.stored.f2, s.stored.f3, s.stored.f4, s.stored.f5, s.stored.f6, s.stored.f7]) (pre := [.bool s.reached, .int .i64 s.depth]) (post := []) r0 rfl (by simp) rfl h8.1 h8.2 (rem_t (by decide) ?_))))
 obtain ⟨h12, hm⟩ := chkb hm
 refine u64_shr h12 ?_
 refine u64_and ?_
 refine eq_int ?_
 obtain rfl := si hm
 refine EndStep.mk _ (Hp.Le.refl _) ⟨rfl, rfl⟩ (ConvH.of (.cons r1 .nil))

noncomputable def JZ (t : Jc) : Nat → Nat → Int → Int → Int → Int → Int → Int → Int → Int → Option (Int × Int × Int × Int × Int × Int × Int × Int)
  | 0, _, y0_0, y0_1, y0_2, y0_3, y0_4, y0_5, y0_6, y0_7 => some (y0_0, y0_1, y0_2, y0_3, y0_4, y0_5, y0_6, y0_7)
  | xs0 + 1, i0, y0_0, y0_1, y0_2, y0_3, y0_4, y0_5, y0_6, y0_7 =>
    (chk (0 ≤ (i0 : Int) ∧ (i0 : Int) < 8)).bind fun _ =>
    (chk (0 ≤ (i0 : Int) ∧ (i0 : Int) < 8)).bind fun _ =>
    (chk (0 ≤ (i0 : Int) ∧ (i0 : Int) < 8)).bind fun _ =>
    (some (List.set [y0_0, y0_1, y0_2, y0_3, y0_4, y0_5, y0_6, y0_7] (Int.toNat (i0 : Int)) (u64and (List.getD [y0_0, y0_1, y0_2, y0_3, y0_4, y0_5, y0_6, y0_7] (Int.toNat (i0 : Int)) 0) (List.getD [t.stored.f0, t.stored.f1, t.stored.f2, t.stored.f3, t.stored.f4, t.stored.f5, t.stored.f6, t.stored.f7] (Int.toNat (i0 : Int)) 0)))).bind fun m10_ =>
    JZ t xs0 (i0 + 1) (List.getD m10_ 0 0) (List.getD m10_ 1 0) (List.getD m10_ 2 0) (List.getD m10_ 3 0) (List.getD m10_ 4 0) (List.getD m10_ 5 0) (List.getD m10_ 6 0) (List.getD m10_ 7 0)
noncomputable def Jbe (s : Jc) (t : Jc) : Option (Bool × Jc) :=
  if (!s.reached) then
  some (true, t)
  else
  (chk (InI (8 : Int))).bind fun _ =>
  (JZ t (8 : Int).toNat 0 s.stored.f0 s.stored.f1 s.stored.f2 s.stored.f3 s.stored.f4 s.stored.f5 s.stored.f6 s.stored.f7).bind fun t0 =>
  some (decide (s.depth = t.depth), (⟨s.reached, s.depth, (⟨t0.1, t0.2.1, t0.2.2.1, t0.2.2.2.1, t0.2.2.2.2.1, t0.2.2.2.2.2.1, t0.2.2.2.2.2.2.1, t0.2.2.2.2.2.2.2⟩ : JC)⟩ : Jc))
set_option maxHeartbeats 8000000 in
theorem Jcz {s : Jc} {t : Jc} {b0 : Nat} {K : Hp} {r : Bool × Jc}
    (hm : Jbe s t = some r)  :
    Fn Tryz.prog 102 [.pointer (some ⟨b0, 0, none⟩), .agg #[.bool t.reached, .int .i64 t.depth, .int .u64 t.stored.f0, .int .u64 t.stored.f1, .int .u64 t.stored.f2, .int .u64 t.stored.f3, .int .u64 t.stored.f4, .int .u64 t.stored.f5, .int .u64 t.stored.f6, .int .u64 t.stored.f7]] K [Cells b0 204 [.bool s.reached, .int .i64 s.depth, .int .u64 s.stored.f0, .int .u64 s.stored.f1, .int .u64 s.stored.f2, .int .u64 s.stored.f3, .int .u64 s.stored.f4, .int .u64 s.stored.f5, .int .u64 s.stored.f6, .int .u64 s.stored.f7]] (fun v K' H' => v = .bool r.1 ∧ H' = [Cells b0 204 [.bool r.2.reached, .int .i64 r.2.depth, .int .u64 r.2.stored.f0, .int .u64 r.2.stored.f1, .int .u64 r.2.stored.f2, .int .u64 r.2.stored.f3, .int .u64 r.2.stored.f4, .int .u64 r.2.stored.f5, .int .u64 r.2.stored.f6, .int .u64 r.2.stored.f7]]) := by
 refine Fn.enter Tryz.func102 Tryz.call102 rfl fun F => ?_
 unfold Jbe at hm
 refine box_rule ?_
 intro b3
 refine nil_check (Ja rfl (RStep.of (load1_s r1 rfl rfl (un_not (cond_go rfl ?_)))))
 refine cond_s (fun w10 => ?_) (fun w10 => ?_)
 replace hm := ift (not_t (ni_t w10)) hm
 refine RStep.of (loadn_s r0 rfl (Nat.le_of_ble_eq_true rfl) (nil_check ?_))
 refine store_rule r1 rfl ?_
 refine ⟨rfl, rfl, (Nat.le_of_ble_eq_true rfl), ?_⟩
 obtain rfl := si hm
 refine EndStep.mk _ (Hp.Le.refl _) ⟨rfl, rfl⟩ (ConvH.of (.cons r0 (.cons r1 .nil)))
 replace hm := iff_ (not_f (ni_f w10)) hm
 obtain ⟨hk0, hm⟩ := chkb hm
 obtain ⟨s0, hl0, hm⟩ := bnd hm
 refine code_cut (σ := (Int × Int × Int × Int × Int × Int × Int × Int)) [5, 14, 15, 16, 17, 18, 19, 20, 21, 22, 23, 24, 25, 26, 27, 28, 29, 30, 31] (fun t0 => []) (fun t0 => [Cells b3 204 [.bool t.reached, .int .i64 t.depth, .int .u64 t.stored.f0, .int .u64 t.stored.f1, .int .u64 t.stored.f2, .int .u64 t.stored.f3, .int .u64 t.stored.f4, .int .u64 t.stored.f5, .int .u64 t.stored.f6, .int .u64 t.stored.f7], Cells b0 204 [.bool s.reached, .int .i64 s.depth, .int .u64 t0.1, .int .u64 t0.2.1, .int .u64 t0.2.2.1, .int .u64 t0.2.2.2.1, .int .u64 t0.2.2.2.2.1, .int .u64 t0.2.2.2.2.2.1, .int .u64 t0.2.2.2.2.2.2.1, .int .u64 t0.2.2.2.2.2.2.2], F]) (fun zz K1 => match zz with | t0 => t0 = s0) ?_ ?_
 refine block_go rfl ?_
 refine loop_rule (σ := Nat × Int × Int × Int × Int × Int × Int × Int × Int) [5, 14, 15, 16, 17, 18, 19, 20, 21, 22, 23, 24, 25, 26, 27, 28, 29, 30, 31] (fun (i0, y0_0, y0_1, y0_2, y0_3, y0_4, y0_5, y0_6, y0_7) => [(14, .int .i64 (i0 : Int))]) (fun (i0, y0_0, y0_1, y0_2, y0_3, y0_4, y0_5, y0_6, y0_7) => [Cells b3 204 [.bool t.reached, .int .i64 t.depth, .int .u64 t.stored.f0, .int .u64 t.stored.f1, .int .u64 t.stored.f2, .int .u64 t.stored.f3, .int .u64 t.stored.f4, .int .u64 t.stored.f5, .int .u64 t.stored.f6, .int .u64 t.stored.f7], Cells b0 204 [.bool s.reached, .int .i64 s.depth, .int .u64 y0_0, .int .u64 y0_1, .int .u64 y0_2, .int .u64 y0_3, .int .u64 y0_4, .int .u64 y0_5, .int .u64 y0_6, .int .u64 y0_7], F]) (fun zz K1 => match zz with | (i0, y0_0, y0_1, y0_2, y0_3, y0_4, y0_5, y0_6, y0_7) => JZ t ((8 : Int).toNat - i0) i0 y0_0 y0_1 y0_2 y0_3 y0_4 y0_5 y0_6 y0_7 = some s0) (fun zz => (8 : Int).toNat - zz.1) (0, s.stored.f0, s.stored.f1, s.stored.f2, s.stored.f3, s.stored.f4, s.stored.f5, s.stored.f6, s.stored.f7) rfl ⟨rfl, trivial⟩ (ConvH.of (.cons r0 (.cons r0 (.cons r0 .nil)))) hl0 ?_
 clear hl0
 rintro ⟨i0, y0_0, y0_1, y0_2, y0_3, y0_4, y0_5, y0_6, y0_7⟩ Kb0 lk0 hl0 j0
 conv at hl0 => whnf
 refine cond_go rfl ?_
 refine cond_s (fun w0 => ?_) (fun w0 => ?_)
 rw [ltn (n := (8 : Int)) w0, JZ.eq_2] at hl0
 refine block_go rfl ?_
 refine draw_go_tail ⟨⟨[], false⟩, _, [(_, _), (_, _)], []⟩ 13 rfl (by kernel_rfl) ⟨Hp.Le.refl _, (ConvH.of (.cons r1 (.cons r0 .nil))), ci0⟩ ?_
 refine nil_check (Ja rfl ?_)
 obtain ⟨h21, hl0⟩ := chkb hl0
 refine arr_addrV (sz := 1) rfl rfl h21.1 h21.2 ?_
 refine ld_arr_l (L := [y0_0, y0_1, y0_2, y0_3, y0_4, y0_5, y0_6, y0_7]) (pre := [.bool s.reached, .int .i64 s.depth]) (post := []) m0 rfl (by simp) rfl h21.1 h21.2 ?_
 refine Ja rfl ?_
 obtain ⟨h25, hl0⟩ := chkb hl0
 refine arr_addrV (sz := 1) rfl rfl h25.1 h25.2 ?_
 refine ld_arr_l (L := [t.stored.f0, t.stored.f1, t.stored.f2, t.stored.f3, t.stored.f4, t.stored.f5, t.stored.f6, t.stored.f7]) (pre := [.bool t.reached, .int .i64 t.depth]) (post := []) m1 rfl (by simp) rfl h25.1 h25.2 ?_
 refine u64_and ?_
 refine nil_check (Ja rfl ?_)
 obtain ⟨h30, hl0⟩ := chkb hl0
 refine arr_addrV (sz := 1) rfl rfl h30.1 h30.2 ?_
 obtain ⟨m10_, hm10_, hl0⟩ := bnd hl0
 replace hm10_ := Option.some.inj hm10_
 have hm10_l : m10_.length = 8 := by rw [← hm10_]; simp
 refine st_arr (L := [y0_0, y0_1, y0_2, y0_3, y0_4, y0_5, y0_6, y0_7]) (pre := [.bool s.reached, .int .i64 s.depth]) (post := []) (cs' := [.bool s.reached, .int .i64 s.depth, .int .u64 (List.getD m10_ 0 0), .int .u64 (List.getD m10_ 1 0), .int .u64 (List.getD m10_ 2 0), .int .u64 (List.getD m10_ 3 0), .int .u64 (List.getD m10_ 4 0), .int .u64 (List.getD m10_ 5 0), .int .u64 (List.getD m10_ 6 0), .int .u64 (List.getD m10_ 7 0)]) r1 rfl (by simp) rfl h30.1 h30.2 hm10_ (by rw [map8 hm10_l]; rfl) ?_
 refine ⟨⟨Hp.emp_le _, (ConvH.of .nil), ci0⟩, ?_⟩
 refine int_in (cntn w0 hk0) ?_
 refine RoundStep.mk (i0 + 1, (List.getD m10_ 0 0), (List.getD m10_ 1 0), (List.getD m10_ 2 0), (List.getD m10_ 3 0), (List.getD m10_ 4 0), (List.getD m10_ 5 0), (List.getD m10_ 6 0), (List.getD m10_ 7 0)) ⟨rfl, trivial⟩ (by repeat (first | exact trivial | refine And.intro rfl ?_)) (ConvH.of (.cons r1 (.cons r0 (.cons r0 .nil)))) lk0 (ltnm w0) hl0
 rw [lto (n := (8 : Int)) w0, JZ.eq_1] at hl0
 refine cond_T ?_
 refine MeetStep.mk ((y0_0, y0_1, y0_2, y0_3, y0_4, y0_5, y0_6, y0_7)) trivial (by repeat (first | exact trivial | refine And.intro rfl ?_)) (ConvH.of (.cons r0 (.cons r0 (.cons r0 .nil)))) lk0 (si hl0)
 rintro t0 Kt0 lt0 rfl j0
 refine draw_go ⟨⟨[], false⟩, _, [(_, _), (_, _)], []⟩ (by kernel_rfl) ⟨Hp.Le.refl _, (ConvH.of (.cons r1 (.cons r0 .nil))), ci0⟩ ?_
 refine nil_check (Ja rfl (load1_l m0 rfl rfl (Ja rfl (load1_l m1 rfl rfl (eq_int ?_)))))
 obtain rfl := si hm
 refine EndStep.mk _ lt0 ⟨rfl, rfl⟩ (ConvH.of (.cons r1 (.cons r1 .nil)))

noncomputable def Jh (s_i : Nat) (t : Jc) : Nat → Nat → (List Jc) → Option ((List Jc))
  | 0, _, y0_0 => some y0_0
  | xs0 + 1, i0, y0_0 =>
    (chk (0 ≤ (i0 : Int) ∧ (i0 : Int) < 8)).bind fun _ =>
    (y0_0[s_i]?).bind fun ew3 =>
    (chk (0 ≤ (i0 : Int) ∧ (i0 : Int) < 8)).bind fun _ =>
    (chk (0 ≤ (i0 : Int) ∧ (i0 : Int) < 8)).bind fun _ =>
    (some (List.set [ew3.stored.f0, ew3.stored.f1, ew3.stored.f2, ew3.stored.f3, ew3.stored.f4, ew3.stored.f5, ew3.stored.f6, ew3.stored.f7] (Int.toNat (i0 : Int)) (u64and (List.getD [ew3.stored.f0, ew3.stored.f1, ew3.stored.f2, ew3.stored.f3, ew3.stored.f4, ew3.stored.f5, ew3.stored.f6, ew3.stored.f7] (Int.toNat (i0 : Int)) 0) (List.getD [t.stored.f0, t.stored.f1, t.stored.f2, t.stored.f3, t.stored.f4, t.stored.f5, t.stored.f6, t.stored.f7] (Int.toNat (i0 : Int)) 0)))).bind fun m4_ =>
    Jh s_i t xs0 (i0 + 1) (y0_0.set s_i (⟨ew3.reached, ew3.depth, (⟨(List.getD m4_ 0 0), (List.getD m4_ 1 0), (List.getD m4_ 2 0), (List.getD m4_ 3 0), (List.getD m4_ 4 0), (List.getD m4_ 5 0), (List.getD m4_ 6 0), (List.getD m4_ 7 0)⟩ : JC)⟩ : Jc))
noncomputable def JF (s : (List Jc)) (s_i : Nat) (t : Jc) : Option (Bool × (List Jc)) :=
  (s[s_i]?).bind fun ex0 =>
  if (!ex0.reached) then
  some (true, (s.set s_i t))
  else
  (chk (InI (8 : Int))).bind fun _ =>
  (Jh s_i t (8 : Int).toNat 0 s).bind fun t0 =>
  (t0[s_i]?).bind fun ew5 =>
  some (decide (ew5.depth = t.depth), t0)
set_option maxHeartbeats 8000000 in
theorem J3 {s : (List Jc)} {s_i : Nat} {t : Jc} {ea0 : Option Addr} {ec0 : Nat} {K : Hp} {r : Bool × (List Jc)}
    (hm : JF s s_i t = some r) (eh0 : 0 < s.length → Has ea0) :
    Fn Tryz.prog 102 [(eptr ea0 (s_i * 10)), .agg #[.bool t.reached, .int .i64 t.depth, .int .u64 t.stored.f0, .int .u64 t.stored.f1, .int .u64 t.stored.f2, .int .u64 t.stored.f3, .int .u64 t.stored.f4, .int .u64 t.stored.f5, .int .u64 t.stored.f6, .int .u64 t.stored.f7]] K [OwnL Jc.enc ea0 204 10 ec0 s] (fun v K' H' => v = .bool r.1 ∧ (0 < r.2.length → Has ea0) ∧ s.length = r.2.length ∧ H' = [OwnL Jc.enc ea0 204 10 ec0 r.2]) := by
 refine Fn.enter Tryz.func102 Tryz.call102 rfl fun F => ?_
 unfold JF at hm
 obtain ⟨ex0, ek0, hm⟩ := bnd hm
 refine box_rule ?_
 intro b3
 refine nil_checkE (hasO eh0 ek0) (eptr_field rfl (hasO eh0 ek0) (RStep.of (ld_own (i := s_i) (o := 0) r1 rfl ek0 rfl rfl (un_not (cond_go rfl ?_)))))
 refine cond_s (fun w10 => ?_) (fun w10 => ?_)
 replace hm := ift (not_t (ni_t w10)) hm
 refine RStep.of (loadn_s r0 rfl (Nat.le_of_ble_eq_true rfl) (nil_checkE (hasO eh0 ek0) ?_))
 refine st_own (o := 0) (y := t) ex0 r1 rfl ek0 rfl (by (conv => whnf); exact ⟨rfl, rfl, (Nat.le_of_ble_eq_true rfl), rfl, rfl, rfl⟩) ?_
 obtain rfl := si hm
 refine EndStep.mk _ (Hp.Le.refl _) ⟨rfl, (by first | simpa using eh0 | exact fun _ => ⟨_, _, rfl⟩), ((rfl).trans List.length_set.symm), rfl⟩ (ConvH.of (.cons r0 (.cons r1 .nil)))
 replace hm := iff_ (not_f (ni_f w10)) hm
 obtain ⟨hk0, hm⟩ := chkb hm
 obtain ⟨s0, hl0, hm⟩ := bnd hm
 refine code_cut (σ := ((List Jc))) [5, 14, 15, 16, 17, 18, 19, 20, 21, 22, 23, 24, 25, 26, 27, 28, 29, 30, 31] (fun t0 => []) (fun t0 => [Cells b3 204 [.bool t.reached, .int .i64 t.depth, .int .u64 t.stored.f0, .int .u64 t.stored.f1, .int .u64 t.stored.f2, .int .u64 t.stored.f3, .int .u64 t.stored.f4, .int .u64 t.stored.f5, .int .u64 t.stored.f6, .int .u64 t.stored.f7], OwnL Jc.enc ea0 204 10 ec0 t0, F]) (fun zz K1 => match zz with | t0 => (0 < t0.length → Has ea0) ∧ s.length = t0.length ∧ t0 = s0) ?_ ?_
 refine block_go rfl ?_
 refine loop_rule (σ := Nat × (List Jc)) [5, 14, 15, 16, 17, 18, 19, 20, 21, 22, 23, 24, 25, 26, 27, 28, 29, 30, 31] (fun (i0, y0_0) => [(14, .int .i64 (i0 : Int))]) (fun (i0, y0_0) => [Cells b3 204 [.bool t.reached, .int .i64 t.depth, .int .u64 t.stored.f0, .int .u64 t.stored.f1, .int .u64 t.stored.f2, .int .u64 t.stored.f3, .int .u64 t.stored.f4, .int .u64 t.stored.f5, .int .u64 t.stored.f6, .int .u64 t.stored.f7], OwnL Jc.enc ea0 204 10 ec0 y0_0, F]) (fun zz K1 => match zz with | (i0, y0_0) => (0 < y0_0.length → Has ea0) ∧ s.length = y0_0.length ∧ Jh s_i t ((8 : Int).toNat - i0) i0 y0_0 = some s0) (fun zz => (8 : Int).toNat - zz.1) (0, s) rfl ⟨rfl, trivial⟩ (ConvH.of (.cons r0 (.cons r0 (.cons r0 .nil)))) ⟨eh0, rfl, hl0⟩ ?_
 clear hl0
 rintro ⟨i0, y0_0⟩ Kb0 lk0 ⟨y0_h0, y0_n0, hl0⟩ j0
 refine cond_go rfl ?_
 refine cond_s (fun w0 => ?_) (fun w0 => ?_)
 rw [ltn (n := (8 : Int)) w0, Jh.eq_2] at hl0
 refine block_go rfl ?_
 refine draw_go ⟨⟨[], true⟩, _, [], []⟩ (by kernel_rfl) ⟨Hp.Le.refl _, (ConvH.of .nil), ci0⟩ ?_
 refine nil_checkE (hasO eh0 ek0) (eptr_field rfl (hasO eh0 ek0) ?_)
 obtain ⟨h21, hl0⟩ := chkb hl0
 refine arr_addrE (sz := 1) rfl rfl (hasO eh0 ek0) h21.1 h21.2 ?_
 obtain ⟨ew3, ej3, hl0⟩ := bnd hl0
 refine ld_own (i := s_i) (o := 2 + (Int.toNat (i0 : Int))) r1 rfl ej3 (arr_get (L := [ew3.stored.f0, ew3.stored.f1, ew3.stored.f2, ew3.stored.f3, ew3.stored.f4, ew3.stored.f5, ew3.stored.f6, ew3.stored.f7]) (pre := [.bool ew3.reached, .int .i64 ew3.depth]) (post := []) rfl h21.1 h21.2) (by omega) ?_
 refine Ja rfl ?_
 obtain ⟨h25, hl0⟩ := chkb hl0
 refine arr_addrV (sz := 1) rfl rfl h25.1 h25.2 ?_
 refine ld_arr (L := [t.stored.f0, t.stored.f1, t.stored.f2, t.stored.f3, t.stored.f4, t.stored.f5, t.stored.f6, t.stored.f7]) (pre := [.bool t.reached, .int .i64 t.depth]) (post := []) r0 rfl (by simp) rfl h25.1 h25.2 ?_
 refine u64_and ?_
 refine nil_checkE (hasO eh0 ek0) (eptr_field rfl (hasO eh0 ek0) ?_)
 obtain ⟨h30, hl0⟩ := chkb hl0
 refine arr_addrE (sz := 1) rfl rfl (hasO eh0 ek0) h30.1 h30.2 ?_
 obtain ⟨m4_, hm4_, hl0⟩ := bnd hl0
 replace hm4_ := Option.some.inj hm4_
 have hm4_l : m4_.length = 8 := by rw [← hm4_]; simp
 refine st_own (n := 1) (o := 2 + (Int.toNat (i0 : Int))) (y := (⟨ew3.reached, ew3.depth, (⟨(List.getD m4_ 0 0), (List.getD m4_ 1 0), (List.getD m4_ 2 0), (List.getD m4_ 3 0), (List.getD m4_ 4 0), (List.getD m4_ 5 0), (List.getD m4_ 6 0), (List.getD m4_ 7 0)⟩ : JC)⟩ : Jc)) ew3 r1 rfl ej3 (by omega) (by rw [cellsL_eq]; exact ⟨rfl, rfl, by omega, (arr_splice (L := [ew3.stored.f0, ew3.stored.f1, ew3.stored.f2, ew3.stored.f3, ew3.stored.f4, ew3.stored.f5, ew3.stored.f6, ew3.stored.f7]) (pre := [.bool ew3.reached, .int .i64 ew3.depth]) (post := []) h30.1 h30.2).trans (by rw [hm4_, map8 hm4_l]; rfl), rfl, rfl⟩) ?_
 refine ⟨⟨(Hp.Le.refl _), (ConvH.of .nil), ci0⟩, ?_⟩
 refine int_in (cntn w0 hk0) ?_
 refine RoundStep.mk (i0 + 1, (y0_0.set s_i (⟨ew3.reached, ew3.depth, (⟨(List.getD m4_ 0 0), (List.getD m4_ 1 0), (List.getD m4_ 2 0), (List.getD m4_ 3 0), (List.getD m4_ 4 0), (List.getD m4_ 5 0), (List.getD m4_ 6 0), (List.getD m4_ 7 0)⟩ : JC)⟩ : Jc))) ⟨rfl, trivial⟩ (by repeat (first | exact trivial | refine And.intro rfl ?_)) (ConvH.of (.cons r1 (.cons r0 (.cons r0 .nil)))) lk0 (ltnm w0) ⟨(by first | simpa using y0_h0 | exact fun _ => ⟨_, _, rfl⟩), ((y0_n0).trans List.length_set.symm), hl0⟩
 rw [lto (n := (8 : Int)) w0, Jh.eq_1] at hl0
 refine cond_T ?_
 refine MeetStep.mk (y0_0) trivial (by repeat (first | exact trivial | refine And.intro rfl ?_)) (ConvH.of (.cons r0 (.cons r0 (.cons r0 .nil)))) lk0 ⟨y0_h0, y0_n0, (si hl0)⟩
 rintro t0 Kt0 lt0 ⟨t0_h0, t0_n0, rfl⟩ j0
 refine draw_go ⟨⟨[], true⟩, _, [], []⟩ (by kernel_rfl) ⟨Hp.Le.refl _, (ConvH.of .nil), ci0⟩ ?_
 refine nil_checkE (hasO eh0 ek0) (eptr_field rfl (hasO eh0 ek0) ?_)
 obtain ⟨ew5, ej5, hm⟩ := bnd hm
 refine ld_own (i := s_i) (o := 1) r1 rfl ej5 rfl rfl ?_
 refine Ja rfl ?_
 refine load1_s r0 rfl rfl ?_
 refine eq_int ?_
 obtain rfl := si hm
 refine EndStep.mk _ lt0 ⟨rfl, t0_h0, t0_n0, rfl⟩ (ConvH.of (.cons r1 (.cons r1 .nil)))

noncomputable def JX (code : (List Je)) : List Je → Nat → Int → (List Jc) → Option (Fl (Int × Bool) (Int × (List Jc)))
  | [], _, y0_0, y0_1 => some (Fl.go (y0_0, y0_1))
  | e0 :: xs0, i0, y0_0, y0_1 =>
    (ix y0_1 (i0 : Int)).bind fun x36 =>
    (JaH e0).bind fun x40 =>
    (chk (InI ((code.length : Int) - 1))).bind fun _ =>
    if ((((!x40.2.2) || (!x36.reached)) || decide (x36.depth < x40.1)) || (!((decide (e0.Op = 12)) == (decide ((i0 : Int) = ((code.length : Int) - 1)))))) then
    some (Fl.ret (0, false))
    else
    (if decide (e0.Op = 3) then (J8 x36 e0.N).bind fun x77 =>
    some (!x77) else some false).bind fun x79 =>
    if x79 then
    some (Fl.ret (0, false))
    else
    (chk (InI (x40.2.1 - x40.1))).bind fun _ =>
    (chk (InI (x36.depth + (x40.2.1 - x40.1)))).bind fun _ =>
    ((if decide (e0.Op = 4) then
    (chk ((64 : Int) ≠ 0 ∧ InI (Int.tdiv e0.N 64))).bind fun _ =>
    (chk (0 ≤ (Int.tdiv e0.N 64) ∧ (Int.tdiv e0.N 64) < 8)).bind fun _ =>
    (chk (0 ≤ (Int.tmod e0.N 64))).bind fun _ =>
    (chk (0 ≤ (Int.tdiv e0.N 64) ∧ (Int.tdiv e0.N 64) < 8)).bind fun _ =>
    (some (List.set [x36.stored.f0, x36.stored.f1, x36.stored.f2, x36.stored.f3, x36.stored.f4, x36.stored.f5, x36.stored.f6, x36.stored.f7] (Int.toNat (Int.tdiv e0.N 64)) (u64or (List.getD [x36.stored.f0, x36.stored.f1, x36.stored.f2, x36.stored.f3, x36.stored.f4, x36.stored.f5, x36.stored.f6, x36.stored.f7] (Int.toNat (Int.tdiv e0.N 64)) 0) (u64shl 1 (Int.tmod e0.N 64))))).bind fun m18_ =>
    some ((List.getD m18_ 0 0), (List.getD m18_ 1 0), (List.getD m18_ 2 0), (List.getD m18_ 3 0), (List.getD m18_ 4 0), (List.getD m18_ 5 0), (List.getD m18_ 6 0), (List.getD m18_ 7 0))
    else
    some (x36.stored.f0, x36.stored.f1, x36.stored.f2, x36.stored.f3, x36.stored.f4, x36.stored.f5, x36.stored.f6, x36.stored.f7) : Option (Int × Int × Int × Int × Int × Int × Int × Int))).bind fun t916 =>
    ((if (decide (e0.Op = 9) || decide (e0.Op = 10)) then
    if (decide (e0.N ≤ (i0 : Int)) || decide (e0.N ≥ (code.length : Int))) then
    some (Fl.ret (0, false))
    else
    (ix y0_1 e0.N).bind fun x135 =>
    (JF y0_1 ((e0.N).toNat) (⟨x36.reached, (x36.depth + (x40.2.1 - x40.1)), (⟨t916.1, t916.2.1, t916.2.2.1, t916.2.2.2.1, t916.2.2.2.2.1, t916.2.2.2.2.2.1, t916.2.2.2.2.2.2.1, t916.2.2.2.2.2.2.2⟩ : JC)⟩ : Jc)).bind fun x137 =>
    if (!x137.1) then
    some (Fl.ret (0, false))
    else
    some (Fl.go x137.2)
    else
    some (Fl.go y0_1) : Option (Fl (Int × Bool) ((List Jc))))).bind fun s920 => s920.el (fun r => some (Fl.ret r)) fun t920 =>
    if decide ((i0 : Int) = ((code.length : Int) - 1)) then
    some (Fl.ret ((max (max y0_0 x36.depth) (x36.depth + (x40.2.1 - x40.1))), decide ((x36.depth + (x40.2.1 - x40.1)) = 0)))
    else
    if decide (e0.Op ≠ 9) then
    (ix t920 ((i0 : Int) + 1)).bind fun x152 =>
    (JF t920 ((((i0 : Int) + 1)).toNat) (⟨x36.reached, (x36.depth + (x40.2.1 - x40.1)), (⟨t916.1, t916.2.1, t916.2.2.1, t916.2.2.2.1, t916.2.2.2.2.1, t916.2.2.2.2.2.1, t916.2.2.2.2.2.2.1, t916.2.2.2.2.2.2.2⟩ : JC)⟩ : Jc)).bind fun x154 =>
    if (!x154.1) then
    some (Fl.ret (0, false))
    else
    JX code xs0 (i0 + 1) (max (max y0_0 x36.depth) (x36.depth + (x40.2.1 - x40.1))) x154.2
    else
    JX code xs0 (i0 + 1) (max (max y0_0 x36.depth) (x36.depth + (x40.2.1 - x40.1))) t920
noncomputable def JaS (code : (List Je)) : Option (Int × Bool) :=
  if (decide ((code.length : Int) < 1) || decide ((code.length : Int) > 2048)) then
  some (0, false)
  else
  (chk ((0 : Int) ≤ (code.length : Int) ∧ (code.length : Int) ≤ (lim : Int))).bind fun _ =>
  (ix (List.replicate (Int.toNat (code.length : Int)) ((⟨false, 0, (⟨0, 0, 0, 0, 0, 0, 0, 0⟩ : JC)⟩ : Jc) : Jc)) 0).bind fun x25 =>
  (chk (code.length ≤ szMax)).bind fun _ =>
  (JX code code 0 0 ((List.replicate (Int.toNat (code.length : Int)) ((⟨false, 0, (⟨0, 0, 0, 0, 0, 0, 0, 0⟩ : JC)⟩ : Jc) : Jc)).set ((0 : Int).toNat) (⟨true, x25.depth, x25.stored⟩ : Jc))).bind fun s0 => s0.el some fun t0 =>
  some (0, false)
set_option maxHeartbeats 8000000 in
theorem Jcf {code : (List Je)} {ap0_0 : Option Addr} {cp0_0 : Nat} {n0 : Nat} {K : Hp} {r : Int × Bool}
    (hm : JaS code = some r) (hp0_0 : RdC Je.enc K ap0_0 cp0_0 3 code) (en0 : n0 = code.length) (hG0 : GlL eS 1 0 Jm K) (hG1 : GlL eS 1 1 Jr K) (hG2 : GlL eS 1 2 Jn K) (hG3 : GlN 3 K) (hG5 : GlA 5 (Go.Lib.pow10Tab.map fun z => Value.int .u64 z) K) :
    Fn Tryz.prog 60 [.slice ap0_0 n0 cp0_0] K [] (fun v K' H' => v = .tuple #[.int .i64 r.1, .bool r.2] ∧ H' = []) := by
 subst en0
 refine Fn.enter Tryz.func60 Tryz.call60 rfl fun F => ?_
 unfold JaS at hm
 refine code_cut (σ := Unit) [13, 14, 15, 16, 17, 18, 19, 20] (fun _ => [(20, .bool (decide ((code.length : Int) < 1) || decide ((code.length : Int) > 2048)))]) (fun _ => [F]) (fun t901 K1 => K1 = K) ?_ ?_
 refine guard_go rfl ?_
 refine RStep.of (len_slice rfl ?_)
 refine cond_s (fun g16_1 => ?_) (fun g16_1 => ?_)
 refine cond_t g16_1 (cond_t g16_1 (cond_t g16_1 ?_))
 refine MeetStep.mk (()) ⟨(by rw [← ((or_t g16_1)).symm] <;> rfl), trivial⟩ (by repeat (first | exact trivial | refine And.intro rfl ?_)) (ConvH.of (.cons r0 .nil)) (Hp.Le.refl _) rfl
 refine cond_f g16_1 (RStep.of (len_slice rfl (cond_f g16_1 (cond_f g16_1 ?_))))
 refine MeetStep.mk (()) ⟨(by rw [← (or_e (b := decide ((code.length : Int) > 2048)) g16_1)] <;> rfl), trivial⟩ (by repeat (first | exact trivial | refine And.intro rfl ?_)) (ConvH.of (.cons r0 .nil)) (Hp.Le.refl _) rfl
 rintro _ _ _ rfl j901
 refine cs rfl rfl hm (fun w20 hm => ?_) fun w20 hm => ?_
 obtain rfl := si hm
 refine EndStep.mk _ (Hp.Le.refl _) ⟨rfl, rfl⟩ (ConvH.of (.cons r0 .nil))
 refine RStep.of (len_slice rfl ?_)
 obtain ⟨h23, hm⟩ := chkb hm
 refine mk_slice (enc := Jc.enc) ((⟨false, 0, (⟨0, 0, 0, 0, 0, 0, 0, 0⟩ : JC)⟩ : Jc) : Jc) elT200 rfl rfl rfl h23 fun b23 => ?_
 obtain ⟨x25, l25, k25, hm⟩ := ixb hm
 refine RStep.ofN (index_addr rfl rfl (hasO (fun _ => ⟨_, _, rfl⟩) k25) l25 (lt_ofE List.length_replicate.symm l25 k25) (eptr_field rfl (hasO (fun _ => ⟨_, _, rfl⟩) k25) ?_))
 refine st_own (o := 0) (y := (⟨true, x25.depth, x25.stored⟩ : Jc)) x25 r0 rfl k25 rfl (by (conv => whnf); exact ⟨rfl, rfl, (Nat.le_of_ble_eq_true rfl), rfl, rfl, rfl⟩) ?_
 refine RStep.of (len_slice rfl ?_)
 obtain ⟨hk0, hm⟩ := chkb hm
 obtain ⟨s0, hl0, hm⟩ := bnd hm
 refine code_cut (σ := (Int × (List Jc))) [2, 3, 5, 6, 7, 8, 9, 10, 11, 12, 29, 30, 31, 32, 33, 34, 35, 36, 37, 38, 39, 40, 41, 42, 43, 44, 45, 46, 47, 48, 49, 50, 51, 52, 53, 54, 55, 56, 57, 58, 59, 60, 61, 62, 63, 64, 65, 66, 67, 68, 69, 70, 71, 72, 73, 74, 75, 76, 77, 78, 79, 80, 81, 82, 83, 84, 85, 86, 87, 88, 89, 90, 91, 92, 93, 94, 95, 96, 97, 98, 99, 100, 101, 102, 103, 104, 105, 106, 107, 108, 109, 110, 111, 112, 113, 114, 115, 116, 117, 118, 119, 120, 121, 122, 123, 124, 125, 126, 127, 128, 129, 130, 131, 132, 133, 134, 135, 136, 137, 138, 139, 140, 141, 142, 143, 144, 145, 146, 147, 148, 149, 150, 151, 152, 153, 154, 155, 156, 157] (fun t0 => [(5, .int .i64 t0.1)]) (fun t0 => [OwnL Jc.enc (some ⟨b23, 0, none⟩) 204 10 (Int.toNat (code.length : Int)) t0.2, F]) (fun zz K1 => match zz with | t0 => (0 < t0.2.length → Has (some ⟨b23, 0, none⟩)) ∧ (Int.toNat (code.length : Int)) = t0.2.length ∧ s0 = Fl.go t0) ?_ ?_
 refine block_go rfl ?_
 refine loop_rule (σ := Nat × Int × (List Jc)) [2, 3, 5, 6, 7, 8, 9, 10, 11, 12, 29, 30, 31, 32, 33, 34, 35, 36, 37, 38, 39, 40, 41, 42, 43, 44, 45, 46, 47, 48, 49, 50, 51, 52, 53, 54, 55, 56, 57, 58, 59, 60, 61, 62, 63, 64, 65, 66, 67, 68, 69, 70, 71, 72, 73, 74, 75, 76, 77, 78, 79, 80, 81, 82, 83, 84, 85, 86, 87, 88, 89, 90, 91, 92, 93, 94, 95, 96, 97, 98, 99, 100, 101, 102, 103, 104, 105, 106, 107, 108, 109, 110, 111, 112, 113, 114, 115, 116, 117, 118, 119, 120, 121, 122, 123, 124, 125, 126, 127, 128, 129, 130, 131, 132, 133, 134, 135, 136, 137, 138, 139, 140, 141, 142, 143, 144, 145, 146, 147, 148, 149, 150, 151, 152, 153, 154, 155, 156, 157] (fun (i0, y0_0, y0_1) => [(29, .int .i64 (i0 : Int)), (5, .int .i64 y0_0)]) (fun (i0, y0_0, y0_1) => [OwnL Jc.enc (some ⟨b23, 0, none⟩) 204 10 (Int.toNat (code.length : Int)) y0_1, F]) (fun zz K1 => match zz with | (i0, y0_0, y0_1) => (0 < y0_1.length → Has (some ⟨b23, 0, none⟩)) ∧ (Int.toNat (code.length : Int)) = y0_1.length ∧ JX code (code.drop i0) i0 y0_0 y0_1 = some s0) (fun zz => code.length - zz.1) (0, 0, ((List.replicate (Int.toNat (code.length : Int)) ((⟨false, 0, (⟨0, 0, 0, 0, 0, 0, 0, 0⟩ : JC)⟩ : Jc) : Jc)).set ((0 : Int).toNat) (⟨true, x25.depth, x25.stored⟩ : Jc))) rfl ⟨rfl, rfl, trivial⟩ (ConvH.of (.cons r0 (.cons r0 .nil))) ⟨(by first | simpa using (fun _ => ⟨_, _, rfl⟩) | exact fun _ => ⟨_, _, rfl⟩), ((List.length_replicate.symm).trans List.length_set.symm), hl0⟩ ?_
 clear hl0
 rintro ⟨i0, y0_0, y0_1⟩ Kb0 lk0 ⟨y0_h1, y0_n1, hl0⟩ j0
 refine cond_go rfl ?_
 refine cond_s (fun w0 => ?_) (fun w0 => ?_)
 obtain ⟨e0, hx0, hd0⟩ := ltx w0
 rw [hd0, JX.eq_2] at hl0
 refine block_go rfl ?_
 refine RStep.ofN (index_addr rfl rfl (hasK (hp0_0.mono lk0).rd hx0) (nn _) (lt_ofN hx0) (RStep.of (load_rd_agg i0 _ (hp0_0.mono lk0).rd rfl (mp hx0) rfl ?_)))
 refine alloc_rule rfl ?_
 intro b7
 refine store_rule r0 rfl ?_
 refine ⟨rfl, rfl, (Nat.le_of_ble_eq_true rfl), ?_⟩
 obtain ⟨x36, l36, k36, hl0⟩ := ixb hl0
 refine RStep.ofN (index_addr rfl rfl (hasO y0_h1 k36) l36 (lt_ofE y0_n1 l36 k36) (RStep.of (ldn_own (i := ((i0 : Int)).toNat) r1 rfl k36 rfl rfl ?_)))
 refine alloc_rule rfl ?_
 intro b8
 refine store_rule r0 rfl ?_
 refine ⟨rfl, rfl, (Nat.le_of_ble_eq_true rfl), ?_⟩
 refine RStep.of (loadn_s r1 rfl (Nat.le_of_ble_eq_true rfl) ?_)
 obtain ⟨x40, q40, hl0⟩ := bnd hl0
 refine call_fn (Jb1 (x := e0) q40 (hG0.mono lk0) (hG1.mono lk0) (hG2.mono lk0) (hG3.mono lk0) (hG5.mono lk0)) .nil ?_
 rintro _ K40 _ l40 ⟨rfl, rfl⟩
 refine RStep.of (len_slice rfl ?_)
 obtain ⟨h47, hl0⟩ := chkb hl0
 refine int_in h47 (eq_int ?_)
 refine guard_go rfl ?_
 refine un_not ?_
 refine cond_s (fun g51_12 => ?_) (fun g51_12 => ?_)
 refine cond_t g51_12 (cond_t g51_12 (cond_t g51_12 (cond_T (cond_T (cond_T ?_)))))
 refine cond_T (cond_T (cond_T (cond_T (cond_T (cond_T ?_)))))
 refine cond_T (cond_T ?_)
 replace hl0 := ift (or_t (or_t (or_t (not_t (ni_t g51_12))))) hl0
 refine cond_T (cond_T (cond_T (cond_T (cond_T (cond_T ?_)))))
 refine cond_go rfl (cond_T ?_)
 obtain rfl := si hl0
 replace hm := elr hm
 obtain rfl := si hm
 refine EndStep.mk _ (lk0.trans l40) ⟨rfl, rfl⟩ (ConvH.of (.cons r3 .nil))
 refine Ja rfl (cond_f g51_12 (RStep.of (load1_s r0 rfl rfl (cond_f g51_12 (un_not (cond_f g51_12 ?_))))))
 refine cond_s (fun g56_12 => ?_) (fun g56_12 => ?_)
 refine cond_t g56_12 (cond_t g56_12 (cond_t g56_12 (cond_t g56_12 (cond_T (cond_T ?_)))))
 refine cond_T (cond_T (cond_T (cond_T ?_)))
 replace hl0 := ift (or_t (or_t (or_u (not_f (ni_f g51_12)) (not_t (ni_t g56_12))))) hl0
 refine cond_T (cond_T (cond_T (cond_T (cond_T (cond_T ?_)))))
 refine cond_go rfl (cond_T ?_)
 obtain rfl := si hl0
 replace hm := elr hm
 obtain rfl := si hm
 refine EndStep.mk _ (lk0.trans l40) ⟨rfl, rfl⟩ (ConvH.of (.cons r3 .nil))
 refine Ja rfl (cond_f g56_12 (RStep.of (load1_s r0 rfl rfl (cond_f g56_12 (cond_f g56_12 (cond_f g56_12 ?_))))))
 refine cond_s (fun g62_12 => ?_) (fun g62_12 => ?_)
 refine cond_t g62_12 (cond_t g62_12 (cond_t g62_12 (cond_t g62_12 (cond_t g62_12 ?_))))
 replace hl0 := ift (or_t (or_u (or_f (not_f (ni_f g51_12)) (not_f (ni_f g56_12))) g62_12)) hl0
 refine cond_T (cond_T (cond_T (cond_T (cond_T (cond_T ?_)))))
 refine cond_go rfl (cond_T ?_)
 obtain rfl := si hl0
 replace hm := elr hm
 obtain rfl := si hm
 refine EndStep.mk _ (lk0.trans l40) ⟨rfl, rfl⟩ (ConvH.of (.cons r3 .nil))
 refine Ja rfl (cond_f g62_12 (RStep.of (load1_s r1 rfl rfl (cond_f g62_12 (eq_int (cond_f g62_12 ?_))))))
 refine cond_f g62_12 (neq_bool rfl (cond_f g62_12 ?_))
 refine cond_s (fun g69_12 => ?_) (fun g69_12 => ?_)
 replace hl0 := ift (or_u (or_f (or_f (not_f (ni_f g51_12)) (not_f (ni_f g56_12))) g62_12) g69_12) hl0
 refine cond_t g69_12 (cond_t g69_12 (cond_t g69_12 (cond_t g69_12 (cond_t g69_12 (cond_go rfl ?_)))))
 refine cond_T ?_
 obtain rfl := si hl0
 replace hm := elr hm
 obtain rfl := si hm
 refine EndStep.mk _ (lk0.trans l40) ⟨rfl, rfl⟩ (ConvH.of (.cons r3 .nil))
 replace hl0 := iff_ (or_f (or_f (or_f (not_f (ni_f g51_12)) (not_f (ni_f g56_12))) g62_12) g69_12) hl0
 refine Ja rfl (cond_f g69_12 (RStep.of (load1_s r1 rfl rfl (cond_f g69_12 (eq_int (cond_f g69_12 ?_))))))
 obtain ⟨x79, e79, hl0⟩ := bnd hl0
 refine cond_s (fun g73_12 => ?_) (fun g73_12 => ?_)
 replace e79 := ift g73_12 e79
 refine RStep.of (loadn_s r0 rfl (Nat.le_of_ble_eq_true rfl) (cond_t g73_12 (Ja rfl (cond_t g73_12 (RStep.of (load1_s r1 rfl rfl (cond_t g73_12 ?_)))))))
 obtain ⟨x77, q77, e79⟩ := bnd e79
 refine call_fn (JbD (s := x36) (slot := e0.N) q77) .nil ?_
 rintro _ K77 _ l77 ⟨rfl, rfl⟩
 refine cond_t g73_12 (un_not (cond_f g69_12 (cond_t g73_12 (cond_f g69_12 (cond_go rfl ?_)))))
 refine cond_s (fun w80 => ?_) (fun w80 => ?_)
 replace hl0 := ift ((si e79).symm.trans (not_t (ni_t w80))) hl0
 obtain rfl := si hl0
 replace hm := elr hm
 obtain rfl := si hm
 refine EndStep.mk _ ((lk0.trans l40).trans l77) ⟨rfl, rfl⟩ (ConvH.of (.cons r3 .nil))
 replace hl0 := iff_ ((si e79).symm.trans (not_f (ni_f w80))) hl0
 refine Ja rfl (RStep.of (load1_s r0 rfl rfl (RStep.of (max_int (Ja rfl (RStep.of (load1_s r0 rfl rfl ?_)))))))
 obtain ⟨h89, hl0⟩ := chkb hl0
 refine int_in h89 ?_
 obtain ⟨h90, hl0⟩ := chkb hl0
 refine int_in h90 (Ja rfl ?_)
 refine store_rule r0 rfl ?_
 refine ⟨rfl, rfl, (Nat.le_of_ble_eq_true rfl), ?_⟩
 refine Ja rfl (RStep.of (load1_s r0 rfl rfl (RStep.of (max_int (Ja rfl (RStep.of (load1_s r1 rfl rfl (eq_int ?_))))))))
 obtain ⟨s916, hl916, hl0⟩ := bnd hl0
 refine code_cut (σ := (Int × Int × Int × Int × Int × Int × Int × Int)) [99, 100, 101, 102, 103, 104, 105, 106, 107, 108, 109, 110, 111] (fun t916 => []) (fun t916 => [Cells b8 204 [.bool x36.reached, .int .i64 (x36.depth + (x40.2.1 - x40.1)), .int .u64 t916.1, .int .u64 t916.2.1, .int .u64 t916.2.2.1, .int .u64 t916.2.2.2.1, .int .u64 t916.2.2.2.2.1, .int .u64 t916.2.2.2.2.2.1, .int .u64 t916.2.2.2.2.2.2.1, .int .u64 t916.2.2.2.2.2.2.2], Cells b7 54 [.int .i64 e0.Op, .int .i64 e0.N, str e0.S], OwnL Jc.enc (some ⟨b23, 0, none⟩) 204 10 (Int.toNat (code.length : Int)) y0_1, F]) (fun zz K1 => match zz with | t916 => t916 = s916) ?_ ?_
 refine cs rfl rfl hl916 (fun w98 hl916 => ?_) fun w98 hl916 => ?_
 refine draw_go_tail ⟨⟨[], false⟩, _, [(_, _), (_, _)], []⟩ 12 rfl (by kernel_rfl) ⟨Hp.Le.refl _, (ConvH.of (.cons r1 (.cons r0 .nil))), ci0⟩ ?_
 refine Ja rfl (load1_l m0 rfl rfl ?_)
 obtain ⟨h101, hl916⟩ := chkb hl916
 refine quo_t h101.1 h101.2 (Ja rfl ?_)
 obtain ⟨h103, hl916⟩ := chkb hl916
 refine arr_addrV (sz := 1) rfl rfl h103.1 h103.2 ?_
 refine ld_arr_l (L := [x36.stored.f0, x36.stored.f1, x36.stored.f2, x36.stored.f3, x36.stored.f4, x36.stored.f5, x36.stored.f6, x36.stored.f7]) (pre := [.bool x36.reached, .int .i64 (x36.depth + (x40.2.1 - x40.1))]) (post := []) m1 rfl (by simp) rfl h103.1 h103.2 ?_
 refine Ja rfl (load1_l m0 rfl rfl (rem_t (by decide) ?_))
 obtain ⟨h108, hl916⟩ := chkb hl916
 refine u64_shl h108 ?_
 refine u64_or ?_
 refine Ja rfl ?_
 obtain ⟨h111, hl916⟩ := chkb hl916
 refine arr_addrV (sz := 1) rfl rfl h111.1 h111.2 ?_
 obtain ⟨m18_, hm18_, hl916⟩ := bnd hl916
 replace hm18_ := Option.some.inj hm18_
 have hm18_l : m18_.length = 8 := by rw [← hm18_]; simp
 refine st_arr (L := [x36.stored.f0, x36.stored.f1, x36.stored.f2, x36.stored.f3, x36.stored.f4, x36.stored.f5, x36.stored.f6, x36.stored.f7]) (pre := [.bool x36.reached, .int .i64 (x36.depth + (x40.2.1 - x40.1))]) (post := []) (cs' := [.bool x36.reached, .int .i64 (x36.depth + (x40.2.1 - x40.1)), .int .u64 (List.getD m18_ 0 0), .int .u64 (List.getD m18_ 1 0), .int .u64 (List.getD m18_ 2 0), .int .u64 (List.getD m18_ 3 0), .int .u64 (List.getD m18_ 4 0), .int .u64 (List.getD m18_ 5 0), .int .u64 (List.getD m18_ 6 0), .int .u64 (List.getD m18_ 7 0)]) r0 rfl (by simp) rfl h111.1 h111.2 hm18_ (by rw [map8 hm18_l]; rfl) ?_
 refine ⟨⟨Hp.emp_le _, (ConvH.of .nil), ci0⟩, ?_⟩
 refine MeetStep.mk (((List.getD m18_ 0 0), (List.getD m18_ 1 0), (List.getD m18_ 2 0), (List.getD m18_ 3 0), (List.getD m18_ 4 0), (List.getD m18_ 5 0), (List.getD m18_ 6 0), (List.getD m18_ 7 0))) trivial (by repeat (first | exact trivial | refine And.intro rfl ?_)) (ConvH.of (.cons r0 (.cons r0 (.cons r0 (.cons r0 .nil))))) (Hp.Le.refl _) (si hl916)
 refine MeetStep.mk ((x36.stored.f0, x36.stored.f1, x36.stored.f2, x36.stored.f3, x36.stored.f4, x36.stored.f5, x36.stored.f6, x36.stored.f7)) trivial (by repeat (first | exact trivial | refine And.intro rfl ?_)) (ConvH.of (.cons r0 (.cons r0 (.cons r0 (.cons r0 .nil))))) (Hp.Le.refl _) (si hl916)
 rintro t916 Kt916 lt916 rfl j916
 refine code_cut (σ := Unit) [112, 113, 114, 115, 116, 117, 118, 119] (fun _ => [(119, .bool (decide (e0.Op = 9) || decide (e0.Op = 10)))]) (fun _ => [Cells b8 204 [.bool x36.reached, .int .i64 (x36.depth + (x40.2.1 - x40.1)), .int .u64 t916.1, .int .u64 t916.2.1, .int .u64 t916.2.2.1, .int .u64 t916.2.2.2.1, .int .u64 t916.2.2.2.2.1, .int .u64 t916.2.2.2.2.2.1, .int .u64 t916.2.2.2.2.2.2.1, .int .u64 t916.2.2.2.2.2.2.2], Cells b7 54 [.int .i64 e0.Op, .int .i64 e0.N, str e0.S], OwnL Jc.enc (some ⟨b23, 0, none⟩) 204 10 (Int.toNat (code.length : Int)) y0_1, F]) (fun t919 K1 => K1 = Kt916) ?_ ?_
 refine guard_go rfl ?_
 refine Ja rfl (RStep.of (load1_s r1 rfl rfl (eq_int ?_)))
 refine cond_s (fun g115_19 => ?_) (fun g115_19 => ?_)
 refine cond_t g115_19 (cond_t g115_19 (cond_t g115_19 ?_))
 refine MeetStep.mk (()) ⟨(by rw [← ((or_t g115_19)).symm] <;> rfl), trivial⟩ (by repeat (first | exact trivial | refine And.intro rfl ?_)) (ConvH.of (.cons r0 (.cons r0 (.cons r0 (.cons r0 .nil))))) (Hp.Le.refl _) rfl
 refine Ja rfl (cond_f g115_19 (RStep.of (load1_s r1 rfl rfl (cond_f g115_19 (eq_int (cond_f g115_19 ?_))))))
 refine MeetStep.mk (()) ⟨(by rw [← (or_e (b := decide (e0.Op = 10)) g115_19)] <;> rfl), trivial⟩ (by repeat (first | exact trivial | refine And.intro rfl ?_)) (ConvH.of (.cons r0 (.cons r0 (.cons r0 (.cons r0 .nil))))) (Hp.Le.refl _) rfl
 rintro _ _ _ rfl j919
 obtain ⟨s920, hl920, hl0⟩ := bnd hl0
 refine code_cut (σ := ((List Jc))) [2, 3, 120, 121, 122, 123, 124, 125, 126, 127, 128, 129, 130, 131, 132, 133, 134, 135, 136, 137, 138, 139] (fun t920 => []) (fun t920 => [Cells b8 204 [.bool x36.reached, .int .i64 (x36.depth + (x40.2.1 - x40.1)), .int .u64 t916.1, .int .u64 t916.2.1, .int .u64 t916.2.2.1, .int .u64 t916.2.2.2.1, .int .u64 t916.2.2.2.2.1, .int .u64 t916.2.2.2.2.2.1, .int .u64 t916.2.2.2.2.2.2.1, .int .u64 t916.2.2.2.2.2.2.2], Cells b7 54 [.int .i64 e0.Op, .int .i64 e0.N, str e0.S], OwnL Jc.enc (some ⟨b23, 0, none⟩) 204 10 (Int.toNat (code.length : Int)) t920, F]) (fun zz K1 => match zz with | t920 => (0 < t920.length → Has (some ⟨b23, 0, none⟩)) ∧ (Int.toNat (code.length : Int)) = t920.length ∧ s920 = Fl.go t920) ?_ ?_
 refine cs rfl rfl hl920 (fun w119 hl920 => ?_) fun w119 hl920 => ?_
 refine draw_go ⟨⟨[], false⟩, _, [(_, _), (_, _)], []⟩ (by kernel_rfl) ⟨Hp.Le.refl _, (ConvH.of (.cons r1 (.cons r0 .nil))), ci0⟩ ?_
 refine Ja rfl (load1_l m0 rfl rfl ?_)
 refine cond_s (fun g124_20 => ?_) (fun g124_20 => ?_)
 refine cond_t g124_20 (cond_t g124_20 (cond_t g124_20 (cond_t g124_20 (cond_t g124_20 ?_))))
 replace hl920 := ift (or_t g124_20) hl920
 refine cond_T (cond_T (cond_T (cond_T (cond_T (cond_T ?_)))))
 refine cond_T (cond_T (cond_go rfl (cond_T ?_)))
 obtain rfl := si hl920
 replace hl0 := elr hl0
 obtain rfl := si hl0
 replace hm := elr hm
 obtain rfl := si hm
 refine EndStep.mk _ (((lk0.trans l40).trans l77).trans lt916) ⟨rfl, rfl⟩ (ConvH.of (.cons r3 .nil))
 refine Ja rfl (cond_f g124_20 (load1_l m0 rfl rfl (cond_f g124_20 (cond_f g124_20 (len_sliceN rfl ?_)))))
 refine cond_f g124_20 (cond_f g124_20 ?_)
 refine cond_s (fun g131_20 => ?_) (fun g131_20 => ?_)
 replace hl920 := ift (or_u g124_20 g131_20) hl920
 refine cond_t g131_20 (cond_t g131_20 (cond_t g131_20 (cond_t g131_20 (cond_t g131_20 (cond_t g131_20 ?_)))))
 refine cond_t g131_20 (cond_go rfl (cond_T ?_))
 obtain rfl := si hl920
 replace hl0 := elr hl0
 obtain rfl := si hl0
 replace hm := elr hm
 obtain rfl := si hm
 refine EndStep.mk _ (((lk0.trans l40).trans l77).trans lt916) ⟨rfl, rfl⟩ (ConvH.of (.cons r3 .nil))
 replace hl920 := iff_ (or_f g124_20 g131_20) hl920
 refine cond_f g131_20 (Ja rfl (cond_f g131_20 (load1_l m0 rfl rfl (cond_f g131_20 ?_))))
 obtain ⟨x135, l135, k135, hl920⟩ := ixb hl920
 refine index_addr rfl rfl (hasO y0_h1 k135) l135 (lt_ofE y0_n1 l135 k135) (cond_f g131_20 (loadn_l m1 rfl (Nat.le_of_ble_eq_true rfl) (cond_f g131_20 ?_)))
 obtain ⟨x137, q137, hl920⟩ := bnd hl920
 refine call_fn (J3 (s := y0_1) (s_i := ((e0.N).toNat)) (t := (⟨x36.reached, (x36.depth + (x40.2.1 - x40.1)), (⟨t916.1, t916.2.1, t916.2.2.1, t916.2.2.2.1, t916.2.2.2.2.1, t916.2.2.2.2.2.1, t916.2.2.2.2.2.2.1, t916.2.2.2.2.2.2.2⟩ : JC)⟩ : Jc)) q137 y0_h1) (.cons r2 .nil) ?_
 rintro _ K137 _ l137 ⟨rfl, h137_0, n137_0, rfl⟩
 refine ⟨⟨l137, (ConvH.of (.cons r2 (.cons r1 .nil))), ci0⟩, ?_⟩
 refine cond_f g131_20 (un_not (cond_f g131_20 (cond_go rfl ?_)))
 refine cond_s (fun w139 => ?_) (fun w139 => ?_)
 replace hl920 := ift (not_t (ni_t w139)) hl920
 obtain rfl := si hl920
 replace hl0 := elr hl0
 obtain rfl := si hl0
 replace hm := elr hm
 obtain rfl := si hm
 refine EndStep.mk _ ((((lk0.trans l40).trans l77).trans lt916).trans l137) ⟨rfl, rfl⟩ (ConvH.of (.cons r3 .nil))
 replace hl920 := iff_ (not_f (ni_f w139)) hl920
 refine MeetStep.mk (x137.2) trivial (by repeat (first | exact trivial | refine And.intro rfl ?_)) (ConvH.of (.cons r1 (.cons r1 (.cons r0 (.cons r0 .nil))))) l137 ⟨h137_0, ((y0_n1).trans n137_0), (si hl920).symm⟩
 refine MeetStep.mk (y0_1) trivial (by repeat (first | exact trivial | refine And.intro rfl ?_)) (ConvH.of (.cons r0 (.cons r0 (.cons r0 (.cons r0 .nil))))) (Hp.Le.refl _) ⟨y0_h1, y0_n1, (si hl920).symm⟩
 rintro t920 Kt920 lt920 ⟨t920_h0, t920_n0, rfl⟩ j920
 replace hl0 := elg hl0
 refine cs rfl rfl hl0 (fun w140 hl0 => ?_) fun w140 hl0 => ?_
 refine draw_go ⟨⟨[], false⟩, _, [(_, _)], []⟩ (by kernel_rfl) ⟨Hp.Le.refl _, (ConvH.of (.cons r0 .nil)), ci0⟩ ?_
 refine Ja rfl (load1_l m0 rfl rfl (eq_int ?_))
 obtain rfl := si hl0
 replace hm := elr hm
 obtain rfl := si hm
 refine EndStep.mk _ ((((lk0.trans l40).trans l77).trans lt916).trans lt920) ⟨rfl, rfl⟩ (ConvH.of (.cons r3 .nil))
 refine draw_go ⟨⟨[], false⟩, _, [(_, _), (_, _)], []⟩ (by kernel_rfl) ⟨Hp.Le.refl _, (ConvH.of (.cons r1 (.cons r0 .nil))), ci0⟩ ?_
 refine Ja rfl (load1_l m0 rfl rfl (neq_int ?_))
 refine cond_s (fun g148_24 => ?_) (fun g148_24 => ?_)
 replace hl0 := ift g148_24 hl0
 refine cond_t g148_24 (cond_t g148_24 (int_in (cntz hx0 hk0) (cond_t g148_24 ?_)))
 obtain ⟨x152, l152, k152, hl0⟩ := ixb hl0
 refine index_addr rfl rfl (hasO t920_h0 k152) l152 (lt_ofE t920_n0 l152 k152) (cond_t g148_24 (loadn_l m1 rfl (Nat.le_of_ble_eq_true rfl) (cond_t g148_24 ?_)))
 obtain ⟨x154, q154, hl0⟩ := bnd hl0
 refine call_fn (J3 (s := t920) (s_i := ((((i0 : Int) + 1)).toNat)) (t := (⟨x36.reached, (x36.depth + (x40.2.1 - x40.1)), (⟨t916.1, t916.2.1, t916.2.2.1, t916.2.2.2.1, t916.2.2.2.2.1, t916.2.2.2.2.2.1, t916.2.2.2.2.2.2.1, t916.2.2.2.2.2.2.2⟩ : JC)⟩ : Jc)) q154 t920_h0) (.cons r2 .nil) ?_
 rintro _ K154 _ l154 ⟨rfl, h154_0, n154_0, rfl⟩
 refine ⟨⟨l154, (ConvH.of (.cons r2 (.cons r1 .nil))), ci0⟩, ?_⟩
 refine cond_t g148_24 (un_not (cond_t g148_24 (cond_go rfl ?_)))
 refine cond_s (fun w156 => ?_) (fun w156 => ?_)
 replace hl0 := ift (not_t (ni_t w156)) hl0
 obtain rfl := si hl0
 replace hm := elr hm
 obtain rfl := si hm
 refine EndStep.mk _ (((((lk0.trans l40).trans l77).trans lt916).trans lt920).trans l154) ⟨rfl, rfl⟩ (ConvH.of (.cons r3 .nil))
 replace hl0 := iff_ (not_f (ni_f w156)) hl0
 refine int_in (cntz hx0 hk0) ?_
 refine RoundStep.mk (i0 + 1, (max (max y0_0 x36.depth) (x36.depth + (x40.2.1 - x40.1))), x154.2) ⟨rfl, rfl, trivial⟩ (by repeat (first | exact trivial | refine And.intro rfl ?_)) (ConvH.of (.cons r0 (.cons r2 .nil))) (((((lk0.trans l40).trans l77).trans lt916).trans lt920).trans l154) (ltm hx0) ⟨h154_0, ((t920_n0).trans n154_0), hl0⟩
 replace hl0 := iff_ g148_24 hl0
 refine cond_f g148_24 (cond_f g148_24 (cond_f g148_24 (cond_f g148_24 (cond_f g148_24 (cond_f g148_24 ?_)))))
 refine cond_f g148_24 (cond_go rfl (cond_F (int_in (cntz hx0 hk0) ?_)))
 refine RoundStep.mk (i0 + 1, (max (max y0_0 x36.depth) (x36.depth + (x40.2.1 - x40.1))), t920) ⟨rfl, rfl, trivial⟩ (by repeat (first | exact trivial | refine And.intro rfl ?_)) (ConvH.of (.cons r2 (.cons r2 .nil))) ((((lk0.trans l40).trans l77).trans lt916).trans lt920) (ltm hx0) ⟨t920_h0, t920_n0, hl0⟩
 replace e79 := iff_ g73_12 e79
 refine cond_f g73_12 (cond_f g73_12 (cond_f g73_12 (cond_f g73_12 (cond_f g69_12 (cond_f g73_12 ?_)))))
 refine cond_f g69_12 (cond_go rfl (cond_F ?_))
 replace hl0 := iff_ (si e79).symm hl0
 refine Ja rfl (RStep.of (load1_s r0 rfl rfl (RStep.of (max_int (Ja rfl (RStep.of (load1_s r0 rfl rfl ?_)))))))
 obtain ⟨h89, hl0⟩ := chkb hl0
 refine int_in h89 ?_
 obtain ⟨h90, hl0⟩ := chkb hl0
 refine int_in h90 (Ja rfl ?_)
 refine store_rule r0 rfl ?_
 refine ⟨rfl, rfl, (Nat.le_of_ble_eq_true rfl), ?_⟩
 refine Ja rfl (RStep.of (load1_s r0 rfl rfl (RStep.of (max_int (Ja rfl (RStep.of (load1_s r1 rfl rfl (eq_int ?_))))))))
 obtain ⟨s925, hl925, hl0⟩ := bnd hl0
 refine code_cut (σ := (Int × Int × Int × Int × Int × Int × Int × Int)) [99, 100, 101, 102, 103, 104, 105, 106, 107, 108, 109, 110, 111] (fun t925 => []) (fun t925 => [Cells b8 204 [.bool x36.reached, .int .i64 (x36.depth + (x40.2.1 - x40.1)), .int .u64 t925.1, .int .u64 t925.2.1, .int .u64 t925.2.2.1, .int .u64 t925.2.2.2.1, .int .u64 t925.2.2.2.2.1, .int .u64 t925.2.2.2.2.2.1, .int .u64 t925.2.2.2.2.2.2.1, .int .u64 t925.2.2.2.2.2.2.2], Cells b7 54 [.int .i64 e0.Op, .int .i64 e0.N, str e0.S], OwnL Jc.enc (some ⟨b23, 0, none⟩) 204 10 (Int.toNat (code.length : Int)) y0_1, F]) (fun zz K1 => match zz with | t925 => t925 = s925) ?_ ?_
 refine cs rfl rfl hl925 (fun w98 hl925 => ?_) fun w98 hl925 => ?_
 refine draw_go_tail ⟨⟨[], false⟩, _, [(_, _), (_, _)], []⟩ 12 rfl (by kernel_rfl) ⟨Hp.Le.refl _, (ConvH.of (.cons r1 (.cons r0 .nil))), ci0⟩ ?_
 refine Ja rfl (load1_l m0 rfl rfl ?_)
 obtain ⟨h101, hl925⟩ := chkb hl925
 refine quo_t h101.1 h101.2 (Ja rfl ?_)
 obtain ⟨h103, hl925⟩ := chkb hl925
 refine arr_addrV (sz := 1) rfl rfl h103.1 h103.2 ?_
 refine ld_arr_l (L := [x36.stored.f0, x36.stored.f1, x36.stored.f2, x36.stored.f3, x36.stored.f4, x36.stored.f5, x36.stored.f6, x36.stored.f7]) (pre := [.bool x36.reached, .int .i64 (x36.depth + (x40.2.1 - x40.1))]) (post := []) m1 rfl (by simp) rfl h103.1 h103.2 ?_
 refine Ja rfl (load1_l m0 rfl rfl (rem_t (by decide) ?_))
 obtain ⟨h108, hl925⟩ := chkb hl925
 refine u64_shl h108 ?_
 refine u64_or ?_
 refine Ja rfl ?_
 obtain ⟨h111, hl925⟩ := chkb hl925
 refine arr_addrV (sz := 1) rfl rfl h111.1 h111.2 ?_
 obtain ⟨m27_, hm27_, hl925⟩ := bnd hl925
 replace hm27_ := Option.some.inj hm27_
 have hm27_l : m27_.length = 8 := by rw [← hm27_]; simp
 refine st_arr (L := [x36.stored.f0, x36.stored.f1, x36.stored.f2, x36.stored.f3, x36.stored.f4, x36.stored.f5, x36.stored.f6, x36.stored.f7]) (pre := [.bool x36.reached, .int .i64 (x36.depth + (x40.2.1 - x40.1))]) (post := []) (cs' := [.bool x36.reached, .int .i64 (x36.depth + (x40.2.1 - x40.1)), .int .u64 (List.getD m27_ 0 0), .int .u64 (List.getD m27_ 1 0), .int .u64 (List.getD m27_ 2 0), .int .u64 (List.getD m27_ 3 0), .int .u64 (List.getD m27_ 4 0), .int .u64 (List.getD m27_ 5 0), .int .u64 (List.getD m27_ 6 0), .int .u64 (List.getD m27_ 7 0)]) r0 rfl (by simp) rfl h111.1 h111.2 hm27_ (by rw [map8 hm27_l]; rfl) ?_
 refine ⟨⟨Hp.emp_le _, (ConvH.of .nil), ci0⟩, ?_⟩
 refine MeetStep.mk (((List.getD m27_ 0 0), (List.getD m27_ 1 0), (List.getD m27_ 2 0), (List.getD m27_ 3 0), (List.getD m27_ 4 0), (List.getD m27_ 5 0), (List.getD m27_ 6 0), (List.getD m27_ 7 0))) trivial (by repeat (first | exact trivial | refine And.intro rfl ?_)) (ConvH.of (.cons r0 (.cons r0 (.cons r0 (.cons r0 .nil))))) (Hp.Le.refl _) (si hl925)
 refine MeetStep.mk ((x36.stored.f0, x36.stored.f1, x36.stored.f2, x36.stored.f3, x36.stored.f4, x36.stored.f5, x36.stored.f6, x36.stored.f7)) trivial (by repeat (first | exact trivial | refine And.intro rfl ?_)) (ConvH.of (.cons r0 (.cons r0 (.cons r0 (.cons r0 .nil))))) (Hp.Le.refl _) (si hl925)
 rintro t925 Kt925 lt925 rfl j925
 refine code_cut (σ := Unit) [112, 113, 114, 115, 116, 117, 118, 119] (fun _ => [(119, .bool (decide (e0.Op = 9) || decide (e0.Op = 10)))]) (fun _ => [Cells b8 204 [.bool x36.reached, .int .i64 (x36.depth + (x40.2.1 - x40.1)), .int .u64 t925.1, .int .u64 t925.2.1, .int .u64 t925.2.2.1, .int .u64 t925.2.2.2.1, .int .u64 t925.2.2.2.2.1, .int .u64 t925.2.2.2.2.2.1, .int .u64 t925.2.2.2.2.2.2.1, .int .u64 t925.2.2.2.2.2.2.2], Cells b7 54 [.int .i64 e0.Op, .int .i64 e0.N, str e0.S], OwnL Jc.enc (some ⟨b23, 0, none⟩) 204 10 (Int.toNat (code.length : Int)) y0_1, F]) (fun t928 K1 => K1 = Kt925) ?_ ?_
 refine guard_go rfl ?_
 refine Ja rfl (RStep.of (load1_s r1 rfl rfl (eq_int ?_)))
 refine cond_s (fun g115_19 => ?_) (fun g115_19 => ?_)
 refine cond_t g115_19 (cond_t g115_19 (cond_t g115_19 ?_))
 refine MeetStep.mk (()) ⟨(by rw [← ((or_t g115_19)).symm] <;> rfl), trivial⟩ (by repeat (first | exact trivial | refine And.intro rfl ?_)) (ConvH.of (.cons r0 (.cons r0 (.cons r0 (.cons r0 .nil))))) (Hp.Le.refl _) rfl
 refine Ja rfl (cond_f g115_19 (RStep.of (load1_s r1 rfl rfl (cond_f g115_19 (eq_int (cond_f g115_19 ?_))))))
 refine MeetStep.mk (()) ⟨(by rw [← (or_e (b := decide (e0.Op = 10)) g115_19)] <;> rfl), trivial⟩ (by repeat (first | exact trivial | refine And.intro rfl ?_)) (ConvH.of (.cons r0 (.cons r0 (.cons r0 (.cons r0 .nil))))) (Hp.Le.refl _) rfl
 rintro _ _ _ rfl j928
 obtain ⟨s929, hl929, hl0⟩ := bnd hl0
 refine code_cut (σ := ((List Jc))) [2, 3, 120, 121, 122, 123, 124, 125, 126, 127, 128, 129, 130, 131, 132, 133, 134, 135, 136, 137, 138, 139] (fun t929 => []) (fun t929 => [Cells b8 204 [.bool x36.reached, .int .i64 (x36.depth + (x40.2.1 - x40.1)), .int .u64 t925.1, .int .u64 t925.2.1, .int .u64 t925.2.2.1, .int .u64 t925.2.2.2.1, .int .u64 t925.2.2.2.2.1, .int .u64 t925.2.2.2.2.2.1, .int .u64 t925.2.2.2.2.2.2.1, .int .u64 t925.2.2.2.2.2.2.2], Cells b7 54 [.int .i64 e0.Op, .int .i64 e0.N, str e0.S], OwnL Jc.enc (some ⟨b23, 0, none⟩) 204 10 (Int.toNat (code.length : Int)) t929, F]) (fun zz K1 => match zz with | t929 => (0 < t929.length → Has (some ⟨b23, 0, none⟩)) ∧ (Int.toNat (code.length : Int)) = t929.length ∧ s929 = Fl.go t929) ?_ ?_
 refine cs rfl rfl hl929 (fun w119 hl929 => ?_) fun w119 hl929 => ?_
 refine draw_go ⟨⟨[], false⟩, _, [(_, _), (_, _)], []⟩ (by kernel_rfl) ⟨Hp.Le.refl _, (ConvH.of (.cons r1 (.cons r0 .nil))), ci0⟩ ?_
 refine Ja rfl (load1_l m0 rfl rfl ?_)
 refine cond_s (fun g124_20 => ?_) (fun g124_20 => ?_)
 refine cond_t g124_20 (cond_t g124_20 (cond_t g124_20 (cond_t g124_20 (cond_t g124_20 ?_))))
 replace hl929 := ift (or_t g124_20) hl929
 refine cond_T (cond_T (cond_T (cond_T (cond_T (cond_T ?_)))))
 refine cond_T (cond_T (cond_go rfl (cond_T ?_)))
 obtain rfl := si hl929
 replace hl0 := elr hl0
 obtain rfl := si hl0
 replace hm := elr hm
 obtain rfl := si hm
 refine EndStep.mk _ ((lk0.trans l40).trans lt925) ⟨rfl, rfl⟩ (ConvH.of (.cons r3 .nil))
 refine Ja rfl (cond_f g124_20 (load1_l m0 rfl rfl (cond_f g124_20 (cond_f g124_20 (len_sliceN rfl ?_)))))
 refine cond_f g124_20 (cond_f g124_20 ?_)
 refine cond_s (fun g131_20 => ?_) (fun g131_20 => ?_)
 replace hl929 := ift (or_u g124_20 g131_20) hl929
 refine cond_t g131_20 (cond_t g131_20 (cond_t g131_20 (cond_t g131_20 (cond_t g131_20 (cond_t g131_20 ?_)))))
 refine cond_t g131_20 (cond_go rfl (cond_T ?_))
 obtain rfl := si hl929
 replace hl0 := elr hl0
 obtain rfl := si hl0
 replace hm := elr hm
 obtain rfl := si hm
 refine EndStep.mk _ ((lk0.trans l40).trans lt925) ⟨rfl, rfl⟩ (ConvH.of (.cons r3 .nil))
 replace hl929 := iff_ (or_f g124_20 g131_20) hl929
 refine cond_f g131_20 (Ja rfl (cond_f g131_20 (load1_l m0 rfl rfl (cond_f g131_20 ?_))))
 obtain ⟨x135, l135, k135, hl929⟩ := ixb hl929
 refine index_addr rfl rfl (hasO y0_h1 k135) l135 (lt_ofE y0_n1 l135 k135) (cond_f g131_20 (loadn_l m1 rfl (Nat.le_of_ble_eq_true rfl) (cond_f g131_20 ?_)))
 obtain ⟨x137, q137, hl929⟩ := bnd hl929
 refine call_fn (J3 (s := y0_1) (s_i := ((e0.N).toNat)) (t := (⟨x36.reached, (x36.depth + (x40.2.1 - x40.1)), (⟨t925.1, t925.2.1, t925.2.2.1, t925.2.2.2.1, t925.2.2.2.2.1, t925.2.2.2.2.2.1, t925.2.2.2.2.2.2.1, t925.2.2.2.2.2.2.2⟩ : JC)⟩ : Jc)) q137 y0_h1) (.cons r2 .nil) ?_
 rintro _ K137 _ l137 ⟨rfl, h137_0, n137_0, rfl⟩
 refine ⟨⟨l137, (ConvH.of (.cons r2 (.cons r1 .nil))), ci0⟩, ?_⟩
 refine cond_f g131_20 (un_not (cond_f g131_20 (cond_go rfl ?_)))
 refine cond_s (fun w139 => ?_) (fun w139 => ?_)
 replace hl929 := ift (not_t (ni_t w139)) hl929
 obtain rfl := si hl929
 replace hl0 := elr hl0
 obtain rfl := si hl0
 replace hm := elr hm
 obtain rfl := si hm
 refine EndStep.mk _ (((lk0.trans l40).trans lt925).trans l137) ⟨rfl, rfl⟩ (ConvH.of (.cons r3 .nil))
 replace hl929 := iff_ (not_f (ni_f w139)) hl929
 refine MeetStep.mk (x137.2) trivial (by repeat (first | exact trivial | refine And.intro rfl ?_)) (ConvH.of (.cons r1 (.cons r1 (.cons r0 (.cons r0 .nil))))) l137 ⟨h137_0, ((y0_n1).trans n137_0), (si hl929).symm⟩
 refine MeetStep.mk (y0_1) trivial (by repeat (first | exact trivial | refine And.intro rfl ?_)) (ConvH.of (.cons r0 (.cons r0 (.cons r0 (.cons r0 .nil))))) (Hp.Le.refl _) ⟨y0_h1, y0_n1, (si hl929).symm⟩
 rintro t929 Kt929 lt929 ⟨t929_h0, t929_n0, rfl⟩ j929
 replace hl0 := elg hl0
 refine cs rfl rfl hl0 (fun w140 hl0 => ?_) fun w140 hl0 => ?_
 refine draw_go ⟨⟨[], false⟩, _, [(_, _)], []⟩ (by kernel_rfl) ⟨Hp.Le.refl _, (ConvH.of (.cons r0 .nil)), ci0⟩ ?_
 refine Ja rfl (load1_l m0 rfl rfl (eq_int ?_))
 obtain rfl := si hl0
 replace hm := elr hm
 obtain rfl := si hm
 refine EndStep.mk _ (((lk0.trans l40).trans lt925).trans lt929) ⟨rfl, rfl⟩ (ConvH.of (.cons r3 .nil))
 refine draw_go ⟨⟨[], false⟩, _, [(_, _), (_, _)], []⟩ (by kernel_rfl) ⟨Hp.Le.refl _, (ConvH.of (.cons r1 (.cons r0 .nil))), ci0⟩ ?_
 refine Ja rfl (load1_l m0 rfl rfl (neq_int ?_))
 refine cond_s (fun g148_24 => ?_) (fun g148_24 => ?_)
 replace hl0 := ift g148_24 hl0
 refine cond_t g148_24 (cond_t g148_24 (int_in (cntz hx0 hk0) (cond_t g148_24 ?_)))
 obtain ⟨x152, l152, k152, hl0⟩ := ixb hl0
 refine index_addr rfl rfl (hasO t929_h0 k152) l152 (lt_ofE t929_n0 l152 k152) (cond_t g148_24 (loadn_l m1 rfl (Nat.le_of_ble_eq_true rfl) (cond_t g148_24 ?_)))
 obtain ⟨x154, q154, hl0⟩ := bnd hl0
 refine call_fn (J3 (s := t929) (s_i := ((((i0 : Int) + 1)).toNat)) (t := (⟨x36.reached, (x36.depth + (x40.2.1 - x40.1)), (⟨t925.1, t925.2.1, t925.2.2.1, t925.2.2.2.1, t925.2.2.2.2.1, t925.2.2.2.2.2.1, t925.2.2.2.2.2.2.1, t925.2.2.2.2.2.2.2⟩ : JC)⟩ : Jc)) q154 t929_h0) (.cons r2 .nil) ?_
 rintro _ K154 _ l154 ⟨rfl, h154_0, n154_0, rfl⟩
 refine ⟨⟨l154, (ConvH.of (.cons r2 (.cons r1 .nil))), ci0⟩, ?_⟩
 refine cond_t g148_24 (un_not (cond_t g148_24 (cond_go rfl ?_)))
 refine cond_s (fun w156 => ?_) (fun w156 => ?_)
 replace hl0 := ift (not_t (ni_t w156)) hl0
 obtain rfl := si hl0
 replace hm := elr hm
 obtain rfl := si hm
 refine EndStep.mk _ ((((lk0.trans l40).trans lt925).trans lt929).trans l154) ⟨rfl, rfl⟩ (ConvH.of (.cons r3 .nil))
 replace hl0 := iff_ (not_f (ni_f w156)) hl0
 refine int_in (cntz hx0 hk0) ?_
 refine RoundStep.mk (i0 + 1, (max (max y0_0 x36.depth) (x36.depth + (x40.2.1 - x40.1))), x154.2) ⟨rfl, rfl, trivial⟩ (by repeat (first | exact trivial | refine And.intro rfl ?_)) (ConvH.of (.cons r0 (.cons r2 .nil))) ((((lk0.trans l40).trans lt925).trans lt929).trans l154) (ltm hx0) ⟨h154_0, ((t929_n0).trans n154_0), hl0⟩
 replace hl0 := iff_ g148_24 hl0
 refine cond_f g148_24 (cond_f g148_24 (cond_f g148_24 (cond_f g148_24 (cond_f g148_24 (cond_f g148_24 ?_)))))
 refine cond_f g148_24 (cond_go rfl (cond_F (int_in (cntz hx0 hk0) ?_)))
 refine RoundStep.mk (i0 + 1, (max (max y0_0 x36.depth) (x36.depth + (x40.2.1 - x40.1))), t929) ⟨rfl, rfl, trivial⟩ (by repeat (first | exact trivial | refine And.intro rfl ?_)) (ConvH.of (.cons r2 (.cons r2 .nil))) (((lk0.trans l40).trans lt925).trans lt929) (ltm hx0) ⟨t929_h0, t929_n0, hl0⟩
 rw [lty w0, JX.eq_1] at hl0
 refine cond_T ?_
 refine MeetStep.mk ((y0_0, y0_1)) ⟨rfl, trivial⟩ (by repeat (first | exact trivial | refine And.intro rfl ?_)) (ConvH.of (.cons r0 (.cons r0 .nil))) lk0 ⟨y0_h1, y0_n1, (si hl0).symm⟩
 rintro t0 Kt0 lt0 ⟨t0_h1, t0_n1, rfl⟩ j0
 replace hm := elg hm
 obtain rfl := si hm
 refine EndStep.mk _ lt0 ⟨rfl, rfl⟩ (ConvH.of (.cons r1 .nil))

noncomputable def JaI (code : (List Je)) : Option (Err) :=
  (JaS code).bind fun x7 =>
  if (!x7.2) then
  some (some 2)
  else
  some none
set_option maxHeartbeats 8000000 in
theorem Jb2 {code : (List Je)} {ap0_0 : Option Addr} {cp0_0 : Nat} {n0 : Nat} {K : Hp} {r : Err}
    (hm : JaI code = some r) (hp0_0 : RdC Je.enc K ap0_0 cp0_0 3 code) (en0 : n0 = code.length) (hG0 : GlL eS 1 0 Jm K) (hG1 : GlL eS 1 1 Jr K) (hG2 : GlL eS 1 2 Jn K) (hG3 : GlN 3 K) (hG5 : GlA 5 (Go.Lib.pow10Tab.map fun z => Value.int .u64 z) K) :
    Fn Tryz.prog 32 [.slice ap0_0 n0 cp0_0] K [] (fun v K' H' => v = errV 87 r ∧ H' = []) := by
 subst en0
 refine Fn.enter Tryz.func32 Tryz.call32 rfl fun F => ?_
 unfold JaI at hm
 obtain ⟨x7, q7, hm⟩ := bnd hm
 refine call_fn (Jcf q7 hp0_0 rfl hG0 hG1 hG2 hG3 hG5) .nil ?_
 rintro _ K7 _ l7 ⟨rfl, rfl⟩
 refine un_not (cond_go rfl ?_)
 refine cond_s (fun w11 => ?_) (fun w11 => ?_)
 replace hm := ift (not_t (ni_t w11)) hm
 refine mk_iface rfl ?_
 obtain rfl := si hm
 refine EndStep.mk _ l7 ⟨rfl, rfl⟩ (ConvH.of (.cons r0 .nil))
 replace hm := iff_ (not_f (ni_f w11)) hm
 obtain rfl := si hm
 refine EndStep.mk _ l7 ⟨rfl, rfl⟩ (ConvH.of (.cons r0 .nil))

noncomputable def Jas (n' : Int) : Option (Jd) :=
  some (⟨2, (max (-1099511627776) (min n' 1099511627776)), ([] : Str), false⟩ : Jd)
set_option maxHeartbeats 8000000 in
theorem Jal {n' : Int} {K : Hp} {r : Jd}
    (hm : Jas n' = some r)  :
    Fn Tryz.prog 62 [.int .i64 n'] K [] (fun v K' H' => v = .agg #[.int .i64 r.kind, .int .i64 r.n, str r.s, .bool r.isZ] ∧ H' = []) := by
 refine Fn.enter Tryz.func62 Tryz.call62 rfl fun F => ?_
 unfold Jas at hm
 refine alloc_rule rfl ?_
 intro b2
 refine RStep.of (min_int (RStep.of (max_int (build_struct rfl rfl (cond_T (cond_T ?_))))))
 refine store_rule r0 rfl ?_
 refine ⟨rfl, rfl, (Nat.le_of_ble_eq_true rfl), ?_⟩
 obtain rfl := si hm
 refine RStep.of (loadn_s r0 rfl (Nat.le_of_ble_eq_true rfl) ?_)
 refine EndStep.mk _ (Hp.Le.refl _) ⟨rfl, rfl⟩ (ConvH.of (.cons r1 .nil))

noncomputable def Jp (m : Jb) (x : Jd) (operation : Bool) : Option (Err × Jb) :=
  if decide ((x.s.length : Int) > 2048) then
  some ((some 5), m)
  else
  ((if (operation && decide (x.kind = 1)) then
  (chk ((64 : Int) ≠ 0 ∧ InI (Int.tdiv (x.s.length : Int) 64))).bind fun _ =>
  (chk (InI (m.result.Steps + (Int.tdiv (x.s.length : Int) 64)))).bind fun _ =>
  if decide ((m.result.Steps + (Int.tdiv (x.s.length : Int) 64)) > m.most) then
  some (Fl.ret ((some 13), (⟨m.inZ, m.most, (⟨m.result.Path, m.result.Query, m.result.Headers, m.result.Vary, m.result.Tags, m.result.TTL, m.result.Deny, (m.result.Steps + (Int.tdiv (x.s.length : Int) 64)), m.result.Pass, m.result.Token⟩ : Jf), m.stack, m.slots⟩ : Jb)))
  else
  some (Fl.go (⟨m.inZ, m.most, (⟨m.result.Path, m.result.Query, m.result.Headers, m.result.Vary, m.result.Tags, m.result.TTL, m.result.Deny, (m.result.Steps + (Int.tdiv (x.s.length : Int) 64)), m.result.Pass, m.result.Token⟩ : Jf), m.stack, m.slots⟩ : Jb))
  else
  some (Fl.go m) : Option (Fl (Err × Jb) (Jb)))).bind fun s903 => s903.el some fun t903 =>
  (chk (t903.stack.length + [x].length ≤ lim)).bind fun _ =>
  some (none, (⟨m.inZ, t903.most, t903.result, (t903.stack ++ [x]), t903.slots⟩ : Jb))
set_option maxHeartbeats 8000000 in
theorem JG {m : Jb} {x : Jd} {operation : Bool} {b0 : Nat} {ap0_0 : Option Addr} {cp0_0 : Nat} {ap0_1 : Option Addr} {cp0_1 : Nat} {ap0_2 : Option Addr} {cp0_2 : Nat} {ap0_3 : Option Addr} {cp0_3 : Nat} {ap0_4 : Option Addr} {cp0_4 : Nat} {K : Hp} {r : Err × Jb}
    (hm : Jp m x operation = some r) (hp0_0 : RdC Jg.enc K ap0_0 cp0_0 2 m.inZ.Fields) (hp0_1 : (0 < m.result.Headers.length → Has ap0_1)) (hp0_2 : (0 < m.result.Vary.length → Has ap0_2)) (hp0_3 : (0 < m.result.Tags.length → Has ap0_3)) (hp0_4 : (0 < m.stack.length → Has ap0_4)) (zp0_5 : m.slots.length = 512) :
    Fn Tryz.prog 61 [.pointer (some ⟨b0, 0, none⟩), .agg #[.int .i64 x.kind, .int .i64 x.n, str x.s, .bool x.isZ], .bool operation] K [Cells b0 98 ((str m.inZ.Method) :: (str m.inZ.Host) :: (str m.inZ.Path) :: (str m.inZ.Query) :: (.slice ap0_0 m.inZ.Fields.length cp0_0) :: (.int .i64 m.most) :: (str m.result.Path) :: (str m.result.Query) :: (.slice ap0_1 m.result.Headers.length cp0_1) :: (.slice ap0_2 m.result.Vary.length cp0_2) :: (.slice ap0_3 m.result.Tags.length cp0_3) :: (.int .i64 m.result.TTL) :: (.int .i64 m.result.Deny) :: (.int .i64 m.result.Steps) :: (.bool m.result.Pass) :: (.bool m.result.Token) :: (.slice ap0_4 m.stack.length cp0_4) :: (m.slots.map Jd.enc).flatten), OwnL Jg.enc ap0_1 77 2 cp0_1 m.result.Headers, OwnL eS ap0_2 9 1 cp0_2 m.result.Vary, OwnL eS ap0_3 9 1 cp0_3 m.result.Tags, OwnL Jd.enc ap0_4 95 4 cp0_4 m.stack] (fun v K' H' => ∃ ar_0 : Option Addr, ∃ cr_0 : Nat, ∃ ar_1 : Option Addr, ∃ cr_1 : Nat, ∃ ar_2 : Option Addr, ∃ cr_2 : Nat, ∃ ar_3 : Option Addr, ∃ cr_3 : Nat, v = errV 87 r.1 ∧ (0 < r.2.result.Headers.length → Has ar_0) ∧ (0 < r.2.result.Vary.length → Has ar_1) ∧ (0 < r.2.result.Tags.length → Has ar_2) ∧ (0 < r.2.stack.length → Has ar_3) ∧ r.2.slots.length = 512 ∧ H' = [Cells b0 98 ((str m.inZ.Method) :: (str m.inZ.Host) :: (str m.inZ.Path) :: (str m.inZ.Query) :: (.slice ap0_0 m.inZ.Fields.length cp0_0) :: (.int .i64 r.2.most) :: (str r.2.result.Path) :: (str r.2.result.Query) :: (.slice ar_0 r.2.result.Headers.length cr_0) :: (.slice ar_1 r.2.result.Vary.length cr_1) :: (.slice ar_2 r.2.result.Tags.length cr_2) :: (.int .i64 r.2.result.TTL) :: (.int .i64 r.2.result.Deny) :: (.int .i64 r.2.result.Steps) :: (.bool r.2.result.Pass) :: (.bool r.2.result.Token) :: (.slice ar_3 r.2.stack.length cr_3) :: (r.2.slots.map Jd.enc).flatten), OwnL Jg.enc ar_0 77 2 cr_0 r.2.result.Headers, OwnL eS ar_1 9 1 cr_1 r.2.result.Vary, OwnL eS ar_2 9 1 cr_2 r.2.result.Tags, OwnL Jd.enc ar_3 95 4 cr_3 r.2.stack]) := by
 refine Fn.enter Tryz.func61 Tryz.call61 rfl fun F => ?_
 unfold Jp at hm
 refine box_rule ?_
 intro b4
 refine Ja rfl (RStep.of (load1_s r0 rfl rfl (RStep.of (len_str rfl ?_))))
 refine cs rfl rfl hm (fun w10 hm => ?_) fun w10 hm => ?_
 refine mk_iface rfl ?_
 obtain rfl := si hm
 refine EndStep.mk _ (Hp.Le.refl _) ⟨ap0_1, cp0_1, ap0_2, cp0_2, ap0_3, cp0_3, ap0_4, cp0_4, rfl, hp0_1, hp0_2, hp0_3, hp0_4, zp0_5, rfl⟩ (ConvH.of (.cons r1 (.cons r1 (.cons r1 (.cons r1 (.cons r1 (.cons r1 .nil)))))))
 refine code_cut (σ := Unit) [12, 13, 14, 15, 16, 17] (fun _ => [(17, .bool (operation && decide (x.kind = 1)))]) (fun _ => [Cells b4 95 [.int .i64 x.kind, .int .i64 x.n, str x.s, .bool x.isZ], Cells b0 98 ((str m.inZ.Method) :: (str m.inZ.Host) :: (str m.inZ.Path) :: (str m.inZ.Query) :: (.slice ap0_0 m.inZ.Fields.length cp0_0) :: (.int .i64 m.most) :: (str m.result.Path) :: (str m.result.Query) :: (.slice ap0_1 m.result.Headers.length cp0_1) :: (.slice ap0_2 m.result.Vary.length cp0_2) :: (.slice ap0_3 m.result.Tags.length cp0_3) :: (.int .i64 m.result.TTL) :: (.int .i64 m.result.Deny) :: (.int .i64 m.result.Steps) :: (.bool m.result.Pass) :: (.bool m.result.Token) :: (.slice ap0_4 m.stack.length cp0_4) :: (m.slots.map Jd.enc).flatten), OwnL Jg.enc ap0_1 77 2 cp0_1 m.result.Headers, OwnL eS ap0_2 9 1 cp0_2 m.result.Vary, OwnL eS ap0_3 9 1 cp0_3 m.result.Tags, OwnL Jd.enc ap0_4 95 4 cp0_4 m.stack, F]) (fun t902 K1 => K1 = K) ?_ ?_
 refine guard_go rfl ?_
 refine cond_s (fun g13_3 => ?_) (fun g13_3 => ?_)
 refine Ja rfl (cond_t g13_3 (RStep.of (load1_s r0 rfl rfl (cond_t g13_3 (eq_int (cond_t g13_3 ?_))))))
 refine MeetStep.mk (()) ⟨(by rw [← (and_e (b := decide (x.kind = 1)) g13_3)] <;> rfl), trivial⟩ (by repeat (first | exact trivial | refine And.intro rfl ?_)) (ConvH.of (.cons r0 (.cons r0 (.cons r0 (.cons r0 (.cons r0 (.cons r0 (.cons r0 .nil)))))))) (Hp.Le.refl _) rfl
 refine cond_f g13_3 (cond_f g13_3 (cond_f g13_3 ?_))
 refine MeetStep.mk (()) ⟨(by rw [← ((and_f g13_3)).symm] <;> rfl), trivial⟩ (by repeat (first | exact trivial | refine And.intro rfl ?_)) (ConvH.of (.cons r0 (.cons r0 (.cons r0 (.cons r0 (.cons r0 (.cons r0 (.cons r0 .nil)))))))) (Hp.Le.refl _) rfl
 rintro _ _ _ rfl j902
 obtain ⟨s903, hl903, hm⟩ := bnd hm
 refine code_cut (σ := (Jb) × Option Addr × Nat × Option Addr × Nat × Option Addr × Nat × Option Addr × Nat) [6, 18, 19, 20, 21, 22, 23, 24, 25, 26, 27, 28, 29, 30, 31, 32, 33, 34, 35, 36, 37, 38, 39, 40, 41] (fun (t903, at903_0_0, ct903_0_0, at903_0_1, ct903_0_1, at903_0_2, ct903_0_2, at903_0_3, ct903_0_3) => []) (fun (t903, at903_0_0, ct903_0_0, at903_0_1, ct903_0_1, at903_0_2, ct903_0_2, at903_0_3, ct903_0_3) => [Cells b0 98 ((str m.inZ.Method) :: (str m.inZ.Host) :: (str m.inZ.Path) :: (str m.inZ.Query) :: (.slice ap0_0 m.inZ.Fields.length cp0_0) :: (.int .i64 t903.most) :: (str t903.result.Path) :: (str t903.result.Query) :: (.slice at903_0_0 t903.result.Headers.length ct903_0_0) :: (.slice at903_0_1 t903.result.Vary.length ct903_0_1) :: (.slice at903_0_2 t903.result.Tags.length ct903_0_2) :: (.int .i64 t903.result.TTL) :: (.int .i64 t903.result.Deny) :: (.int .i64 t903.result.Steps) :: (.bool t903.result.Pass) :: (.bool t903.result.Token) :: (.slice at903_0_3 t903.stack.length ct903_0_3) :: (t903.slots.map Jd.enc).flatten), OwnL Jg.enc at903_0_0 77 2 ct903_0_0 t903.result.Headers, OwnL eS at903_0_1 9 1 ct903_0_1 t903.result.Vary, OwnL eS at903_0_2 9 1 ct903_0_2 t903.result.Tags, OwnL Jd.enc at903_0_3 95 4 ct903_0_3 t903.stack, Cells b4 95 [.int .i64 x.kind, .int .i64 x.n, str x.s, .bool x.isZ], F]) (fun zz K1 => match zz with | (t903, at903_0_0, ct903_0_0, at903_0_1, ct903_0_1, at903_0_2, ct903_0_2, at903_0_3, ct903_0_3) => (0 < t903.result.Headers.length → Has at903_0_0) ∧ (0 < t903.result.Vary.length → Has at903_0_1) ∧ (0 < t903.result.Tags.length → Has at903_0_2) ∧ (0 < t903.stack.length → Has at903_0_3) ∧ t903.slots.length = 512 ∧ s903 = Fl.go t903) ?_ ?_
 refine cs rfl rfl hl903 (fun w17 hl903 => ?_) fun w17 hl903 => ?_
 refine draw_go_tail ⟨⟨[], false⟩, _, [(_, _), (_, _)], []⟩ 9 rfl (by kernel_rfl) ⟨Hp.Le.refl _, (ConvH.of (.cons r1 (.cons r0 .nil))), ci0⟩ ?_
 refine nil_check (Ja rfl (Ja rfl (load1_l m0 rfl rfl (Ja rfl (load1_l m1 rfl rfl ?_)))))
 refine len_strN rfl ?_
 obtain ⟨h26, hl903⟩ := chkb hl903
 refine quo_t h26.1 h26.2 ?_
 obtain ⟨h27, hl903⟩ := chkb hl903
 refine int_in h27 (nil_check (Ja rfl (Ja rfl ?_)))
 refine st_tl (cs' := (str m.inZ.Method) :: (str m.inZ.Host) :: (str m.inZ.Path) :: (str m.inZ.Query) :: (.slice ap0_0 m.inZ.Fields.length cp0_0) :: (.int .i64 m.most) :: (str m.result.Path) :: (str m.result.Query) :: (.slice ap0_1 m.result.Headers.length cp0_1) :: (.slice ap0_2 m.result.Vary.length cp0_2) :: (.slice ap0_3 m.result.Tags.length cp0_3) :: (.int .i64 m.result.TTL) :: (.int .i64 m.result.Deny) :: (.int .i64 (m.result.Steps + (Int.tdiv (x.s.length : Int) 64))) :: (.bool m.result.Pass) :: (.bool m.result.Token) :: (.slice ap0_4 m.stack.length cp0_4) :: (m.slots.map Jd.enc).flatten) r1 rfl rfl (by exact rfl) (by exact Nat.le_of_ble_eq_true rfl) (by exact rfl) ?_
 refine ⟨⟨Hp.emp_le _, (ConvH.of .nil), ci0⟩, ?_⟩
 refine draw_go ⟨⟨[], false⟩, _, [(_, _)], []⟩ (by kernel_rfl) ⟨Hp.Le.refl _, (ConvH.of (.cons r0 .nil)), ci0⟩ ?_
 refine nil_check (Ja rfl (Ja rfl (load1_l m0 rfl rfl (nil_check (Ja rfl ?_)))))
 refine load1_l m0 rfl rfl ?_
 refine cs rfl rfl hl903 (fun w40 hl903 => ?_) fun w40 hl903 => ?_
 refine mk_iface rfl ?_
 obtain rfl := si hl903
 replace hm := elr hm
 obtain rfl := si hm
 refine EndStep.mk _ (Hp.Le.refl _) ⟨ap0_1, cp0_1, ap0_2, cp0_2, ap0_3, cp0_3, ap0_4, cp0_4, rfl, hp0_1, hp0_2, hp0_3, hp0_4, zp0_5, rfl⟩ (ConvH.of (.cons r0 (.cons r1 (.cons r1 (.cons r1 (.cons r1 (.cons r1 .nil)))))))
 refine MeetStep.mk ((⟨m.inZ, m.most, (⟨m.result.Path, m.result.Query, m.result.Headers, m.result.Vary, m.result.Tags, m.result.TTL, m.result.Deny, (m.result.Steps + (Int.tdiv (x.s.length : Int) 64)), m.result.Pass, m.result.Token⟩ : Jf), m.stack, m.slots⟩ : Jb), ap0_1, cp0_1, ap0_2, cp0_2, ap0_3, cp0_3, ap0_4, cp0_4) trivial (by repeat (first | exact trivial | refine And.intro rfl ?_)) (ConvH.of (.cons r0 (.cons r1 (.cons r1 (.cons r1 (.cons r1 (.cons r0 (.cons r0 .nil)))))))) (Hp.Le.refl _) ⟨hp0_1, hp0_2, hp0_3, hp0_4, zp0_5, (si hl903).symm⟩
 refine MeetStep.mk (m, ap0_1, cp0_1, ap0_2, cp0_2, ap0_3, cp0_3, ap0_4, cp0_4) trivial (by repeat (first | exact trivial | refine And.intro rfl ?_)) (ConvH.of (.cons r1 (.cons r1 (.cons r1 (.cons r1 (.cons r1 (.cons r0 (.cons r0 .nil)))))))) (Hp.Le.refl _) ⟨hp0_1, hp0_2, hp0_3, hp0_4, zp0_5, (si hl903).symm⟩
 rintro ⟨t903, at903_0_0, ct903_0_0, at903_0_1, ct903_0_1, at903_0_2, ct903_0_2, at903_0_3, ct903_0_3⟩ Kt903 lt903 ⟨ht903_0_0, ht903_0_1, ht903_0_2, ht903_0_3, zt903_0_4, rfl⟩ j903
 replace hm := elg hm
 refine draw_go_tail ⟨⟨[], false⟩, _, [(_, _), (_, _)], []⟩ 8 rfl (by kernel_rfl) ⟨Hp.Le.refl _, (ConvH.of (.cons r0 (.cons r4 .nil))), ci0⟩ ?_
 refine nil_check (Ja rfl (load1_l m0 rfl rfl (loadn_l m1 rfl (Nat.le_of_ble_eq_true rfl) ?_)))
 refine bsO (len := 1) (enc := Jd.enc) (l := [x]) (cl := [.int .i64 x.kind, .int .i64 x.n, str x.s, .bool x.isZ]) elT93 rfl rfl (fun _ _ => rfl) rfl rfl rfl ?_ fun b48 => ?_
 · conv => whnf
   refine cond_T ?_
   first | done | rfl
 refine ⟨⟨(Hp.Le.refl _), (ConvH.of (.cons r1 (.cons r5 .nil))), ci0⟩, ?_⟩
 obtain ⟨h49, hm⟩ := chkb hm
 refine apE rfl r5 elT93 (src_own' rfl r0 rfl (fun _ => rfl) (fun _ => rfl)) h49 ?_
 intro a49 c49 o49
 refine ⟨⟨(Hp.Le.refl _), (ConvH.of (.cons r2 (.cons r5 .nil))), ci0⟩, ?_⟩
 refine nil_check (Ja rfl ?_)
 refine st_tl (cs' := (str m.inZ.Method) :: (str m.inZ.Host) :: (str m.inZ.Path) :: (str m.inZ.Query) :: (.slice ap0_0 m.inZ.Fields.length cp0_0) :: (.int .i64 t903.most) :: (str t903.result.Path) :: (str t903.result.Query) :: (.slice at903_0_0 t903.result.Headers.length ct903_0_0) :: (.slice at903_0_1 t903.result.Vary.length ct903_0_1) :: (.slice at903_0_2 t903.result.Tags.length ct903_0_2) :: (.int .i64 t903.result.TTL) :: (.int .i64 t903.result.Deny) :: (.int .i64 t903.result.Steps) :: (.bool t903.result.Pass) :: (.bool t903.result.Token) :: (.slice a49 ((t903.stack ++ [x]).length) c49) :: (t903.slots.map Jd.enc).flatten) r2 rfl rfl (by exact rfl) (by exact Nat.le_of_ble_eq_true rfl) (by exact rfl) ?_
 refine ⟨⟨Hp.emp_le _, (ConvH.of .nil), ci0⟩, ?_⟩
 obtain rfl := si hm
 refine EndStep.mk _ lt903 ⟨at903_0_0, ct903_0_0, at903_0_1, ct903_0_1, at903_0_2, ct903_0_2, a49, c49, rfl, ht903_0_0, ht903_0_1, ht903_0_2, o49, zt903_0_4, rfl⟩ (ConvH.of (.cons r0 (.cons r2 (.cons r2 (.cons r2 (.cons r0 (.cons r2 .nil)))))))

noncomputable def JO (s : Str) : Option (Jd) :=
  some (⟨1, 0, s, false⟩ : Jd)
set_option maxHeartbeats 8000000 in
theorem JJ {s : Str} {K : Hp} {r : Jd}
    (hm : JO s = some r)  :
    Fn Tryz.prog 63 [str s] K [] (fun v K' H' => v = .agg #[.int .i64 r.kind, .int .i64 r.n, str r.s, .bool r.isZ] ∧ H' = []) := by
 refine Fn.enter Tryz.func63 Tryz.call63 rfl fun F => ?_
 unfold JO at hm
 refine alloc_rule rfl ?_
 intro b2
 refine build_struct rfl rfl (cond_T (cond_T ?_))
 refine store_rule r0 rfl ?_
 refine ⟨rfl, rfl, (Nat.le_of_ble_eq_true rfl), ?_⟩
 obtain rfl := si hm
 refine RStep.of (loadn_s r0 rfl (Nat.le_of_ble_eq_true rfl) ?_)
 refine EndStep.mk _ (Hp.Le.refl _) ⟨rfl, rfl⟩ (ConvH.of (.cons r1 .nil))

noncomputable def JR (name : Str) (inZ : Jt) : Option (Jd) :=
  if decide (name = ([109, 101, 116, 104, 111, 100] : Str)) then
  (JO inZ.Method).bind fun x10 =>
  some x10
  else
  if decide (name = ([104, 111, 115, 116] : Str)) then
  (JO inZ.Host).bind fun x15 =>
  some x15
  else
  if decide (name = ([112, 97, 116, 104] : Str)) then
  (JO inZ.Path).bind fun x20 =>
  some x20
  else
  (JO inZ.Query).bind fun x23 =>
  some x23
set_option maxHeartbeats 8000000 in
theorem JbE {name : Str} {inZ : Jt} {ap1_0 : Option Addr} {cp1_0 : Nat} {K : Hp} {r : Jd}
    (hm : JR name inZ = some r) (hp1_0 : RdC Jg.enc K ap1_0 cp1_0 2 inZ.Fields) :
    Fn Tryz.prog 64 [str name, .agg #[str inZ.Method, str inZ.Host, str inZ.Path, str inZ.Query, .slice ap1_0 inZ.Fields.length cp1_0]] K [] (fun v K' H' => v = .agg #[.int .i64 r.kind, .int .i64 r.n, str r.s, .bool r.isZ] ∧ H' = []) := by
 refine Fn.enter Tryz.func64 Tryz.call64 rfl fun F => ?_
 unfold JR at hm
 refine box_rule ?_
 intro b3
 refine alloc_rule rfl ?_
 intro b4
 refine block_go rfl ?_
 refine eq_str ?_
 refine cs rfl rfl hm (fun w6 hm => ?_) fun w6 hm => ?_
 refine Ja rfl (RStep.of (load1_s r1 rfl rfl ?_))
 obtain ⟨x10, q10, hm⟩ := bnd hm
 refine call_fn (JJ (s := inZ.Method) q10) .nil ?_
 rintro _ K10 _ l10 ⟨rfl, rfl⟩
 refine store_rule r0 rfl ?_
 refine ⟨rfl, rfl, (Nat.le_of_ble_eq_true rfl), ?_⟩
 obtain rfl := si hm
 refine RStep.of (loadn_s r0 rfl (Nat.le_of_ble_eq_true rfl) ?_)
 refine EndStep.mk _ l10 ⟨rfl, rfl⟩ (ConvH.of (.cons r2 .nil))
 refine eq_str ?_
 refine cs rfl rfl hm (fun w11 hm => ?_) fun w11 hm => ?_
 refine Ja rfl (RStep.of (load1_s r1 rfl rfl ?_))
 obtain ⟨x15, q15, hm⟩ := bnd hm
 refine call_fn (JJ (s := inZ.Host) q15) .nil ?_
 rintro _ K15 _ l15 ⟨rfl, rfl⟩
 refine store_rule r0 rfl ?_
 refine ⟨rfl, rfl, (Nat.le_of_ble_eq_true rfl), ?_⟩
 obtain rfl := si hm
 refine RStep.of (loadn_s r0 rfl (Nat.le_of_ble_eq_true rfl) ?_)
 refine EndStep.mk _ l15 ⟨rfl, rfl⟩ (ConvH.of (.cons r2 .nil))
 refine eq_str ?_
 refine cs rfl rfl hm (fun w16 hm => ?_) fun w16 hm => ?_
 refine Ja rfl (RStep.of (load1_s r1 rfl rfl ?_))
 obtain ⟨x20, q20, hm⟩ := bnd hm
 refine call_fn (JJ (s := inZ.Path) q20) .nil ?_
 rintro _ K20 _ l20 ⟨rfl, rfl⟩
 refine store_rule r0 rfl ?_
 refine ⟨rfl, rfl, (Nat.le_of_ble_eq_true rfl), ?_⟩
 obtain rfl := si hm
 refine RStep.of (loadn_s r0 rfl (Nat.le_of_ble_eq_true rfl) ?_)
 refine EndStep.mk _ l20 ⟨rfl, rfl⟩ (ConvH.of (.cons r2 .nil))
 refine Ja rfl (RStep.of (load1_s r1 rfl rfl ?_))
 obtain ⟨x23, q23, hm⟩ := bnd hm
 refine call_fn (JJ (s := inZ.Query) q23) .nil ?_
 rintro _ K23 _ l23 ⟨rfl, rfl⟩
 refine store_rule r0 rfl ?_
 refine ⟨rfl, rfl, (Nat.le_of_ble_eq_true rfl), ?_⟩
 obtain rfl := si hm
 refine RStep.of (loadn_s r0 rfl (Nat.le_of_ble_eq_true rfl) ?_)
 refine EndStep.mk _ l23 ⟨rfl, rfl⟩ (ConvH.of (.cons r2 .nil))

noncomputable def Jq (m : Jb) : Option (Jd × Jb) :=
  (chk (InI ((m.stack.length : Int) - 1))).bind fun _ =>
  (ix m.stack ((m.stack.length : Int) - 1)).bind fun x14 =>
  (chk (InI ((m.stack.length : Int) - 1))).bind fun _ =>
  (chk (0 ≤ (0 : Int) ∧ (0 : Int) ≤ ((m.stack.length : Int) - 1) ∧ ((m.stack.length : Int) - 1) ≤ (m.stack.length : Int))).bind fun _ =>
  some (x14, (⟨m.inZ, m.most, m.result, (subL m.stack (0 : Int) ((m.stack.length : Int) - 1)), m.slots⟩ : Jb))
set_option maxHeartbeats 8000000 in
theorem JI {m : Jb} {b0 : Nat} {ap0_0 : Option Addr} {cp0_0 : Nat} {ap0_1 : Option Addr} {cp0_1 : Nat} {ap0_2 : Option Addr} {cp0_2 : Nat} {ap0_3 : Option Addr} {cp0_3 : Nat} {ap0_4 : Option Addr} {cp0_4 : Nat} {K : Hp} {r : Jd × Jb}
    (hm : Jq m = some r) (hp0_0 : RdC Jg.enc K ap0_0 cp0_0 2 m.inZ.Fields) (hp0_1 : (0 < m.result.Headers.length → Has ap0_1)) (hp0_2 : (0 < m.result.Vary.length → Has ap0_2)) (hp0_3 : (0 < m.result.Tags.length → Has ap0_3)) (hp0_4 : (0 < m.stack.length → Has ap0_4)) (zp0_5 : m.slots.length = 512) :
    Fn Tryz.prog 65 [.pointer (some ⟨b0, 0, none⟩)] K [Cells b0 98 ((str m.inZ.Method) :: (str m.inZ.Host) :: (str m.inZ.Path) :: (str m.inZ.Query) :: (.slice ap0_0 m.inZ.Fields.length cp0_0) :: (.int .i64 m.most) :: (str m.result.Path) :: (str m.result.Query) :: (.slice ap0_1 m.result.Headers.length cp0_1) :: (.slice ap0_2 m.result.Vary.length cp0_2) :: (.slice ap0_3 m.result.Tags.length cp0_3) :: (.int .i64 m.result.TTL) :: (.int .i64 m.result.Deny) :: (.int .i64 m.result.Steps) :: (.bool m.result.Pass) :: (.bool m.result.Token) :: (.slice ap0_4 m.stack.length cp0_4) :: (m.slots.map Jd.enc).flatten), OwnL Jg.enc ap0_1 77 2 cp0_1 m.result.Headers, OwnL eS ap0_2 9 1 cp0_2 m.result.Vary, OwnL eS ap0_3 9 1 cp0_3 m.result.Tags, OwnL Jd.enc ap0_4 95 4 cp0_4 m.stack] (fun v K' H' => ∃ ar_0 : Option Addr, ∃ cr_0 : Nat, ∃ ar_1 : Option Addr, ∃ cr_1 : Nat, ∃ ar_2 : Option Addr, ∃ cr_2 : Nat, ∃ ar_3 : Option Addr, ∃ cr_3 : Nat, v = .agg #[.int .i64 r.1.kind, .int .i64 r.1.n, str r.1.s, .bool r.1.isZ] ∧ (0 < r.2.result.Headers.length → Has ar_0) ∧ (0 < r.2.result.Vary.length → Has ar_1) ∧ (0 < r.2.result.Tags.length → Has ar_2) ∧ (0 < r.2.stack.length → Has ar_3) ∧ r.2.slots.length = 512 ∧ H' = [Cells b0 98 ((str m.inZ.Method) :: (str m.inZ.Host) :: (str m.inZ.Path) :: (str m.inZ.Query) :: (.slice ap0_0 m.inZ.Fields.length cp0_0) :: (.int .i64 r.2.most) :: (str r.2.result.Path) :: (str r.2.result.Query) :: (.slice ar_0 r.2.result.Headers.length cr_0) :: (.slice ar_1 r.2.result.Vary.length cr_1) :: (.slice ar_2 r.2.result.Tags.length cr_2) :: (.int .i64 r.2.result.TTL) :: (.int .i64 r.2.result.Deny) :: (.int .i64 r.2.result.Steps) :: (.bool r.2.result.Pass) :: (.bool r.2.result.Token) :: (.slice ar_3 r.2.stack.length cr_3) :: (r.2.slots.map Jd.enc).flatten), OwnL Jg.enc ar_0 77 2 cr_0 r.2.result.Headers, OwnL eS ar_1 9 1 cr_1 r.2.result.Vary, OwnL eS ar_2 9 1 cr_2 r.2.result.Tags, OwnL Jd.enc ar_3 95 4 cr_3 r.2.stack]) := by
 refine Fn.enter Tryz.func65 Tryz.call65 rfl fun F => ?_
 unfold Jq at hm
 refine alloc_rule rfl ?_
 intro b2
 refine draw_go_F ⟨⟨[], true⟩, _, [], []⟩ 14 rfl (by kernel_rfl) ⟨Hp.Le.refl _, (ConvH.of .nil), ci0⟩ ?_
 refine nil_check (Ja rfl ?_)
 refine load1_s r1 rfl rfl ?_
 refine nil_check (Ja rfl ?_)
 refine load1_s r1 rfl rfl ?_
 refine len_sliceN rfl ?_
 obtain ⟨h13, hm⟩ := chkb hm
 refine int_in h13 ?_
 obtain ⟨x14, l14, k14, hm⟩ := ixb hm
 refine index_addr rfl rfl (hasO hp0_4 k14) l14 (lt_ofE rfl l14 k14) ?_
 refine ldn_own (i := (((m.stack.length : Int) - 1)).toNat) r5 rfl k14 rfl rfl ?_
 refine allocA rfl ?_
 intro b3
 intro GG13
 refine store_rule r0 rfl ?_
 refine ⟨rfl, rfl, (Nat.le_of_ble_eq_true rfl), ?_⟩
 refine ⟨⟨(Hp.Le.refl _), (ConvH.of .nil), ci0⟩, ?_⟩
 refine ⟨_, .cons r8 .nil, ⟨(Hp.Le.refl _), (ConvH.of .nil), ci0⟩, ?_⟩
 refine DStep.ownLe r3 fun hc1 => ?_
 refine DStep.ownLe r4 fun hc2 => ?_
 refine DStep.ownLe r5 fun hc3 => ?_
 refine DStep.ownLe r6 fun hc4 => ?_
 refine draw_go_tail ⟨⟨[], false⟩, _, [(_, _)], []⟩ 12 rfl (by kernel_rfl) ⟨Hp.Le.refl _, (ConvH.of (.cons r2 .nil)), ci0⟩ ?_
 refine nil_check (Ja rfl (load1_l m0 rfl rfl (nil_check (Ja rfl (load1_l m0 rfl rfl ?_)))))
 refine len_sliceN rfl ?_
 obtain ⟨h26, hm⟩ := chkb hm
 refine int_in h26 ?_
 obtain ⟨h27, hm⟩ := chkb hm
 refine sl_head (l := m.stack) (hi := (some ((m.stack.length : Int) - 1))) rfl rfl rfl hc4 h27 ?_
 refine nil_check (Ja rfl ?_)
 refine tkW ((m.stack.length : Int) - 1) r6 ?_
 refine st_tl (cs' := (str m.inZ.Method) :: (str m.inZ.Host) :: (str m.inZ.Path) :: (str m.inZ.Query) :: (.slice ap0_0 m.inZ.Fields.length cp0_0) :: (.int .i64 m.most) :: (str m.result.Path) :: (str m.result.Query) :: (.slice ap0_1 m.result.Headers.length cp0_1) :: (.slice ap0_2 m.result.Vary.length cp0_2) :: (.slice ap0_3 m.result.Tags.length cp0_3) :: (.int .i64 m.result.TTL) :: (.int .i64 m.result.Deny) :: (.int .i64 m.result.Steps) :: (.bool m.result.Pass) :: (.bool m.result.Token) :: (.slice ap0_4 ((subL m.stack (0 : Int) ((m.stack.length : Int) - 1)).length) cp0_4) :: (m.slots.map Jd.enc).flatten) r3 rfl rfl (by exact rfl) (by exact Nat.le_of_ble_eq_true rfl) (by exact rfl) ?_
 refine ⟨⟨Hp.emp_le _, (ConvH.of .nil), ci0⟩, ?_⟩
 refine RStep.of (loadn_s r2 rfl (Nat.le_of_ble_eq_true rfl) ?_)
 refine store_rule r3 rfl ?_
 refine ⟨rfl, rfl, (Nat.le_of_ble_eq_true rfl), ?_⟩
 obtain rfl := si hm
 refine RStep.of (loadn_s r0 rfl (Nat.le_of_ble_eq_true rfl) ?_)
 refine EndStep.mk _ (Hp.Le.refl _) ⟨ap0_1, cp0_1, ap0_2, cp0_2, ap0_3, cp0_3, ap0_4, cp0_4, rfl, hp0_1, hp0_2, hp0_3, (fun h => hp0_4 (pos_sub h27 h)), zp0_5, rfl⟩ (ConvH.of (.cons r1 (.cons r3 (.cons r3 (.cons r3 (.cons r1 (.cons r2 .nil)))))))

noncomputable def JaA (path : Str) : Option ((List Str)) :=
  (cutM path ([47] : Str)).bind fun x8 =>
  if (!x8.2.2) then
  some []
  else
  (splitM x8.2.1 ([47] : Str)).bind fun x15 =>
  some x15
set_option maxHeartbeats 8000000 in
theorem JbR {path : Str} {K : Hp} {r : (List Str)}
    (hm : JaA path = some r) (hG0 : GlL eS 1 0 Jm K) (hG1 : GlL eS 1 1 Jr K) (hG2 : GlL eS 1 2 Jn K) (hG3 : GlN 3 K) (hG5 : GlA 5 (Go.Lib.pow10Tab.map fun z => Value.int .u64 z) K) :
    Fn Tryz.prog 104 [str path] K [] (fun v K' H' => ∃ ar_0 : Option Addr, ∃ cr_0 : Nat, v = .slice ar_0 r.length cr_0 ∧ (0 < r.length → Has ar_0) ∧ H' = [OwnL eS ar_0 9 1 cr_0 r]) := by
 refine Fn.enter Tryz.func104 Tryz.call104 rfl fun F => ?_
 unfold JaA at hm
 obtain ⟨x8, q8, hm⟩ := bnd hm
 refine call_fn (cut_ok q8 hG3) .nil ?_
 rintro _ K8 _ l8 ⟨rfl, rfl⟩
 refine un_not (cond_go rfl ?_)
 refine cond_s (fun w13 => ?_) (fun w13 => ?_)
 replace hm := ift (not_t (ni_t w13)) hm
 obtain rfl := si hm
 refine nilE eS 9 1 ?_
 refine EndStep.mk _ l8 ⟨none, 0, rfl, (fun h => by simp at h), rfl⟩ (ConvH.of (.cons r0 (.cons r0 .nil)))
 replace hm := iff_ (not_f (ni_f w13)) hm
 obtain ⟨x15, q15, hm⟩ := bnd hm
 refine call_fn (split_ok q15 (hG3.mono l8)) .nil ?_
 rintro _ K15 _ l15 ⟨a15_0, c15_0, rfl, h15_0, rfl⟩
 obtain rfl := si hm
 refine EndStep.mk _ (l8.trans l15) ⟨a15_0, c15_0, rfl, h15_0, rfl⟩ (ConvH.of (.cons r0 (.cons r0 .nil)))

noncomputable def J4 : Nat → Nat → Str → Option (Str)
  | 0, _, y0_0 => some y0_0
  | xs0 + 1, i0, y0_0 =>
    (ix y0_0 (i0 : Int)).bind fun x13 =>
    if (decide ((x13.toNat : Int) ≥ 65) && decide ((x13.toNat : Int) ≤ 90)) then
    (ix y0_0 (i0 : Int)).bind fun x25 =>
    J4 xs0 (i0 + 1) (y0_0.set (((i0 : Int)).toNat) (x13 + (32 : UInt8)))
    else
    J4 xs0 (i0 + 1) y0_0
noncomputable def Jaw (s : Str) : Option (Str) :=
  (chk (s.length ≤ lim)).bind fun _ =>
  (chk (InI (s.length : Int))).bind fun _ =>
  (J4 (s.length : Int).toNat 0 s).bind fun t0 =>
  some t0
set_option maxHeartbeats 8000000 in
theorem JaJ {s : Str} {K : Hp} {r : Str}
    (hm : Jaw s = some r)  :
    Fn Tryz.prog 178 [str s] K [] (fun v K' H' => v = str r ∧ H' = []) := by
 refine Fn.enter Tryz.func178 Tryz.call178 rfl fun F => ?_
 unfold Jaw at hm
 obtain ⟨h7, hm⟩ := chkb hm
 refine cv_bytes rfl rfl rfl h7 ?_
 intro a7 c7 o7
 refine RStep.of (len_slice rfl ?_)
 obtain ⟨hk0, hm⟩ := chkb hm
 obtain ⟨s0, hl0, hm⟩ := bnd hm
 refine code_cut (σ := (Str)) [4, 5, 10, 11, 12, 13, 14, 15, 16, 17, 18, 19, 20, 21, 22, 23, 24, 25, 26] (fun t0 => []) (fun t0 => [OwnL eU a7 5 1 c7 t0, F]) (fun zz K1 => match zz with | t0 => (0 < t0.length → Has a7) ∧ s.length = t0.length ∧ t0 = s0) ?_ ?_
 refine block_go rfl ?_
 refine loop_rule (σ := Nat × Str) [4, 5, 10, 11, 12, 13, 14, 15, 16, 17, 18, 19, 20, 21, 22, 23, 24, 25, 26] (fun (i0, y0_0) => [(10, .int .i64 (i0 : Int))]) (fun (i0, y0_0) => [OwnL eU a7 5 1 c7 y0_0, F]) (fun zz K1 => match zz with | (i0, y0_0) => (0 < y0_0.length → Has a7) ∧ s.length = y0_0.length ∧ J4 ((s.length : Int).toNat - i0) i0 y0_0 = some s0) (fun zz => (s.length : Int).toNat - zz.1) (0, s) rfl ⟨rfl, trivial⟩ (ConvH.of (.cons r0 (.cons r0 .nil))) ⟨o7, rfl, hl0⟩ ?_
 clear hl0
 rintro ⟨i0, y0_0⟩ Kb0 lk0 ⟨y0_h0, y0_n0, hl0⟩ j0
 refine cond_go rfl ?_
 refine cond_s (fun w0 => ?_) (fun w0 => ?_)
 rw [ltn w0, J4.eq_2] at hl0
 refine block_go rfl ?_
 obtain ⟨x13, l13, k13, hl0⟩ := ixb hl0
 refine RStep.ofN (index_addr rfl rfl (hasO y0_h0 k13) l13 (lt_ofE y0_n0 l13 k13) (RStep.of (ld_own (i := ((i0 : Int)).toNat) (o := 0) r0 rfl k13 rfl rfl ?_)))
 refine guard_go rfl ?_
 refine cond_s (fun g17_5 => ?_) (fun g17_5 => ?_)
 refine cond_t g17_5 (cond_t g17_5 (cond_go rfl ?_))
 refine cond_s (fun w20 => ?_) (fun w20 => ?_)
 replace hl0 := ift (and_t g17_5 w20) hl0
 refine u8_addS (x := x13) (y := (32 : UInt8)) rfl rfl ?_
 obtain ⟨x25, l25, k25, hl0⟩ := ixb hl0
 refine RStep.ofN (index_addr rfl rfl (hasO y0_h0 k25) l25 (lt_ofE y0_n0 l25 k25) ?_)
 refine st_own (o := 0) (y := (x13 + (32 : UInt8))) x25 r0 rfl k25 rfl (by (conv => whnf); exact ⟨rfl, rfl, (Nat.le_of_ble_eq_true rfl), rfl, rfl, rfl⟩) ?_
 refine int_in (cntn w0 hk0) ?_
 refine RoundStep.mk (i0 + 1, (y0_0.set (((i0 : Int)).toNat) (x13 + (32 : UInt8)))) ⟨rfl, trivial⟩ (by repeat (first | exact trivial | refine And.intro rfl ?_)) (ConvH.of (.cons r0 (.cons r0 .nil))) lk0 (ltnm w0) ⟨(by first | simpa using y0_h0 | exact fun _ => ⟨_, _, rfl⟩), ((y0_n0).trans List.length_set.symm), hl0⟩
 replace hl0 := iff_ (and_g g17_5 w20) hl0
 refine int_in (cntn w0 hk0) ?_
 refine RoundStep.mk (i0 + 1, y0_0) ⟨rfl, trivial⟩ (by repeat (first | exact trivial | refine And.intro rfl ?_)) (ConvH.of (.cons r0 (.cons r0 .nil))) lk0 (ltnm w0) ⟨y0_h0, y0_n0, hl0⟩
 refine cond_f g17_5 (cond_f g17_5 (cond_go rfl (cond_F ?_)))
 replace hl0 := iff_ (and_f g17_5) hl0
 refine int_in (cntn w0 hk0) ?_
 refine RoundStep.mk (i0 + 1, y0_0) ⟨rfl, trivial⟩ (by repeat (first | exact trivial | refine And.intro rfl ?_)) (ConvH.of (.cons r0 (.cons r0 .nil))) lk0 (ltnm w0) ⟨y0_h0, y0_n0, hl0⟩
 rw [lto w0, J4.eq_1] at hl0
 refine cond_T ?_
 refine MeetStep.mk (y0_0) trivial (by repeat (first | exact trivial | refine And.intro rfl ?_)) (ConvH.of (.cons r0 (.cons r0 .nil))) lk0 ⟨y0_h0, y0_n0, (si hl0)⟩
 rintro t0 Kt0 lt0 ⟨t0_h0, t0_n0, rfl⟩ j0
 refine RStep.of (cv_ownE t0_n0 r0 rfl rfl rfl ?_)
 obtain rfl := si hm
 refine EndStep.mk _ lt0 ⟨rfl, rfl⟩ (ConvH.of (.cons r1 .nil))

noncomputable def Jad (x9 : Str) : List Jg → Nat → (List Str) → Option ((List Str))
  | [], _, y0_0 => some y0_0
  | e0 :: xs0, i0, y0_0 =>
    (Jaw e0.Name).bind fun x18 =>
    if decide (x18 = x9) then
    (chk (y0_0.length + [e0.Value].length ≤ lim)).bind fun _ =>
    Jad x9 xs0 (i0 + 1) (y0_0 ++ [e0.Value])
    else
    Jad x9 xs0 (i0 + 1) y0_0
noncomputable def JbF (f : (List Jg)) (name : Str) : Option ((List Str)) :=
  (Jaw name).bind fun x9 =>
  (chk (f.length ≤ szMax)).bind fun _ =>
  (Jad x9 f 0 []).bind fun t0 =>
  some t0
set_option maxHeartbeats 8000000 in
theorem JcA {f : (List Jg)} {name : Str} {ap0_0 : Option Addr} {cp0_0 : Nat} {n0 : Nat} {K : Hp} {r : (List Str)}
    (hm : JbF f name = some r) (hp0_0 : RdC Jg.enc K ap0_0 cp0_0 2 f) (en0 : n0 = f.length) :
    Fn Tryz.prog 145 [.slice ap0_0 n0 cp0_0, str name] K [] (fun v K' H' => ∃ ar_0 : Option Addr, ∃ cr_0 : Nat, v = .slice ar_0 r.length cr_0 ∧ (0 < r.length → Has ar_0) ∧ H' = [OwnL eS ar_0 9 1 cr_0 r]) := by
 subst en0
 refine Fn.enter Tryz.func145 Tryz.call145 rfl fun F => ?_
 unfold JbF at hm
 obtain ⟨x9, q9, hm⟩ := bnd hm
 refine call_fn (JaJ (s := name) q9) .nil ?_
 rintro _ K9 _ l9 ⟨rfl, rfl⟩
 refine RStep.of (len_slice rfl ?_)
 obtain ⟨hk0, hm⟩ := chkb hm
 obtain ⟨s0, hl0, hm⟩ := bnd hm
 refine nilC eS 9 1 ?_
 refine code_cut (σ := ((List Str)) × Option Addr × Nat) [5, 7, 12, 13, 14, 15, 16, 17, 18, 19, 20, 21, 22, 23, 24, 25, 26] (fun (t0, t0_a0, t0_c0) => [(5, .slice t0_a0 t0.length t0_c0)]) (fun (t0, t0_a0, t0_c0) => [OwnL eS t0_a0 9 1 t0_c0 t0, F]) (fun zz K1 => match zz with | (t0, t0_a0, t0_c0) => (0 < t0.length → Has t0_a0) ∧ t0 = s0) ?_ ?_
 refine block_go rfl ?_
 refine loop_rule (σ := Nat × (List Str) × Option Addr × Nat) [5, 7, 12, 13, 14, 15, 16, 17, 18, 19, 20, 21, 22, 23, 24, 25, 26] (fun (i0, y0_0, y0_a0, y0_c0) => [(12, .int .i64 (i0 : Int)), (5, .slice y0_a0 y0_0.length y0_c0)]) (fun (i0, y0_0, y0_a0, y0_c0) => [OwnL eS y0_a0 9 1 y0_c0 y0_0, F]) (fun zz K1 => match zz with | (i0, y0_0, y0_a0, y0_c0) => (0 < y0_0.length → Has y0_a0) ∧ Jad x9 (f.drop i0) i0 y0_0 = some s0) (fun zz => f.length - zz.1) (0, [], none, 0) rfl ⟨rfl, rfl, trivial⟩ (ConvH.of (.cons r0 (.cons r0 .nil))) ⟨(fun h => by simp at h), hl0⟩ ?_
 clear hl0
 rintro ⟨i0, y0_0, y0_a0, y0_c0⟩ Kb0 lk0 ⟨y0_h0, hl0⟩ j0
 refine cond_go rfl ?_
 refine cond_s (fun w0 => ?_) (fun w0 => ?_)
 obtain ⟨e0, hx0, hd0⟩ := ltx w0
 rw [hd0, Jad.eq_2] at hl0
 refine block_go rfl ?_
 refine RStep.ofN (index_addr rfl rfl (hasK (hp0_0.mono (l9.trans lk0)).rd hx0) (nn _) (lt_ofN hx0) (RStep.of (load_rd_agg i0 _ (hp0_0.mono (l9.trans lk0)).rd rfl (mp hx0) rfl ?_)))
 refine alloc_rule rfl ?_
 intro b7
 refine store_rule r0 rfl ?_
 refine ⟨rfl, rfl, (Nat.le_of_ble_eq_true rfl), ?_⟩
 refine Ja rfl (RStep.of (load1_s r0 rfl rfl ?_))
 obtain ⟨x18, q18, hl0⟩ := bnd hl0
 refine call_fn (JaJ (s := e0.Name) q18) .nil ?_
 rintro _ K18 _ l18 ⟨rfl, rfl⟩
 refine eq_str ?_
 refine cs rfl rfl hl0 (fun w20 hl0 => ?_) fun w20 hl0 => ?_
 refine Ja rfl (RStep.of (load1_s r0 rfl rfl ?_))
 refine bsO (len := 1) (enc := eS) (l := [e0.Value]) (cl := [str e0.Value]) elT31 rfl rfl (fun _ _ => rfl) rfl rfl rfl ?_ fun b24 => ?_
 · conv => whnf
   refine cond_T ?_
   first | done | rfl
 obtain ⟨h25, hl0⟩ := chkb hl0
 refine apE rfl r2 elT31 (src_own' rfl r0 rfl (fun _ => rfl) (fun _ => rfl)) h25 ?_
 intro a25 c25 o25
 refine int_in (cntz hx0 hk0) ?_
 refine RoundStep.mk (i0 + 1, (y0_0 ++ [e0.Value]), a25, c25) ⟨rfl, rfl, trivial⟩ (by repeat (first | exact trivial | refine And.intro rfl ?_)) (ConvH.of (.cons r0 (.cons r2 .nil))) (lk0.trans l18) (ltm hx0) ⟨o25, hl0⟩
 refine int_in (cntz hx0 hk0) ?_
 refine RoundStep.mk (i0 + 1, y0_0, y0_a0, y0_c0) ⟨rfl, rfl, trivial⟩ (by repeat (first | exact trivial | refine And.intro rfl ?_)) (ConvH.of (.cons r1 (.cons r1 .nil))) (lk0.trans l18) (ltm hx0) ⟨y0_h0, hl0⟩
 rw [lty w0, Jad.eq_1] at hl0
 refine cond_T ?_
 refine MeetStep.mk (y0_0, y0_a0, y0_c0) ⟨rfl, trivial⟩ (by repeat (first | exact trivial | refine And.intro rfl ?_)) (ConvH.of (.cons r0 (.cons r0 .nil))) lk0 ⟨y0_h0, (si hl0)⟩
 rintro ⟨t0, t0_a0, t0_c0⟩ Kt0 lt0 ⟨t0_h0, rfl⟩ j0
 obtain rfl := si hm
 refine EndStep.mk _ (l9.trans lt0) ⟨t0_a0, t0_c0, rfl, t0_h0, rfl⟩ (ConvH.of (.cons r0 (.cons r0 .nil)))

noncomputable def Jbo (f : (List Jg)) (name : Str) : Option (Str × Bool) :=
  (JbF f name).bind fun x9 =>
  (joinM x9 ([44, 32] : Str)).bind fun x11 =>
  some (x11, decide ((x9.length : Int) > 0))
set_option maxHeartbeats 8000000 in
theorem Jb9 {f : (List Jg)} {name : Str} {ap0_0 : Option Addr} {cp0_0 : Nat} {n0 : Nat} {K : Hp} {r : Str × Bool}
    (hm : Jbo f name = some r) (hp0_0 : RdC Jg.enc K ap0_0 cp0_0 2 f) (en0 : n0 = f.length) :
    Fn Tryz.prog 105 [.slice ap0_0 n0 cp0_0, str name] K [] (fun v K' H' => v = .tuple #[str r.1, .bool r.2] ∧ H' = []) := by
 subst en0
 refine Fn.enter Tryz.func105 Tryz.call105 rfl fun F => ?_
 unfold Jbo at hm
 obtain ⟨x9, q9, hm⟩ := bnd hm
 refine call_fn (JcA (name := name) q9 hp0_0 rfl) .nil ?_
 rintro _ K9 _ l9 ⟨a9_0, c9_0, rfl, h9_0, rfl⟩
 obtain ⟨x11, q11, hm⟩ := bnd hm
 refine call_fn (Fn.lend Tryz.call146 (fun K11_0 l11_0 f11_0 => (join_ok q11 f11_0 rfl)) (by exact fun _ _ _ _ h => h)) (.cons r0 .nil) ?_
 rintro _ K11 _ l11 ⟨_, rfl, rfl, rfl⟩
 refine RStep.of (len_slice rfl ?_)
 obtain rfl := si hm
 refine EndStep.mk _ (l9.trans l11) ⟨rfl, rfl⟩ (ConvH.of (.cons r1 .nil))

noncomputable def JY (isZ : Bool) : Option (Jd) :=
  some (⟨3, 0, ([] : Str), isZ⟩ : Jd)
set_option maxHeartbeats 8000000 in
theorem JS {isZ : Bool} {K : Hp} {r : Jd}
    (hm : JY isZ = some r)  :
    Fn Tryz.prog 68 [.bool isZ] K [] (fun v K' H' => v = .agg #[.int .i64 r.kind, .int .i64 r.n, str r.s, .bool r.isZ] ∧ H' = []) := by
 refine Fn.enter Tryz.func68 Tryz.call68 rfl fun F => ?_
 unfold JY at hm
 refine alloc_rule rfl ?_
 intro b2
 refine build_struct rfl rfl (cond_T (cond_T ?_))
 refine store_rule r0 rfl ?_
 refine ⟨rfl, rfl, (Nat.le_of_ble_eq_true rfl), ?_⟩
 obtain rfl := si hm
 refine RStep.of (loadn_s r0 rfl (Nat.le_of_ble_eq_true rfl) ?_)
 refine EndStep.mk _ (Hp.Le.refl _) ⟨rfl, rfl⟩ (ConvH.of (.cons r1 .nil))

noncomputable def Jy (s : Str) (prefixZ : Str) : Option (Bool) :=
  (Jz s prefixZ).bind fun x7 =>
  some x7
set_option maxHeartbeats 8000000 in
theorem Jaq {s : Str} {prefixZ : Str} {K : Hp} {r : Bool}
    (hm : Jy s prefixZ = some r)  :
    Fn Tryz.prog 69 [str s, str prefixZ] K [] (fun v K' H' => v = .bool r ∧ H' = []) := by
 refine Fn.enter Tryz.func69 Tryz.call69 rfl fun F => ?_
 unfold Jy at hm
 obtain ⟨x7, q7, hm⟩ := bnd hm
 refine call_fn (Jak (s := s) (prefixZ := prefixZ) q7) .nil ?_
 rintro _ K7 _ l7 ⟨rfl, rfl⟩
 obtain rfl := si hm
 refine EndStep.mk _ l7 ⟨rfl, rfl⟩ (ConvH.of (.cons r0 .nil))
