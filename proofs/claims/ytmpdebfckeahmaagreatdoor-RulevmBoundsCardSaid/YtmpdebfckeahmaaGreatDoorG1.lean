/- Functions of the program: mirrors, and that a call returns what the mirror says. Printed by gen.py. -/
import Derived.Test.YtmpdebfckeahmaaGreatDoorShelf
import Derived.Test.YtmpdebfckeahmaaGreatDoorLS
import Derived.KernelRfl
import Derived.Test.YtmpdebfckeahmaaGreatDoorProg
set_option linter.unusedVariables false
set_option linter.unusedSimpArgs false
open Go Go.SL Go.Proofs
noncomputable section
set_option maxRecDepth 1000000
set_option maxHeartbeats 8000000
def Jad : List Str := [[109, 101, 116, 104, 111, 100], [104, 111, 115, 116], [112, 97, 116, 104], [113, 117, 101, 114, 121]]
def Jak : List Str := [[104, 101, 97, 100, 101, 114], [104, 97, 115], [97, 114, 103], [108, 101, 110], [108, 111, 119, 101, 114], [112, 97, 114, 116], [116, 101, 120, 116], [110, 117, 109, 98, 101, 114]]
def Jaa : List Str := [[43], [45], [42], [61, 61], [33, 61], [60], [60, 61], [115, 116, 97, 114, 116, 115], [101, 110, 100, 115], [99, 111, 110, 116, 97, 105, 110, 115]]
def gkw0 : List Str := [[105, 102], [101, 108, 115, 101], [108, 101, 116], [118, 97, 114, 121], [116, 97, 103], [116, 116, 108], [100, 101, 110, 121], [112, 97, 115, 115], [116, 111, 107, 101, 110], [111, 114], [97, 110, 100], [110, 111, 116], [115, 116, 97, 114, 116, 115], [101, 110, 100, 115], [99, 111, 110, 116, 97, 105, 110, 115], [116, 114, 117, 101], [102, 97, 108, 115, 101]]
structure Je where
  Ab : Int
  Ac : Str
  Aa : (List Je)
  Ad : Int
inductive Je.R (K : Hp) : List Value → Je → Prop
  | mk {cs : List Value} {x : Je} (a_0 : Option Addr) (c_0 : Nat) (e : cs = [.int .i64 x.Ab, str x.Ac, .slice a_0 x.Aa.length c_0, .int .i64 x.Ad]) (css0 : List (List Value)) (p0 : RdS K a_0 4 css0) (q0 : css0.length = x.Aa.length) (r0 : x.Aa.length ≤ c_0) (z0 : ∀ (i : Nat) (c : List Value) (y : Je), css0[i]? = some c → x.Aa[i]? = some y → Je.R K c y) : Je.R K cs x
theorem Je.out {K : Hp} {cs : List Value} {x : Je} (h : Je.R K cs x) : ∃ a_0 : Option Addr, ∃ c_0 : Nat, cs = [.int .i64 x.Ab, str x.Ac, .slice a_0 x.Aa.length c_0, .int .i64 x.Ad] ∧ LiC Je.R K a_0 c_0 4 x.Aa := by
  cases h with
  | mk a_0 c_0 e css0 p0 q0 r0 z0 => exact ⟨a_0, c_0, e, ⟨⟨css0, p0, q0, z0⟩, r0⟩⟩
theorem Je.of {K : Hp} {cs : List Value} {x : Je} (h : ∃ a_0 : Option Addr, ∃ c_0 : Nat, cs = [.int .i64 x.Ab, str x.Ac, .slice a_0 x.Aa.length c_0, .int .i64 x.Ad] ∧ LiC Je.R K a_0 c_0 4 x.Aa) : Je.R K cs x := by
  obtain ⟨a_0, c_0, e, ⟨⟨aL, p0, q0, z0⟩, r0⟩⟩ := h
  exact .mk a_0 c_0 e aL p0 q0 r0 z0
theorem Je.R_mono {K K' : Hp} (hk : K.Le K') {cs : List Value} {x : Je} (h : Je.R K cs x) : Je.R K' cs x := by
  induction h with
  | mk a_0 c_0 e css0 p0 q0 r0 z0 ih0 => exact .mk a_0 c_0 e css0 (p0.mono hk) q0 r0 (ih0)
theorem Je.R_ok : RpOK 4 Je.R := by
  refine ⟨fun hk h => Je.R_mono hk h, fun h => ?_, fun h v hv => ?_⟩
  · obtain ⟨a_0, c_0, e, aL⟩ := Je.out h; simp [e]
  · obtain ⟨a_0, c_0, e, aL⟩ := Je.out h; rw [e] at hv; simp at hv; rcases hv with rfl | rfl | rfl | rfl <;> rfl
instance : RpI 4 Je.R := ⟨Je.R_ok⟩
structure Jq where
  Name : Str
  Value : Str
abbrev Jq.enc (x : Jq) : List Go.Value := [str x.Name, str x.Value]
structure Jw where
  Am : Str
  An : Str
  Ae : Str
  Af : Str
  Ao : (List Jq)
def Jw.R : Rp Jw := fun K cs x => ∃ a_0 : Option Addr, ∃ c_0 : Nat, cs = [str x.Am, str x.An, str x.Ae, str x.Af, .slice a_0 x.Ao.length c_0] ∧ RdC Jq.enc K a_0 c_0 2 x.Ao
theorem Jw.R_ok : RpOK 5 Jw.R :=
  ⟨fun hk ⟨a_0, c_0, e, h_0⟩ => ⟨a_0, c_0, e, (h_0.mono hk)⟩, fun ⟨a_0, c_0, e, h_0⟩ => by simp [e], fun ⟨a_0, c_0, e, h_0⟩ v hv => by rw [e] at hv; simp at hv; rcases hv with rfl | rfl | rfl | rfl | rfl <;> rfl⟩
instance : RpI 5 Jw.R := ⟨Jw.R_ok⟩
structure Jc where
  Op : Int
  N : Int
  S : Str
abbrev Jc.enc (x : Jc) : List Go.Value := [.int .i64 x.Op, .int .i64 x.N, str x.S]
structure Jj where
  Name : Str
  Value : Str
abbrev Jj.enc (x : Jj) : List Go.Value := [str x.Name, str x.Value]
structure JI where
  Am : Str
  An : Str
  Ae : Str
  Af : Str
  Ao : (List Jj)
def JI.R : Rp JI := fun K cs x => ∃ a_0 : Option Addr, ∃ c_0 : Nat, cs = [str x.Am, str x.An, str x.Ae, str x.Af, .slice a_0 x.Ao.length c_0] ∧ RdC Jj.enc K a_0 c_0 2 x.Ao
theorem JI.R_ok : RpOK 5 JI.R :=
  ⟨fun hk ⟨a_0, c_0, e, h_0⟩ => ⟨a_0, c_0, e, (h_0.mono hk)⟩, fun ⟨a_0, c_0, e, h_0⟩ => by simp [e], fun ⟨a_0, c_0, e, h_0⟩ v hv => by rw [e] at hv; simp at hv; rcases hv with rfl | rfl | rfl | rfl | rfl <;> rfl⟩
instance : RpI 5 JI.R := ⟨JI.R_ok⟩
structure Jl where
  Ae : Str
  Af : Str
  Ag : (List Jj)
  Vary : (List Str)
  Ah : (List Str)
  TTL : Int
  Ai : Int
  Aj : Int
  Ak : Bool
  Al : Bool
def Jl.R : Rp Jl := fun K cs x => ∃ a_0 : Option Addr, ∃ c_0 : Nat, ∃ a_1 : Option Addr, ∃ c_1 : Nat, ∃ a_2 : Option Addr, ∃ c_2 : Nat, cs = [str x.Ae, str x.Af, .slice a_0 x.Ag.length c_0, .slice a_1 x.Vary.length c_1, .slice a_2 x.Ah.length c_2, .int .i64 x.TTL, .int .i64 x.Ai, .int .i64 x.Aj, .bool x.Ak, .bool x.Al] ∧ RdC Jj.enc K a_0 c_0 2 x.Ag ∧ RdC eS K a_1 c_1 1 x.Vary ∧ RdC eS K a_2 c_2 1 x.Ah
theorem Jl.R_ok : RpOK 10 Jl.R :=
  ⟨fun hk ⟨a_0, c_0, a_1, c_1, a_2, c_2, e, h_0, h_1, h_2⟩ => ⟨a_0, c_0, a_1, c_1, a_2, c_2, e, (h_0.mono hk), (h_1.mono hk), (h_2.mono hk)⟩, fun ⟨a_0, c_0, a_1, c_1, a_2, c_2, e, h_0, h_1, h_2⟩ => by simp [e], fun ⟨a_0, c_0, a_1, c_1, a_2, c_2, e, h_0, h_1, h_2⟩ v hv => by rw [e] at hv; simp at hv; rcases hv with rfl | rfl | rfl | rfl | rfl | rfl | rfl | rfl | rfl | rfl <;> rfl⟩
instance : RpI 10 Jl.R := ⟨Jl.R_ok⟩
structure JaH where
  f0 : Int
  f1 : Int
  f2 : Int
  f3 : Int
  f4 : Int
  f5 : Int
  f6 : Int
  f7 : Int
abbrev JaH.enc (x : JaH) : List Go.Value := [.int .u64 x.f0, .int .u64 x.f1, .int .u64 x.f2, .int .u64 x.f3, .int .u64 x.f4, .int .u64 x.f5, .int .u64 x.f6, .int .u64 x.f7]
structure Jm where
  Aw : Bool
  depth : Int
  Av : JaH
abbrev Jm.enc (x : Jm) : List Go.Value := [.bool x.Aw, .int .i64 x.depth, .int .u64 x.Av.f0, .int .u64 x.Av.f1, .int .u64 x.Av.f2, .int .u64 x.Av.f3, .int .u64 x.Av.f4, .int .u64 x.Av.f5, .int .u64 x.Av.f6, .int .u64 x.Av.f7]
structure Jf where
  kind : Int
  n : Int
  s : Str
  Au : Bool
abbrev Jf.enc (x : Jf) : List Go.Value := [.int .i64 x.kind, .int .i64 x.n, str x.s, .bool x.Au]
structure Jg where
  Ar : JI
  most : Int
  result : Jl
  stack : (List Jf)
  Ap : (List Jf)
structure JbJ where
  An : Str
  Ae : Str
  Af : Str
  HasQuery : Bool
abbrev JbJ.enc (x : JbJ) : List Go.Value := [str x.An, str x.Ae, str x.Af, .bool x.HasQuery]
structure Ja where
  Ab : Int
  Ac : Str
  Aa : (List Ja)
  Ad : Int
inductive Ja.R (K : Hp) : List Value → Ja → Prop
  | mk {cs : List Value} {x : Ja} (a_0 : Option Addr) (c_0 : Nat) (e : cs = [.int .i64 x.Ab, str x.Ac, .slice a_0 x.Aa.length c_0, .int .i64 x.Ad]) (css0 : List (List Value)) (p0 : RdS K a_0 4 css0) (q0 : css0.length = x.Aa.length) (r0 : x.Aa.length ≤ c_0) (z0 : ∀ (i : Nat) (c : List Value) (y : Ja), css0[i]? = some c → x.Aa[i]? = some y → Ja.R K c y) : Ja.R K cs x
theorem Ja.out {K : Hp} {cs : List Value} {x : Ja} (h : Ja.R K cs x) : ∃ a_0 : Option Addr, ∃ c_0 : Nat, cs = [.int .i64 x.Ab, str x.Ac, .slice a_0 x.Aa.length c_0, .int .i64 x.Ad] ∧ LiC Ja.R K a_0 c_0 4 x.Aa := by
  cases h with
  | mk a_0 c_0 e css0 p0 q0 r0 z0 => exact ⟨a_0, c_0, e, ⟨⟨css0, p0, q0, z0⟩, r0⟩⟩
theorem Ja.of {K : Hp} {cs : List Value} {x : Ja} (h : ∃ a_0 : Option Addr, ∃ c_0 : Nat, cs = [.int .i64 x.Ab, str x.Ac, .slice a_0 x.Aa.length c_0, .int .i64 x.Ad] ∧ LiC Ja.R K a_0 c_0 4 x.Aa) : Ja.R K cs x := by
  obtain ⟨a_0, c_0, e, ⟨⟨aL, p0, q0, z0⟩, r0⟩⟩ := h
  exact .mk a_0 c_0 e aL p0 q0 r0 z0
theorem Ja.R_mono {K K' : Hp} (hk : K.Le K') {cs : List Value} {x : Ja} (h : Ja.R K cs x) : Ja.R K' cs x := by
  induction h with
  | mk a_0 c_0 e css0 p0 q0 r0 z0 ih0 => exact .mk a_0 c_0 e css0 (p0.mono hk) q0 r0 (ih0)
theorem Ja.R_ok : RpOK 4 Ja.R := by
  refine ⟨fun hk h => Ja.R_mono hk h, fun h => ?_, fun h v hv => ?_⟩
  · obtain ⟨a_0, c_0, e, aL⟩ := Ja.out h; simp [e]
  · obtain ⟨a_0, c_0, e, aL⟩ := Ja.out h; rw [e] at hv; simp at hv; rcases hv with rfl | rfl | rfl | rfl <;> rfl
instance : RpI 4 Ja.R := ⟨Ja.R_ok⟩
structure JF where
  Ab : Int
  Ac : Str
  Ad : Int
  Column : Int
abbrev JF.enc (x : JF) : List Go.Value := [.int .i64 x.Ab, str x.Ac, .int .i64 x.Ad, .int .i64 x.Column]
structure Jn where
  line : Int
  err : Err
abbrev Jn.enc (x : Jn) : List Go.Value := [.int .i64 x.line, qc9 87 x.err]
structure Jk where
  Name : Str
  As : Int
abbrev Jk.enc (x : Jk) : List Go.Value := [str x.Name, .int .i64 x.As]
structure Ji where
  name : Str
  slot : Int
abbrev Ji.enc (x : Ji) : List Go.Value := [str x.name, .int .i64 x.slot]
structure Jb where
  code : (List Jc)
  names : (List Ji)
  Ap : Int
def Jb.R : Rp Jb := fun K cs x => ∃ a_0 : Option Addr, ∃ c_0 : Nat, ∃ a_1 : Option Addr, ∃ c_1 : Nat, cs = [.slice a_0 x.code.length c_0, .slice a_1 x.names.length c_1, .int .i64 x.Ap] ∧ RdC Jc.enc K a_0 c_0 3 x.code ∧ RdC Ji.enc K a_1 c_1 2 x.names
theorem Jb.R_ok : RpOK 3 Jb.R :=
  ⟨fun hk ⟨a_0, c_0, a_1, c_1, e, h_0, h_1⟩ => ⟨a_0, c_0, a_1, c_1, e, (h_0.mono hk), (h_1.mono hk)⟩, fun ⟨a_0, c_0, a_1, c_1, e, h_0, h_1⟩ => by simp [e], fun ⟨a_0, c_0, a_1, c_1, e, h_0, h_1⟩ v hv => by rw [e] at hv; simp at hv; rcases hv with rfl | rfl | rfl <;> rfl⟩
instance : RpI 3 Jb.R := ⟨Jb.R_ok⟩
structure Jp where
  Ae : Str
  Af : Str
  Ag : (List Jq)
  Vary : (List Str)
  Ah : (List Str)
  TTL : Int
  Ai : Int
  Aj : Int
  Ak : Bool
  Al : Bool
def Jp.R : Rp Jp := fun K cs x => ∃ a_0 : Option Addr, ∃ c_0 : Nat, ∃ a_1 : Option Addr, ∃ c_1 : Nat, ∃ a_2 : Option Addr, ∃ c_2 : Nat, cs = [str x.Ae, str x.Af, .slice a_0 x.Ag.length c_0, .slice a_1 x.Vary.length c_1, .slice a_2 x.Ah.length c_2, .int .i64 x.TTL, .int .i64 x.Ai, .int .i64 x.Aj, .bool x.Ak, .bool x.Al] ∧ RdC Jq.enc K a_0 c_0 2 x.Ag ∧ RdC eS K a_1 c_1 1 x.Vary ∧ RdC eS K a_2 c_2 1 x.Ah
theorem Jp.R_ok : RpOK 10 Jp.R :=
  ⟨fun hk ⟨a_0, c_0, a_1, c_1, a_2, c_2, e, h_0, h_1, h_2⟩ => ⟨a_0, c_0, a_1, c_1, a_2, c_2, e, (h_0.mono hk), (h_1.mono hk), (h_2.mono hk)⟩, fun ⟨a_0, c_0, a_1, c_1, a_2, c_2, e, h_0, h_1, h_2⟩ => by simp [e], fun ⟨a_0, c_0, a_1, c_1, a_2, c_2, e, h_0, h_1, h_2⟩ v hv => by rw [e] at hv; simp at hv; rcases hv with rfl | rfl | rfl | rfl | rfl | rfl | rfl | rfl | rfl | rfl <;> rfl⟩
instance : RpI 10 Jp.R := ⟨Jp.R_ok⟩
theorem qt8 : ElT Tryz.prog 38 54 3 := ElT.mk' rfl rfl rfl rfl rfl
theorem qwf : ElT Tryz.prog 200 204 10 := ElT.mk' rfl rfl rfl rfl rfl
theorem qb3 : ElT Tryz.prog 130 5 1 := ElT.mk' rfl rfl rfl rfl rfl
theorem qwg : ElT Tryz.prog 93 95 4 := ElT.mk' rfl rfl rfl rfl rfl
theorem qka : ElT Tryz.prog 31 9 1 := ElT.mk' rfl rfl rfl rfl rfl
theorem qi2 : ElT Tryz.prog 30 77 2 := ElT.mk' rfl rfl rfl rfl rfl
theorem qt9 : ElT Tryz.prog 66 68 4 := ElT.mk' rfl rfl rfl rfl rfl
theorem qlk : ElT Tryz.prog 265 269 4 := ElT.mk' rfl rfl rfl rfl rfl
theorem qll : ElT Tryz.prog 150 3 1 := ElT.mk' rfl rfl rfl rfl rfl
theorem qlm : ElT Tryz.prog 195 233 2 := ElT.mk' rfl rfl rfl rfl rfl
theorem qln : ElT Tryz.prog 132 230 2 := ElT.mk' rfl rfl rfl rfl rfl
theorem qwh : ElT Tryz.prog 23 90 2 := ElT.mk' rfl rfl rfl rfl rfl
def GG (K : Hp) : Prop := (GlL eS 1 0 Jad K) ∧ (GlL eS 1 1 Jak K) ∧ (GlL eS 1 2 Jaa K) ∧ (GlN 3 K) ∧ (GlL eS 1 4 gkw0 K) ∧ (GlA 5 (Go.Lib.pow10Tab.map fun z => Value.int .u64 z) K)
theorem GG.of {K : Hp} (h : (GlL eS 1 0 Jad K) ∧ (GlL eS 1 1 Jak K) ∧ (GlL eS 1 2 Jaa K) ∧ (GlN 3 K) ∧ (GlL eS 1 4 gkw0 K) ∧ (GlA 5 (Go.Lib.pow10Tab.map fun z => Value.int .u64 z) K)) : GG K := h
theorem GG.mono {K K' : Hp} (h : GG K) (hk : K.Le K') : GG K' := ⟨h.1.mono hk, h.2.1.mono hk, h.2.2.1.mono hk, h.2.2.2.1.mono hk, h.2.2.2.2.1.mono hk, h.2.2.2.2.2.mono hk⟩
theorem gg0 {K : Hp} (h : GG K) : GlL eS 1 0 Jad K := h.1
theorem gg1 {K : Hp} (h : GG K) : GlL eS 1 1 Jak K := h.2.1
theorem gg2 {K : Hp} (h : GG K) : GlL eS 1 2 Jaa K := h.2.2.1
theorem gg3 {K : Hp} (h : GG K) : GlN 3 K := h.2.2.2.1
theorem gg4 {K : Hp} (h : GG K) : GlL eS 1 4 gkw0 K := h.2.2.2.2.1
theorem gg5 {K : Hp} (h : GG K) : GlA 5 (Go.Lib.pow10Tab.map fun z => Value.int .u64 z) K := h.2.2.2.2.2
def JaA : List UInt8 → Nat → Str → Option (Fl (Str × Err) (Str))
  | [], _, ac => some (Fl.go ac)
  | e0 :: aM, i0, ac =>
    (if decide ((e0.toNat : Int) < 32) then some true else some (decide ((e0.toNat : Int) > 126))).bind fun aL =>
    if aL then
    some (Fl.ret (([] : Str), (some 2)))
    else
    (if decide ((e0.toNat : Int) = 34) then some true else some (decide ((e0.toNat : Int) = 92))).bind fun aN =>
    if aN then
    (chk (ac.length + ([(92 : UInt8)] : Str).length ≤ lim)).bind fun _ =>
    (chk ((ac ++ ([(92 : UInt8)] : Str)).length + ([e0] : Str).length ≤ lim)).bind fun _ =>
    JaA aM (i0 + 1) ((ac ++ ([(92 : UInt8)] : Str)) ++ ([e0] : Str))
    else
    (chk (ac.length + ([e0] : Str).length ≤ lim)).bind fun _ =>
    JaA aM (i0 + 1) (ac ++ ([e0] : Str))
def JbM (s : Str) : Option (Str × Err) :=
  (chk (s.length ≤ qau)).bind fun _ =>
  (JaA s 0 ([(34 : UInt8)] : Str)).bind fun s0 => s0.el some fun t0 =>
  (chk (t0.length + ([(34 : UInt8)] : Str).length ≤ lim)).bind fun _ =>
  some ((t0 ++ ([(34 : UInt8)] : Str)), none)
theorem Jdo {s : Str} {K : Hp} {r : Str × Err}
    (hm : JbM s = some r)  :
    Fn Tryz.prog 173 [str s] K [] (fun v K' H' => v = .tuple #[str r.1, qc9 87 r.2] ∧ H' = []) := by
 refine Fn.enter Tryz.func173 Tryz.call173 rfl fun F => ?_
 unfold JbM at hm
 refine bsO (len := 1) (enc := eU) (l := ([(34 : UInt8)] : Str)) (cl := [.int .u8 34]) qb3 rfl rfl (fun _ _ => rfl) rfl rfl rfl ?_ fun b6 => ?_
 · conv => whnf
   refine cT ?_
   first | done | rfl
 refine ro (qa3 rfl ?_)
 obtain ⟨aY, hm⟩ := qa2 hm
 obtain ⟨s0, aL, hm⟩ := bnd hm
 refine lD (σ := (Str) × Option Addr × Nat) ([2,3,4,5] ++ rg 9 34) [1] (fun i0 => [(9, .int .i64 (i0 : Int))]) (fun (t0, aO, aP) => [(4, .slice aO t0.length aP)]) (fun (t0, aO, aP) => [OwnL eU aO 5 1 aP t0]) (fun (t0, aO, aP) => (0 < t0.length → Has aO) ∧ True) (fun i0 (t0, aO, aP) => JaA (s.drop i0) i0 t0 = some s0) (fun (t0, aO, aP) => s0 = Fl.go t0) (fun i0 => s.length - i0) 0 (_, _, _) aL (And.intro qe (And.intro ?_ ?_))
 clear aL
 rintro i0 ⟨ac, bm, bb⟩ ⟨aZ, _⟩ aL j0
 conv at aL => whnf
 refine qae rfl ?_
 refine qag ?_ ?_ <;> intro w0
 obtain ⟨e0, aR, bv⟩ := ltx w0
 rw [bv, JaA.eq_2] at aL
 refine qal rfl ?_
 obtain ⟨aX, aQ, aL⟩ := bnd aL
 refine jR (σ := Bool) (rg 12 10) (fun aS => [(21, .bool aS)]) (fun aS => aS = aX) ?_ ?_
 replace aQ := bsm aQ
 refine qak rfl ?_
 refine qba rfl (nn _) aR ?_
 obtain ⟨bC, aV, aQ⟩ := bnd aQ
 refine cS aV (fun aN aV => ?_) fun aN aV => ?_
 refine ct aN (ct aN (ct aN (ct aN ?_)))
 exact eMq aQ _ ⟨bq (si aV), trivial⟩
 refine cf aN (cf aN (qba rfl (nn _) aR (cf aN (cf aN ?_))))
 exact eMq aQ _ ⟨bq (si aV), trivial⟩
 rintro aS rfl bw
 refine cs rfl rfl aL ?_ ?_ <;> intro bA aL
 refine qa4 rfl ?_
 exact eE (er aL hm)
 refine qak rfl ?_
 refine qba rfl (nn _) aR (qad ?_)
 obtain ⟨bD, aT, aL⟩ := bnd aL
 refine cS aT (fun aM aT => ?_) fun aM aT => ?_
 refine ct aM (ct aM (ct aM (ct aM (qae rfl (cT ?_)))))
 replace aL := ift (si aT).symm aL
 refine bsO (len := 1) (enc := eU) (l := ([(92 : UInt8)] : Str)) (cl := [.int .u8 92]) qb3 rfl rfl (fun _ _ => rfl) rfl rfl rfl ?_ fun bu => ?_
 · conv => whnf
   refine cT ?_
   first | done | rfl
 obtain ⟨aW, aL⟩ := qa2 aL
 refine apE rfl r1 qb3 (qa5 rfl r0 rfl (fun _ => rfl) (fun _ => rfl)) aW ?_
 intro bt bo bp
 refine qba rfl (nn _) aR ?_
 refine bsO (len := 1) (enc := eU) (l := ([e0] : Str)) (cl := [.int .u8 (e0.toNat : Int)]) qb3 rfl rfl (fun _ _ => rfl) rfl rfl rfl ?_ fun bh => ?_
 · conv => whnf
   refine cT ?_
   first | done | rfl
 obtain ⟨aU, aL⟩ := qa2 aL
 refine apE rfl r1 qb3 (qa5 rfl r0 rfl (fun _ => rfl) (fun _ => rfl)) aU ?_
 intro ba bf bj
 refine qap (qcf aR aY) ?_
 exact eR aL (_, _, _, _)
 refine cf aM (cf aM (qba rfl (nn _) aR (cf aM (qad (cf aM (qae rfl ?_))))))
 refine qag ?_ ?_ <;> intro bg
 replace aL := ift ((si aT).symm.trans bg) aL
 refine bsO (len := 1) (enc := eU) (l := ([(92 : UInt8)] : Str)) (cl := [.int .u8 92]) qb3 rfl rfl (fun _ _ => rfl) rfl rfl rfl ?_ fun bu => ?_
 · conv => whnf
   refine cT ?_
   first | done | rfl
 obtain ⟨aW, aL⟩ := qa2 aL
 refine apE rfl r1 qb3 (qa5 rfl r0 rfl (fun _ => rfl) (fun _ => rfl)) aW ?_
 intro bt bo bp
 refine qba rfl (nn _) aR ?_
 refine bsO (len := 1) (enc := eU) (l := ([e0] : Str)) (cl := [.int .u8 (e0.toNat : Int)]) qb3 rfl rfl (fun _ _ => rfl) rfl rfl rfl ?_ fun bh => ?_
 · conv => whnf
   refine cT ?_
   first | done | rfl
 obtain ⟨aU, aL⟩ := qa2 aL
 refine apE rfl r1 qb3 (qa5 rfl r0 rfl (fun _ => rfl) (fun _ => rfl)) aU ?_
 intro ba bf bj
 refine qap (qcf aR aY) ?_
 exact eR aL (_, _, _, _)
 replace aL := qbo ((si aT).symm.trans bg) aL
 refine qba rfl (nn _) aR ?_
 refine bsO (len := 1) (enc := eU) (l := ([e0] : Str)) (cl := [.int .u8 (e0.toNat : Int)]) qb3 rfl rfl (fun _ _ => rfl) rfl rfl rfl ?_ fun bh => ?_
 · conv => whnf
   refine cT ?_
   first | done | rfl
 obtain ⟨aU, aL⟩ := qa2 aL
 refine apE rfl r1 qb3 (qa5 rfl r0 rfl (fun _ => rfl) (fun _ => rfl)) aU ?_
 intro ba bf bj
 refine qap (qcf aR aY) ?_
 exact eR aL (_, _, _, _)
 rw [lty w0, JaA.eq_1] at aL
 refine cT ?_
 exact eM aL (_, _, _)
 rintro ⟨t0, aO, aP⟩ ⟨a8, _⟩ rfl j0
 replace hm := elg hm
 refine bsO (len := 1) (enc := eU) (l := ([(34 : UInt8)] : Str)) (cl := [.int .u8 34]) qb3 rfl rfl (fun _ _ => rfl) rfl rfl rfl ?_ fun bB => ?_
 · conv => whnf
   refine cT ?_
   first | done | rfl
 obtain ⟨bn, hm⟩ := qa2 hm
 refine apE rfl r1 qb3 (qa5 rfl r0 rfl (fun _ => rfl) (fun _ => rfl)) bn ?_
 intro bz bG bF
 refine ro (qii rfl r0 rfl rfl rfl ?_)
 exact eE hm

def JaT (s : Str) : Option (Bool) :=
  (JbM s).bind fun x7 =>
  some x7.2.isNone
theorem JbW {s : Str} {K : Hp} {r : Bool}
    (hm : JaT s = some r)  :
    Fn Tryz.prog 140 [str s] K [] (fun v K' H' => v = .bool r ∧ H' = []) := by
 refine Fn.enter Tryz.func140 Tryz.call140 rfl fun F => ?_
 unfold JaT at hm
 refine cb hm fun x7 q7 hm => cg0 (Jdo q7 :) ?_
 refine qft rfl ?_
 exact eE hm

def J2 (v' : Str) : List Str → Nat → Option (Fl (Int) (Unit))
  | [], _ => some (Fl.go ())
  | e0 :: aL, i0 =>
    if decide (v' = e0) then
    some (Fl.ret (i0 : Int))
    else
    J2 v' aL (i0 + 1)
def Jbs (s : (List Str)) (v' : Str) : Option (Int) :=
  (chk (s.length ≤ qau)).bind fun _ =>
  (J2 v' s 0).bind fun s0 => s0.el some fun t0 =>
  some (-1)
theorem Jds {s : (List Str)} {v' : Str} {aa : Option Addr} {ab : Nat} {n0 : Nat} {K : Hp} {r : Int}
    (hm : Jbs s v' = some r) (hX : RdC eS K aa ab 1 s ∧ n0 = s.length) :
    Fn Tryz.prog 149 [.slice aa n0 ab, str v'] K [] (fun v K' H' => v = .int .i64 r ∧ H' = []) := by
 obtain ⟨ae, aN⟩ := hX
 subst aN
 refine Fn.enter Tryz.func149 Tryz.call149 rfl fun F => ?_
 unfold Jbs at hm
 refine ro (qai rfl ?_)
 obtain ⟨aO, hm⟩ := qa2 hm
 obtain ⟨s0, aL, hm⟩ := bnd hm
 refine lD (σ := (Unit)) ([4,5] ++ rg 8 11) [0] (fun i0 => [(8, .int .i64 (i0 : Int))]) (fun _ => []) (fun _ => []) (fun _ => True) (fun i0 _ => J2 v' (s.drop i0) i0 = some s0) (fun t0 => s0 = Fl.go t0) (fun i0 => s.length - i0) 0 () aL (And.intro qe (And.intro ?_ ?_))
 clear aL
 rintro i0 _ _ aL j0
 conv at aL => whnf
 refine qae rfl ?_
 refine qag ?_ ?_ <;> intro w0
 obtain ⟨e0, aM, aP⟩ := ltx w0
 rw [aP, J2.eq_2] at aL
 refine qal rfl ?_
 refine RStep.ofN (qac rfl rfl (qec ae.rd aM) (nn _) (qbq aM) (ro (qcw i0 0 _ _ ae.rd rfl (mp aM) rfl rfl (qat ?_))))
 refine cs rfl rfl aL ?_ ?_ <;> intro aQ aL
 exact eE (er aL hm)
 refine qap (qcf aM aO) ?_
 exact eR aL (_, ())
 rw [lty w0, J2.eq_1] at aL
 refine cT ?_
 exact eM aL _
 rintro t0 _ rfl j0
 replace hm := elg hm
 exact eE hm

def JL (s : (List Str)) (v' : Str) : Option (Bool) :=
  (Jbs s v').bind fun x7 =>
  some (decide (x7 ≥ 0))
theorem Jam {s : (List Str)} {v' : Str} {aa : Option Addr} {ab : Nat} {n0 : Nat} {K : Hp} {r : Bool}
    (hm : JL s v' = some r) (hX : RdC eS K aa ab 1 s ∧ n0 = s.length) :
    Fn Tryz.prog 113 [.slice aa n0 ab, str v'] K [] (fun v K' H' => v = .bool r ∧ H' = []) := by
 obtain ⟨ae, aL⟩ := hX
 subst aL
 refine Fn.enter Tryz.func113 Tryz.call113 rfl fun F => ?_
 unfold JL at hm
 refine cb hm fun x7 q7 hm => cgx (Jds q7 :) ?_
 exact eE hm

def J6 (s : Str) (prefixZ : Str) : Option (Bool) :=
  (if decide ((s.length : Int) ≥ (prefixZ.length : Int)) then (chk (0 ≤ (0 : Int) ∧ (0 : Int) ≤ (prefixZ.length : Int) ∧ (prefixZ.length : Int) ≤ (s.length : Int))).bind fun _ =>
  some (decide ((subL s (0 : Int) (prefixZ.length : Int)) = prefixZ)) else some false).bind fun aL =>
  some aL
theorem Jby {s : Str} {prefixZ : Str} {K : Hp} {r : Bool}
    (hm : J6 s prefixZ = some r)  :
    Fn Tryz.prog 112 [str s, str prefixZ] K [] (fun v K' H' => v = .bool r ∧ H' = []) := by
 refine Fn.enter Tryz.func112 Tryz.call112 rfl fun F => ?_
 unfold J6 at hm
 refine qak rfl ?_
 refine ro (qa3 rfl (ro (qa3 rfl ?_)))
 obtain ⟨aO, aM, hm⟩ := bnd hm
 refine cS aM (fun aL aM => ?_) fun aL aM => ?_
 refine ct aL (ct aL (ro (qa3 rfl (ct aL ?_))))
 obtain ⟨aN, aM⟩ := qa2 aM
 refine RStep.ofN (qgr (lo := none) (hi := (some (prefixZ.length : Int))) rfl aN (ct aL (ct aL (qat (ct aL ?_)))))
 exact bE (si aM) (eE hm)
 refine cf aL (cf aL (cf aL (cf aL (cf aL (cf aL ?_)))))
 exact bE (si aM) (eE hm)

def JaJ (s : Str) (prefixZ : Str) : Option (Str × Bool) :=
  (J6 s prefixZ).bind fun x8 =>
  if (!x8) then
  some (s, false)
  else
  (chk (0 ≤ (prefixZ.length : Int) ∧ (prefixZ.length : Int) ≤ (s.length : Int) ∧ (s.length : Int) ≤ (s.length : Int))).bind fun _ =>
  some ((subL s (prefixZ.length : Int) (s.length : Int)), true)
theorem Jcl {s : Str} {prefixZ : Str} {K : Hp} {r : Str × Bool}
    (hm : JaJ s prefixZ = some r)  :
    Fn Tryz.prog 200 [str s, str prefixZ] K [] (fun v K' H' => v = .tuple #[str r.1, .bool r.2] ∧ H' = []) := by
 refine Fn.enter Tryz.func200 Tryz.call200 rfl fun F => ?_
 unfold JaJ at hm
 refine cb hm fun x8 q8 hm => cg0 (Jby q8 :) ?_
 refine qay ?_
 refine cs rfl rfl hm ?_ ?_ <;> intro w9 hm
 exact eE hm
 refine ro (qa3 rfl ?_)
 obtain ⟨aL, hm⟩ := qa2 hm
 refine RStep.ofN (qgr (lo := (some (prefixZ.length : Int))) (hi := none) rfl aL ?_)
 exact eE hm

def Jbq (s : Str) (prefixZ : Str) : Option (Str × Bool) :=
  (JaJ s prefixZ).bind fun x8 =>
  some (x8.1, x8.2)
theorem JcF {s : Str} {prefixZ : Str} {K : Hp} {r : Str × Bool}
    (hm : Jbq s prefixZ = some r)  :
    Fn Tryz.prog 174 [str s, str prefixZ] K [] (fun v K' H' => v = .tuple #[str r.1, .bool r.2] ∧ H' = []) := by
 refine Fn.enter Tryz.func174 Tryz.call174 rfl fun F => ?_
 unfold Jbq at hm
 refine cb hm fun x8 q8 hm => cg0 (Jcl q8 :) ?_
 exact eE hm

def JcA (s : Str) : Option (Int × Bool) :=
  if decide (s = ([112, 97, 116, 104] : Str)) then
  some (1, true)
  else
  if decide (s = ([113, 117, 101, 114, 121] : Str)) then
  some (1, true)
  else
  if decide (s = ([116, 97, 103] : Str)) then
  some (1, true)
  else
  if decide (s = ([116, 116, 108] : Str)) then
  some (1, true)
  else
  if decide (s = ([100, 101, 110, 121] : Str)) then
  some (1, true)
  else
  if decide (s = ([112, 97, 115, 115] : Str)) then
  some (0, true)
  else
  if decide (s = ([116, 111, 107, 101, 110] : Str)) then
  some (0, true)
  else
  (Jbq s ([104, 101, 97, 100, 101, 114, 58] : Str)).bind fun aL =>
  if aL.2 then
  (JaT aL.1).bind fun aN =>
  some (1, aN)
  else
  (Jbq s ([118, 97, 114, 121, 58] : Str)).bind fun aM =>
  (if aM.2 then (JaT aM.1).bind fun aO =>
  some aO else some false).bind fun aP =>
  some (0, aP)
theorem JeL {s : Str} {K : Hp} {r : Int × Bool}
    (hm : JcA s = some r)  :
    Fn Tryz.prog 141 [str s] K [] (fun v K' H' => v = .tuple #[.int .i64 r.1, .bool r.2] ∧ H' = []) := by
 refine Fn.enter Tryz.func141 Tryz.call141 rfl fun F => ?_
 unfold JcA at hm
 refine qal rfl ?_
 refine qat (cs rfl rfl hm ?_ ?_) <;> intro w9 hm
 refine qae rfl (ct w9 ?_)
 exact eE hm
 refine qat (cs rfl rfl hm ?_ ?_) <;> intro w9 hm
 refine qae rfl (ct w9 ?_)
 exact eE hm
 refine qat (cs rfl rfl hm ?_ ?_) <;> intro w9 hm
 refine qae rfl (ct w9 ?_)
 exact eE hm
 refine qat (cs rfl rfl hm ?_ ?_) <;> intro w9 hm
 refine qae rfl (ct w9 ?_)
 exact eE hm
 refine qat (cs rfl rfl hm ?_ ?_) <;> intro w9 hm
 exact eE hm
 refine qat (cs rfl rfl hm ?_ ?_) <;> intro aN hm
 refine qae rfl (ct aN ?_)
 exact eE hm
 refine qat (cs rfl rfl hm ?_ ?_) <;> intro aN hm
 exact eE hm
 refine cb hm fun aS aO hm => cg0 (JcF aO :) ?_
 refine cs rfl rfl hm ?_ ?_ <;> intro aT hm
 refine cb hm fun aU aP hm => cg0 (JbW aP :) ?_
 exact eE hm
 refine cb hm fun aX aQ hm => cg0 (JcF aQ :) ?_
 refine qak rfl ?_
 obtain ⟨aW, aM, hm⟩ := bnd hm
 refine cS aM (fun aL aM => ?_) fun aL aM => ?_
 refine ct aL ?_
 refine cb aM fun aV aR aM => cg0 (JbW aR :) ?_
 refine ct aL ?_
 cases hm
 exact en lr ⟨(by rw [← (si aM)] <;> rfl), rfl⟩ (pf rfl)
 refine cf aL (cf aL ?_)
 cases hm
 exact en lr ⟨(by rw [← ((si aM).symm).symm] <;> rfl), rfl⟩ (pf rfl)

def Jb9 (x : Jc) : Option (Int × Int × Bool) :=
  if decide (x.Op = 1) then
  some (0, 1, ((decide (x.S = ([] : Str)) && decide (x.N ≥ 0)) && decide (x.N ≤ 999999999)))
  else
  if decide (x.Op = 2) then
  (if decide (x.N = 0) then (JaT x.S).bind fun aO =>
  some aO else some false).bind fun aP =>
  some (0, 1, aP)
  else
  if decide (x.Op = 3) then
  some (0, 1, ((decide (x.S = ([] : Str)) && decide (x.N ≥ 0)) && decide (x.N ≤ 511)))
  else
  if decide (x.Op = 4) then
  some (1, 0, ((decide (x.S = ([] : Str)) && decide (x.N ≥ 0)) && decide (x.N ≤ 511)))
  else
  if decide (x.Op = 5) then
  (if decide (x.N = 0) then (JL Jad x.S).bind fun aS =>
  some aS else some false).bind fun aN =>
  some (0, 1, aN)
  else
  if decide (x.Op = 6) then
  (if decide (x.N = 0) then (JL Jak x.S).bind fun aT =>
  some aT else some false).bind fun aR =>
  some (1, 1, aR)
  else
  if decide (x.Op = 7) then
  (if decide (x.N = 0) then (JL Jaa x.S).bind fun aQ =>
  some aQ else some false).bind fun aM =>
  some (2, 1, aM)
  else
  if decide (x.Op = 8) then
  some (1, 1, (decide (x.N = 0) && decide (x.S = ([] : Str))))
  else
  if decide (x.Op = 9) then
  some (0, 0, decide (x.S = ([] : Str)))
  else
  if decide (x.Op = 10) then
  some (1, 0, decide (x.S = ([] : Str)))
  else
  if decide (x.Op = 11) then
  (JcA x.S).bind fun aL =>
  some (aL.1, 0, (decide (x.N = 0) && aL.2))
  else
  if decide (x.Op = 12) then
  some (0, 0, (decide (x.N = 0) && decide (x.S = ([] : Str))))
  else
  some (0, 0, false)
theorem Jee {x : Jc} {K : Hp} {r : Int × Int × Bool}
    (hm : Jb9 x = some r) (hG : GG K) :
    Fn Tryz.prog 100 [.agg #[.int .i64 x.Op, .int .i64 x.N, str x.S]] K [] (fun v K' H' => v = .tuple #[.int .i64 r.1, .int .i64 r.2.1, .bool r.2.2] ∧ H' = []) := by
 obtain ⟨bH, bN, bV, gn_, bn, bG⟩ := gg0 hG
 subst gn_
 obtain ⟨bT, bX, bC, gn_, a8, bu⟩ := gg1 hG
 subst gn_
 obtain ⟨ca, bO, bM, gn_, bg, bW⟩ := gg2 hG
 subst gn_
 refine Fn.enter Tryz.func100 Tryz.call100 rfl fun F => ?_
 unfold Jb9 at hm
 refine qaq ?_
 intro b1
 refine fa rfl (ro (ld r0 rfl rfl (qad (fa rfl (ro (ld r0 rfl rfl (qat ?_)))))))
 refine jR (σ := Unit) ([7] ++ rg 14 11) (fun _ => [(7, .bool ((decide (x.S = ([] : Str)) && decide (x.N ≥ 0)) && decide (x.N ≤ 511)))]) (fun bh => True) ?_ ?_
 refine qak rfl ?_
 refine qag ?_ ?_ <;> intro aP
 refine fa rfl (ct aP (ro (ld r0 rfl rfl (ct aP (ct aP ?_)))))
 refine qag ?_ ?_ <;> intro aQ
 refine fa rfl (ct aQ (ro (ld r0 rfl rfl (ct aQ (ct aQ ?_)))))
 exact eMt () ⟨bq (qdp (b := decide (x.N ≤ 511)) (qb7 aP aQ)), trivial⟩
 refine cf aQ (cf aQ (cf aQ ?_))
 exact eMt () ⟨bq (((qaz (qcx aP aQ))).symm), trivial⟩
 refine cf aP (cf aP (cf aP (cF (cF (cF (cF ?_))))))
 exact eMt () ⟨bq (((qaz (qaz aP))).symm), trivial⟩
 rintro _ _ bt
 refine fa rfl (ro (ld r0 rfl rfl ?_))
 refine qal rfl ?_
 refine qad (cs rfl rfl hm ?_ ?_) <;> intro bB hm
 refine qa6 ⟨⟨[], false⟩, _, [(_, _)], []⟩ (by kernel_rfl) ⟨Hp.Le.refl _, (pf rfl), ci0⟩ ?_
 refine qag ?_ ?_ <;> intro aO
 refine fa rfl (ct aO (qan m0 rfl rfl (ct aO (ct aO ?_))))
 refine qag ?_ ?_ <;> intro aR
 refine fa rfl (ct aR (qan m0 rfl rfl (ct aR (ct aR ?_))))
 cases hm
 exact en lr ⟨(by rw [← (qdp (b := decide (x.N ≤ 999999999)) (qb7 aO aR))] <;> rfl), rfl⟩ (sc [1] rfl)
 refine cf aR (cf aR (cf aR ?_))
 cases hm
 exact en lr ⟨(by rw [← ((qaz (qcx aO aR))).symm] <;> rfl), rfl⟩ (sc [1] rfl)
 refine cf aO (cf aO (cf aO (cF (cF (cF (cF ?_))))))
 cases hm
 exact en lr ⟨(by rw [← ((qaz (qaz aO))).symm] <;> rfl), rfl⟩ (sc [1] rfl)
 refine qad (cs rfl rfl hm ?_ ?_) <;> intro bK hm
 refine qak rfl ?_
 obtain ⟨bI, aX, hm⟩ := bnd hm
 refine cS aX (fun aU aX => ?_) fun aU aX => ?_
 refine fa rfl (ct aU (ro (ld r0 rfl rfl (ct aU ?_))))
 refine cb aX fun bA bb aX => cg0 (JbW bb :) ?_
 refine ct aU ?_
 cases hm
 exact en lr ⟨(by rw [← (si aX)] <;> rfl), rfl⟩ (sc [1] rfl)
 refine cf aU (cf aU (cf aU ?_))
 cases hm
 exact en lr ⟨(by rw [← ((si aX).symm).symm] <;> rfl), rfl⟩ (sc [1] rfl)
 refine qad (cs rfl rfl hm ?_ ?_) <;> intro bz hm
 exact eE hm
 refine qad (cs rfl rfl hm ?_ ?_) <;> intro cd hm
 exact eE hm
 refine qad (cs rfl rfl hm ?_ ?_) <;> intro bP hm
 refine qak rfl ?_
 obtain ⟨bY, aZ, hm⟩ := bnd hm
 refine cS aZ (fun aM aZ => ?_) fun aM aZ => ?_
 refine ro (qlz bn rfl (ct aM (fa rfl (ct aM (ro (ld r0 rfl rfl (ct aM ?_)))))))
 refine cb aZ fun bL bo aZ => cgx (Jam bo :) ?_
 refine ct aM ?_
 cases hm
 exact en lr ⟨(by rw [← (si aZ)] <;> rfl), rfl⟩ (sc [1] rfl)
 refine cf aM (cf aM (cf aM (cf aM ?_)))
 cases hm
 exact en lr ⟨(by rw [← ((si aZ).symm).symm] <;> rfl), rfl⟩ (sc [1] rfl)
 refine qad (cs rfl rfl hm ?_ ?_) <;> intro bZ hm
 refine qak rfl ?_
 obtain ⟨bD, aY, hm⟩ := bnd hm
 refine cS aY (fun aL aY => ?_) fun aL aY => ?_
 refine ro (qlz a8 rfl (ct aL (fa rfl (ct aL (ro (ld r0 rfl rfl (ct aL ?_)))))))
 refine cb aY fun bF bf aY => cgx (Jam bf :) ?_
 refine ct aL ?_
 cases hm
 exact en lr ⟨(by rw [← (si aY)] <;> rfl), rfl⟩ (sc [1] rfl)
 refine cf aL (cf aL (cf aL (cf aL ?_)))
 cases hm
 exact en lr ⟨(by rw [← ((si aY).symm).symm] <;> rfl), rfl⟩ (sc [1] rfl)
 refine qad (cs rfl rfl hm ?_ ?_) <;> intro bQ hm
 refine qak rfl ?_
 obtain ⟨bU, aW, hm⟩ := bnd hm
 refine cS aW (fun aN aW => ?_) fun aN aW => ?_
 refine ro (qlz bg rfl (ct aN (fa rfl (ct aN (ro (ld r0 rfl rfl (ct aN ?_)))))))
 refine cb aW fun bJ bp aW => cgx (Jam bp :) ?_
 refine ct aN ?_
 cases hm
 exact en lr ⟨(by rw [← (si aW)] <;> rfl), rfl⟩ (sc [1] rfl)
 refine cf aN (cf aN (cf aN (cf aN ?_)))
 cases hm
 exact en lr ⟨(by rw [← ((si aW).symm).symm] <;> rfl), rfl⟩ (sc [1] rfl)
 refine qad (cs rfl rfl hm ?_ ?_) <;> intro bv hm
 refine qak rfl ?_
 refine qag ?_ ?_ <;> intro aV
 refine ct aV ?_
 cases hm
 exact en lr ⟨(by rw [← (qdp (b := decide (x.S = ([] : Str))) aV)] <;> rfl), rfl⟩ (sc [1] rfl)
 refine cf aV ?_
 cases hm
 exact en lr ⟨(by rw [← ((qaz aV)).symm] <;> rfl), rfl⟩ (sc [1] rfl)
 refine qad (cs rfl rfl hm ?_ ?_) <;> intro bR hm
 exact eE hm
 refine qad (cs rfl rfl hm ?_ ?_) <;> intro bw hm
 exact eE hm
 refine qad (cs rfl rfl hm ?_ ?_) <;> intro bS hm
 refine fa rfl (ro (ld r0 rfl rfl ?_))
 refine cb hm fun ba bj hm => cg0 (JeL bj :) ?_
 refine qak rfl ?_
 refine qag ?_ ?_ <;> intro aS
 refine ct aS ?_
 cases hm
 exact en lr ⟨(by rw [← (qdp (b := ba.2) aS)] <;> rfl), rfl⟩ (sc [1] rfl)
 refine cf aS ?_
 cases hm
 exact en lr ⟨(by rw [← ((qaz aS)).symm] <;> rfl), rfl⟩ (sc [1] rfl)
 refine qad (cs rfl rfl hm ?_ ?_) <;> intro bm hm
 refine qak rfl ?_
 refine qag ?_ ?_ <;> intro aT
 refine ct aT ?_
 cases hm
 exact en lr ⟨(by rw [← (qdp (b := decide (x.S = ([] : Str))) aT)] <;> rfl), rfl⟩ (sc [1] rfl)
 refine cf aT ?_
 cases hm
 exact en lr ⟨(by rw [← ((qaz aT)).symm] <;> rfl), rfl⟩ (sc [1] rfl)
 exact eE hm

def Jbe (s : Jm) (slot : Int) : Option (Bool) :=
  (chk ((64 : Int) ≠ 0 ∧ InI (Int.tdiv slot 64))).bind fun _ =>
  (chk (0 ≤ (Int.tdiv slot 64) ∧ (Int.tdiv slot 64) < 8)).bind fun _ =>
  (chk (0 ≤ (Int.tmod slot 64))).bind fun _ =>
  some (decide ((u64and (u64shr (List.getD [s.Av.f0, s.Av.f1, s.Av.f2, s.Av.f3, s.Av.f4, s.Av.f5, s.Av.f6, s.Av.f7] (Int.toNat (Int.tdiv slot 64)) 0) (Int.tmod slot 64)) 1) = 1))
theorem Jdw {s : Jm} {slot : Int} {K : Hp} {r : Bool}
    (hm : Jbe s slot = some r)  :
    Fn Tryz.prog 101 [.agg #[.bool s.Aw, .int .i64 s.depth, .int .u64 s.Av.f0, .int .u64 s.Av.f1, .int .u64 s.Av.f2, .int .u64 s.Av.f3, .int .u64 s.Av.f4, .int .u64 s.Av.f5, .int .u64 s.Av.f6, .int .u64 s.Av.f7], .int .i64 slot] K [] (fun v K' H' => v = .bool r ∧ H' = []) := by
 refine Fn.enter Tryz.func101 Tryz.call101 rfl fun F => ?_
 unfold Jbe at hm
 refine qaq ?_
 intro b2
 obtain ⟨h6, hm⟩ := qa2 hm
 refine qop h6.1 h6.2 (fa rfl ?_)
 obtain ⟨h8, hm⟩ := qa2 hm
 refine RStep.ofN (qbr (sz := 1) rfl rfl h8.1 h8.2 (ro (qtd (L := [s.Av.f0, s.Av.f1, s.Av.f2, s.Av.f3, s.Av.f4, s.Av.f5, s.Av.f6, s.Av.f7]) (pre := [.bool s.Aw, .int .i64 s.depth]) (post := []) r0 rfl (by simp) rfl h8.1 h8.2 (qul (by decide) ?_))))
 obtain ⟨aL, hm⟩ := qa2 hm
 refine qux aL ?_
 refine qkr ?_
 refine qad ?_
 exact eE hm

def Ja2 (t : Jm) : Nat → Nat → Int → Int → Int → Int → Int → Int → Int → Int → Option (Int × Int × Int × Int × Int × Int × Int × Int)
  | 0, _, ac, aP, aO, aQ, aM, aS, aN, aR => some (ac, aP, aO, aQ, aM, aS, aN, aR)
  | aT + 1, i0, ac, aP, aO, aQ, aM, aS, aN, aR =>
    (chk (0 ≤ (i0 : Int) ∧ (i0 : Int) < 8)).bind fun _ =>
    (chk (0 ≤ (i0 : Int) ∧ (i0 : Int) < 8)).bind fun _ =>
    (chk (0 ≤ (i0 : Int) ∧ (i0 : Int) < 8)).bind fun _ =>
    (some (List.set [ac, aP, aO, aQ, aM, aS, aN, aR] (Int.toNat (i0 : Int)) (u64and (List.getD [ac, aP, aO, aQ, aM, aS, aN, aR] (Int.toNat (i0 : Int)) 0) (List.getD [t.Av.f0, t.Av.f1, t.Av.f2, t.Av.f3, t.Av.f4, t.Av.f5, t.Av.f6, t.Av.f7] (Int.toNat (i0 : Int)) 0)))).bind fun aL =>
    Ja2 t aT (i0 + 1) (List.getD aL 0 0) (List.getD aL 1 0) (List.getD aL 2 0) (List.getD aL 3 0) (List.getD aL 4 0) (List.getD aL 5 0) (List.getD aL 6 0) (List.getD aL 7 0)
def JcM (s : Jm) (t : Jm) : Option (Bool × Jm) :=
  if (!s.Aw) then
  some (true, t)
  else
  (chk (InI (8 : Int))).bind fun _ =>
  (Ja2 t (8 : Int).toNat 0 s.Av.f0 s.Av.f1 s.Av.f2 s.Av.f3 s.Av.f4 s.Av.f5 s.Av.f6 s.Av.f7).bind fun t0 =>
  some (decide (s.depth = t.depth), (⟨s.Aw, s.depth, (⟨t0.1, t0.2.1, t0.2.2.1, t0.2.2.2.1, t0.2.2.2.2.1, t0.2.2.2.2.2.1, t0.2.2.2.2.2.2.1, t0.2.2.2.2.2.2.2⟩ : JaH)⟩ : Jm))
theorem Jfd {s : Jm} {t : Jm} {b0 : Nat} {K : Hp} {r : Bool × Jm}
    (hm : JcM s t = some r)  :
    Fn Tryz.prog 102 [.pointer (some ⟨b0, 0, none⟩), .agg #[.bool t.Aw, .int .i64 t.depth, .int .u64 t.Av.f0, .int .u64 t.Av.f1, .int .u64 t.Av.f2, .int .u64 t.Av.f3, .int .u64 t.Av.f4, .int .u64 t.Av.f5, .int .u64 t.Av.f6, .int .u64 t.Av.f7]] K [Cells b0 204 [.bool s.Aw, .int .i64 s.depth, .int .u64 s.Av.f0, .int .u64 s.Av.f1, .int .u64 s.Av.f2, .int .u64 s.Av.f3, .int .u64 s.Av.f4, .int .u64 s.Av.f5, .int .u64 s.Av.f6, .int .u64 s.Av.f7]] (fun v K' H' => v = .bool r.1 ∧ H' = [Cells b0 204 [.bool r.2.Aw, .int .i64 r.2.depth, .int .u64 r.2.Av.f0, .int .u64 r.2.Av.f1, .int .u64 r.2.Av.f2, .int .u64 r.2.Av.f3, .int .u64 r.2.Av.f4, .int .u64 r.2.Av.f5, .int .u64 r.2.Av.f6, .int .u64 r.2.Av.f7]]) := by
 refine Fn.enter Tryz.func102 Tryz.call102 rfl fun F => ?_
 unfold JcM at hm
 refine qaq ?_
 intro b3
 refine qaf (fa rfl (ro (ld r1 rfl rfl (qay ?_))))
 refine cs rfl rfl hm ?_ ?_ <;> intro a8 hm
 refine ro (qah r0 rfl (nl rfl) (qaf ?_))
 refine qab r1 rfl ⟨rfl, rfl, (nl rfl), ?_⟩
 exact eE hm
 obtain ⟨aZ, hm⟩ := qa2 hm
 obtain ⟨s0, aM, hm⟩ := bnd hm
 refine lD (σ := (Int × Int × Int × Int × Int × Int × Int × Int)) ([5] ++ rg 14 18) [0, 2] (fun i0 => [(14, .int .i64 (i0 : Int))]) (fun _ => []) (fun t0 => [Cells b0 204 [.bool s.Aw, .int .i64 s.depth, .int .u64 t0.1, .int .u64 t0.2.1, .int .u64 t0.2.2.1, .int .u64 t0.2.2.2.1, .int .u64 t0.2.2.2.2.1, .int .u64 t0.2.2.2.2.2.1, .int .u64 t0.2.2.2.2.2.2.1, .int .u64 t0.2.2.2.2.2.2.2]]) (fun _ => True) (fun i0 t0 => Ja2 t ((8 : Int).toNat - i0) i0 t0.1 t0.2.1 t0.2.2.1 t0.2.2.2.1 t0.2.2.2.2.1 t0.2.2.2.2.2.1 t0.2.2.2.2.2.2.1 t0.2.2.2.2.2.2.2 = some s0) (fun t0 => t0 = s0) (fun i0 => (8 : Int).toNat - i0) 0 (_, _, _, _, _, _, _, _) aM (And.intro qe (And.intro ?_ ?_))
 clear aM
 rintro i0 ⟨ac, aR, aV, aS, aP, aU, aQ, aT⟩ _ aM j0
 dsimp only at aM ⊢
 refine qae rfl ?_
 refine qag ?_ ?_ <;> intro w0
 rw [ltn (n := (8 : Int)) w0, Ja2.eq_2] at aM
 refine qal rfl ?_
 refine qbe ⟨⟨[], false⟩, _, [(_, _), (_, _)], []⟩ 13 rfl (by kernel_rfl) ⟨Hp.Le.refl _, (pf rfl), ci0⟩ ?_
 refine qaf (fa rfl ?_)
 obtain ⟨aW, aM⟩ := qa2 aM
 refine qbr (sz := 1) rfl rfl aW.1 aW.2 ?_
 refine qf6 (L := [ac, aR, aV, aS, aP, aU, aQ, aT]) (pre := [.bool s.Aw, .int .i64 s.depth]) (post := []) m0 rfl (by simp) rfl aW.1 aW.2 ?_
 refine fa rfl ?_
 obtain ⟨aX, aM⟩ := qa2 aM
 refine qbr (sz := 1) rfl rfl aX.1 aX.2 ?_
 refine qf6 (L := [t.Av.f0, t.Av.f1, t.Av.f2, t.Av.f3, t.Av.f4, t.Av.f5, t.Av.f6, t.Av.f7]) (pre := [.bool t.Aw, .int .i64 t.depth]) (post := []) m1 rfl (by simp) rfl aX.1 aX.2 ?_
 refine qkr ?_
 refine qaf (fa rfl ?_)
 obtain ⟨aY, aM⟩ := qa2 aM
 refine qbr (sz := 1) rfl rfl aY.1 aY.2 ?_
 obtain ⟨aL, aN, aM⟩ := bnd aM
 replace aN := Option.some.inj aN
 have aO : aL.length = 8 := by rw [← aN]; simp
 refine qo4 (L := [ac, aR, aV, aS, aP, aU, aQ, aT]) (pre := [.bool s.Aw, .int .i64 s.depth]) (post := []) (cs' := [.bool s.Aw, .int .i64 s.depth, .int .u64 (List.getD aL 0 0), .int .u64 (List.getD aL 1 0), .int .u64 (List.getD aL 2 0), .int .u64 (List.getD aL 3 0), .int .u64 (List.getD aL 4 0), .int .u64 (List.getD aL 5 0), .int .u64 (List.getD aL 6 0), .int .u64 (List.getD aL 7 0)]) r0 rfl (by simp) rfl aY.1 aY.2 aN (by rw [qyv aO]; rfl) ?_
 refine ⟨⟨Hp.emp_le _, (pf rfl), ci0⟩, ?_⟩
 refine qap (qrf w0 aZ) ?_
 exact eR aM (_, (_, _, _, _, _, _, _, _))
 rw [lto (n := (8 : Int)) w0, Ja2.eq_1] at aM
 refine cT ?_
 exact eM aM _
 rintro t0 _ rfl j0
 refine qa6 ⟨⟨[], false⟩, _, [(_, _), (_, _)], []⟩ (by kernel_rfl) ⟨Hp.Le.refl _, (pf rfl), ci0⟩ ?_
 refine qaf (fa rfl (qan m0 rfl rfl (fa rfl (qan m1 rfl rfl (qad ?_)))))
 exact eE hm

def Jo (s_i : Nat) (t : Jm) : Nat → Nat → (List Jm) → Option ((List Jm))
  | 0, _, ac => some ac
  | aN + 1, i0, ac =>
    (chk (0 ≤ (i0 : Int) ∧ (i0 : Int) < 8)).bind fun _ =>
    (ac[s_i]?).bind fun aL =>
    (chk (0 ≤ (i0 : Int) ∧ (i0 : Int) < 8)).bind fun _ =>
    (chk (0 ≤ (i0 : Int) ∧ (i0 : Int) < 8)).bind fun _ =>
    (some (List.set [aL.Av.f0, aL.Av.f1, aL.Av.f2, aL.Av.f3, aL.Av.f4, aL.Av.f5, aL.Av.f6, aL.Av.f7] (Int.toNat (i0 : Int)) (u64and (List.getD [aL.Av.f0, aL.Av.f1, aL.Av.f2, aL.Av.f3, aL.Av.f4, aL.Av.f5, aL.Av.f6, aL.Av.f7] (Int.toNat (i0 : Int)) 0) (List.getD [t.Av.f0, t.Av.f1, t.Av.f2, t.Av.f3, t.Av.f4, t.Av.f5, t.Av.f6, t.Av.f7] (Int.toNat (i0 : Int)) 0)))).bind fun aM =>
    Jo s_i t aN (i0 + 1) (ac.set s_i (⟨aL.Aw, aL.depth, (⟨(List.getD aM 0 0), (List.getD aM 1 0), (List.getD aM 2 0), (List.getD aM 3 0), (List.getD aM 4 0), (List.getD aM 5 0), (List.getD aM 6 0), (List.getD aM 7 0)⟩ : JaH)⟩ : Jm))
def Jao (s : (List Jm)) (s_i : Nat) (t : Jm) : Option (Bool × (List Jm)) :=
  (s[s_i]?).bind fun aM =>
  if (!aM.Aw) then
  some (true, (s.set s_i t))
  else
  (chk (InI (8 : Int))).bind fun _ =>
  (Jo s_i t (8 : Int).toNat 0 s).bind fun t0 =>
  (t0[s_i]?).bind fun aL =>
  some (decide (aL.depth = t.depth), t0)
theorem Ja5 {s : (List Jm)} {s_i : Nat} {t : Jm} {aH : Option Addr} {aK : Nat} {K : Hp} {r : Bool × (List Jm)}
    (hm : Jao s s_i t = some r) (aA : 0 < s.length → Has aH) :
    Fn Tryz.prog 102 [(eptr aH (s_i * 10)), .agg #[.bool t.Aw, .int .i64 t.depth, .int .u64 t.Av.f0, .int .u64 t.Av.f1, .int .u64 t.Av.f2, .int .u64 t.Av.f3, .int .u64 t.Av.f4, .int .u64 t.Av.f5, .int .u64 t.Av.f6, .int .u64 t.Av.f7]] K [OwnL Jm.enc aH 204 10 aK s] (fun v K' H' => v = .bool r.1 ∧ (0 < r.2.length → Has aH) ∧ s.length = r.2.length ∧ H' = [OwnL Jm.enc aH 204 10 aK r.2]) := by
 refine Fn.enter Tryz.func102 Tryz.call102 rfl fun F => ?_
 unfold Jao at hm
 obtain ⟨aZ, aO, hm⟩ := bnd hm
 refine qaq ?_
 intro b3
 refine qc3 (qdj aA aO) (qa0 rfl (qdj aA aO) (ro (qc2 (i := s_i) (o := 0) r1 rfl aO rfl rfl (qay ?_))))
 refine cs rfl rfl hm ?_ ?_ <;> intro bf hm
 refine ro (qah r0 rfl (nl rfl) (qc3 (qdj aA aO) ?_))
 refine qgq (o := 0) (y := t) aZ r1 rfl aO rfl (by (conv => whnf); exact ⟨rfl, rfl, (nl rfl), rfl, rfl, rfl⟩) ?_
 cases hm
 exact en lr ⟨rfl, (by first | simpa using aA | exact fun _ => ⟨_, _, rfl⟩), ((rfl).trans List.length_set.symm), rfl⟩ (sc [0,1] rfl)
 obtain ⟨a8, hm⟩ := qa2 hm
 obtain ⟨s0, aM, hm⟩ := bnd hm
 refine lD (σ := ((List Jm))) ([5] ++ rg 14 18) [0, 2] (fun i0 => [(14, .int .i64 (i0 : Int))]) (fun _ => []) (fun t0 => [OwnL Jm.enc aH 204 10 aK t0]) (fun t0 => (0 < t0.length → Has aH) ∧ s.length = t0.length) (fun i0 t0 => Jo s_i t ((8 : Int).toNat - i0) i0 t0 = some s0) (fun t0 => t0 = s0) (fun i0 => (8 : Int).toNat - i0) 0 _ aM (And.intro qe (And.intro ?_ ?_))
 clear aM
 rintro i0 ac ⟨aQ, aS⟩ aM j0
 conv at aM => whnf
 refine qae rfl ?_
 refine qag ?_ ?_ <;> intro w0
 rw [ltn (n := (8 : Int)) w0, Jo.eq_2] at aM
 refine qal rfl ?_
 refine qa6 ⟨⟨[], true⟩, _, [], []⟩ (by kernel_rfl) ⟨Hp.Le.refl _, (pf rfl), ci0⟩ ?_
 refine qc3 (qdj aA aO) (qa0 rfl (qdj aA aO) ?_)
 obtain ⟨aT, aM⟩ := qa2 aM
 refine qjj (sz := 1) rfl rfl (qdj aA aO) aT.1 aT.2 ?_
 obtain ⟨aL, aX, aM⟩ := bnd aM
 refine qc2 (i := s_i) (o := 2 + (Int.toNat (i0 : Int))) r0 rfl aX (qks (L := [aL.Av.f0, aL.Av.f1, aL.Av.f2, aL.Av.f3, aL.Av.f4, aL.Av.f5, aL.Av.f6, aL.Av.f7]) (pre := [.bool aL.Aw, .int .i64 aL.depth]) (post := []) rfl aT.1 aT.2) (by omega) ?_
 refine fa rfl ?_
 obtain ⟨aU, aM⟩ := qa2 aM
 refine qbr (sz := 1) rfl rfl aU.1 aU.2 ?_
 refine qtd (L := [t.Av.f0, t.Av.f1, t.Av.f2, t.Av.f3, t.Av.f4, t.Av.f5, t.Av.f6, t.Av.f7]) (pre := [.bool t.Aw, .int .i64 t.depth]) (post := []) r1 rfl (by simp) rfl aU.1 aU.2 ?_
 refine qkr ?_
 refine qc3 (qdj aA aO) (qa0 rfl (qdj aA aO) ?_)
 obtain ⟨aV, aM⟩ := qa2 aM
 refine qjj (sz := 1) rfl rfl (qdj aA aO) aV.1 aV.2 ?_
 obtain ⟨aN, aP, aM⟩ := bnd aM
 replace aP := Option.some.inj aP
 have aR : aN.length = 8 := by rw [← aP]; simp
 refine qgq (n := 1) (o := 2 + (Int.toNat (i0 : Int))) (y := (⟨aL.Aw, aL.depth, (⟨(List.getD aN 0 0), (List.getD aN 1 0), (List.getD aN 2 0), (List.getD aN 3 0), (List.getD aN 4 0), (List.getD aN 5 0), (List.getD aN 6 0), (List.getD aN 7 0)⟩ : JaH)⟩ : Jm)) aL r0 rfl aX (by omega) (by rw [qbf]; exact ⟨rfl, rfl, by omega, (qhu (L := [aL.Av.f0, aL.Av.f1, aL.Av.f2, aL.Av.f3, aL.Av.f4, aL.Av.f5, aL.Av.f6, aL.Av.f7]) (pre := [.bool aL.Aw, .int .i64 aL.depth]) (post := []) aV.1 aV.2).trans (by rw [aP, qyv aR]; rfl), rfl, rfl⟩) ?_
 refine qk (pf rfl) ?_
 refine qap (qrf w0 a8) ?_
 exact rd (i0 + 1, (ac.set s_i (⟨aL.Aw, aL.depth, (⟨(List.getD aN 0 0), (List.getD aN 1 0), (List.getD aN 2 0), (List.getD aN 3 0), (List.getD aN 4 0), (List.getD aN 5 0), (List.getD aN 6 0), (List.getD aN 7 0)⟩ : JaH)⟩ : Jm))) ⟨rfl, trivial⟩ rfl (pf rfl) lr (qyr w0) ⟨⟨(by first | simpa using aQ | exact fun _ => ⟨_, _, rfl⟩), ((aS).trans List.length_set.symm)⟩, aM⟩
 rw [lto (n := (8 : Int)) w0, Jo.eq_1] at aM
 refine cT ?_
 exact eM aM _
 rintro t0 ⟨aW, aY⟩ rfl j0
 refine qa6 ⟨⟨[], true⟩, _, [], []⟩ (by kernel_rfl) ⟨Hp.Le.refl _, (pf rfl), ci0⟩ ?_
 refine qc3 (qdj aA aO) (qa0 rfl (qdj aA aO) ?_)
 obtain ⟨bb, ba, hm⟩ := bnd hm
 refine qc2 (i := s_i) (o := 1) r0 rfl ba rfl rfl ?_
 refine fa rfl ?_
 refine ld r1 rfl rfl ?_
 refine qad ?_
 exact eE hm

def Ja0 (code : (List Jc)) : List Jc → Nat → Int → (List Jm) → Option (Fl (Int × Bool) (Int × (List Jm)))
  | [], _, ac, aP => some (Fl.go (ac, aP))
  | e0 :: aU, i0, ac, aP =>
    (ix aP (i0 : Int)).bind fun aL =>
    (Jb9 e0).bind fun aN =>
    (chk (InI ((code.length : Int) - 1))).bind fun _ =>
    if ((((!aN.2.2) || (!aL.Aw)) || decide (aL.depth < aN.1)) || (!((decide (e0.Op = 12)) == (decide ((i0 : Int) = ((code.length : Int) - 1)))))) then
    some (Fl.ret (0, false))
    else
    (if decide (e0.Op = 3) then (Jbe aL e0.N).bind fun aX =>
    some (!aX) else some false).bind fun aY =>
    if aY then
    some (Fl.ret (0, false))
    else
    (chk (InI (aN.2.1 - aN.1))).bind fun _ =>
    (chk (InI (aL.depth + (aN.2.1 - aN.1)))).bind fun _ =>
    ((if decide (e0.Op = 4) then
    (chk ((64 : Int) ≠ 0 ∧ InI (Int.tdiv e0.N 64))).bind fun _ =>
    (chk (0 ≤ (Int.tdiv e0.N 64) ∧ (Int.tdiv e0.N 64) < 8)).bind fun _ =>
    (chk (0 ≤ (Int.tmod e0.N 64))).bind fun _ =>
    (chk (0 ≤ (Int.tdiv e0.N 64) ∧ (Int.tdiv e0.N 64) < 8)).bind fun _ =>
    (some (List.set [aL.Av.f0, aL.Av.f1, aL.Av.f2, aL.Av.f3, aL.Av.f4, aL.Av.f5, aL.Av.f6, aL.Av.f7] (Int.toNat (Int.tdiv e0.N 64)) (u64or (List.getD [aL.Av.f0, aL.Av.f1, aL.Av.f2, aL.Av.f3, aL.Av.f4, aL.Av.f5, aL.Av.f6, aL.Av.f7] (Int.toNat (Int.tdiv e0.N 64)) 0) (u64shl 1 (Int.tmod e0.N 64))))).bind fun aO =>
    some ((List.getD aO 0 0), (List.getD aO 1 0), (List.getD aO 2 0), (List.getD aO 3 0), (List.getD aO 4 0), (List.getD aO 5 0), (List.getD aO 6 0), (List.getD aO 7 0))
    else
    some (aL.Av.f0, aL.Av.f1, aL.Av.f2, aL.Av.f3, aL.Av.f4, aL.Av.f5, aL.Av.f6, aL.Av.f7) : Option (Int × Int × Int × Int × Int × Int × Int × Int))).bind fun aM =>
    ((if (decide (e0.Op = 9) || decide (e0.Op = 10)) then
    if (decide (e0.N ≤ (i0 : Int)) || decide (e0.N ≥ (code.length : Int))) then
    some (Fl.ret (0, false))
    else
    (ix aP e0.N).bind fun aV =>
    (Jao aP ((e0.N).toNat) (⟨aL.Aw, (aL.depth + (aN.2.1 - aN.1)), (⟨aM.1, aM.2.1, aM.2.2.1, aM.2.2.2.1, aM.2.2.2.2.1, aM.2.2.2.2.2.1, aM.2.2.2.2.2.2.1, aM.2.2.2.2.2.2.2⟩ : JaH)⟩ : Jm)).bind fun aR =>
    if (!aR.1) then
    some (Fl.ret (0, false))
    else
    some (Fl.go aR.2)
    else
    some (Fl.go aP) : Option (Fl (Int × Bool) ((List Jm))))).bind fun aT => aT.el (fun r => some (Fl.ret r)) fun aQ =>
    if decide ((i0 : Int) = ((code.length : Int) - 1)) then
    some (Fl.ret ((max (max ac aL.depth) (aL.depth + (aN.2.1 - aN.1))), decide ((aL.depth + (aN.2.1 - aN.1)) = 0)))
    else
    if decide (e0.Op ≠ 9) then
    (ix aQ ((i0 : Int) + 1)).bind fun aW =>
    (Jao aQ ((((i0 : Int) + 1)).toNat) (⟨aL.Aw, (aL.depth + (aN.2.1 - aN.1)), (⟨aM.1, aM.2.1, aM.2.2.1, aM.2.2.2.1, aM.2.2.2.2.1, aM.2.2.2.2.2.1, aM.2.2.2.2.2.2.1, aM.2.2.2.2.2.2.2⟩ : JaH)⟩ : Jm)).bind fun aS =>
    if (!aS.1) then
    some (Fl.ret (0, false))
    else
    Ja0 code aU (i0 + 1) (max (max ac aL.depth) (aL.depth + (aN.2.1 - aN.1))) aS.2
    else
    Ja0 code aU (i0 + 1) (max (max ac aL.depth) (aL.depth + (aN.2.1 - aN.1))) aQ
def Jcm (code : (List Jc)) : Option (Int × Bool) :=
  if (decide ((code.length : Int) < 1) || decide ((code.length : Int) > 2048)) then
  some (0, false)
  else
  (chk ((0 : Int) ≤ (code.length : Int) ∧ (code.length : Int) ≤ (lim : Int))).bind fun _ =>
  (ix (List.replicate (Int.toNat (code.length : Int)) ((⟨false, 0, (⟨0, 0, 0, 0, 0, 0, 0, 0⟩ : JaH)⟩ : Jm) : Jm)) 0).bind fun aL =>
  (chk (code.length ≤ qau)).bind fun _ =>
  (Ja0 code code 0 0 ((List.replicate (Int.toNat (code.length : Int)) ((⟨false, 0, (⟨0, 0, 0, 0, 0, 0, 0, 0⟩ : JaH)⟩ : Jm) : Jm)).set ((0 : Int).toNat) (⟨true, aL.depth, aL.Av⟩ : Jm))).bind fun s0 => s0.el some fun t0 =>
  some (0, false)
theorem JeF {code : (List Jc)} {aa : Option Addr} {ab : Nat} {n0 : Nat} {K : Hp} {r : Int × Bool}
    (hm : Jcm code = some r) (hX : RdC Jc.enc K aa ab 3 code ∧ n0 = code.length ∧ GG K) :
    Fn Tryz.prog 60 [.slice aa n0 ab] K [] (fun v K' H' => v = .tuple #[.int .i64 r.1, .bool r.2] ∧ H' = []) := by
 obtain ⟨ae, cL, hG⟩ := hX
 subst cL
 refine Fn.enter Tryz.func60 Tryz.call60 rfl fun F => ?_
 unfold Jcm at hm
 refine jR (σ := Unit) (rg 13 8) (fun _ => [(20, .bool (decide ((code.length : Int) < 1) || decide ((code.length : Int) > 2048)))]) (fun cW => True) ?_ ?_
 refine qak rfl ?_
 refine ro (qai rfl ?_)
 refine qag ?_ ?_ <;> intro a8
 refine ct a8 (ct a8 (ct a8 ?_))
 exact eMt () ⟨bq (((qdo a8)).symm), trivial⟩
 refine cf a8 (ro (qai rfl (cf a8 (cf a8 ?_))))
 exact eMt () ⟨bq (qlv (b := decide ((code.length : Int) > 2048)) a8), trivial⟩
 rintro _ _ c5
 refine cs rfl rfl hm ?_ ?_ <;> intro c8 hm
 exact eE hm
 refine ro (qai rfl ?_)
 obtain ⟨cQ, hm⟩ := qa2 hm
 refine qrh (enc := Jm.enc) ((⟨false, 0, (⟨0, 0, 0, 0, 0, 0, 0, 0⟩ : JaH)⟩ : Jm) : Jm) qwf rfl rfl rfl cQ fun bW => ?_
 obtain ⟨bX, cC, bY, hm⟩ := ixb hm
 refine RStep.ofN (qac rfl rfl (qdj (fun _ => ⟨_, _, rfl⟩) bY) cC (qax List.length_replicate.symm cC bY) (qa0 rfl (qdj (fun _ => ⟨_, _, rfl⟩) bY) ?_))
 refine qgq (o := 0) (y := (⟨true, bX.depth, bX.Av⟩ : Jm)) bX r0 rfl bY rfl (by (conv => whnf); exact ⟨rfl, rfl, (nl rfl), rfl, rfl, rfl⟩) ?_
 refine ro (qai rfl ?_)
 obtain ⟨bV, hm⟩ := qa2 hm
 obtain ⟨s0, aO, hm⟩ := bnd hm
 refine lD (σ := (Int × (List Jm))) ([2,3] ++ rg 5 8 ++ rg 29 129) [1] (fun i0 => [(29, .int .i64 (i0 : Int))]) (fun t0 => [(5, .int .i64 t0.1)]) (fun t0 => [OwnL Jm.enc (some ⟨bW, 0, none⟩) 204 10 (Int.toNat (code.length : Int)) t0.2]) (fun t0 => (0 < t0.2.length → Has (some ⟨bW, 0, none⟩)) ∧ (Int.toNat (code.length : Int)) = t0.2.length) (fun i0 t0 => Ja0 code (code.drop i0) i0 t0.1 t0.2 = some s0) (fun t0 => s0 = Fl.go t0) (fun i0 => code.length - i0) 0 (0, ((List.replicate (Int.toNat (code.length : Int)) ((⟨false, 0, (⟨0, 0, 0, 0, 0, 0, 0, 0⟩ : JaH)⟩ : Jm) : Jm)).set ((0 : Int).toNat) (⟨true, bX.depth, bX.Av⟩ : Jm))) aO (And.intro ⟨⟨(by first | simpa using (fun _ => ⟨_, _, rfl⟩) | exact fun _ => ⟨_, _, rfl⟩), ((List.length_replicate.symm).trans List.length_set.symm)⟩, ⟨rfl, rfl, trivial⟩, _, (sp rfl)⟩ (And.intro ?_ ?_))
 clear aO
 rintro i0 ⟨ac, cG⟩ ⟨bF, bn⟩ aO j0
 dsimp only at aO ⊢
 refine qae rfl ?_
 refine qag ?_ ?_ <;> intro w0
 obtain ⟨e0, bG, cO⟩ := ltx w0
 rw [cO, Ja0.eq_2] at aO
 refine qal rfl ?_
 refine RStep.ofN (qac rfl rfl (qec ae.rd bG) (nn _) (qbq bG) (ro (qaj i0 _ ae.rd rfl (mp bG) rfl ?_)))
 refine qao rfl fun b7 => ?_
 refine qab r0 rfl ⟨rfl, rfl, (nl rfl), ?_⟩
 obtain ⟨aU, cz, ce, aO⟩ := ixb aO
 refine RStep.ofN (qac rfl rfl (qdj bF ce) cz (qax bn cz ce) (ro (qoq (i := ((i0 : Int)).toNat) r1 rfl ce rfl rfl ?_)))
 refine qao rfl fun b8 => ?_
 refine qab r0 rfl ⟨rfl, rfl, (nl rfl), ?_⟩
 refine ro (qah r1 rfl (nl rfl) ?_)
 refine cb aO fun bf cY aO => cgx (Jee cY :) ?_
 refine ro (qai rfl ?_)
 obtain ⟨cJ, aO⟩ := qa2 aO
 refine qap cJ (qad ?_)
 refine qak rfl ?_
 refine qay ?_
 refine qag ?_ ?_ <;> intro aW
 refine ct aW (ct aW (ct aW (cT (cT (cT (cT (cT ?_)))))))
 refine cT (cT (cT (cT (cT (cT ?_)))))
 replace aO := ift (qdo (qdo (qdo (qkk (quj aW))))) aO
 refine cT (cT (cT (cT (cT (cT (qae rfl (cT ?_)))))))
 exact eE (er aO hm)
 refine fa rfl (cf aW (ro (ld r0 rfl rfl (cf aW (qay (cf aW ?_))))))
 refine qag ?_ ?_ <;> intro aV
 refine ct aV (ct aV (ct aV (ct aV (cT (cT (cT (cT ?_)))))))
 refine cT (cT ?_)
 replace aO := ift (qdo (qdo (qkj (qes (qn5 aW)) (qkk (quj aV))))) aO
 refine cT (cT (cT (cT (cT (cT (qae rfl (cT ?_)))))))
 exact eE (er aO hm)
 refine fa rfl (cf aV (ro (ld r0 rfl rfl (cf aV (cf aV (cf aV ?_))))))
 refine qag ?_ ?_ <;> intro aT
 refine ct aT (ct aT (ct aT (ct aT (ct aT ?_))))
 replace aO := ift (qdo (qkj (qhn (qes (qn5 aW)) (qes (qn5 aV))) aT)) aO
 refine cT (cT (cT (cT (cT (cT (qae rfl (cT ?_)))))))
 exact eE (er aO hm)
 refine fa rfl (cf aT (ro (ld r1 rfl rfl (cf aT (qad (cf aT (cf aT (qlr rfl ?_))))))))
 refine cf aT ?_
 refine qag ?_ ?_ <;> intro aR
 replace aO := ift (qkj (qhn (qhn (qes (qn5 aW)) (qes (qn5 aV))) aT) aR) aO
 refine ct aR (ct aR (ct aR (ct aR (ct aR (qae rfl (cT ?_))))))
 exact eE (er aO hm)
 replace aO := qbo (qhn (qhn (qhn (qes (qn5 aW)) (qes (qn5 aV))) aT) aR) aO
 refine fa rfl (cf aR (ro (ld r1 rfl rfl (cf aR (qad (cf aR ?_))))))
 obtain ⟨c6, bN, aO⟩ := bnd aO
 refine cS bN (fun aX bN => ?_) fun aX bN => ?_
 refine ro (qah r0 rfl (nl rfl) (ct aX (fa rfl (ct aX (ro (ld r1 rfl rfl (ct aX ?_)))))))
 refine cb bN fun c9 cZ bN => cg0 (Jdw cZ :) ?_
 refine ct aX (qay (cf aR (ct aX (cf aR (qae rfl ?_)))))
 refine qag ?_ ?_ <;> intro cB
 replace aO := ift ((si bN).symm.trans (qkk (quj cB))) aO
 exact eE (er aO hm)
 replace aO := qbo ((si bN).symm.trans (qes (qn5 cB))) aO
 refine fa rfl (ro (ld r0 rfl rfl (ro (qca (fa rfl (ro (ld r0 rfl rfl ?_)))))))
 refine ci aO fun aO => ?_
 obtain ⟨cw, aO⟩ := qa2 aO
 refine qap cw (fa rfl ?_)
 refine qab r0 rfl ⟨rfl, rfl, (nl rfl), ?_⟩
 refine fa rfl (ro (ld r0 rfl rfl (ro (qca (fa rfl (ro (ld r1 rfl rfl (qad ?_))))))))
 obtain ⟨cu, aZ, aO⟩ := bnd aO
 refine jD (σ := (Int × Int × Int × Int × Int × Int × Int × Int)) (rg 99 13) [1, 2, 3] (fun bb => []) (fun bb => [Cells b8 204 [.bool aU.Aw, .int .i64 (aU.depth + (bf.2.1 - bf.1)), .int .u64 bb.1, .int .u64 bb.2.1, .int .u64 bb.2.2.1, .int .u64 bb.2.2.2.1, .int .u64 bb.2.2.2.2.1, .int .u64 bb.2.2.2.2.2.1, .int .u64 bb.2.2.2.2.2.2.1, .int .u64 bb.2.2.2.2.2.2.2]]) (fun bb => bb = cu) (And.intro ?_ ?_)
 refine cs rfl rfl aZ ?_ ?_ <;> intro cV aZ
 refine qbe ⟨⟨[], false⟩, _, [(_, _), (_, _)], []⟩ 12 rfl (by kernel_rfl) ⟨Hp.Le.refl _, (sc [1,0] rfl), ci0⟩ ?_
 refine fa rfl (qan m0 rfl rfl ?_)
 obtain ⟨bI, aZ⟩ := qa2 aZ
 refine qop bI.1 bI.2 (fa rfl ?_)
 obtain ⟨bh, aZ⟩ := qa2 aZ
 refine qbr (sz := 1) rfl rfl bh.1 bh.2 ?_
 refine qf6 (L := [aU.Av.f0, aU.Av.f1, aU.Av.f2, aU.Av.f3, aU.Av.f4, aU.Av.f5, aU.Av.f6, aU.Av.f7]) (pre := [.bool aU.Aw, .int .i64 (aU.depth + (bf.2.1 - bf.1))]) (post := []) m1 rfl (by simp) rfl bh.1 bh.2 ?_
 refine fa rfl (qan m0 rfl rfl (qul (by decide) ?_))
 obtain ⟨bP, aZ⟩ := qa2 aZ
 refine qo3 bP ?_
 refine qtc ?_
 refine fa rfl ?_
 obtain ⟨bg, aZ⟩ := qa2 aZ
 refine qbr (sz := 1) rfl rfl bg.1 bg.2 ?_
 obtain ⟨bj, bA, aZ⟩ := bnd aZ
 replace bA := Option.some.inj bA
 have bU : bj.length = 8 := by rw [← bA]; simp
 refine qo4 (L := [aU.Av.f0, aU.Av.f1, aU.Av.f2, aU.Av.f3, aU.Av.f4, aU.Av.f5, aU.Av.f6, aU.Av.f7]) (pre := [.bool aU.Aw, .int .i64 (aU.depth + (bf.2.1 - bf.1))]) (post := []) (cs' := [.bool aU.Aw, .int .i64 (aU.depth + (bf.2.1 - bf.1)), .int .u64 (List.getD bj 0 0), .int .u64 (List.getD bj 1 0), .int .u64 (List.getD bj 2 0), .int .u64 (List.getD bj 3 0), .int .u64 (List.getD bj 4 0), .int .u64 (List.getD bj 5 0), .int .u64 (List.getD bj 6 0), .int .u64 (List.getD bj 7 0)]) r0 rfl (by simp) rfl bg.1 bg.2 bA (by rw [qyv bU]; rfl) ?_
 refine ⟨⟨Hp.emp_le _, (pf rfl), ci0⟩, ?_⟩
 exact eM aZ _
 exact eM aZ _
 rintro bb rfl cM
 refine jR (σ := Unit) (rg 112 8) (fun _ => [(119, .bool (decide (e0.Op = 9) || decide (e0.Op = 10)))]) (fun cR => True) ?_ ?_
 refine qak rfl ?_
 refine fa rfl (ro (ld r1 rfl rfl (qad ?_)))
 refine qag ?_ ?_ <;> intro aP
 refine ct aP (ct aP (ct aP ?_))
 exact eMt () ⟨bq (((qdo aP)).symm), trivial⟩
 refine fa rfl (cf aP (ro (ld r1 rfl rfl (cf aP (qad (cf aP ?_))))))
 exact eMt () ⟨bq (qlv (b := decide (e0.Op = 10)) aP), trivial⟩
 rintro _ _ cH
 obtain ⟨ca, aS, aO⟩ := bnd aO
 refine jD (σ := ((List Jm))) ([2,3] ++ rg 120 20) [0, 1, 3] (fun bw => []) (fun bw => [OwnL Jm.enc (some ⟨bW, 0, none⟩) 204 10 (Int.toNat (code.length : Int)) bw]) (fun bw => (0 < bw.length → Has (some ⟨bW, 0, none⟩)) ∧ (Int.toNat (code.length : Int)) = bw.length ∧ ca = Fl.go bw) (And.intro ?_ ?_)
 refine cs rfl rfl aS ?_ ?_ <;> intro cq aS
 refine qa6 ⟨⟨[], false⟩, _, [(_, _), (_, _)], []⟩ (by kernel_rfl) ⟨Hp.Le.refl _, (sc [1,0] rfl), ci0⟩ ?_
 refine fa rfl (qan m0 rfl rfl ?_)
 refine qag ?_ ?_ <;> intro aN
 refine ct aN (ct aN (ct aN (ct aN (ct aN ?_))))
 replace aS := ift (qdo aN) aS
 refine cT (cT (cT (cT (cT (cT (cT (cT ?_)))))))
 refine qae rfl (cT ?_)
 exact eE (er (er aS aO :) hm)
 refine fa rfl (cf aN (qan m0 rfl rfl (cf aN (cf aN (qc1 rfl (cf aN (cf aN ?_)))))))
 refine qag ?_ ?_ <;> intro aL
 replace aS := ift (qkj aN aL) aS
 refine ct aL (ct aL (ct aL (ct aL (ct aL (ct aL (ct aL (qae rfl ?_)))))))
 refine cT ?_
 exact eE (er (er aS aO :) hm)
 replace aS := qbo (qhn aN aL) aS
 refine cf aL (fa rfl (cf aL (qan m0 rfl rfl (cf aL ?_))))
 obtain ⟨cd, bK, bD, aS⟩ := ixb aS
 refine qac rfl rfl (qdj bF bD) bK (qax bn bK bD) (cf aL (qb9 m1 rfl (nl rfl) (cf aL ?_)))
 refine cb aS fun bQ bO aS => ckx (Ja5 bO :) ?_
 rintro _ _ _ ⟨rfl, bp, bv, rfl⟩
 refine qk (sc [2,1] rfl) ?_
 refine cf aL (qay (cf aL ?_))
 refine cs rfl rfl aS ?_ ?_ <;> intro cr aS
 exact eE (er (er aS aO :) hm)
 exact mt (bQ.2) trivial rfl (pf rfl) lr ⟨bp, ((bn).trans bv), (si aS).symm⟩
 exact eM aS _
 rintro bw ⟨bL, bz, rfl⟩ cU
 replace aO := elg aO
 refine cs rfl rfl aO ?_ ?_ <;> intro bZ aO
 refine qa6 ⟨⟨[], false⟩, _, [(_, _)], []⟩ (by kernel_rfl) ⟨Hp.Le.refl _, (sc [1] rfl), ci0⟩ ?_
 refine fa rfl (qan m0 rfl rfl (qad ?_))
 exact eE (er aO hm)
 refine qa6 ⟨⟨[], false⟩, _, [(_, _), (_, _)], []⟩ (by kernel_rfl) ⟨Hp.Le.refl _, (sc [2,1] rfl), ci0⟩ ?_
 refine fa rfl (qan m0 rfl rfl (qbd ?_))
 refine cS aO (fun aM aO => ?_) fun aM aO => ?_
 refine ct aM (ct aM (qap (qcf bG bV) (ct aM ?_)))
 obtain ⟨cj, bJ, bH, aO⟩ := ixb aO
 refine qac rfl rfl (qdj bL bH) bJ (qax bz bJ bH) (ct aM (qb9 m1 rfl (nl rfl) (ct aM ?_)))
 refine cb aO fun bS bT aO => ckx (Ja5 bT :) ?_
 rintro _ _ _ ⟨rfl, bo, bu, rfl⟩
 refine qk (sc [2,1] rfl) ?_
 refine ct aM (qay (ct aM ?_))
 refine cs rfl rfl aO ?_ ?_ <;> intro cn aO
 exact eE (er aO hm)
 refine qap (qcf bG bV) ?_
 exact rd (i0 + 1, ((max (max ac aU.depth) (aU.depth + (bf.2.1 - bf.1))), bS.2)) ⟨rfl, rfl, trivial⟩ rfl (sc [0,2] rfl) lr (ltm bG) ⟨⟨bo, ((bz).trans bu)⟩, aO⟩
 refine cf aM (cf aM (cf aM (cf aM (cf aM (cf aM (cf aM (qae rfl ?_)))))))
 refine cF (qap (qcf bG bV) ?_)
 exact eR aO (_, (_, _))
 refine cf aX (cf aX (cf aX (cf aX (cf aR (cf aX (cf aR (qae rfl ?_)))))))
 refine cF ?_
 replace aO := qbo (si bN).symm aO
 refine fa rfl (ro (ld r0 rfl rfl (ro (qca (fa rfl (ro (ld r0 rfl rfl ?_)))))))
 refine ci aO fun aO => ?_
 obtain ⟨cw, aO⟩ := qa2 aO
 refine qap cw (fa rfl ?_)
 refine qab r0 rfl ⟨rfl, rfl, (nl rfl), ?_⟩
 refine fa rfl (ro (ld r0 rfl rfl (ro (qca (fa rfl (ro (ld r1 rfl rfl (qad ?_))))))))
 obtain ⟨cm, aY, aO⟩ := bnd aO
 refine jD (σ := (Int × Int × Int × Int × Int × Int × Int × Int)) (rg 99 13) [1, 2, 3] (fun ba => []) (fun ba => [Cells b8 204 [.bool aU.Aw, .int .i64 (aU.depth + (bf.2.1 - bf.1)), .int .u64 ba.1, .int .u64 ba.2.1, .int .u64 ba.2.2.1, .int .u64 ba.2.2.2.1, .int .u64 ba.2.2.2.2.1, .int .u64 ba.2.2.2.2.2.1, .int .u64 ba.2.2.2.2.2.2.1, .int .u64 ba.2.2.2.2.2.2.2]]) (fun ba => ba = cm) (And.intro ?_ ?_)
 refine cs rfl rfl aY ?_ ?_ <;> intro cV aY
 refine qbe ⟨⟨[], false⟩, _, [(_, _), (_, _)], []⟩ 12 rfl (by kernel_rfl) ⟨Hp.Le.refl _, (sc [1,0] rfl), ci0⟩ ?_
 refine fa rfl (qan m0 rfl rfl ?_)
 obtain ⟨bI, aY⟩ := qa2 aY
 refine qop bI.1 bI.2 (fa rfl ?_)
 obtain ⟨bh, aY⟩ := qa2 aY
 refine qbr (sz := 1) rfl rfl bh.1 bh.2 ?_
 refine qf6 (L := [aU.Av.f0, aU.Av.f1, aU.Av.f2, aU.Av.f3, aU.Av.f4, aU.Av.f5, aU.Av.f6, aU.Av.f7]) (pre := [.bool aU.Aw, .int .i64 (aU.depth + (bf.2.1 - bf.1))]) (post := []) m1 rfl (by simp) rfl bh.1 bh.2 ?_
 refine fa rfl (qan m0 rfl rfl (qul (by decide) ?_))
 obtain ⟨bP, aY⟩ := qa2 aY
 refine qo3 bP ?_
 refine qtc ?_
 refine fa rfl ?_
 obtain ⟨bg, aY⟩ := qa2 aY
 refine qbr (sz := 1) rfl rfl bg.1 bg.2 ?_
 obtain ⟨bm, bB, aY⟩ := bnd aY
 replace bB := Option.some.inj bB
 have bR : bm.length = 8 := by rw [← bB]; simp
 refine qo4 (L := [aU.Av.f0, aU.Av.f1, aU.Av.f2, aU.Av.f3, aU.Av.f4, aU.Av.f5, aU.Av.f6, aU.Av.f7]) (pre := [.bool aU.Aw, .int .i64 (aU.depth + (bf.2.1 - bf.1))]) (post := []) (cs' := [.bool aU.Aw, .int .i64 (aU.depth + (bf.2.1 - bf.1)), .int .u64 (List.getD bm 0 0), .int .u64 (List.getD bm 1 0), .int .u64 (List.getD bm 2 0), .int .u64 (List.getD bm 3 0), .int .u64 (List.getD bm 4 0), .int .u64 (List.getD bm 5 0), .int .u64 (List.getD bm 6 0), .int .u64 (List.getD bm 7 0)]) r0 rfl (by simp) rfl bg.1 bg.2 bB (by rw [qyv bR]; rfl) ?_
 refine ⟨⟨Hp.emp_le _, (pf rfl), ci0⟩, ?_⟩
 exact eM aY _
 exact eM aY _
 rintro ba rfl cP
 refine jR (σ := Unit) (rg 112 8) (fun _ => [(119, .bool (decide (e0.Op = 9) || decide (e0.Op = 10)))]) (fun cX => True) ?_ ?_
 refine qak rfl ?_
 refine fa rfl (ro (ld r1 rfl rfl (qad ?_)))
 refine qag ?_ ?_ <;> intro aP
 refine ct aP (ct aP (ct aP ?_))
 exact eMt () ⟨bq (((qdo aP)).symm), trivial⟩
 refine fa rfl (cf aP (ro (ld r1 rfl rfl (cf aP (qad (cf aP ?_))))))
 exact eMt () ⟨bq (qlv (b := decide (e0.Op = 10)) aP), trivial⟩
 rintro _ _ cI
 obtain ⟨cp, aQ, aO⟩ := bnd aO
 refine jD (σ := ((List Jm))) ([2,3] ++ rg 120 20) [0, 1, 3] (fun bt => []) (fun bt => [OwnL Jm.enc (some ⟨bW, 0, none⟩) 204 10 (Int.toNat (code.length : Int)) bt]) (fun bt => (0 < bt.length → Has (some ⟨bW, 0, none⟩)) ∧ (Int.toNat (code.length : Int)) = bt.length ∧ cp = Fl.go bt) (And.intro ?_ ?_)
 refine cs rfl rfl aQ ?_ ?_ <;> intro cq aQ
 refine qa6 ⟨⟨[], false⟩, _, [(_, _), (_, _)], []⟩ (by kernel_rfl) ⟨Hp.Le.refl _, (sc [1,0] rfl), ci0⟩ ?_
 refine fa rfl (qan m0 rfl rfl ?_)
 refine qag ?_ ?_ <;> intro aN
 refine ct aN (ct aN (ct aN (ct aN (ct aN ?_))))
 replace aQ := ift (qdo aN) aQ
 refine cT (cT (cT (cT (cT (cT (cT (cT ?_)))))))
 refine qae rfl (cT ?_)
 exact eE (er (er aQ aO :) hm)
 refine fa rfl (cf aN (qan m0 rfl rfl (cf aN (cf aN (qc1 rfl (cf aN (cf aN ?_)))))))
 refine qag ?_ ?_ <;> intro aL
 replace aQ := ift (qkj aN aL) aQ
 refine ct aL (ct aL (ct aL (ct aL (ct aL (ct aL (ct aL (qae rfl ?_)))))))
 refine cT ?_
 exact eE (er (er aQ aO :) hm)
 replace aQ := qbo (qhn aN aL) aQ
 refine cf aL (fa rfl (cf aL (qan m0 rfl rfl (cf aL ?_))))
 obtain ⟨cd, bK, bD, aQ⟩ := ixb aQ
 refine qac rfl rfl (qdj bF bD) bK (qax bn bK bD) (cf aL (qb9 m1 rfl (nl rfl) (cf aL ?_)))
 refine cb aQ fun bQ bO aQ => ckx (Ja5 bO :) ?_
 rintro _ _ _ ⟨rfl, bp, bv, rfl⟩
 refine qk (sc [2,1] rfl) ?_
 refine cf aL (qay (cf aL ?_))
 refine cs rfl rfl aQ ?_ ?_ <;> intro cr aQ
 exact eE (er (er aQ aO :) hm)
 exact mt (bQ.2) trivial rfl (pf rfl) lr ⟨bp, ((bn).trans bv), (si aQ).symm⟩
 exact eM aQ _
 rintro bt ⟨bM, bC, rfl⟩ cK
 replace aO := elg aO
 refine cs rfl rfl aO ?_ ?_ <;> intro bZ aO
 refine qa6 ⟨⟨[], false⟩, _, [(_, _)], []⟩ (by kernel_rfl) ⟨Hp.Le.refl _, (sc [1] rfl), ci0⟩ ?_
 refine fa rfl (qan m0 rfl rfl (qad ?_))
 exact eE (er aO hm)
 refine qa6 ⟨⟨[], false⟩, _, [(_, _), (_, _)], []⟩ (by kernel_rfl) ⟨Hp.Le.refl _, (sc [2,1] rfl), ci0⟩ ?_
 refine fa rfl (qan m0 rfl rfl (qbd ?_))
 refine cS aO (fun aM aO => ?_) fun aM aO => ?_
 refine ct aM (ct aM (qap (qcf bG bV) (ct aM ?_)))
 obtain ⟨cj, bJ, bH, aO⟩ := ixb aO
 refine qac rfl rfl (qdj bM bH) bJ (qax bC bJ bH) (ct aM (qb9 m1 rfl (nl rfl) (ct aM ?_)))
 refine cb aO fun bS bT aO => ckx (Ja5 bT :) ?_
 rintro _ _ _ ⟨rfl, bo, bu, rfl⟩
 refine qk (sc [2,1] rfl) ?_
 refine ct aM (qay (ct aM ?_))
 refine cs rfl rfl aO ?_ ?_ <;> intro cn aO
 exact eE (er aO hm)
 refine qap (qcf bG bV) ?_
 exact rd (i0 + 1, ((max (max ac aU.depth) (aU.depth + (bf.2.1 - bf.1))), bS.2)) ⟨rfl, rfl, trivial⟩ rfl (sc [0,2] rfl) lr (ltm bG) ⟨⟨bo, ((bC).trans bu)⟩, aO⟩
 refine cf aM (cf aM (cf aM (cf aM (cf aM (cf aM (cf aM (qae rfl ?_)))))))
 refine cF (qap (qcf bG bV) ?_)
 exact eR aO (_, (_, _))
 rw [lty w0, Ja0.eq_1] at aO
 refine cT ?_
 exact eM aO _
 rintro t0 ⟨cD, cA⟩ rfl j0
 replace hm := elg hm
 exact eE hm

def Jca (code : (List Jc)) : Option (Err) :=
  (Jcm code).bind fun x7 =>
  if (!x7.2) then
  some (some 2)
  else
  some none
theorem Jef {code : (List Jc)} {aa : Option Addr} {ab : Nat} {n0 : Nat} {K : Hp} {r : Err}
    (hm : Jca code = some r) (hX : RdC Jc.enc K aa ab 3 code ∧ n0 = code.length ∧ GG K) :
    Fn Tryz.prog 32 [.slice aa n0 ab] K [] (fun v K' H' => v = qc9 87 r ∧ H' = []) := by
 obtain ⟨ae, aL, hG⟩ := hX
 subst aL
 refine Fn.enter Tryz.func32 Tryz.call32 rfl fun F => ?_
 unfold Jca at hm
 refine cb hm fun x7 q7 hm => cgx (JeF q7 :) ?_
 refine qay ?_
 refine cs rfl rfl hm ?_ ?_ <;> intro aM hm
 refine qa4 rfl ?_
 exact eE hm
 exact eE hm

def JaZ (n' : Int) : Option (Jf) :=
  some (⟨2, (max (-1099511627776) (min n' 1099511627776)), ([] : Str), false⟩ : Jf)
theorem Jbz {n' : Int} {K : Hp} {r : Jf}
    (hm : JaZ n' = some r)  :
    Fn Tryz.prog 62 [.int .i64 n'] K [] (fun v K' H' => v = .agg #[.int .i64 r.kind, .int .i64 r.n, str r.s, .bool r.Au] ∧ H' = []) := by
 refine Fn.enter Tryz.func62 Tryz.call62 rfl fun F => ?_
 unfold JaZ at hm
 refine qao rfl fun b2 => ?_
 refine ro (qug (ro (qca (qam rfl rfl (cT (cT ?_))))))
 refine qab r0 rfl ⟨rfl, rfl, (nl rfl), ?_⟩
 exact ro (qah r0 rfl (nl rfl) (eE hm))

def JO (m : Jg) (x : Jf) (operation : Bool) : Option (Err × Jg) :=
  if decide ((x.s.length : Int) > 2048) then
  some ((some 5), m)
  else
  ((if (operation && decide (x.kind = 1)) then
  (chk ((64 : Int) ≠ 0 ∧ InI (Int.tdiv (x.s.length : Int) 64))).bind fun _ =>
  (chk (InI (m.result.Aj + (Int.tdiv (x.s.length : Int) 64)))).bind fun _ =>
  if decide ((m.result.Aj + (Int.tdiv (x.s.length : Int) 64)) > m.most) then
  some (Fl.ret ((some 13), (⟨m.Ar, m.most, (⟨m.result.Ae, m.result.Af, m.result.Ag, m.result.Vary, m.result.Ah, m.result.TTL, m.result.Ai, (m.result.Aj + (Int.tdiv (x.s.length : Int) 64)), m.result.Ak, m.result.Al⟩ : Jl), m.stack, m.Ap⟩ : Jg)))
  else
  some (Fl.go (⟨m.Ar, m.most, (⟨m.result.Ae, m.result.Af, m.result.Ag, m.result.Vary, m.result.Ah, m.result.TTL, m.result.Ai, (m.result.Aj + (Int.tdiv (x.s.length : Int) 64)), m.result.Ak, m.result.Al⟩ : Jl), m.stack, m.Ap⟩ : Jg))
  else
  some (Fl.go m) : Option (Fl (Err × Jg) (Jg)))).bind fun aM => aM.el some fun aL =>
  (chk (aL.stack.length + [x].length ≤ lim)).bind fun _ =>
  some (none, (⟨m.Ar, aL.most, aL.result, (aL.stack ++ [x]), aL.Ap⟩ : Jg))
theorem Jap {m : Jg} {x : Jf} {operation : Bool} {b0 : Nat} {aa : Option Addr} {ab : Nat} {ah : Option Addr} {ak : Nat} {al : Option Addr} {am : Nat} {an : Option Addr} {aw : Nat} {ao : Option Addr} {ax : Nat} {K : Hp} {r : Err × Jg}
    (hm : JO m x operation = some r) (hX : RdC Jj.enc K aa ab 2 m.Ar.Ao ∧ (0 < m.result.Ag.length → Has ah) ∧ (0 < m.result.Vary.length → Has al) ∧ (0 < m.result.Ah.length → Has an) ∧ (0 < m.stack.length → Has ao) ∧ m.Ap.length = 512) :
    Fn Tryz.prog 61 [.pointer (some ⟨b0, 0, none⟩), .agg #[.int .i64 x.kind, .int .i64 x.n, str x.s, .bool x.Au], .bool operation] K [Cells b0 98 ((str m.Ar.Am) :: (str m.Ar.An) :: (str m.Ar.Ae) :: (str m.Ar.Af) :: (.slice aa m.Ar.Ao.length ab) :: (.int .i64 m.most) :: (str m.result.Ae) :: (str m.result.Af) :: (.slice ah m.result.Ag.length ak) :: (.slice al m.result.Vary.length am) :: (.slice an m.result.Ah.length aw) :: (.int .i64 m.result.TTL) :: (.int .i64 m.result.Ai) :: (.int .i64 m.result.Aj) :: (.bool m.result.Ak) :: (.bool m.result.Al) :: (.slice ao m.stack.length ax) :: (m.Ap.map Jf.enc).flatten), OwnL Jj.enc ah 77 2 ak m.result.Ag, OwnL eS al 9 1 am m.result.Vary, OwnL eS an 9 1 aw m.result.Ah, OwnL Jf.enc ao 95 4 ax m.stack] (fun v K' H' => ∃ ar_0 : Option Addr, ∃ cr_0 : Nat, ∃ ar_1 : Option Addr, ∃ cr_1 : Nat, ∃ ar_2 : Option Addr, ∃ cr_2 : Nat, ∃ ar_3 : Option Addr, ∃ cr_3 : Nat, v = qc9 87 r.1 ∧ (0 < r.2.result.Ag.length → Has ar_0) ∧ (0 < r.2.result.Vary.length → Has ar_1) ∧ (0 < r.2.result.Ah.length → Has ar_2) ∧ (0 < r.2.stack.length → Has ar_3) ∧ r.2.Ap.length = 512 ∧ H' = [Cells b0 98 ((str m.Ar.Am) :: (str m.Ar.An) :: (str m.Ar.Ae) :: (str m.Ar.Af) :: (.slice aa m.Ar.Ao.length ab) :: (.int .i64 r.2.most) :: (str r.2.result.Ae) :: (str r.2.result.Af) :: (.slice ar_0 r.2.result.Ag.length cr_0) :: (.slice ar_1 r.2.result.Vary.length cr_1) :: (.slice ar_2 r.2.result.Ah.length cr_2) :: (.int .i64 r.2.result.TTL) :: (.int .i64 r.2.result.Ai) :: (.int .i64 r.2.result.Aj) :: (.bool r.2.result.Ak) :: (.bool r.2.result.Al) :: (.slice ar_3 r.2.stack.length cr_3) :: (r.2.Ap.map Jf.enc).flatten), OwnL Jj.enc ar_0 77 2 cr_0 r.2.result.Ag, OwnL eS ar_1 9 1 cr_1 r.2.result.Vary, OwnL eS ar_2 9 1 cr_2 r.2.result.Ah, OwnL Jf.enc ar_3 95 4 cr_3 r.2.stack]) := by
 obtain ⟨ae, bm, bb, bf, bj, bg⟩ := hX
 refine Fn.enter Tryz.func61 Tryz.call61 rfl fun F => ?_
 unfold JO at hm
 refine qaq ?_
 intro b4
 refine fa rfl (ro (ld r0 rfl rfl (ro (qa3 rfl ?_))))
 refine cs rfl rfl hm ?_ ?_ <;> intro bD hm
 refine qa4 rfl ?_
 exact eE hm
 refine jR (σ := Unit) (rg 12 6) (fun _ => [(17, .bool (operation && decide (x.kind = 1)))]) (fun bu => True) ?_ ?_
 refine qak rfl ?_
 refine qag ?_ ?_ <;> intro aV
 refine fa rfl (ct aV (ro (ld r0 rfl rfl (ct aV (qad (ct aV ?_))))))
 exact eMt () ⟨bq (qdp (b := decide (x.kind = 1)) aV), trivial⟩
 refine cf aV (cf aV (cf aV ?_))
 exact eMt () ⟨bq (((qaz aV)).symm), trivial⟩
 rintro _ _ bp
 obtain ⟨ba, aU, hm⟩ := bnd hm
 refine jD (σ := (Jg) × Option Addr × Nat × Option Addr × Nat × Option Addr × Nat × Option Addr × Nat) ([6] ++ rg 18 24) [0, 6] (fun (aL, aN, aR, aM, aQ, aO, aS, aP, aT) => []) (fun (aL, aN, aR, aM, aQ, aO, aS, aP, aT) => [Cells b0 98 ((str m.Ar.Am) :: (str m.Ar.An) :: (str m.Ar.Ae) :: (str m.Ar.Af) :: (.slice aa m.Ar.Ao.length ab) :: (.int .i64 aL.most) :: (str aL.result.Ae) :: (str aL.result.Af) :: (.slice aN aL.result.Ag.length aR) :: (.slice aM aL.result.Vary.length aQ) :: (.slice aO aL.result.Ah.length aS) :: (.int .i64 aL.result.TTL) :: (.int .i64 aL.result.Ai) :: (.int .i64 aL.result.Aj) :: (.bool aL.result.Ak) :: (.bool aL.result.Al) :: (.slice aP aL.stack.length aT) :: (aL.Ap.map Jf.enc).flatten), OwnL Jj.enc aN 77 2 aR aL.result.Ag, OwnL eS aM 9 1 aQ aL.result.Vary, OwnL eS aO 9 1 aS aL.result.Ah, OwnL Jf.enc aP 95 4 aT aL.stack]) (fun (aL, aN, aR, aM, aQ, aO, aS, aP, aT) => (0 < aL.result.Ag.length → Has aN) ∧ (0 < aL.result.Vary.length → Has aM) ∧ (0 < aL.result.Ah.length → Has aO) ∧ (0 < aL.stack.length → Has aP) ∧ aL.Ap.length = 512 ∧ ba = Fl.go aL) (And.intro ?_ ?_)
 refine cs rfl rfl aU ?_ ?_ <;> intro bB aU
 refine qbe ⟨⟨[], false⟩, _, [(_, _), (_, _)], []⟩ 9 rfl (by kernel_rfl) ⟨Hp.Le.refl _, (sc [1,0] rfl), ci0⟩ ?_
 refine qaf (fa rfl (fa rfl (qan m0 rfl rfl (fa rfl (qan m1 rfl rfl (qih rfl ?_))))))
 obtain ⟨bh, aU⟩ := qa2 aU
 refine qop bh.1 bh.2 ?_
 obtain ⟨bo, aU⟩ := qa2 aU
 refine qap bo (qaf (fa rfl (fa rfl ?_)))
 refine qo9 (cs' := (str m.Ar.Am) :: (str m.Ar.An) :: (str m.Ar.Ae) :: (str m.Ar.Af) :: (.slice aa m.Ar.Ao.length ab) :: (.int .i64 m.most) :: (str m.result.Ae) :: (str m.result.Af) :: (.slice ah m.result.Ag.length ak) :: (.slice al m.result.Vary.length am) :: (.slice an m.result.Ah.length aw) :: (.int .i64 m.result.TTL) :: (.int .i64 m.result.Ai) :: (.int .i64 (m.result.Aj + (Int.tdiv (x.s.length : Int) 64))) :: (.bool m.result.Ak) :: (.bool m.result.Al) :: (.slice ao m.stack.length ax) :: (m.Ap.map Jf.enc).flatten) r1 rfl rfl (by exact rfl) (by exact nl rfl) (by exact rfl) ?_
 refine ⟨⟨Hp.emp_le _, (pf rfl), ci0⟩, ?_⟩
 refine qa6 ⟨⟨[], false⟩, _, [(_, _)], []⟩ (by kernel_rfl) ⟨Hp.Le.refl _, (pf rfl), ci0⟩ ?_
 refine qaf (fa rfl (fa rfl (qan m0 rfl rfl (qaf (fa rfl (qan m0 rfl rfl ?_))))))
 refine cs rfl rfl aU ?_ ?_ <;> intro bA aU
 refine qa4 rfl ?_
 exact eE (er aU hm)
 exact eM aU (_, _, _, _, _, _, _, _, _)
 exact eM aU (_, _, _, _, _, _, _, _, _)
 rintro ⟨aL, aN, aR, aM, aQ, aO, aS, aP, aT⟩ ⟨a8, aX, aW, aZ, aY, rfl⟩ bv
 replace hm := elg hm
 refine qbe ⟨⟨[], false⟩, _, [(_, _), (_, _)], []⟩ 8 rfl (by kernel_rfl) ⟨Hp.Le.refl _, (sc [0,4] rfl), ci0⟩ ?_
 refine qaf (fa rfl (qan m0 rfl rfl (qb9 m1 rfl (nl rfl) ?_)))
 refine bsO (len := 1) (enc := Jf.enc) (l := [x]) (cl := [.int .i64 x.kind, .int .i64 x.n, str x.s, .bool x.Au]) qwg rfl rfl (fun _ _ => rfl) rfl rfl rfl ?_ fun bC => ?_
 · conv => whnf
   refine cT ?_
   first | done | rfl
 refine qk (sc [1,5] rfl) ?_
 obtain ⟨bw, hm⟩ := qa2 hm
 refine apE rfl r5 qwg (qa5 rfl r0 rfl (fun _ => rfl) (fun _ => rfl)) bw ?_
 intro bt bn bz
 refine qk (sc [2,5] rfl) ?_
 refine qaf (fa rfl ?_)
 refine qo9 (cs' := (str m.Ar.Am) :: (str m.Ar.An) :: (str m.Ar.Ae) :: (str m.Ar.Af) :: (.slice aa m.Ar.Ao.length ab) :: (.int .i64 aL.most) :: (str aL.result.Ae) :: (str aL.result.Af) :: (.slice aN aL.result.Ag.length aR) :: (.slice aM aL.result.Vary.length aQ) :: (.slice aO aL.result.Ah.length aS) :: (.int .i64 aL.result.TTL) :: (.int .i64 aL.result.Ai) :: (.int .i64 aL.result.Aj) :: (.bool aL.result.Ak) :: (.bool aL.result.Al) :: (.slice bt ((aL.stack ++ [x]).length) bn) :: (aL.Ap.map Jf.enc).flatten) r2 rfl rfl (by exact rfl) (by exact nl rfl) (by exact rfl) ?_
 refine ⟨⟨Hp.emp_le _, (pf rfl), ci0⟩, ?_⟩
 exact eE hm

def Jaq (s : Str) : Option (Jf) :=
  some (⟨1, 0, s, false⟩ : Jf)
theorem JaB {s : Str} {K : Hp} {r : Jf}
    (hm : Jaq s = some r)  :
    Fn Tryz.prog 63 [str s] K [] (fun v K' H' => v = .agg #[.int .i64 r.kind, .int .i64 r.n, str r.s, .bool r.Au] ∧ H' = []) := by
 refine Fn.enter Tryz.func63 Tryz.call63 rfl fun F => ?_
 unfold Jaq at hm
 refine qao rfl fun b2 => ?_
 refine qam rfl rfl (cT (cT ?_))
 refine qab r0 rfl ⟨rfl, rfl, (nl rfl), ?_⟩
 exact ro (qah r0 rfl (nl rfl) (eE hm))

def Jar (name : Str) (Ar : JI) : Option (Jf) :=
  if decide (name = ([109, 101, 116, 104, 111, 100] : Str)) then
  (Jaq Ar.Am).bind fun aM =>
  some aM
  else
  if decide (name = ([104, 111, 115, 116] : Str)) then
  (Jaq Ar.An).bind fun aN =>
  some aN
  else
  if decide (name = ([112, 97, 116, 104] : Str)) then
  (Jaq Ar.Ae).bind fun aL =>
  some aL
  else
  (Jaq Ar.Af).bind fun aO =>
  some aO
theorem Jdx {name : Str} {Ar : JI} {af : Option Addr} {ag : Nat} {K : Hp} {r : Jf}
    (hm : Jar name Ar = some r) (aj : RdC Jj.enc K af ag 2 Ar.Ao) :
    Fn Tryz.prog 64 [str name, .agg #[str Ar.Am, str Ar.An, str Ar.Ae, str Ar.Af, .slice af Ar.Ao.length ag]] K [] (fun v K' H' => v = .agg #[.int .i64 r.kind, .int .i64 r.n, str r.s, .bool r.Au] ∧ H' = []) := by
 refine Fn.enter Tryz.func64 Tryz.call64 rfl fun F => ?_
 unfold Jar at hm
 refine qaq ?_
 intro b3
 refine qao rfl fun b4 => ?_
 refine qal rfl ?_
 refine qat (cs rfl rfl hm ?_ ?_) <;> intro w6 hm
 refine fa rfl (ro (ld r1 rfl rfl ?_))
 refine cb hm fun aP aO hm => cg0 (JaB aO :) ?_
 refine qab r0 rfl ⟨rfl, rfl, (nl rfl), ?_⟩
 exact ro (qah r0 rfl (nl rfl) (eE hm))
 refine qat (cs rfl rfl hm ?_ ?_) <;> intro aT hm
 refine fa rfl (ro (ld r1 rfl rfl ?_))
 refine cb hm fun aU aM hm => cg0 (JaB aM :) ?_
 refine qab r0 rfl ⟨rfl, rfl, (nl rfl), ?_⟩
 exact ro (qah r0 rfl (nl rfl) (eE hm))
 refine qat (cs rfl rfl hm ?_ ?_) <;> intro aS hm
 refine fa rfl (ro (ld r1 rfl rfl ?_))
 refine cb hm fun aQ aL hm => cg0 (JaB aL :) ?_
 refine qab r0 rfl ⟨rfl, rfl, (nl rfl), ?_⟩
 exact ro (qah r0 rfl (nl rfl) (eE hm))
 refine fa rfl (ro (ld r1 rfl rfl ?_))
 refine cb hm fun aR aN hm => cg0 (JaB aN :) ?_
 refine qab r0 rfl ⟨rfl, rfl, (nl rfl), ?_⟩
 exact ro (qah r0 rfl (nl rfl) (eE hm))

def JP (m : Jg) : Option (Jf × Jg) :=
  (chk (InI ((m.stack.length : Int) - 1))).bind fun _ =>
  (ix m.stack ((m.stack.length : Int) - 1)).bind fun aL =>
  (chk (InI ((m.stack.length : Int) - 1))).bind fun _ =>
  (chk (0 ≤ (0 : Int) ∧ (0 : Int) ≤ ((m.stack.length : Int) - 1) ∧ ((m.stack.length : Int) - 1) ≤ (m.stack.length : Int))).bind fun _ =>
  some (aL, (⟨m.Ar, m.most, m.result, (subL m.stack (0 : Int) ((m.stack.length : Int) - 1)), m.Ap⟩ : Jg))
theorem Jaw {m : Jg} {b0 : Nat} {aa : Option Addr} {ab : Nat} {ah : Option Addr} {ak : Nat} {al : Option Addr} {am : Nat} {an : Option Addr} {aw : Nat} {ao : Option Addr} {ax : Nat} {K : Hp} {r : Jf × Jg}
    (hm : JP m = some r) (hX : RdC Jj.enc K aa ab 2 m.Ar.Ao ∧ (0 < m.result.Ag.length → Has ah) ∧ (0 < m.result.Vary.length → Has al) ∧ (0 < m.result.Ah.length → Has an) ∧ (0 < m.stack.length → Has ao) ∧ m.Ap.length = 512) :
    Fn Tryz.prog 65 [.pointer (some ⟨b0, 0, none⟩)] K [Cells b0 98 ((str m.Ar.Am) :: (str m.Ar.An) :: (str m.Ar.Ae) :: (str m.Ar.Af) :: (.slice aa m.Ar.Ao.length ab) :: (.int .i64 m.most) :: (str m.result.Ae) :: (str m.result.Af) :: (.slice ah m.result.Ag.length ak) :: (.slice al m.result.Vary.length am) :: (.slice an m.result.Ah.length aw) :: (.int .i64 m.result.TTL) :: (.int .i64 m.result.Ai) :: (.int .i64 m.result.Aj) :: (.bool m.result.Ak) :: (.bool m.result.Al) :: (.slice ao m.stack.length ax) :: (m.Ap.map Jf.enc).flatten), OwnL Jj.enc ah 77 2 ak m.result.Ag, OwnL eS al 9 1 am m.result.Vary, OwnL eS an 9 1 aw m.result.Ah, OwnL Jf.enc ao 95 4 ax m.stack] (fun v K' H' => ∃ ar_0 : Option Addr, ∃ cr_0 : Nat, ∃ ar_1 : Option Addr, ∃ cr_1 : Nat, ∃ ar_2 : Option Addr, ∃ cr_2 : Nat, ∃ ar_3 : Option Addr, ∃ cr_3 : Nat, v = .agg #[.int .i64 r.1.kind, .int .i64 r.1.n, str r.1.s, .bool r.1.Au] ∧ (0 < r.2.result.Ag.length → Has ar_0) ∧ (0 < r.2.result.Vary.length → Has ar_1) ∧ (0 < r.2.result.Ah.length → Has ar_2) ∧ (0 < r.2.stack.length → Has ar_3) ∧ r.2.Ap.length = 512 ∧ H' = [Cells b0 98 ((str m.Ar.Am) :: (str m.Ar.An) :: (str m.Ar.Ae) :: (str m.Ar.Af) :: (.slice aa m.Ar.Ao.length ab) :: (.int .i64 r.2.most) :: (str r.2.result.Ae) :: (str r.2.result.Af) :: (.slice ar_0 r.2.result.Ag.length cr_0) :: (.slice ar_1 r.2.result.Vary.length cr_1) :: (.slice ar_2 r.2.result.Ah.length cr_2) :: (.int .i64 r.2.result.TTL) :: (.int .i64 r.2.result.Ai) :: (.int .i64 r.2.result.Aj) :: (.bool r.2.result.Ak) :: (.bool r.2.result.Al) :: (.slice ar_3 r.2.stack.length cr_3) :: (r.2.Ap.map Jf.enc).flatten), OwnL Jj.enc ar_0 77 2 cr_0 r.2.result.Ag, OwnL eS ar_1 9 1 cr_1 r.2.result.Vary, OwnL eS ar_2 9 1 cr_2 r.2.result.Ah, OwnL Jf.enc ar_3 95 4 cr_3 r.2.stack]) := by
 obtain ⟨ae, aP, aN, aO, aL, aM⟩ := hX
 refine Fn.enter Tryz.func65 Tryz.call65 rfl fun F => ?_
 unfold JP at hm
 refine qao rfl fun b2 => ?_
 refine qdr ⟨⟨[], true⟩, _, [], []⟩ 14 rfl (by kernel_rfl) ⟨Hp.Le.refl _, (pf rfl), ci0⟩ ?_
 refine qaf (fa rfl ?_)
 refine ld r1 rfl rfl ?_
 refine qaf (fa rfl ?_)
 refine ld r1 rfl rfl ?_
 refine qc1 rfl ?_
 refine ci hm fun hm => ?_
 obtain ⟨aW, aR, aQ, hm⟩ := ixb hm
 refine qac rfl rfl (qdj aL aQ) aR (qax rfl aR aQ) ?_
 refine qoq (i := (((m.stack.length : Int) - 1)).toNat) r5 rfl aQ rfl rfl ?_
 refine qjh rfl ?_
 intro b3
 intro aU
 refine qab r0 rfl ⟨rfl, rfl, (nl rfl), ?_⟩
 refine ⟨⟨lr, (pf rfl), ci0⟩, ?_⟩
 refine ⟨_, .cons r8 .nil, ⟨lr, (pf rfl), ci0⟩, ?_⟩
 refine DStep.ownLe r3 fun aY => ?_
 refine DStep.ownLe r4 fun aV => ?_
 refine DStep.ownLe r5 fun aX => ?_
 refine DStep.ownLe r6 fun aT => ?_
 refine qbe ⟨⟨[], false⟩, _, [(_, _)], []⟩ 12 rfl (by kernel_rfl) ⟨Hp.Le.refl _, (sc [2] rfl), ci0⟩ ?_
 refine qaf (fa rfl (qan m0 rfl rfl (qaf (fa rfl (qan m0 rfl rfl (qc1 rfl ?_))))))
 refine ci hm fun hm => ?_
 obtain ⟨aS, hm⟩ := qa2 hm
 refine quw (l := m.stack) (hi := (some ((m.stack.length : Int) - 1))) rfl rfl rfl aT aS ?_
 refine qaf (fa rfl ?_)
 refine tkW ((m.stack.length : Int) - 1) r6 ?_
 refine qo9 (cs' := (str m.Ar.Am) :: (str m.Ar.An) :: (str m.Ar.Ae) :: (str m.Ar.Af) :: (.slice aa m.Ar.Ao.length ab) :: (.int .i64 m.most) :: (str m.result.Ae) :: (str m.result.Af) :: (.slice ah m.result.Ag.length ak) :: (.slice al m.result.Vary.length am) :: (.slice an m.result.Ah.length aw) :: (.int .i64 m.result.TTL) :: (.int .i64 m.result.Ai) :: (.int .i64 m.result.Aj) :: (.bool m.result.Ak) :: (.bool m.result.Al) :: (.slice ao ((subL m.stack (0 : Int) ((m.stack.length : Int) - 1)).length) ax) :: (m.Ap.map Jf.enc).flatten) r3 rfl rfl (by exact rfl) (by exact nl rfl) (by exact rfl) ?_
 refine ⟨⟨Hp.emp_le _, (pf rfl), ci0⟩, ?_⟩
 refine ro (qah r2 rfl (nl rfl) ?_)
 refine qab r3 rfl ⟨rfl, rfl, (nl rfl), ?_⟩
 obtain rfl := si hm
 exact ro (qah r0 rfl (nl rfl) (en lr ⟨ah, ak, al, am, an, aw, ao, ax, rfl, aP, aN, aO, (fun h => aL (qot aS h)), aM, rfl⟩ (sc [1,3,3,3,1,2] rfl)))

def JbR (path : Str) : Option ((List Str)) :=
  (cutM path ([47] : Str)).bind fun x8 =>
  if (!x8.2.2) then
  some []
  else
  (qgx x8.2.1 ([47] : Str)).bind fun aL =>
  some aL
theorem JdQ {path : Str} {K : Hp} {r : (List Str)}
    (hm : JbR path = some r) (hG : GG K) :
    Fn Tryz.prog 104 [str path] K [] (fun v K' H' => ∃ ar_0 : Option Addr, ∃ cr_0 : Nat, v = .slice ar_0 r.length cr_0 ∧ (0 < r.length → Has ar_0) ∧ H' = [OwnL eS ar_0 9 1 cr_0 r]) := by
 refine Fn.enter Tryz.func104 Tryz.call104 rfl fun F => ?_
 unfold JbR at hm
 refine cb hm fun x8 q8 hm => cg0 (qt7 q8 (gg3 hG)) ?_
 refine qay ?_
 refine cs rfl rfl hm ?_ ?_ <;> intro aQ hm
 refine qor eS 9 1 ?_
 exact eE hm
 refine cb hm fun aP aO hm => ck0 (qf8 aO (gg3 hG)) ?_
 rintro _ _ _ ⟨aM, aL, rfl, aN, rfl⟩
 exact eE hm

def Ja6 : Nat → Nat → Str → Option (Str)
  | 0, _, ac => some ac
  | aM + 1, i0, ac =>
    (ix ac (i0 : Int)).bind fun aL =>
    if (decide ((aL.toNat : Int) ≥ 65) && decide ((aL.toNat : Int) ≤ 90)) then
    (ix ac (i0 : Int)).bind fun aN =>
    Ja6 aM (i0 + 1) (ac.set (((i0 : Int)).toNat) (aL + (32 : UInt8)))
    else
    Ja6 aM (i0 + 1) ac
def JbN (s : Str) : Option (Str) :=
  (chk (s.length ≤ lim)).bind fun _ =>
  (chk (InI (s.length : Int))).bind fun _ =>
  (Ja6 (s.length : Int).toNat 0 s).bind fun t0 =>
  some t0
theorem Jcb {s : Str} {K : Hp} {r : Str}
    (hm : JbN s = some r)  :
    Fn Tryz.prog 178 [str s] K [] (fun v K' H' => v = str r ∧ H' = []) := by
 refine Fn.enter Tryz.func178 Tryz.call178 rfl fun F => ?_
 unfold JbN at hm
 obtain ⟨h7, hm⟩ := qa2 hm
 refine qlu rfl rfl rfl h7 ?_
 intro a7 c7 o7
 refine ro (qai rfl ?_)
 obtain ⟨aS, hm⟩ := qa2 hm
 obtain ⟨s0, aM, hm⟩ := bnd hm
 refine lD (σ := (Str)) ([4,5] ++ rg 10 17) [1] (fun i0 => [(10, .int .i64 (i0 : Int))]) (fun _ => []) (fun t0 => [OwnL eU a7 5 1 c7 t0]) (fun t0 => (0 < t0.length → Has a7) ∧ s.length = t0.length) (fun i0 t0 => Ja6 ((s.length : Int).toNat - i0) i0 t0 = some s0) (fun t0 => t0 = s0) (fun i0 => (s.length : Int).toNat - i0) 0 _ aM (And.intro qe (And.intro ?_ ?_))
 clear aM
 rintro i0 ac ⟨aN, aO⟩ aM j0
 conv at aM => whnf
 refine qae rfl ?_
 refine qag ?_ ?_ <;> intro w0
 rw [ltn w0, Ja6.eq_2] at aM
 refine qal rfl ?_
 obtain ⟨aR, aV, aT, aM⟩ := ixb aM
 refine RStep.ofN (qac rfl rfl (qdj aN aT) aV (qax aO aV aT) (ro (qc2 (i := ((i0 : Int)).toNat) (o := 0) r0 rfl aT rfl rfl ?_)))
 refine qak rfl ?_
 refine qag ?_ ?_ <;> intro aL
 refine ct aL (ct aL (qae rfl ?_))
 refine qag ?_ ?_ <;> intro aX
 replace aM := ift (qb7 aL aX) aM
 refine qoo (x := aR) (y := (32 : UInt8)) rfl rfl ?_
 obtain ⟨aY, aW, aQ, aM⟩ := ixb aM
 refine RStep.ofN (qac rfl rfl (qdj aN aQ) aW (qax aO aW aQ) ?_)
 refine qgq (o := 0) (y := (aR + (32 : UInt8))) aY r0 rfl aQ rfl (by (conv => whnf); exact ⟨rfl, rfl, (nl rfl), rfl, rfl, rfl⟩) ?_
 refine qap (qrf w0 aS) ?_
 exact rd (i0 + 1, (ac.set (((i0 : Int)).toNat) (aR + (32 : UInt8)))) ⟨rfl, trivial⟩ rfl (pf rfl) lr (qyr w0) ⟨⟨(by first | simpa using aN | exact fun _ => ⟨_, _, rfl⟩), ((aO).trans List.length_set.symm)⟩, aM⟩
 replace aM := qbo (qcx aL aX) aM
 refine qap (qrf w0 aS) ?_
 exact eR aM (_, _)
 refine cf aL (cf aL (qae rfl (cF ?_)))
 replace aM := qbo (qaz aL) aM
 refine qap (qrf w0 aS) ?_
 exact eR aM (_, _)
 rw [lto w0, Ja6.eq_1] at aM
 refine cT ?_
 exact eM aM _
 rintro t0 ⟨aU, aP⟩ rfl j0
 refine ro (qii aP r0 rfl rfl rfl ?_)
 exact eE hm

def Jbo (x9 : Str) : List Jj → Nat → (List Str) → Option ((List Str))
  | [], _, ac => some ac
  | e0 :: aL, i0, ac =>
    (JbN e0.Name).bind fun aM =>
    if decide (aM = x9) then
    (chk (ac.length + [e0.Value].length ≤ lim)).bind fun _ =>
    Jbo x9 aL (i0 + 1) (ac ++ [e0.Value])
    else
    Jbo x9 aL (i0 + 1) ac
def Jdy (f : (List Jj)) (name : Str) : Option ((List Str)) :=
  (JbN name).bind fun x9 =>
  (chk (f.length ≤ qau)).bind fun _ =>
  (Jbo x9 f 0 []).bind fun t0 =>
  some t0
theorem Jfe {f : (List Jj)} {name : Str} {aa : Option Addr} {ab : Nat} {n0 : Nat} {K : Hp} {r : (List Str)}
    (hm : Jdy f name = some r) (hX : RdC Jj.enc K aa ab 2 f ∧ n0 = f.length) :
    Fn Tryz.prog 145 [.slice aa n0 ab, str name] K [] (fun v K' H' => ∃ ar_0 : Option Addr, ∃ cr_0 : Nat, v = .slice ar_0 r.length cr_0 ∧ (0 < r.length → Has ar_0) ∧ H' = [OwnL eS ar_0 9 1 cr_0 r]) := by
 obtain ⟨ae, aW⟩ := hX
 subst aW
 refine Fn.enter Tryz.func145 Tryz.call145 rfl fun F => ?_
 unfold Jdy at hm
 refine cb hm fun x9 q9 hm => cg0 (Jcb q9 :) ?_
 refine ro (qai rfl ?_)
 obtain ⟨aR, hm⟩ := qa2 hm
 obtain ⟨s0, aN, hm⟩ := bnd hm
 refine qnk eS 9 1 ?_
 refine lD (σ := ((List Str)) × Option Addr × Nat) ([5,7] ++ rg 12 15) [1] (fun i0 => [(12, .int .i64 (i0 : Int))]) (fun (t0, aL, aM) => [(5, .slice aL t0.length aM)]) (fun (t0, aL, aM) => [OwnL eS aL 9 1 aM t0]) (fun (t0, aL, aM) => (0 < t0.length → Has aL) ∧ True) (fun i0 (t0, aL, aM) => Jbo x9 (f.drop i0) i0 t0 = some s0) (fun (t0, aL, aM) => t0 = s0) (fun i0 => f.length - i0) 0 (_, _, _) aN (And.intro qe (And.intro ?_ ?_))
 clear aN
 rintro i0 ⟨ac, aT, aS⟩ ⟨aP, _⟩ aN j0
 conv at aN => whnf
 refine qae rfl ?_
 refine qag ?_ ?_ <;> intro w0
 obtain ⟨e0, aO, aX⟩ := ltx w0
 rw [aX, Jbo.eq_2] at aN
 refine qal rfl ?_
 refine RStep.ofN (qac rfl rfl (qec ae.rd aO) (nn _) (qbq aO) (ro (qaj i0 _ ae.rd rfl (mp aO) rfl ?_)))
 refine qao rfl fun b7 => ?_
 refine qab r0 rfl ⟨rfl, rfl, (nl rfl), ?_⟩
 refine fa rfl (ro (ld r0 rfl rfl ?_))
 refine cb aN fun bb aV aN => cg0 (Jcb aV :) ?_
 refine qat (cs rfl rfl aN ?_ ?_) <;> intro ba aN
 refine fa rfl (ro (ld r0 rfl rfl ?_))
 refine bsO (len := 1) (enc := eS) (l := [e0.Value]) (cl := [str e0.Value]) qka rfl rfl (fun _ _ => rfl) rfl rfl rfl ?_ fun aY => ?_
 · conv => whnf
   refine cT ?_
   first | done | rfl
 obtain ⟨aU, aN⟩ := qa2 aN
 refine apE rfl r2 qka (qa5 rfl r0 rfl (fun _ => rfl) (fun _ => rfl)) aU ?_
 intro bf a8 aZ
 refine qap (qcf aO aR) ?_
 exact eR aN (_, _, _, _)
 refine qap (qcf aO aR) ?_
 exact eR aN (_, _, _, _)
 rw [lty w0, Jbo.eq_1] at aN
 refine cT ?_
 exact eM aN (_, _, _)
 rintro ⟨t0, aL, aM⟩ ⟨aQ, _⟩ rfl j0
 exact eE hm

def Jc8 (f : (List Jj)) (name : Str) : Option (Str × Bool) :=
  (Jdy f name).bind fun x9 =>
  (qkp x9 ([44, 32] : Str)).bind fun aL =>
  some (aL, decide ((x9.length : Int) > 0))
theorem Jer {f : (List Jj)} {name : Str} {aa : Option Addr} {ab : Nat} {n0 : Nat} {K : Hp} {r : Str × Bool}
    (hm : Jc8 f name = some r) (hX : RdC Jj.enc K aa ab 2 f ∧ n0 = f.length) :
    Fn Tryz.prog 105 [.slice aa n0 ab, str name] K [] (fun v K' H' => v = .tuple #[str r.1, .bool r.2] ∧ H' = []) := by
 obtain ⟨ae, aQ⟩ := hX
 subst aQ
 refine Fn.enter Tryz.func105 Tryz.call105 rfl fun F => ?_
 unfold Jc8 at hm
 refine cb hm fun x9 q9 hm => ckx (Jfe q9 :) ?_
 rintro _ _ _ ⟨aR, aO, rfl, aS, rfl⟩
 refine cb hm fun aT aP hm => ck0 (Fn.lend Tryz.call146 (fun aM aN aL => (qv6 aP aL rfl)) (by exact fun _ _ _ _ h => h)) ?_
 rintro _ _ _ ⟨_, rfl, rfl, rfl⟩
 refine ro (qai rfl ?_)
 exact eE hm

def Jaj (Au : Bool) : Option (Jf) :=
  some (⟨3, 0, ([] : Str), Au⟩ : Jf)
theorem JaU {Au : Bool} {K : Hp} {r : Jf}
    (hm : Jaj Au = some r)  :
    Fn Tryz.prog 68 [.bool Au] K [] (fun v K' H' => v = .agg #[.int .i64 r.kind, .int .i64 r.n, str r.s, .bool r.Au] ∧ H' = []) := by
 refine Fn.enter Tryz.func68 Tryz.call68 rfl fun F => ?_
 unfold Jaj at hm
 refine qao rfl fun b2 => ?_
 refine qam rfl rfl (cT (cT ?_))
 refine qab r0 rfl ⟨rfl, rfl, (nl rfl), ?_⟩
 exact ro (qah r0 rfl (nl rfl) (eE hm))

def JS (s : Str) (prefixZ : Str) : Option (Bool) :=
  (J6 s prefixZ).bind fun x7 =>
  some x7
theorem Jbm {s : Str} {prefixZ : Str} {K : Hp} {r : Bool}
    (hm : JS s prefixZ = some r)  :
    Fn Tryz.prog 69 [str s, str prefixZ] K [] (fun v K' H' => v = .bool r ∧ H' = []) := by
 refine Fn.enter Tryz.func69 Tryz.call69 rfl fun F => ?_
 unfold JS at hm
 refine cb hm fun x7 q7 hm => cg0 (Jby q7 :) ?_
 exact eE hm

def JbD (name : Str) : List Str → Nat → Option (Fl (Str × Bool) (Unit))
  | [], _ => some (Fl.go ())
  | e0 :: aL, i0 =>
    (chk (name.length + ([61] : Str).length ≤ lim)).bind fun _ =>
    (JS e0 (name ++ ([61] : Str))).bind fun aM =>
    if aM then
    (chk (InI ((name.length : Int) + 1))).bind fun _ =>
    (chk (0 ≤ ((name.length : Int) + 1) ∧ ((name.length : Int) + 1) ≤ (e0.length : Int) ∧ (e0.length : Int) ≤ (e0.length : Int))).bind fun _ =>
    some (Fl.ret ((subL e0 ((name.length : Int) + 1) (e0.length : Int)), true))
    else
    JbD name aL (i0 + 1)
def JcN (a : JbJ) (name : Str) : Option (Str × Bool) :=
  if (!a.HasQuery) then
  some (([] : Str), false)
  else
  (qgx a.Af ([38] : Str)).bind fun aL =>
  (chk (aL.length ≤ qau)).bind fun _ =>
  (JbD name aL 0).bind fun s0 => s0.el some fun t0 =>
  some (([] : Str), false)
theorem JeW {a : JbJ} {name : Str} {K : Hp} {r : Str × Bool}
    (hm : JcN a name = some r) (hG : GG K) :
    Fn Tryz.prog 106 [.agg #[str a.An, str a.Ae, str a.Af, .bool a.HasQuery], str name] K [] (fun v K' H' => v = .tuple #[str r.1, .bool r.2] ∧ H' = []) := by
 refine Fn.enter Tryz.func106 Tryz.call106 rfl fun F => ?_
 unfold JcN at hm
 refine qaq ?_
 intro b2
 refine fa rfl (ro (ld r0 rfl rfl (qay ?_)))
 refine cs rfl rfl hm ?_ ?_ <;> intro a8 hm
 exact eE hm
 refine fa rfl (ro (ld r0 rfl rfl ?_))
 refine cb hm fun aO aS hm => ck0 (qf8 aS (gg3 hG)) ?_
 rintro _ _ _ ⟨aQ, aP, rfl, aM, rfl⟩
 refine ro (qai rfl ?_)
 obtain ⟨aT, hm⟩ := qa2 hm
 obtain ⟨s0, aL, hm⟩ := bnd hm
 refine lD (σ := (Unit)) ([4,5,7] ++ rg 15 14) [0, 1, 2] (fun i0 => [(15, .int .i64 (i0 : Int))]) (fun _ => []) (fun _ => []) (fun _ => True) (fun i0 _ => JbD name (aO.drop i0) i0 = some s0) (fun t0 => s0 = Fl.go t0) (fun i0 => aO.length - i0) 0 () aL (And.intro qe (And.intro ?_ ?_))
 clear aL
 rintro i0 _ _ aL j0
 conv at aL => whnf
 refine qae rfl ?_
 refine qag ?_ ?_ <;> intro w0
 obtain ⟨e0, aN, aV⟩ := ltx w0
 rw [aV, JbD.eq_2] at aL
 refine qal rfl ?_
 refine RStep.ofN (qac rfl rfl (qdj aM aN) (nn _) (quq rfl aN) (ro (qc2 (i := i0) (o := 0) r0 rfl aN rfl rfl ?_)))
 obtain ⟨aR, aL⟩ := qa2 aL
 refine qff aR ?_
 refine cb aL fun aX aU aL => cg0 (Jbm aU :) ?_
 refine CStep.ownLe r0 fun aY => ?_
 refine cs rfl rfl aL ?_ ?_ <;> intro aZ aL
 refine ro (qa3 rfl ?_)
 refine ci aL fun aL => ?_
 obtain ⟨aW, aL⟩ := qa2 aL
 refine RStep.ofN (qgr (lo := (some ((name.length : Int) + 1))) (hi := none) rfl aW ?_)
 exact eE (er aL hm)
 refine qap (qcf aN aT) ?_
 exact eR aL (_, ())
 rw [lty w0, JbD.eq_1] at aL
 refine cT ?_
 exact eM aL _
 rintro t0 _ rfl j0
 replace hm := elg hm
 exact eE hm

def JaV : Nat → Nat → Str → Option (Str)
  | 0, _, ac => some ac
  | aM + 1, i0, ac =>
    (ix ac (i0 : Int)).bind fun aL =>
    if (decide ((aL.toNat : Int) ≥ 65) && decide ((aL.toNat : Int) ≤ 90)) then
    (ix ac (i0 : Int)).bind fun aN =>
    JaV aM (i0 + 1) (ac.set (((i0 : Int)).toNat) (aL + (32 : UInt8)))
    else
    JaV aM (i0 + 1) ac
def JcB (s : Str) : Option (Str) :=
  (chk (s.length ≤ lim)).bind fun _ =>
  (chk (InI (s.length : Int))).bind fun _ =>
  (JaV (s.length : Int).toNat 0 s).bind fun t0 =>
  some t0
theorem JeM {s : Str} {K : Hp} {r : Str}
    (hm : JcB s = some r)  :
    Fn Tryz.prog 107 [str s] K [] (fun v K' H' => v = str r ∧ H' = []) := by
 refine Fn.enter Tryz.func107 Tryz.call107 rfl fun F => ?_
 unfold JcB at hm
 obtain ⟨h7, hm⟩ := qa2 hm
 refine qlu rfl rfl rfl h7 ?_
 intro a7 c7 o7
 refine ro (qai rfl ?_)
 obtain ⟨aS, hm⟩ := qa2 hm
 obtain ⟨s0, aM, hm⟩ := bnd hm
 refine lD (σ := (Str)) ([4,5] ++ rg 10 17) [1] (fun i0 => [(10, .int .i64 (i0 : Int))]) (fun _ => []) (fun t0 => [OwnL eU a7 5 1 c7 t0]) (fun t0 => (0 < t0.length → Has a7) ∧ s.length = t0.length) (fun i0 t0 => JaV ((s.length : Int).toNat - i0) i0 t0 = some s0) (fun t0 => t0 = s0) (fun i0 => (s.length : Int).toNat - i0) 0 _ aM (And.intro qe (And.intro ?_ ?_))
 clear aM
 rintro i0 ac ⟨aN, aO⟩ aM j0
 conv at aM => whnf
 refine qae rfl ?_
 refine qag ?_ ?_ <;> intro w0
 rw [ltn w0, JaV.eq_2] at aM
 refine qal rfl ?_
 obtain ⟨aR, aV, aT, aM⟩ := ixb aM
 refine RStep.ofN (qac rfl rfl (qdj aN aT) aV (qax aO aV aT) (ro (qc2 (i := ((i0 : Int)).toNat) (o := 0) r0 rfl aT rfl rfl ?_)))
 refine qak rfl ?_
 refine qag ?_ ?_ <;> intro aL
 refine ct aL (ct aL (qae rfl ?_))
 refine qag ?_ ?_ <;> intro aX
 replace aM := ift (qb7 aL aX) aM
 refine qoo (x := aR) (y := (32 : UInt8)) rfl rfl ?_
 obtain ⟨aY, aW, aQ, aM⟩ := ixb aM
 refine RStep.ofN (qac rfl rfl (qdj aN aQ) aW (qax aO aW aQ) ?_)
 refine qgq (o := 0) (y := (aR + (32 : UInt8))) aY r0 rfl aQ rfl (by (conv => whnf); exact ⟨rfl, rfl, (nl rfl), rfl, rfl, rfl⟩) ?_
 refine qap (qrf w0 aS) ?_
 exact rd (i0 + 1, (ac.set (((i0 : Int)).toNat) (aR + (32 : UInt8)))) ⟨rfl, trivial⟩ rfl (pf rfl) lr (qyr w0) ⟨⟨(by first | simpa using aN | exact fun _ => ⟨_, _, rfl⟩), ((aO).trans List.length_set.symm)⟩, aM⟩
 replace aM := qbo (qcx aL aX) aM
 refine qap (qrf w0 aS) ?_
 exact eR aM (_, _)
 refine cf aL (cf aL (qae rfl (cF ?_)))
 replace aM := qbo (qaz aL) aM
 refine qap (qrf w0 aS) ?_
 exact eR aM (_, _)
 rw [lto w0, JaV.eq_1] at aM
 refine cT ?_
 exact eM aM _
 rintro t0 ⟨aU, aP⟩ rfl j0
 refine ro (qii aP r0 rfl rfl rfl ?_)
 exact eE hm

def Jbg : List UInt8 → Nat → Int → Option (Fl (Int) (Int))
  | [], _, ac => some (Fl.go ac)
  | e0 :: aL, i0, ac =>
    (if decide ((e0.toNat : Int) < 48) then some true else some (decide ((e0.toNat : Int) > 57))).bind fun aM =>
    if aM then
    some (Fl.ret 0)
    else
    (chk (InI (10 * ac))).bind fun _ =>
    (chk (InI ((10 * ac) + ((e0 - (48 : UInt8)).toNat : Int)))).bind fun _ =>
    Jbg aL (i0 + 1) ((10 * ac) + ((e0 - (48 : UInt8)).toNat : Int))
def Jb3 (s : Str) : Option (Int) :=
  if (decide ((s.length : Int) < 1) || decide ((s.length : Int) > 15)) then
  some 0
  else
  (chk (s.length ≤ qau)).bind fun _ =>
  (Jbg s 0 0).bind fun s0 => s0.el some fun t0 =>
  some t0
theorem JeG {s : Str} {K : Hp} {r : Int}
    (hm : Jb3 s = some r)  :
    Fn Tryz.prog 108 [str s] K [] (fun v K' H' => v = .int .i64 r ∧ H' = []) := by
 refine Fn.enter Tryz.func108 Tryz.call108 rfl fun F => ?_
 unfold Jb3 at hm
 refine jR (σ := Unit) (rg 5 8) (fun _ => [(12, .bool (decide ((s.length : Int) < 1) || decide ((s.length : Int) > 15)))]) (fun aT => True) ?_ ?_
 refine qak rfl ?_
 refine ro (qa3 rfl ?_)
 refine qag ?_ ?_ <;> intro aN
 refine ct aN (ct aN (ct aN ?_))
 exact eMt () ⟨bq (((qdo aN)).symm), trivial⟩
 refine cf aN (ro (qa3 rfl (cf aN (cf aN ?_))))
 exact eMt () ⟨bq (qlv (b := decide ((s.length : Int) > 15)) aN), trivial⟩
 rintro _ _ aV
 refine cs rfl rfl hm ?_ ?_ <;> intro aY hm
 exact eE hm
 refine ro (qa3 rfl ?_)
 obtain ⟨aU, hm⟩ := qa2 hm
 obtain ⟨s0, aM, hm⟩ := bnd hm
 refine lD (σ := (Int)) ([2,3,4] ++ rg 15 22) [0] (fun i0 => [(15, .int .i64 (i0 : Int))]) (fun t0 => [(3, .int .i64 t0)]) (fun _ => []) (fun _ => True) (fun i0 t0 => Jbg (s.drop i0) i0 t0 = some s0) (fun t0 => s0 = Fl.go t0) (fun i0 => s.length - i0) 0 _ aM (And.intro qe (And.intro ?_ ?_))
 clear aM
 rintro i0 ac _ aM j0
 conv at aM => whnf
 refine qae rfl ?_
 refine qag ?_ ?_ <;> intro w0
 obtain ⟨e0, aP, aW⟩ := ltx w0
 rw [aW, Jbg.eq_2] at aM
 refine qal rfl ?_
 refine qak rfl ?_
 refine qba rfl (nn _) aP ?_
 obtain ⟨aX, aO, aM⟩ := bnd aM
 refine cS aO (fun aL aO => ?_) fun aL aO => ?_
 refine ct aL (ct aL (ct aL (ct aL (qae rfl (cT ?_)))))
 replace aM := ift (si aO).symm aM
 exact eE (er aM hm)
 refine cf aL (cf aL (qba rfl (nn _) aP (cf aL (cf aL (qae rfl ?_)))))
 refine qag ?_ ?_ <;> intro aQ
 replace aM := ift ((si aO).symm.trans aQ) aM
 exact eE (er aM hm)
 replace aM := qbo ((si aO).symm.trans aQ) aM
 obtain ⟨aR, aM⟩ := qa2 aM
 refine qap aR (qba rfl (nn _) aP (quk (x := e0) (y := (48 : UInt8)) rfl rfl (qls rfl rfl (qz4 (e0 - (48 : UInt8))) ?_)))
 obtain ⟨aS, aM⟩ := qa2 aM
 refine qap aS (qap (qcf aP aU) ?_)
 exact eR aM (_, _)
 rw [lty w0, Jbg.eq_1] at aM
 refine cT ?_
 exact eM aM _
 rintro t0 _ rfl j0
 replace hm := elg hm
 exact eE hm

def JD (name : Str) (x : Jf) (Ar : JI) : Option (Jf × Bool) :=
  if (decide (name = ([112, 97, 114, 116] : Str)) || decide (name = ([116, 101, 120, 116] : Str))) then
  if decide (x.kind ≠ 2) then
  some ((⟨0, 0, ([] : Str), false⟩ : Jf), false)
  else
  if decide (name = ([116, 101, 120, 116] : Str)) then
  (qns x.n).bind fun aZ =>
  (Jaq aZ).bind fun a8 =>
  some (a8, true)
  else
  (JbR Ar.Ae).bind fun aP =>
  if (decide (x.n < 0) || decide (x.n ≥ (aP.length : Int))) then
  (Jaq ([] : Str)).bind fun aR =>
  some (aR, true)
  else
  (ix aP x.n).bind fun aV =>
  (Jaq aV).bind fun ba =>
  some (ba, true)
  else
  if decide (x.kind ≠ 1) then
  some ((⟨0, 0, ([] : Str), false⟩ : Jf), false)
  else
  if decide (name = ([104, 101, 97, 100, 101, 114] : Str)) then
  (Jc8 Ar.Ao x.s).bind fun aQ =>
  (Jaq aQ.1).bind fun aS =>
  some (aS, true)
  else
  if decide (name = ([104, 97, 115] : Str)) then
  (Jc8 Ar.Ao x.s).bind fun aW =>
  (Jaj aW.2).bind fun aY =>
  some (aY, true)
  else
  if decide (name = ([97, 114, 103] : Str)) then
  (JcN (⟨([] : Str), ([] : Str), Ar.Af, true⟩ : JbJ) x.s).bind fun aX =>
  (Jaq aX.1).bind fun aU =>
  some (aU, true)
  else
  if decide (name = ([108, 101, 110] : Str)) then
  (JaZ (x.s.length : Int)).bind fun aT =>
  some (aT, true)
  else
  if decide (name = ([108, 111, 119, 101, 114] : Str)) then
  (JcB x.s).bind fun aM =>
  (Jaq aM).bind fun aN =>
  some (aN, true)
  else
  (Jb3 x.s).bind fun aL =>
  (JaZ aL).bind fun aO =>
  some (aO, true)
theorem JeX {name : Str} {x : Jf} {Ar : JI} {aq : Option Addr} {ar : Nat} {K : Hp} {r : Jf × Bool}
    (hm : JD name x Ar = some r) (hX : RdC Jj.enc K aq ar 2 Ar.Ao ∧ GG K) :
    Fn Tryz.prog 66 [str name, .agg #[.int .i64 x.kind, .int .i64 x.n, str x.s, .bool x.Au], .agg #[str Ar.Am, str Ar.An, str Ar.Ae, str Ar.Af, .slice aq Ar.Ao.length ar]] K [] (fun v K' H' => v = .tuple #[.agg #[.int .i64 r.1.kind, .int .i64 r.1.n, str r.1.s, .bool r.1.Au], .bool r.2] ∧ H' = []) := by
 obtain ⟨aX, hG⟩ := hX
 refine Fn.enter Tryz.func66 Tryz.call66 rfl fun F => ?_
 unfold JD at hm
 refine qaq ?_
 intro b4
 refine qaq ?_
 intro b5
 refine qao rfl fun b6 => ?_
 refine jR (σ := Unit) (rg 15 6) (fun _ => [(20, .bool (decide (name = ([112, 97, 114, 116] : Str)) || decide (name = ([116, 101, 120, 116] : Str))))]) (fun bp => True) ?_ ?_
 refine qak rfl ?_
 refine qat ?_
 refine qag ?_ ?_ <;> intro aM
 refine ct aM (ct aM ?_)
 exact eMt () ⟨bq (((qdo aM)).symm), trivial⟩
 refine cf aM (qat (cf aM ?_))
 exact eMt () ⟨bq (qlv (b := decide (name = ([116, 101, 120, 116] : Str))) aM), trivial⟩
 rintro _ _ bw
 refine cs rfl rfl hm ?_ ?_ <;> intro bO hm
 refine fa rfl (ro (ld r2 rfl rfl (qbd ?_)))
 refine cs rfl rfl hm ?_ ?_ <;> intro bJ hm
 refine qam rfl rfl ?_
 refine qab r0 rfl ⟨rfl, rfl, (nl rfl), ?_⟩
 exact ro (qah r0 rfl (nl rfl) (eE hm))
 refine qat (cs rfl rfl hm ?_ ?_) <;> intro bN hm
 refine fa rfl (ro (ld r2 rfl rfl ?_))
 refine cb hm fun bR bg hm => cg0 (qv9 bg (gg5 hG)) ?_
 refine cb hm fun bM bj hm => cg0 (JaB bj :) ?_
 refine qab r0 rfl ⟨rfl, rfl, (nl rfl), ?_⟩
 exact ro (qah r0 rfl (nl rfl) (eE hm))
 refine fa rfl (ro (ld r1 rfl rfl ?_))
 refine cb hm fun aU bB hm => ckx (JdQ bB :) ?_
 rintro _ _ _ ⟨aT, aW, rfl, aN, rfl⟩
 refine jR (σ := Unit) (rg 34 10) (fun _ => [(43, .bool (decide (x.n < 0) || decide (x.n ≥ (aU.length : Int))))]) (fun ba => True) ?_ ?_
 refine qak rfl ?_
 refine fa rfl (ro (ld r3 rfl rfl ?_))
 refine qag ?_ ?_ <;> intro aL
 refine ct aL (ct aL (ct aL (ct aL (ct aL ?_))))
 exact eMt () ⟨bq (((qdo aL)).symm), trivial⟩
 refine fa rfl (cf aL (ro (ld r3 rfl rfl (cf aL (cf aL (ro (qai rfl (cf aL (cf aL ?_)))))))))
 exact eMt () ⟨bq (qlv (b := decide (x.n ≥ (aU.length : Int))) aL), trivial⟩
 rintro _ _ bf
 refine cs rfl rfl hm ?_ ?_ <;> intro bG hm
 refine cb hm fun bV bm hm => cg0 (JaB bm :) ?_
 refine qab r1 rfl ⟨rfl, rfl, (nl rfl), ?_⟩
 exact ro (qah r0 rfl (nl rfl) (eE hm))
 refine fa rfl (ro (ld r3 rfl rfl ?_))
 obtain ⟨bX, aV, aR, hm⟩ := ixb hm
 refine RStep.ofN (qac rfl rfl (qdj aN aR) aV (qax rfl aV aR) (ro (qc2 (i := (x.n).toNat) (o := 0) r0 rfl aR rfl rfl ?_)))
 refine cb hm fun bS bA hm => cg0 (JaB bA :) ?_
 refine qab r1 rfl ⟨rfl, rfl, (nl rfl), ?_⟩
 exact ro (qah r0 rfl (nl rfl) (eE hm))
 refine fa rfl (ro (ld r2 rfl rfl (qbd ?_)))
 refine cs rfl rfl hm ?_ ?_ <;> intro bI hm
 refine qam rfl rfl ?_
 refine qab r0 rfl ⟨rfl, rfl, (nl rfl), ?_⟩
 exact ro (qah r0 rfl (nl rfl) (eE hm))
 refine qal rfl ?_
 refine qat (cs rfl rfl hm ?_ ?_) <;> intro bC hm
 refine fa rfl (ro (ld r1 rfl rfl (fa rfl (ro (ld r2 rfl rfl ?_)))))
 refine cb hm fun bD aY hm => cgx (Jer aY :) ?_
 refine cb hm fun bP aZ hm => cg0 (JaB aZ :) ?_
 refine qab r0 rfl ⟨rfl, rfl, (nl rfl), ?_⟩
 exact ro (qah r0 rfl (nl rfl) (eE hm))
 refine qat (cs rfl rfl hm ?_ ?_) <;> intro bH hm
 refine fa rfl (ro (ld r1 rfl rfl (fa rfl (ro (ld r2 rfl rfl ?_)))))
 refine cb hm fun bQ bn hm => cgx (Jer bn :) ?_
 refine cb hm fun bL bv hm => cg0 (JaU bv :) ?_
 refine qab r0 rfl ⟨rfl, rfl, (nl rfl), ?_⟩
 exact ro (qah r0 rfl (nl rfl) (eE hm))
 refine qat (cs rfl rfl hm ?_ ?_) <;> intro bT hm
 refine fa rfl (ro (ld r1 rfl rfl (qam rfl rfl (cT (cT (fa rfl (ro (ld r2 rfl rfl ?_))))))))
 refine cb hm fun bY a8 hm => cgx (JeW a8 :) ?_
 refine cb hm fun bW bz hm => cg0 (JaB bz :) ?_
 refine qab r0 rfl ⟨rfl, rfl, (nl rfl), ?_⟩
 exact ro (qah r0 rfl (nl rfl) (eE hm))
 refine qat (cs rfl rfl hm ?_ ?_) <;> intro bU hm
 refine fa rfl (ro (ld r2 rfl rfl (ro (qa3 rfl ?_))))
 refine cb hm fun bF bt hm => cg0 (Jbz bt :) ?_
 refine qab r0 rfl ⟨rfl, rfl, (nl rfl), ?_⟩
 exact ro (qah r0 rfl (nl rfl) (eE hm))
 refine qat (cs rfl rfl hm ?_ ?_) <;> intro bK hm
 refine fa rfl (ro (ld r2 rfl rfl ?_))
 refine cb hm fun bb aO hm => cg0 (JeM aO :) ?_
 refine cb hm fun bh aS hm => cg0 (JaB aS :) ?_
 refine qab r0 rfl ⟨rfl, rfl, (nl rfl), ?_⟩
 exact ro (qah r0 rfl (nl rfl) (eE hm))
 refine fa rfl (ro (ld r2 rfl rfl ?_))
 refine cb hm fun bo aP hm => cg0 (JeG aP :) ?_
 refine cb hm fun bu aQ hm => cg0 (Jbz aQ :) ?_
 refine qab r0 rfl ⟨rfl, rfl, (nl rfl), ?_⟩
 exact ro (qah r0 rfl (nl rfl) (eE hm))

def JbE (a : Int) (b : Int) : Option (Jf) :=
  if (decide (a = 0) || decide (b = 0)) then
  (JaZ 0).bind fun aN =>
  some aN
  else
  (chk (InI (-a))).bind fun _ =>
  (chk (InI (-b))).bind fun _ =>
  (chk ((max b (-b)) ≠ 0 ∧ InI (Int.tdiv 1099511627776 (max b (-b))))).bind fun _ =>
  ((if decide ((max a (-a)) > (Int.tdiv 1099511627776 (max b (-b)))) then
  some (1099511627776, 1)
  else
  some ((max a (-a)), (max b (-b))) : Option (Int × Int))).bind fun aL =>
  if (!((decide (a < 0)) == (decide (b < 0)))) then
  (chk (InI (-aL.1))).bind fun _ =>
  (chk (InI ((-aL.1) * aL.2))).bind fun _ =>
  (JaZ ((-aL.1) * aL.2)).bind fun aO =>
  some aO
  else
  (chk (InI (aL.1 * aL.2))).bind fun _ =>
  (JaZ (aL.1 * aL.2)).bind fun aM =>
  some aM
theorem Jeg {a : Int} {b : Int} {K : Hp} {r : Jf}
    (hm : JbE a b = some r)  :
    Fn Tryz.prog 109 [.int .i64 a, .int .i64 b] K [] (fun v K' H' => v = .agg #[.int .i64 r.kind, .int .i64 r.n, str r.s, .bool r.Au] ∧ H' = []) := by
 refine Fn.enter Tryz.func109 Tryz.call109 rfl fun F => ?_
 unfold JbE at hm
 refine qao rfl fun b4 => ?_
 refine jR (σ := Unit) (rg 8 6) (fun _ => [(13, .bool (decide (a = 0) || decide (b = 0)))]) (fun aS => True) ?_ ?_
 refine qak rfl ?_
 refine qad ?_
 refine qag ?_ ?_ <;> intro aL
 refine ct aL (ct aL ?_)
 exact eMt () ⟨bq (((qdo aL)).symm), trivial⟩
 refine cf aL (qad (cf aL ?_))
 exact eMt () ⟨bq (qlv (b := decide (b = 0)) aL), trivial⟩
 rintro _ _ aW
 refine cs rfl rfl hm ?_ ?_ <;> intro ba hm
 refine cb hm fun bf aX hm => cg0 (Jbz aX :) ?_
 refine qab r0 rfl ⟨rfl, rfl, (nl rfl), ?_⟩
 exact ro (qah r0 rfl (nl rfl) (eE hm))
 refine qlr rfl ?_
 obtain ⟨aR, hm⟩ := qa2 hm
 refine qoj aR ?_
 refine ro (qca ?_)
 obtain ⟨aT, hm⟩ := qa2 hm
 refine qoj aT ?_
 refine ro (qca ?_)
 obtain ⟨aP, hm⟩ := qa2 hm
 refine qop aP.1 aP.2 ?_
 obtain ⟨aO, aM, hm⟩ := bnd hm
 refine jD (σ := (Int × Int)) [6,7] [0, 1] (fun aN => [(6, .int .i64 aN.1), (7, .int .i64 aN.2)]) (fun aN => []) (fun aN => aN = aO) (And.intro ?_ ?_)
 refine cs rfl rfl aM ?_ ?_ <;> intro aZ aM
 exact eM aM _
 exact eM aM _
 rintro aN rfl aU
 refine cs rfl rfl hm ?_ ?_ <;> intro bb hm
 obtain ⟨aV, hm⟩ := qa2 hm
 refine qoj aV ?_
 refine ci hm fun hm => ?_
 refine cb hm fun a8 aY hm => cg0 (Jbz aY :) ?_
 refine qab r0 rfl ⟨rfl, rfl, (nl rfl), ?_⟩
 exact ro (qah r0 rfl (nl rfl) (eE hm))
 refine ci hm fun hm => ?_
 refine cb hm fun bg aQ hm => cg0 (Jbz aQ :) ?_
 refine qab r0 rfl ⟨rfl, rfl, (nl rfl), ?_⟩
 exact ro (qah r0 rfl (nl rfl) (eE hm))

def JaK (s : Str) (suffix : Str) : Option (Bool) :=
  (if decide ((s.length : Int) ≥ (suffix.length : Int)) then (chk (InI ((s.length : Int) - (suffix.length : Int)))).bind fun _ =>
  (chk (0 ≤ ((s.length : Int) - (suffix.length : Int)) ∧ ((s.length : Int) - (suffix.length : Int)) ≤ (s.length : Int) ∧ (s.length : Int) ≤ (s.length : Int))).bind fun _ =>
  some (decide ((subL s ((s.length : Int) - (suffix.length : Int)) (s.length : Int)) = suffix)) else some false).bind fun aL =>
  some aL
theorem Jcn {s : Str} {suffix : Str} {K : Hp} {r : Bool}
    (hm : JaK s suffix = some r)  :
    Fn Tryz.prog 147 [str s, str suffix] K [] (fun v K' H' => v = .bool r ∧ H' = []) := by
 refine Fn.enter Tryz.func147 Tryz.call147 rfl fun F => ?_
 unfold JaK at hm
 refine qak rfl ?_
 refine ro (qa3 rfl (ro (qa3 rfl ?_)))
 obtain ⟨aP, aM, hm⟩ := bnd hm
 refine cS aM (fun aL aM => ?_) fun aL aM => ?_
 refine ct aL (ct aL (ro (qa3 rfl (ct aL (ct aL (ro (qa3 rfl (ct aL ?_))))))))
 obtain ⟨aN, aM⟩ := qa2 aM
 refine qap aN (ct aL ?_)
 obtain ⟨aO, aM⟩ := qa2 aM
 refine RStep.ofN (qgr (lo := (some ((s.length : Int) - (suffix.length : Int)))) (hi := none) rfl aO (ct aL (ct aL (qat (ct aL ?_)))))
 exact bE (si aM) (eE hm)
 refine cf aL (cf aL (cf aL (cf aL (cf aL (cf aL (cf aL (cf aL ?_)))))))
 refine cf aL ?_
 exact bE (si aM) (eE hm)

def JbK (s : Str) (suffix : Str) : Option (Bool) :=
  (JaK s suffix).bind fun x7 =>
  some x7
theorem JdF {s : Str} {suffix : Str} {K : Hp} {r : Bool}
    (hm : JbK s suffix = some r)  :
    Fn Tryz.prog 110 [str s, str suffix] K [] (fun v K' H' => v = .bool r ∧ H' = []) := by
 refine Fn.enter Tryz.func110 Tryz.call110 rfl fun F => ?_
 unfold JbK at hm
 refine cb hm fun x7 q7 hm => cg0 (Jcn q7 :) ?_
 exact eE hm
