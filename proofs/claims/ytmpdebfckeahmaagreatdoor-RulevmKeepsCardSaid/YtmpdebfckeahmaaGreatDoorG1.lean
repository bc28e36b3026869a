/- Functions of the program: mirrors, and that a call returns what the mirror says. Printed by gen.py. -/
import Derived.Test.YtmpdebfckeahmaaGreatDoorShelf
import Derived.Test.YtmpdebfckeahmaaGreatDoorLS
import Derived.KernelRfl
import Derived.Test.YtmpdebfckeahmaaGreatDoorProg
set_option linter.unusedVariables false
set_option linter.unusedSimpArgs false
open Go Go.SL Go.Proofs
noncomputable section
set_option maxRecDepth 1000000
set_option maxHeartbeats 8000000
def J0 : List Str := [[109, 101, 116, 104, 111, 100], [104, 111, 115, 116], [112, 97, 116, 104], [113, 117, 101, 114, 121]]
def JaM : List Str := [[104, 101, 97, 100, 101, 114], [104, 97, 115], [97, 114, 103], [108, 101, 110], [108, 111, 119, 101, 114], [112, 97, 114, 116], [116, 101, 120, 116], [110, 117, 109, 98, 101, 114]]
def JaN : List Str := [[43], [45], [42], [61, 61], [33, 61], [60], [60, 61], [115, 116, 97, 114, 116, 115], [101, 110, 100, 115], [99, 111, 110, 116, 97, 105, 110, 115]]
def gkw0 : List Str := [[105, 102], [101, 108, 115, 101], [108, 101, 116], [118, 97, 114, 121], [116, 97, 103], [116, 116, 108], [100, 101, 110, 121], [112, 97, 115, 115], [116, 111, 107, 101, 110], [111, 114], [97, 110, 100], [110, 111, 116], [115, 116, 97, 114, 116, 115], [101, 110, 100, 115], [99, 111, 110, 116, 97, 105, 110, 115], [116, 114, 117, 101], [102, 97, 108, 115, 101]]
structure Jb where
  Ab : Int
  Ac : Str
  Aa : (List Jb)
  Ad : Int
inductive Jb.R (K : Hp) : List Value → Jb → Prop
  | mk {cs : List Value} {x : Jb} (a_0 : Option Addr) (c_0 : Nat) (e : cs = [.int .i64 x.Ab, str x.Ac, .slice a_0 x.Aa.length c_0, .int .i64 x.Ad]) (css0 : List (List Value)) (p0 : RdS K a_0 4 css0) (q0 : css0.length = x.Aa.length) (r0 : x.Aa.length ≤ c_0) (z0 : ∀ (i : Nat) (c : List Value) (y : Jb), css0[i]? = some c → x.Aa[i]? = some y → Jb.R K c y) : Jb.R K cs x
theorem Jb.out {K : Hp} {cs : List Value} {x : Jb} (h : Jb.R K cs x) : ∃ a_0 : Option Addr, ∃ c_0 : Nat, cs = [.int .i64 x.Ab, str x.Ac, .slice a_0 x.Aa.length c_0, .int .i64 x.Ad] ∧ LiC Jb.R K a_0 c_0 4 x.Aa := by
  cases h with
  | mk a_0 c_0 e css0 p0 q0 r0 z0 => exact ⟨a_0, c_0, e, ⟨⟨css0, p0, q0, z0⟩, r0⟩⟩
theorem Jb.of {K : Hp} {cs : List Value} {x : Jb} (h : ∃ a_0 : Option Addr, ∃ c_0 : Nat, cs = [.int .i64 x.Ab, str x.Ac, .slice a_0 x.Aa.length c_0, .int .i64 x.Ad] ∧ LiC Jb.R K a_0 c_0 4 x.Aa) : Jb.R K cs x := by
  obtain ⟨a_0, c_0, e, ⟨⟨aJ, p0, q0, z0⟩, r0⟩⟩ := h
  exact .mk a_0 c_0 e aJ p0 q0 r0 z0
theorem Jb.R_mono {K K' : Hp} (hk : K.Le K') {cs : List Value} {x : Jb} (h : Jb.R K cs x) : Jb.R K' cs x := by
  induction h with
  | mk a_0 c_0 e css0 p0 q0 r0 z0 ih0 => exact .mk a_0 c_0 e css0 (p0.mono hk) q0 r0 (ih0)
theorem Jb.R_ok : RpOK 4 Jb.R := by
  refine ⟨fun hk h => Jb.R_mono hk h, fun h => ?_, fun h v hv => ?_⟩
  · obtain ⟨a_0, c_0, e, aJ⟩ := Jb.out h; simp [e]
  · obtain ⟨a_0, c_0, e, aJ⟩ := Jb.out h; rw [e] at hv; simp at hv; rcases hv with rfl | rfl | rfl | rfl <;> rfl
instance : RpI 4 Jb.R := ⟨Jb.R_ok⟩
structure Jh where
  Name : Str
  Value : Str
abbrev Jh.enc (x : Jh) : List Go.Value := [str x.Name, str x.Value]
structure Js where
  Am : Str
  An : Str
  Ae : Str
  Af : Str
  Ao : (List Jh)
def Js.R : Rp Js := fun K cs x => ∃ a_0 : Option Addr, ∃ c_0 : Nat, cs = [str x.Am, str x.An, str x.Ae, str x.Af, .slice a_0 x.Ao.length c_0] ∧ RdC Jh.enc K a_0 c_0 2 x.Ao
theorem Js.R_ok : RpOK 5 Js.R :=
  ⟨fun hk ⟨a_0, c_0, e, h_0⟩ => ⟨a_0, c_0, e, (h_0.mono hk)⟩, fun ⟨a_0, c_0, e, h_0⟩ => by simp [e], fun ⟨a_0, c_0, e, h_0⟩ v hv => by rw [e] at hv; simp at hv; rcases hv with rfl | rfl | rfl | rfl | rfl <;> rfl⟩
instance : RpI 5 Js.R := ⟨Js.R_ok⟩
structure Jj where
  Op : Int
  N : Int
  S : Str
abbrev Jj.enc (x : Jj) : List Go.Value := [.int .i64 x.Op, .int .i64 x.N, str x.S]
structure Jc where
  Name : Str
  Value : Str
abbrev Jc.enc (x : Jc) : List Go.Value := [str x.Name, str x.Value]
structure JB where
  Am : Str
  An : Str
  Ae : Str
  Af : Str
  Ao : (List Jc)
def JB.R : Rp JB := fun K cs x => ∃ a_0 : Option Addr, ∃ c_0 : Nat, cs = [str x.Am, str x.An, str x.Ae, str x.Af, .slice a_0 x.Ao.length c_0] ∧ RdC Jc.enc K a_0 c_0 2 x.Ao
theorem JB.R_ok : RpOK 5 JB.R :=
  ⟨fun hk ⟨a_0, c_0, e, h_0⟩ => ⟨a_0, c_0, e, (h_0.mono hk)⟩, fun ⟨a_0, c_0, e, h_0⟩ => by simp [e], fun ⟨a_0, c_0, e, h_0⟩ v hv => by rw [e] at hv; simp at hv; rcases hv with rfl | rfl | rfl | rfl | rfl <;> rfl⟩
instance : RpI 5 JB.R := ⟨JB.R_ok⟩
structure Je where
  Ae : Str
  Af : Str
  Ag : (List Jc)
  Vary : (List Str)
  Ah : (List Str)
  TTL : Int
  Ai : Int
  Aj : Int
  Ak : Bool
  Al : Bool
def Je.R : Rp Je := fun K cs x => ∃ a_0 : Option Addr, ∃ c_0 : Nat, ∃ a_1 : Option Addr, ∃ c_1 : Nat, ∃ a_2 : Option Addr, ∃ c_2 : Nat, cs = [str x.Ae, str x.Af, .slice a_0 x.Ag.length c_0, .slice a_1 x.Vary.length c_1, .slice a_2 x.Ah.length c_2, .int .i64 x.TTL, .int .i64 x.Ai, .int .i64 x.Aj, .bool x.Ak, .bool x.Al] ∧ RdC Jc.enc K a_0 c_0 2 x.Ag ∧ RdC eS K a_1 c_1 1 x.Vary ∧ RdC eS K a_2 c_2 1 x.Ah
theorem Je.R_ok : RpOK 10 Je.R :=
  ⟨fun hk ⟨a_0, c_0, a_1, c_1, a_2, c_2, e, h_0, h_1, h_2⟩ => ⟨a_0, c_0, a_1, c_1, a_2, c_2, e, (h_0.mono hk), (h_1.mono hk), (h_2.mono hk)⟩, fun ⟨a_0, c_0, a_1, c_1, a_2, c_2, e, h_0, h_1, h_2⟩ => by simp [e], fun ⟨a_0, c_0, a_1, c_1, a_2, c_2, e, h_0, h_1, h_2⟩ v hv => by rw [e] at hv; simp at hv; rcases hv with rfl | rfl | rfl | rfl | rfl | rfl | rfl | rfl | rfl | rfl <;> rfl⟩
instance : RpI 10 Je.R := ⟨Je.R_ok⟩
structure JaJ where
  f0 : Int
  f1 : Int
  f2 : Int
  f3 : Int
  f4 : Int
  f5 : Int
  f6 : Int
  f7 : Int
abbrev JaJ.enc (x : JaJ) : List Go.Value := [.int .u64 x.f0, .int .u64 x.f1, .int .u64 x.f2, .int .u64 x.f3, .int .u64 x.f4, .int .u64 x.f5, .int .u64 x.f6, .int .u64 x.f7]
structure Jm where
  Av : Bool
  depth : Int
  Au : JaJ
abbrev Jm.enc (x : Jm) : List Go.Value := [.bool x.Av, .int .i64 x.depth, .int .u64 x.Au.f0, .int .u64 x.Au.f1, .int .u64 x.Au.f2, .int .u64 x.Au.f3, .int .u64 x.Au.f4, .int .u64 x.Au.f5, .int .u64 x.Au.f6, .int .u64 x.Au.f7]
structure Jd where
  kind : Int
  n : Int
  s : Str
  At : Bool
abbrev Jd.enc (x : Jd) : List Go.Value := [.int .i64 x.kind, .int .i64 x.n, str x.s, .bool x.At]
structure Jf where
  Ar : JB
  most : Int
  result : Je
  stack : (List Jd)
  Ap : (List Jd)
structure Jbs where
  An : Str
  Ae : Str
  Af : Str
  HasQuery : Bool
abbrev Jbs.enc (x : Jbs) : List Go.Value := [str x.An, str x.Ae, str x.Af, .bool x.HasQuery]
structure Ja where
  Ab : Int
  Ac : Str
  Aa : (List Ja)
  Ad : Int
inductive Ja.R (K : Hp) : List Value → Ja → Prop
  | mk {cs : List Value} {x : Ja} (a_0 : Option Addr) (c_0 : Nat) (e : cs = [.int .i64 x.Ab, str x.Ac, .slice a_0 x.Aa.length c_0, .int .i64 x.Ad]) (css0 : List (List Value)) (p0 : RdS K a_0 4 css0) (q0 : css0.length = x.Aa.length) (r0 : x.Aa.length ≤ c_0) (z0 : ∀ (i : Nat) (c : List Value) (y : Ja), css0[i]? = some c → x.Aa[i]? = some y → Ja.R K c y) : Ja.R K cs x
theorem Ja.out {K : Hp} {cs : List Value} {x : Ja} (h : Ja.R K cs x) : ∃ a_0 : Option Addr, ∃ c_0 : Nat, cs = [.int .i64 x.Ab, str x.Ac, .slice a_0 x.Aa.length c_0, .int .i64 x.Ad] ∧ LiC Ja.R K a_0 c_0 4 x.Aa := by
  cases h with
  | mk a_0 c_0 e css0 p0 q0 r0 z0 => exact ⟨a_0, c_0, e, ⟨⟨css0, p0, q0, z0⟩, r0⟩⟩
theorem Ja.of {K : Hp} {cs : List Value} {x : Ja} (h : ∃ a_0 : Option Addr, ∃ c_0 : Nat, cs = [.int .i64 x.Ab, str x.Ac, .slice a_0 x.Aa.length c_0, .int .i64 x.Ad] ∧ LiC Ja.R K a_0 c_0 4 x.Aa) : Ja.R K cs x := by
  obtain ⟨a_0, c_0, e, ⟨⟨aJ, p0, q0, z0⟩, r0⟩⟩ := h
  exact .mk a_0 c_0 e aJ p0 q0 r0 z0
theorem Ja.R_mono {K K' : Hp} (hk : K.Le K') {cs : List Value} {x : Ja} (h : Ja.R K cs x) : Ja.R K' cs x := by
  induction h with
  | mk a_0 c_0 e css0 p0 q0 r0 z0 ih0 => exact .mk a_0 c_0 e css0 (p0.mono hk) q0 r0 (ih0)
theorem Ja.R_ok : RpOK 4 Ja.R := by
  refine ⟨fun hk h => Ja.R_mono hk h, fun h => ?_, fun h v hv => ?_⟩
  · obtain ⟨a_0, c_0, e, aJ⟩ := Ja.out h; simp [e]
  · obtain ⟨a_0, c_0, e, aJ⟩ := Ja.out h; rw [e] at hv; simp at hv; rcases hv with rfl | rfl | rfl | rfl <;> rfl
instance : RpI 4 Ja.R := ⟨Ja.R_ok⟩
structure JA where
  Ab : Int
  Ac : Str
  Ad : Int
  Column : Int
abbrev JA.enc (x : JA) : List Go.Value := [.int .i64 x.Ab, str x.Ac, .int .i64 x.Ad, .int .i64 x.Column]
structure Jl where
  line : Int
  err : Err
abbrev Jl.enc (x : Jl) : List Go.Value := [.int .i64 x.line, qcu 87 x.err]
structure Jk where
  Name : Str
  As : Int
abbrev Jk.enc (x : Jk) : List Go.Value := [str x.Name, .int .i64 x.As]
structure Jn where
  Ar : JB
  result : Je
  Aq : Bool
def Jn.R : Rp Jn := fun K cs x => ∃ a_0 : Option Addr, ∃ c_0 : Nat, ∃ a_1 : Option Addr, ∃ c_1 : Nat, ∃ a_2 : Option Addr, ∃ c_2 : Nat, ∃ a_3 : Option Addr, ∃ c_3 : Nat, cs = [str x.Ar.Am, str x.Ar.An, str x.Ar.Ae, str x.Ar.Af, .slice a_0 x.Ar.Ao.length c_0, str x.result.Ae, str x.result.Af, .slice a_1 x.result.Ag.length c_1, .slice a_2 x.result.Vary.length c_2, .slice a_3 x.result.Ah.length c_3, .int .i64 x.result.TTL, .int .i64 x.result.Ai, .int .i64 x.result.Aj, .bool x.result.Ak, .bool x.result.Al, .bool x.Aq] ∧ RdC Jc.enc K a_0 c_0 2 x.Ar.Ao ∧ RdC Jc.enc K a_1 c_1 2 x.result.Ag ∧ RdC eS K a_2 c_2 1 x.result.Vary ∧ RdC eS K a_3 c_3 1 x.result.Ah
theorem Jn.R_ok : RpOK 16 Jn.R :=
  ⟨fun hk ⟨a_0, c_0, a_1, c_1, a_2, c_2, a_3, c_3, e, h_0, h_1, h_2, h_3⟩ => ⟨a_0, c_0, a_1, c_1, a_2, c_2, a_3, c_3, e, (h_0.mono hk), (h_1.mono hk), (h_2.mono hk), (h_3.mono hk)⟩, fun ⟨a_0, c_0, a_1, c_1, a_2, c_2, a_3, c_3, e, h_0, h_1, h_2, h_3⟩ => by simp [e], fun ⟨a_0, c_0, a_1, c_1, a_2, c_2, a_3, c_3, e, h_0, h_1, h_2, h_3⟩ v hv => by rw [e] at hv; simp at hv; rcases hv with rfl | rfl | rfl | rfl | rfl | rfl | rfl | rfl | rfl | rfl | rfl | rfl | rfl | rfl | rfl | rfl <;> rfl⟩
instance : RpI 16 Jn.R := ⟨Jn.R_ok⟩
structure Jy where
  name : Str
  value : Jd
abbrev Jy.enc (x : Jy) : List Go.Value := [str x.name, .int .i64 x.value.kind, .int .i64 x.value.n, str x.value.s, .bool x.value.At]
structure Ji where
  Ae : Str
  Af : Str
  Ag : (List Jh)
  Vary : (List Str)
  Ah : (List Str)
  TTL : Int
  Ai : Int
  Aj : Int
  Ak : Bool
  Al : Bool
def Ji.R : Rp Ji := fun K cs x => ∃ a_0 : Option Addr, ∃ c_0 : Nat, ∃ a_1 : Option Addr, ∃ c_1 : Nat, ∃ a_2 : Option Addr, ∃ c_2 : Nat, cs = [str x.Ae, str x.Af, .slice a_0 x.Ag.length c_0, .slice a_1 x.Vary.length c_1, .slice a_2 x.Ah.length c_2, .int .i64 x.TTL, .int .i64 x.Ai, .int .i64 x.Aj, .bool x.Ak, .bool x.Al] ∧ RdC Jh.enc K a_0 c_0 2 x.Ag ∧ RdC eS K a_1 c_1 1 x.Vary ∧ RdC eS K a_2 c_2 1 x.Ah
theorem Ji.R_ok : RpOK 10 Ji.R :=
  ⟨fun hk ⟨a_0, c_0, a_1, c_1, a_2, c_2, e, h_0, h_1, h_2⟩ => ⟨a_0, c_0, a_1, c_1, a_2, c_2, e, (h_0.mono hk), (h_1.mono hk), (h_2.mono hk)⟩, fun ⟨a_0, c_0, a_1, c_1, a_2, c_2, e, h_0, h_1, h_2⟩ => by simp [e], fun ⟨a_0, c_0, a_1, c_1, a_2, c_2, e, h_0, h_1, h_2⟩ v hv => by rw [e] at hv; simp at hv; rcases hv with rfl | rfl | rfl | rfl | rfl | rfl | rfl | rfl | rfl | rfl <;> rfl⟩
instance : RpI 10 Ji.R := ⟨Ji.R_ok⟩
theorem qu0 : ElT Tryz.prog 38 54 3 := ElT.mk' rfl rfl rfl rfl rfl
theorem qte : ElT Tryz.prog 200 204 10 := ElT.mk' rfl rfl rfl rfl rfl
theorem qb2 : ElT Tryz.prog 130 5 1 := ElT.mk' rfl rfl rfl rfl rfl
theorem qtf : ElT Tryz.prog 93 95 4 := ElT.mk' rfl rfl rfl rfl rfl
theorem qfk : ElT Tryz.prog 31 9 1 := ElT.mk' rfl rfl rfl rfl rfl
theorem qhx : ElT Tryz.prog 30 77 2 := ElT.mk' rfl rfl rfl rfl rfl
theorem qrn : ElT Tryz.prog 66 68 4 := ElT.mk' rfl rfl rfl rfl rfl
theorem qj3 : ElT Tryz.prog 265 269 4 := ElT.mk' rfl rfl rfl rfl rfl
theorem qqh : ElT Tryz.prog 150 3 1 := ElT.mk' rfl rfl rfl rfl rfl
theorem qj4 : ElT Tryz.prog 195 233 2 := ElT.mk' rfl rfl rfl rfl rfl
theorem qqi : ElT Tryz.prog 173 177 5 := ElT.mk' rfl rfl rfl rfl rfl
theorem qos : ElT Tryz.prog 23 90 2 := ElT.mk' rfl rfl rfl rfl rfl
def GG (K : Hp) : Prop := (GlL eS 1 0 J0 K) ∧ (GlL eS 1 1 JaM K) ∧ (GlL eS 1 2 JaN K) ∧ (GlN 3 K) ∧ (GlL eS 1 4 gkw0 K) ∧ (GlA 5 (Go.Lib.pow10Tab.map fun z => Value.int .u64 z) K)
theorem GG.of {K : Hp} (h : (GlL eS 1 0 J0 K) ∧ (GlL eS 1 1 JaM K) ∧ (GlL eS 1 2 JaN K) ∧ (GlN 3 K) ∧ (GlL eS 1 4 gkw0 K) ∧ (GlA 5 (Go.Lib.pow10Tab.map fun z => Value.int .u64 z) K)) : GG K := h
theorem GG.mono {K K' : Hp} (h : GG K) (hk : K.Le K') : GG K' := ⟨h.1.mono hk, h.2.1.mono hk, h.2.2.1.mono hk, h.2.2.2.1.mono hk, h.2.2.2.2.1.mono hk, h.2.2.2.2.2.mono hk⟩
theorem gg0 {K : Hp} (h : GG K) : GlL eS 1 0 J0 K := h.1
theorem gg1 {K : Hp} (h : GG K) : GlL eS 1 1 JaM K := h.2.1
theorem gg2 {K : Hp} (h : GG K) : GlL eS 1 2 JaN K := h.2.2.1
theorem gg3 {K : Hp} (h : GG K) : GlN 3 K := h.2.2.2.1
theorem gg4 {K : Hp} (h : GG K) : GlL eS 1 4 gkw0 K := h.2.2.2.2.1
theorem gg5 {K : Hp} (h : GG K) : GlA 5 (Go.Lib.pow10Tab.map fun z => Value.int .u64 z) K := h.2.2.2.2.2
def Jal : List UInt8 → Nat → Str → Option (Fl (Str × Err) (Str))
  | [], _, ab => some (Fl.go ab)
  | e0 :: aK, i0, ab =>
    (if decide ((e0.toNat : Int) < 32) then some true else some (decide ((e0.toNat : Int) > 126))).bind fun aJ =>
    if aJ then
    some (Fl.ret (([] : Str), (some 2)))
    else
    (if decide ((e0.toNat : Int) = 34) then some true else some (decide ((e0.toNat : Int) = 92))).bind fun aL =>
    if aL then
    (chk (ab.length + ([(92 : UInt8)] : Str).length ≤ lim)).bind fun _ =>
    (chk ((ab ++ ([(92 : UInt8)] : Str)).length + ([e0] : Str).length ≤ lim)).bind fun _ =>
    Jal aK (i0 + 1) ((ab ++ ([(92 : UInt8)] : Str)) ++ ([e0] : Str))
    else
    (chk (ab.length + ([e0] : Str).length ≤ lim)).bind fun _ =>
    Jal aK (i0 + 1) (ab ++ ([e0] : Str))
def JbN (s : Str) : Option (Str × Err) :=
  (chk (s.length ≤ qav)).bind fun _ =>
  (Jal s 0 ([(34 : UInt8)] : Str)).bind fun s0 => s0.el some fun t0 =>
  (chk (t0.length + ([(34 : UInt8)] : Str).length ≤ lim)).bind fun _ =>
  some ((t0 ++ ([(34 : UInt8)] : Str)), none)
theorem Jdd {s : Str} {K : Hp} {r : Str × Err}
    (hm : JbN s = some r)  :
    Fn Tryz.prog 173 [str s] K [] (fun v K' H' => v = .tuple #[str r.1, qcu 87 r.2] ∧ H' = []) := by
 refine Fn.enter Tryz.func173 Tryz.call173 rfl fun F => ?_
 unfold JbN at hm
 refine bsO (len := 1) (enc := eU) (l := ([(34 : UInt8)] : Str)) (cl := [.int .u8 34]) qb2 rfl rfl (fun _ _ => rfl) rfl rfl rfl ?_ fun b6 => ?_
 · conv => whnf
   refine cT ?_
   first | done | rfl
 refine ro (qa2 rfl ?_)
 obtain ⟨aW, hm⟩ := qa7 hm
 obtain ⟨s0, aJ, hm⟩ := bnd hm
 refine lD (σ := (Str) × Option Addr × Nat) ([2,3,4,5] ++ rg 9 34) [1] (fun i0 => [(9, .int .i64 (i0 : Int))]) (fun (t0, aM, aN) => [(4, .slice aM t0.length aN)]) (fun (t0, aM, aN) => [OwnL eU aM 5 1 aN t0]) (fun (t0, aM, aN) => (0 < t0.length → Has aM) ∧ True) (fun i0 (t0, aM, aN) => Jal (s.drop i0) i0 t0 = some s0) (fun (t0, aM, aN) => s0 = Fl.go t0) (fun i0 => s.length - i0) 0 (_, _, _) aJ (And.intro qe (And.intro ?_ ?_))
 clear aJ
 rintro i0 ⟨ab, bf, a6⟩ ⟨aX, _⟩ aJ j0
 conv at aJ => whnf
 refine qad rfl ?_
 refine qag ?_ ?_ <;> intro w0
 obtain ⟨e0, aP, bo⟩ := ltx w0
 rw [bo, Jal.eq_2] at aJ
 refine qak rfl ?_
 obtain ⟨aV, aO, aJ⟩ := bnd aJ
 refine jR (σ := Bool) (rg 12 10) (fun aQ => [(21, .bool aQ)]) (fun aQ => aQ = aV) ?_ ?_
 replace aO := bsm aO
 refine qaj rfl ?_
 refine qba rfl (nn _) aP ?_
 obtain ⟨bv, aT, aO⟩ := bnd aO
 refine cS aT (fun aL aT => ?_) fun aL aT => ?_
 refine ct aL (ct aL (ct aL (ct aL ?_)))
 exact eMq aO _ ⟨bq (si aT), trivial⟩
 refine cf aL (cf aL (qba rfl (nn _) aP (cf aL (cf aL ?_))))
 exact eMq aO _ ⟨bq (si aT), trivial⟩
 rintro aQ rfl bp
 refine cs rfl rfl aJ ?_ ?_ <;> intro bt aJ
 refine qa3 rfl ?_
 exact eE (er aJ hm)
 refine qaj rfl ?_
 refine qba rfl (nn _) aP (qaf ?_)
 obtain ⟨bw, aR, aJ⟩ := bnd aJ
 refine cS aR (fun aK aR => ?_) fun aK aR => ?_
 refine ct aK (ct aK (ct aK (ct aK (qad rfl (cT ?_)))))
 replace aJ := ift (si aR).symm aJ
 refine bsO (len := 1) (enc := eU) (l := ([(92 : UInt8)] : Str)) (cl := [.int .u8 92]) qb2 rfl rfl (fun _ _ => rfl) rfl rfl rfl ?_ fun bn => ?_
 · conv => whnf
   refine cT ?_
   first | done | rfl
 obtain ⟨aU, aJ⟩ := qa7 aJ
 refine apE rfl r1 qb2 (qa6 rfl r0 rfl (fun _ => rfl) (fun _ => rfl)) aU ?_
 intro bm bh bj
 refine qba rfl (nn _) aP ?_
 refine bsO (len := 1) (enc := eU) (l := ([e0] : Str)) (cl := [.int .u8 (e0.toNat : Int)]) qb2 rfl rfl (fun _ _ => rfl) rfl rfl rfl ?_ fun bb => ?_
 · conv => whnf
   refine cT ?_
   first | done | rfl
 obtain ⟨aS, aJ⟩ := qa7 aJ
 refine apE rfl r1 qb2 (qa6 rfl r0 rfl (fun _ => rfl) (fun _ => rfl)) aS ?_
 intro aZ a8 bc
 refine qat (qcl aP aW) ?_
 exact eR aJ (_, _, _, _)
 refine cf aK (cf aK (qba rfl (nn _) aP (cf aK (qaf (cf aK (qad rfl ?_))))))
 refine qag ?_ ?_ <;> intro ba
 replace aJ := ift ((si aR).symm.trans ba) aJ
 refine bsO (len := 1) (enc := eU) (l := ([(92 : UInt8)] : Str)) (cl := [.int .u8 92]) qb2 rfl rfl (fun _ _ => rfl) rfl rfl rfl ?_ fun bn => ?_
 · conv => whnf
   refine cT ?_
   first | done | rfl
 obtain ⟨aU, aJ⟩ := qa7 aJ
 refine apE rfl r1 qb2 (qa6 rfl r0 rfl (fun _ => rfl) (fun _ => rfl)) aU ?_
 intro bm bh bj
 refine qba rfl (nn _) aP ?_
 refine bsO (len := 1) (enc := eU) (l := ([e0] : Str)) (cl := [.int .u8 (e0.toNat : Int)]) qb2 rfl rfl (fun _ _ => rfl) rfl rfl rfl ?_ fun bb => ?_
 · conv => whnf
   refine cT ?_
   first | done | rfl
 obtain ⟨aS, aJ⟩ := qa7 aJ
 refine apE rfl r1 qb2 (qa6 rfl r0 rfl (fun _ => rfl) (fun _ => rfl)) aS ?_
 intro aZ a8 bc
 refine qat (qcl aP aW) ?_
 exact eR aJ (_, _, _, _)
 replace aJ := qbp ((si aR).symm.trans ba) aJ
 refine qba rfl (nn _) aP ?_
 refine bsO (len := 1) (enc := eU) (l := ([e0] : Str)) (cl := [.int .u8 (e0.toNat : Int)]) qb2 rfl rfl (fun _ _ => rfl) rfl rfl rfl ?_ fun bb => ?_
 · conv => whnf
   refine cT ?_
   first | done | rfl
 obtain ⟨aS, aJ⟩ := qa7 aJ
 refine apE rfl r1 qb2 (qa6 rfl r0 rfl (fun _ => rfl) (fun _ => rfl)) aS ?_
 intro aZ a8 bc
 refine qat (qcl aP aW) ?_
 exact eR aJ (_, _, _, _)
 rw [lty w0, Jal.eq_1] at aJ
 refine cT ?_
 exact eM aJ (_, _, _)
 rintro ⟨t0, aM, aN⟩ ⟨aY, _⟩ rfl j0
 replace hm := elg hm
 refine bsO (len := 1) (enc := eU) (l := ([(34 : UInt8)] : Str)) (cl := [.int .u8 34]) qb2 rfl rfl (fun _ _ => rfl) rfl rfl rfl ?_ fun bu => ?_
 · conv => whnf
   refine cT ?_
   first | done | rfl
 obtain ⟨bg, hm⟩ := qa7 hm
 refine apE rfl r1 qb2 (qa6 rfl r0 rfl (fun _ => rfl) (fun _ => rfl)) bg ?_
 intro br bA bz
 refine ro (qhl rfl r0 rfl rfl rfl ?_)
 exact eE hm

def Jbg (s : Str) : Option (Bool) :=
  (JbN s).bind fun x7 =>
  some x7.2.isNone
theorem JbH {s : Str} {K : Hp} {r : Bool}
    (hm : Jbg s = some r)  :
    Fn Tryz.prog 140 [str s] K [] (fun v K' H' => v = .bool r ∧ H' = []) := by
 refine Fn.enter Tryz.func140 Tryz.call140 rfl fun F => ?_
 unfold Jbg at hm
 refine cb hm fun x7 q7 hm => cg0 (Jdd q7 :) ?_
 refine qf0 rfl ?_
 exact eE hm

def JR (v' : Str) : List Str → Nat → Option (Fl (Int) (Unit))
  | [], _ => some (Fl.go ())
  | e0 :: aJ, i0 =>
    if decide (v' = e0) then
    some (Fl.ret (i0 : Int))
    else
    JR v' aJ (i0 + 1)
def Ja8 (s : (List Str)) (v' : Str) : Option (Int) :=
  (chk (s.length ≤ qav)).bind fun _ =>
  (JR v' s 0).bind fun s0 => s0.el some fun t0 =>
  some (-1)
theorem Jdk {s : (List Str)} {v' : Str} {aa : Option Addr} {ac : Nat} {n0 : Nat} {K : Hp} {r : Int}
    (hm : Ja8 s v' = some r) (hX : RdC eS K aa ac 1 s ∧ n0 = s.length) :
    Fn Tryz.prog 149 [.slice aa n0 ac, str v'] K [] (fun v K' H' => v = .int .i64 r ∧ H' = []) := by
 obtain ⟨ae, aL⟩ := hX
 subst aL
 refine Fn.enter Tryz.func149 Tryz.call149 rfl fun F => ?_
 unfold Ja8 at hm
 refine ro (qai rfl ?_)
 obtain ⟨aM, hm⟩ := qa7 hm
 obtain ⟨s0, aJ, hm⟩ := bnd hm
 refine lD (σ := (Unit)) ([4,5] ++ rg 8 11) [0] (fun i0 => [(8, .int .i64 (i0 : Int))]) (fun _ => []) (fun _ => []) (fun _ => True) (fun i0 _ => JR v' (s.drop i0) i0 = some s0) (fun t0 => s0 = Fl.go t0) (fun i0 => s.length - i0) 0 () aJ (And.intro qe (And.intro ?_ ?_))
 clear aJ
 rintro i0 _ _ aJ j0
 conv at aJ => whnf
 refine qad rfl ?_
 refine qag ?_ ?_ <;> intro w0
 obtain ⟨e0, aK, aN⟩ := ltx w0
 rw [aN, JR.eq_2] at aJ
 refine qak rfl ?_
 refine RStep.ofN (qac rfl rfl (qdg ae.rd aK) (nn _) (qbs aK) (ro (qcq i0 0 _ _ ae.rd rfl (mp aK) rfl rfl (qar ?_))))
 refine cs rfl rfl aJ ?_ ?_ <;> intro aO aJ
 exact eE (er aJ hm)
 refine qat (qcl aK aM) ?_
 exact eR aJ (_, ())
 rw [lty w0, JR.eq_1] at aJ
 refine cT ?_
 exact eM aJ _
 rintro t0 _ rfl j0
 replace hm := elg hm
 exact eE hm

def JG (s : (List Str)) (v' : Str) : Option (Bool) :=
  (Ja8 s v').bind fun x7 =>
  some (decide (x7 ≥ 0))
theorem J9 {s : (List Str)} {v' : Str} {aa : Option Addr} {ac : Nat} {n0 : Nat} {K : Hp} {r : Bool}
    (hm : JG s v' = some r) (hX : RdC eS K aa ac 1 s ∧ n0 = s.length) :
    Fn Tryz.prog 113 [.slice aa n0 ac, str v'] K [] (fun v K' H' => v = .bool r ∧ H' = []) := by
 obtain ⟨ae, aJ⟩ := hX
 subst aJ
 refine Fn.enter Tryz.func113 Tryz.call113 rfl fun F => ?_
 unfold JG at hm
 refine cb hm fun x7 q7 hm => cgx (Jdk q7 :) ?_
 exact eE hm

def J5 (s : Str) (prefixZ : Str) : Option (Bool) :=
  (if decide ((s.length : Int) ≥ (prefixZ.length : Int)) then (chk (0 ≤ (0 : Int) ∧ (0 : Int) ≤ (prefixZ.length : Int) ∧ (prefixZ.length : Int) ≤ (s.length : Int))).bind fun _ =>
  some (decide ((subL s (0 : Int) (prefixZ.length : Int)) = prefixZ)) else some false).bind fun aJ =>
  some aJ
theorem Jbh {s : Str} {prefixZ : Str} {K : Hp} {r : Bool}
    (hm : J5 s prefixZ = some r)  :
    Fn Tryz.prog 112 [str s, str prefixZ] K [] (fun v K' H' => v = .bool r ∧ H' = []) := by
 refine Fn.enter Tryz.func112 Tryz.call112 rfl fun F => ?_
 unfold J5 at hm
 refine qaj rfl ?_
 refine ro (qa2 rfl (ro (qa2 rfl ?_)))
 obtain ⟨aM, aK, hm⟩ := bnd hm
 refine cS aK (fun aJ aK => ?_) fun aJ aK => ?_
 refine ct aJ (ct aJ (ro (qa2 rfl (ct aJ ?_))))
 obtain ⟨aL, aK⟩ := qa7 aK
 refine RStep.ofN (qf2 (lo := none) (hi := (some (prefixZ.length : Int))) rfl aL (ct aJ (ct aJ (qar (ct aJ ?_)))))
 exact bE (si aK) (eE hm)
 refine cf aJ (cf aJ (cf aJ (cf aJ (cf aJ (cf aJ ?_)))))
 exact bE (si aK) (eE hm)

def JaQ (s : Str) (prefixZ : Str) : Option (Str × Bool) :=
  (J5 s prefixZ).bind fun x8 =>
  if (!x8) then
  some (s, false)
  else
  (chk (0 ≤ (prefixZ.length : Int) ∧ (prefixZ.length : Int) ≤ (s.length : Int) ∧ (s.length : Int) ≤ (s.length : Int))).bind fun _ =>
  some ((subL s (prefixZ.length : Int) (s.length : Int)), true)
theorem Jb6 {s : Str} {prefixZ : Str} {K : Hp} {r : Str × Bool}
    (hm : JaQ s prefixZ = some r)  :
    Fn Tryz.prog 200 [str s, str prefixZ] K [] (fun v K' H' => v = .tuple #[str r.1, .bool r.2] ∧ H' = []) := by
 refine Fn.enter Tryz.func200 Tryz.call200 rfl fun F => ?_
 unfold JaQ at hm
 refine cb hm fun x8 q8 hm => cg0 (Jbh q8 :) ?_
 refine qax ?_
 refine cs rfl rfl hm ?_ ?_ <;> intro w9 hm
 exact eE hm
 refine ro (qa2 rfl ?_)
 obtain ⟨aJ, hm⟩ := qa7 hm
 refine RStep.ofN (qf2 (lo := (some (prefixZ.length : Int))) (hi := none) rfl aJ ?_)
 exact eE hm

def JbO (s : Str) (prefixZ : Str) : Option (Str × Bool) :=
  (JaQ s prefixZ).bind fun x8 =>
  some (x8.1, x8.2)
theorem Jcr {s : Str} {prefixZ : Str} {K : Hp} {r : Str × Bool}
    (hm : JbO s prefixZ = some r)  :
    Fn Tryz.prog 174 [str s, str prefixZ] K [] (fun v K' H' => v = .tuple #[str r.1, .bool r.2] ∧ H' = []) := by
 refine Fn.enter Tryz.func174 Tryz.call174 rfl fun F => ?_
 unfold JbO at hm
 refine cb hm fun x8 q8 hm => cg0 (Jb6 q8 :) ?_
 exact eE hm

def Jdn (s : Str) : Option (Int × Bool) :=
  if decide (s = ([112, 97, 116, 104] : Str)) then
  some (1, true)
  else
  if decide (s = ([113, 117, 101, 114, 121] : Str)) then
  some (1, true)
  else
  if decide (s = ([116, 97, 103] : Str)) then
  some (1, true)
  else
  if decide (s = ([116, 116, 108] : Str)) then
  some (1, true)
  else
  if decide (s = ([100, 101, 110, 121] : Str)) then
  some (1, true)
  else
  if decide (s = ([112, 97, 115, 115] : Str)) then
  some (0, true)
  else
  if decide (s = ([116, 111, 107, 101, 110] : Str)) then
  some (0, true)
  else
  (JbO s ([104, 101, 97, 100, 101, 114, 58] : Str)).bind fun aJ =>
  if aJ.2 then
  (Jbg aJ.1).bind fun aL =>
  some (1, aL)
  else
  (JbO s ([118, 97, 114, 121, 58] : Str)).bind fun aK =>
  (if aK.2 then (Jbg aK.1).bind fun aM =>
  some aM else some false).bind fun aN =>
  some (0, aN)
theorem JeC {s : Str} {K : Hp} {r : Int × Bool}
    (hm : Jdn s = some r)  :
    Fn Tryz.prog 141 [str s] K [] (fun v K' H' => v = .tuple #[.int .i64 r.1, .bool r.2] ∧ H' = []) := by
 refine Fn.enter Tryz.func141 Tryz.call141 rfl fun F => ?_
 unfold Jdn at hm
 refine qak rfl ?_
 refine qar (cs rfl rfl hm ?_ ?_) <;> intro w9 hm
 refine qad rfl (ct w9 ?_)
 exact eE hm
 refine qar (cs rfl rfl hm ?_ ?_) <;> intro w9 hm
 refine qad rfl (ct w9 ?_)
 exact eE hm
 refine qar (cs rfl rfl hm ?_ ?_) <;> intro w9 hm
 refine qad rfl (ct w9 ?_)
 exact eE hm
 refine qar (cs rfl rfl hm ?_ ?_) <;> intro w9 hm
 refine qad rfl (ct w9 ?_)
 exact eE hm
 refine qar (cs rfl rfl hm ?_ ?_) <;> intro w9 hm
 exact eE hm
 refine qar (cs rfl rfl hm ?_ ?_) <;> intro aL hm
 refine qad rfl (ct aL ?_)
 exact eE hm
 refine qar (cs rfl rfl hm ?_ ?_) <;> intro aL hm
 exact eE hm
 refine cb hm fun aQ aM hm => cg0 (Jcr aM :) ?_
 refine cs rfl rfl hm ?_ ?_ <;> intro aR hm
 refine cb hm fun aS aN hm => cg0 (JbH aN :) ?_
 exact eE hm
 refine cb hm fun aV aO hm => cg0 (Jcr aO :) ?_
 refine qaj rfl ?_
 obtain ⟨aU, aK, hm⟩ := bnd hm
 refine cS aK (fun aJ aK => ?_) fun aJ aK => ?_
 refine ct aJ ?_
 refine cb aK fun aT aP aK => cg0 (JbH aP :) ?_
 refine ct aJ ?_
 cases hm
 exact en lr ⟨(by rw [← (si aK)] <;> rfl), rfl⟩ (pf rfl)
 refine cf aJ (cf aJ ?_)
 cases hm
 exact en lr ⟨(by rw [← ((si aK).symm).symm] <;> rfl), rfl⟩ (pf rfl)

def JcO (x : Jj) : Option (Int × Int × Bool) :=
  if decide (x.Op = 1) then
  some (0, 1, ((decide (x.S = ([] : Str)) && decide (x.N ≥ 0)) && decide (x.N ≤ 999999999)))
  else
  if decide (x.Op = 2) then
  (if decide (x.N = 0) then (Jbg x.S).bind fun aM =>
  some aM else some false).bind fun aN =>
  some (0, 1, aN)
  else
  if decide (x.Op = 3) then
  some (0, 1, ((decide (x.S = ([] : Str)) && decide (x.N ≥ 0)) && decide (x.N ≤ 511)))
  else
  if decide (x.Op = 4) then
  some (1, 0, ((decide (x.S = ([] : Str)) && decide (x.N ≥ 0)) && decide (x.N ≤ 511)))
  else
  if decide (x.Op = 5) then
  (if decide (x.N = 0) then (JG J0 x.S).bind fun aQ =>
  some aQ else some false).bind fun aL =>
  some (0, 1, aL)
  else
  if decide (x.Op = 6) then
  (if decide (x.N = 0) then (JG JaM x.S).bind fun aR =>
  some aR else some false).bind fun aP =>
  some (1, 1, aP)
  else
  if decide (x.Op = 7) then
  (if decide (x.N = 0) then (JG JaN x.S).bind fun aO =>
  some aO else some false).bind fun aK =>
  some (2, 1, aK)
  else
  if decide (x.Op = 8) then
  some (1, 1, (decide (x.N = 0) && decide (x.S = ([] : Str))))
  else
  if decide (x.Op = 9) then
  some (0, 0, decide (x.S = ([] : Str)))
  else
  if decide (x.Op = 10) then
  some (1, 0, decide (x.S = ([] : Str)))
  else
  if decide (x.Op = 11) then
  (Jdn x.S).bind fun aJ =>
  some (aJ.1, 0, (decide (x.N = 0) && aJ.2))
  else
  if decide (x.Op = 12) then
  some (0, 0, (decide (x.N = 0) && decide (x.S = ([] : Str))))
  else
  some (0, 0, false)
theorem Jd9 {x : Jj} {K : Hp} {r : Int × Int × Bool}
    (hm : JcO x = some r) (hG : GG K) :
    Fn Tryz.prog 100 [.agg #[.int .i64 x.Op, .int .i64 x.N, str x.S]] K [] (fun v K' H' => v = .tuple #[.int .i64 r.1, .int .i64 r.2.1, .bool r.2.2] ∧ H' = []) := by
 obtain ⟨bB, bI, bQ, gn_, bg, bA⟩ := gg0 hG
 subst gn_
 obtain ⟨bO, bS, bv, gn_, aY, bn⟩ := gg1 hG
 subst gn_
 obtain ⟨bV, bJ, bH, gn_, ba, bR⟩ := gg2 hG
 subst gn_
 refine Fn.enter Tryz.func100 Tryz.call100 rfl fun F => ?_
 unfold JcO at hm
 refine qas ?_
 intro b1
 refine fa rfl (ro (ld r0 rfl rfl (qaf (fa rfl (ro (ld r0 rfl rfl (qar ?_)))))))
 refine jR (σ := Unit) ([7] ++ rg 14 11) (fun _ => [(7, .bool ((decide (x.S = ([] : Str)) && decide (x.N ≥ 0)) && decide (x.N ≤ 511)))]) (fun bb => True) ?_ ?_
 refine qaj rfl ?_
 refine qag ?_ ?_ <;> intro aN
 refine fa rfl (ct aN (ro (ld r0 rfl rfl (ct aN (ct aN ?_)))))
 refine qag ?_ ?_ <;> intro aO
 refine fa rfl (ct aO (ro (ld r0 rfl rfl (ct aO (ct aO ?_)))))
 exact eMt () ⟨bq (qdh (b := decide (x.N ≤ 511)) (qb5 aN aO)), trivial⟩
 refine cf aO (cf aO (cf aO ?_))
 exact eMt () ⟨bq (((qa0 (qcs aN aO))).symm), trivial⟩
 refine cf aN (cf aN (cf aN (cF (cF (cF (cF ?_))))))
 exact eMt () ⟨bq (((qa0 (qa0 aN))).symm), trivial⟩
 rintro _ _ bm
 refine fa rfl (ro (ld r0 rfl rfl ?_))
 refine qak rfl ?_
 refine qaf (cs rfl rfl hm ?_ ?_) <;> intro bu hm
 refine qa4 ⟨⟨[], false⟩, _, [(_, _)], []⟩ (by kernel_rfl) ⟨Hp.Le.refl _, (pf rfl), ci0⟩ ?_
 refine qag ?_ ?_ <;> intro aM
 refine fa rfl (ct aM (qao m0 rfl rfl (ct aM (ct aM ?_))))
 refine qag ?_ ?_ <;> intro aP
 refine fa rfl (ct aP (qao m0 rfl rfl (ct aP (ct aP ?_))))
 cases hm
 exact en lr ⟨(by rw [← (qdh (b := decide (x.N ≤ 999999999)) (qb5 aM aP))] <;> rfl), rfl⟩ (sc [1] rfl)
 refine cf aP (cf aP (cf aP ?_))
 cases hm
 exact en lr ⟨(by rw [← ((qa0 (qcs aM aP))).symm] <;> rfl), rfl⟩ (sc [1] rfl)
 refine cf aM (cf aM (cf aM (cF (cF (cF (cF ?_))))))
 cases hm
 exact en lr ⟨(by rw [← ((qa0 (qa0 aM))).symm] <;> rfl), rfl⟩ (sc [1] rfl)
 refine qaf (cs rfl rfl hm ?_ ?_) <;> intro bF hm
 refine qaj rfl ?_
 obtain ⟨bC, aV, hm⟩ := bnd hm
 refine cS aV (fun aS aV => ?_) fun aS aV => ?_
 refine fa rfl (ct aS (ro (ld r0 rfl rfl (ct aS ?_))))
 refine cb aV fun bt a6 aV => cg0 (JbH a6 :) ?_
 refine ct aS ?_
 cases hm
 exact en lr ⟨(by rw [← (si aV)] <;> rfl), rfl⟩ (sc [1] rfl)
 refine cf aS (cf aS (cf aS ?_))
 cases hm
 exact en lr ⟨(by rw [← ((si aV).symm).symm] <;> rfl), rfl⟩ (sc [1] rfl)
 refine qaf (cs rfl rfl hm ?_ ?_) <;> intro br hm
 exact eE hm
 refine qaf (cs rfl rfl hm ?_ ?_) <;> intro bW hm
 exact eE hm
 refine qaf (cs rfl rfl hm ?_ ?_) <;> intro bK hm
 refine qaj rfl ?_
 obtain ⟨bT, aX, hm⟩ := bnd hm
 refine cS aX (fun aK aX => ?_) fun aK aX => ?_
 refine ro (qkf bg rfl (ct aK (fa rfl (ct aK (ro (ld r0 rfl rfl (ct aK ?_)))))))
 refine cb aX fun bG bh aX => cgx (J9 bh :) ?_
 refine ct aK ?_
 cases hm
 exact en lr ⟨(by rw [← (si aX)] <;> rfl), rfl⟩ (sc [1] rfl)
 refine cf aK (cf aK (cf aK (cf aK ?_)))
 cases hm
 exact en lr ⟨(by rw [← ((si aX).symm).symm] <;> rfl), rfl⟩ (sc [1] rfl)
 refine qaf (cs rfl rfl hm ?_ ?_) <;> intro bU hm
 refine qaj rfl ?_
 obtain ⟨bw, aW, hm⟩ := bnd hm
 refine cS aW (fun aJ aW => ?_) fun aJ aW => ?_
 refine ro (qkf aY rfl (ct aJ (fa rfl (ct aJ (ro (ld r0 rfl rfl (ct aJ ?_)))))))
 refine cb aW fun bz a8 aW => cgx (J9 a8 :) ?_
 refine ct aJ ?_
 cases hm
 exact en lr ⟨(by rw [← (si aW)] <;> rfl), rfl⟩ (sc [1] rfl)
 refine cf aJ (cf aJ (cf aJ (cf aJ ?_)))
 cases hm
 exact en lr ⟨(by rw [← ((si aW).symm).symm] <;> rfl), rfl⟩ (sc [1] rfl)
 refine qaf (cs rfl rfl hm ?_ ?_) <;> intro bL hm
 refine qaj rfl ?_
 obtain ⟨bP, aU, hm⟩ := bnd hm
 refine cS aU (fun aL aU => ?_) fun aL aU => ?_
 refine ro (qkf ba rfl (ct aL (fa rfl (ct aL (ro (ld r0 rfl rfl (ct aL ?_)))))))
 refine cb aU fun bD bj aU => cgx (J9 bj :) ?_
 refine ct aL ?_
 cases hm
 exact en lr ⟨(by rw [← (si aU)] <;> rfl), rfl⟩ (sc [1] rfl)
 refine cf aL (cf aL (cf aL (cf aL ?_)))
 cases hm
 exact en lr ⟨(by rw [← ((si aU).symm).symm] <;> rfl), rfl⟩ (sc [1] rfl)
 refine qaf (cs rfl rfl hm ?_ ?_) <;> intro bo hm
 refine qaj rfl ?_
 refine qag ?_ ?_ <;> intro aT
 refine ct aT ?_
 cases hm
 exact en lr ⟨(by rw [← (qdh (b := decide (x.S = ([] : Str))) aT)] <;> rfl), rfl⟩ (sc [1] rfl)
 refine cf aT ?_
 cases hm
 exact en lr ⟨(by rw [← ((qa0 aT)).symm] <;> rfl), rfl⟩ (sc [1] rfl)
 refine qaf (cs rfl rfl hm ?_ ?_) <;> intro bM hm
 exact eE hm
 refine qaf (cs rfl rfl hm ?_ ?_) <;> intro bp hm
 exact eE hm
 refine qaf (cs rfl rfl hm ?_ ?_) <;> intro bN hm
 refine fa rfl (ro (ld r0 rfl rfl ?_))
 refine cb hm fun aZ bc hm => cg0 (JeC bc :) ?_
 refine qaj rfl ?_
 refine qag ?_ ?_ <;> intro aQ
 refine ct aQ ?_
 cases hm
 exact en lr ⟨(by rw [← (qdh (b := aZ.2) aQ)] <;> rfl), rfl⟩ (sc [1] rfl)
 refine cf aQ ?_
 cases hm
 exact en lr ⟨(by rw [← ((qa0 aQ)).symm] <;> rfl), rfl⟩ (sc [1] rfl)
 refine qaf (cs rfl rfl hm ?_ ?_) <;> intro bf hm
 refine qaj rfl ?_
 refine qag ?_ ?_ <;> intro aR
 refine ct aR ?_
 cases hm
 exact en lr ⟨(by rw [← (qdh (b := decide (x.S = ([] : Str))) aR)] <;> rfl), rfl⟩ (sc [1] rfl)
 refine cf aR ?_
 cases hm
 exact en lr ⟨(by rw [← ((qa0 aR)).symm] <;> rfl), rfl⟩ (sc [1] rfl)
 exact eE hm

def Jb7 (s : Jm) (slot : Int) : Option (Bool) :=
  (chk ((64 : Int) ≠ 0 ∧ InI (Int.tdiv slot 64))).bind fun _ =>
  (chk (0 ≤ (Int.tdiv slot 64) ∧ (Int.tdiv slot 64) < 8)).bind fun _ =>
  (chk (0 ≤ (Int.tmod slot 64))).bind fun _ =>
  some (decide ((u64and (qqw (List.getD [s.Au.f0, s.Au.f1, s.Au.f2, s.Au.f3, s.Au.f4, s.Au.f5, s.Au.f6, s.Au.f7] (Int.toNat (Int.tdiv slot 64)) 0) (Int.tmod slot 64)) 1) = 1))
theorem Jdo {s : Jm} {slot : Int} {K : Hp} {r : Bool}
    (hm : Jb7 s slot = some r)  :
    Fn Tryz.prog 101 [.agg #[.bool s.Av, .int .i64 s.depth, .int .u64 s.Au.f0, .int .u64 s.Au.f1, .int .u64 s.Au.f2, .int .u64 s.Au.f3, .int .u64 s.Au.f4, .int .u64 s.Au.f5, .int .u64 s.Au.f6, .int .u64 s.Au.f7], .int .i64 slot] K [] (fun v K' H' => v = .bool r ∧ H' = []) := by
 refine Fn.enter Tryz.func101 Tryz.call101 rfl fun F => ?_
 unfold Jb7 at hm
 refine qas ?_
 intro b2
 obtain ⟨h6, hm⟩ := qa7 hm
 refine qmr h6.1 h6.2 (fa rfl ?_)
 obtain ⟨h8, hm⟩ := qa7 hm
 refine RStep.ofN (qbo (sz := 1) rfl rfl h8.1 h8.2 (ro (qqy (L := [s.Au.f0, s.Au.f1, s.Au.f2, s.Au.f3, s.Au.f4, s.Au.f5, s.Au.f6, s.Au.f7]) (pre := [.bool s.Av, .int .i64 s.depth]) (post := []) r0 rfl (by simp) rfl h8.1 h8.2 (qrz (by decide) ?_))))
 obtain ⟨aJ, hm⟩ := qa7 hm
 refine qr9 aJ ?_
 refine qji ?_
 refine qaf ?_
 exact eE hm

def JaI (t : Jm) : Nat → Nat → Int → Int → Int → Int → Int → Int → Int → Int → Option (Int × Int × Int × Int × Int × Int × Int × Int)
  | 0, _, ab, aN, aM, aO, aK, aQ, aL, aP => some (ab, aN, aM, aO, aK, aQ, aL, aP)
  | aR + 1, i0, ab, aN, aM, aO, aK, aQ, aL, aP =>
    (chk (0 ≤ (i0 : Int) ∧ (i0 : Int) < 8)).bind fun _ =>
    (chk (0 ≤ (i0 : Int) ∧ (i0 : Int) < 8)).bind fun _ =>
    (chk (0 ≤ (i0 : Int) ∧ (i0 : Int) < 8)).bind fun _ =>
    (some (List.set [ab, aN, aM, aO, aK, aQ, aL, aP] (Int.toNat (i0 : Int)) (u64and (List.getD [ab, aN, aM, aO, aK, aQ, aL, aP] (Int.toNat (i0 : Int)) 0) (List.getD [t.Au.f0, t.Au.f1, t.Au.f2, t.Au.f3, t.Au.f4, t.Au.f5, t.Au.f6, t.Au.f7] (Int.toNat (i0 : Int)) 0)))).bind fun aJ =>
    JaI t aR (i0 + 1) (List.getD aJ 0 0) (List.getD aJ 1 0) (List.getD aJ 2 0) (List.getD aJ 3 0) (List.getD aJ 4 0) (List.getD aJ 5 0) (List.getD aJ 6 0) (List.getD aJ 7 0)
def Jcw (s : Jm) (t : Jm) : Option (Bool × Jm) :=
  if (!s.Av) then
  some (true, t)
  else
  (chk (InI (8 : Int))).bind fun _ =>
  (JaI t (8 : Int).toNat 0 s.Au.f0 s.Au.f1 s.Au.f2 s.Au.f3 s.Au.f4 s.Au.f5 s.Au.f6 s.Au.f7).bind fun t0 =>
  some (decide (s.depth = t.depth), (⟨s.Av, s.depth, (⟨t0.1, t0.2.1, t0.2.2.1, t0.2.2.2.1, t0.2.2.2.2.1, t0.2.2.2.2.2.1, t0.2.2.2.2.2.2.1, t0.2.2.2.2.2.2.2⟩ : JaJ)⟩ : Jm))
theorem Je8 {s : Jm} {t : Jm} {b0 : Nat} {K : Hp} {r : Bool × Jm}
    (hm : Jcw s t = some r)  :
    Fn Tryz.prog 102 [.pointer (some ⟨b0, 0, none⟩), .agg #[.bool t.Av, .int .i64 t.depth, .int .u64 t.Au.f0, .int .u64 t.Au.f1, .int .u64 t.Au.f2, .int .u64 t.Au.f3, .int .u64 t.Au.f4, .int .u64 t.Au.f5, .int .u64 t.Au.f6, .int .u64 t.Au.f7]] K [Cells b0 204 [.bool s.Av, .int .i64 s.depth, .int .u64 s.Au.f0, .int .u64 s.Au.f1, .int .u64 s.Au.f2, .int .u64 s.Au.f3, .int .u64 s.Au.f4, .int .u64 s.Au.f5, .int .u64 s.Au.f6, .int .u64 s.Au.f7]] (fun v K' H' => v = .bool r.1 ∧ H' = [Cells b0 204 [.bool r.2.Av, .int .i64 r.2.depth, .int .u64 r.2.Au.f0, .int .u64 r.2.Au.f1, .int .u64 r.2.Au.f2, .int .u64 r.2.Au.f3, .int .u64 r.2.Au.f4, .int .u64 r.2.Au.f5, .int .u64 r.2.Au.f6, .int .u64 r.2.Au.f7]]) := by
 refine Fn.enter Tryz.func102 Tryz.call102 rfl fun F => ?_
 unfold Jcw at hm
 refine qas ?_
 intro b3
 refine qah (fa rfl (ro (ld r1 rfl rfl (qax ?_))))
 refine cs rfl rfl hm ?_ ?_ <;> intro aY hm
 refine ro (qae r0 rfl (nl rfl) (qah ?_))
 refine qab r1 rfl ⟨rfl, rfl, (nl rfl), ?_⟩
 exact eE hm
 obtain ⟨aX, hm⟩ := qa7 hm
 obtain ⟨s0, aK, hm⟩ := bnd hm
 refine lD (σ := (Int × Int × Int × Int × Int × Int × Int × Int)) ([5] ++ rg 14 18) [0, 2] (fun i0 => [(14, .int .i64 (i0 : Int))]) (fun _ => []) (fun t0 => [Cells b0 204 [.bool s.Av, .int .i64 s.depth, .int .u64 t0.1, .int .u64 t0.2.1, .int .u64 t0.2.2.1, .int .u64 t0.2.2.2.1, .int .u64 t0.2.2.2.2.1, .int .u64 t0.2.2.2.2.2.1, .int .u64 t0.2.2.2.2.2.2.1, .int .u64 t0.2.2.2.2.2.2.2]]) (fun _ => True) (fun i0 t0 => JaI t ((8 : Int).toNat - i0) i0 t0.1 t0.2.1 t0.2.2.1 t0.2.2.2.1 t0.2.2.2.2.1 t0.2.2.2.2.2.1 t0.2.2.2.2.2.2.1 t0.2.2.2.2.2.2.2 = some s0) (fun t0 => t0 = s0) (fun i0 => (8 : Int).toNat - i0) 0 (_, _, _, _, _, _, _, _) aK (And.intro qe (And.intro ?_ ?_))
 clear aK
 rintro i0 ⟨ab, aP, aT, aQ, aN, aS, aO, aR⟩ _ aK j0
 dsimp only at aK ⊢
 refine qad rfl ?_
 refine qag ?_ ?_ <;> intro w0
 rw [ltn (n := (8 : Int)) w0, JaI.eq_2] at aK
 refine qak rfl ?_
 refine qbm ⟨⟨[], false⟩, _, [(_, _), (_, _)], []⟩ 13 rfl (by kernel_rfl) ⟨Hp.Le.refl _, (pf rfl), ci0⟩ ?_
 refine qah (fa rfl ?_)
 obtain ⟨aU, aK⟩ := qa7 aK
 refine qbo (sz := 1) rfl rfl aU.1 aU.2 ?_
 refine qfg (L := [ab, aP, aT, aQ, aN, aS, aO, aR]) (pre := [.bool s.Av, .int .i64 s.depth]) (post := []) m0 rfl (by simp) rfl aU.1 aU.2 ?_
 refine fa rfl ?_
 obtain ⟨aV, aK⟩ := qa7 aK
 refine qbo (sz := 1) rfl rfl aV.1 aV.2 ?_
 refine qfg (L := [t.Au.f0, t.Au.f1, t.Au.f2, t.Au.f3, t.Au.f4, t.Au.f5, t.Au.f6, t.Au.f7]) (pre := [.bool t.Av, .int .i64 t.depth]) (post := []) m1 rfl (by simp) rfl aV.1 aV.2 ?_
 refine qji ?_
 refine qah (fa rfl ?_)
 obtain ⟨aW, aK⟩ := qa7 aK
 refine qbo (sz := 1) rfl rfl aW.1 aW.2 ?_
 obtain ⟨aJ, aL, aK⟩ := bnd aK
 replace aL := Option.some.inj aL
 have aM : aJ.length = 8 := by rw [← aL]; simp
 refine qm6 (L := [ab, aP, aT, aQ, aN, aS, aO, aR]) (pre := [.bool s.Av, .int .i64 s.depth]) (post := []) (cs' := [.bool s.Av, .int .i64 s.depth, .int .u64 (List.getD aJ 0 0), .int .u64 (List.getD aJ 1 0), .int .u64 (List.getD aJ 2 0), .int .u64 (List.getD aJ 3 0), .int .u64 (List.getD aJ 4 0), .int .u64 (List.getD aJ 5 0), .int .u64 (List.getD aJ 6 0), .int .u64 (List.getD aJ 7 0)]) r0 rfl (by simp) rfl aW.1 aW.2 aL (by rw [qux aM]; rfl) ?_
 refine ⟨⟨Hp.emp_le _, (pf rfl), ci0⟩, ?_⟩
 refine qat (qo3 w0 aX) ?_
 exact eR aK (_, (_, _, _, _, _, _, _, _))
 rw [lto (n := (8 : Int)) w0, JaI.eq_1] at aK
 refine cT ?_
 exact eM aK _
 rintro t0 _ rfl j0
 refine qa4 ⟨⟨[], false⟩, _, [(_, _), (_, _)], []⟩ (by kernel_rfl) ⟨Hp.Le.refl _, (pf rfl), ci0⟩ ?_
 refine qah (fa rfl (qao m0 rfl rfl (fa rfl (qao m1 rfl rfl (qaf ?_)))))
 exact eE hm

def Jav (s_i : Nat) (t : Jm) : Nat → Nat → (List Jm) → Option ((List Jm))
  | 0, _, ab => some ab
  | aL + 1, i0, ab =>
    (chk (0 ≤ (i0 : Int) ∧ (i0 : Int) < 8)).bind fun _ =>
    (ab[s_i]?).bind fun aJ =>
    (chk (0 ≤ (i0 : Int) ∧ (i0 : Int) < 8)).bind fun _ =>
    (chk (0 ≤ (i0 : Int) ∧ (i0 : Int) < 8)).bind fun _ =>
    (some (List.set [aJ.Au.f0, aJ.Au.f1, aJ.Au.f2, aJ.Au.f3, aJ.Au.f4, aJ.Au.f5, aJ.Au.f6, aJ.Au.f7] (Int.toNat (i0 : Int)) (u64and (List.getD [aJ.Au.f0, aJ.Au.f1, aJ.Au.f2, aJ.Au.f3, aJ.Au.f4, aJ.Au.f5, aJ.Au.f6, aJ.Au.f7] (Int.toNat (i0 : Int)) 0) (List.getD [t.Au.f0, t.Au.f1, t.Au.f2, t.Au.f3, t.Au.f4, t.Au.f5, t.Au.f6, t.Au.f7] (Int.toNat (i0 : Int)) 0)))).bind fun aK =>
    Jav s_i t aL (i0 + 1) (ab.set s_i (⟨aJ.Av, aJ.depth, (⟨(List.getD aK 0 0), (List.getD aK 1 0), (List.getD aK 2 0), (List.getD aK 3 0), (List.getD aK 4 0), (List.getD aK 5 0), (List.getD aK 6 0), (List.getD aK 7 0)⟩ : JaJ)⟩ : Jm))
def Jbc (s : (List Jm)) (s_i : Nat) (t : Jm) : Option (Bool × (List Jm)) :=
  (s[s_i]?).bind fun aK =>
  if (!aK.Av) then
  some (true, (s.set s_i t))
  else
  (chk (InI (8 : Int))).bind fun _ =>
  (Jav s_i t (8 : Int).toNat 0 s).bind fun t0 =>
  (t0[s_i]?).bind fun aJ =>
  some (decide (aJ.depth = t.depth), t0)
theorem JaO {s : (List Jm)} {s_i : Nat} {t : Jm} {aF : Option Addr} {aI : Nat} {K : Hp} {r : Bool × (List Jm)}
    (hm : Jbc s s_i t = some r) (ay : 0 < s.length → Has aF) :
    Fn Tryz.prog 102 [(eptr aF (s_i * 10)), .agg #[.bool t.Av, .int .i64 t.depth, .int .u64 t.Au.f0, .int .u64 t.Au.f1, .int .u64 t.Au.f2, .int .u64 t.Au.f3, .int .u64 t.Au.f4, .int .u64 t.Au.f5, .int .u64 t.Au.f6, .int .u64 t.Au.f7]] K [OwnL Jm.enc aF 204 10 aI s] (fun v K' H' => v = .bool r.1 ∧ (0 < r.2.length → Has aF) ∧ s.length = r.2.length ∧ H' = [OwnL Jm.enc aF 204 10 aI r.2]) := by
 refine Fn.enter Tryz.func102 Tryz.call102 rfl fun F => ?_
 unfold Jbc at hm
 obtain ⟨aX, aM, hm⟩ := bnd hm
 refine qas ?_
 intro b3
 refine qc1 (qdb ay aM) (qaz rfl (qdb ay aM) (ro (qda (i := s_i) (o := 0) r1 rfl aM rfl rfl (qax ?_))))
 refine cs rfl rfl hm ?_ ?_ <;> intro a8 hm
 refine ro (qae r0 rfl (nl rfl) (qc1 (qdb ay aM) ?_))
 refine qee (o := 0) (y := t) aX r1 rfl aM rfl (by (conv => whnf); exact ⟨rfl, rfl, (nl rfl), rfl, rfl, rfl⟩) ?_
 cases hm
 exact en lr ⟨rfl, (by first | simpa using ay | exact fun _ => ⟨_, _, rfl⟩), ((rfl).trans List.length_set.symm), rfl⟩ (sc [0,1] rfl)
 obtain ⟨aY, hm⟩ := qa7 hm
 obtain ⟨s0, aK, hm⟩ := bnd hm
 refine lD (σ := ((List Jm))) ([5] ++ rg 14 18) [0, 2] (fun i0 => [(14, .int .i64 (i0 : Int))]) (fun _ => []) (fun t0 => [OwnL Jm.enc aF 204 10 aI t0]) (fun t0 => (0 < t0.length → Has aF) ∧ s.length = t0.length) (fun i0 t0 => Jav s_i t ((8 : Int).toNat - i0) i0 t0 = some s0) (fun t0 => t0 = s0) (fun i0 => (8 : Int).toNat - i0) 0 _ aK (And.intro qe (And.intro ?_ ?_))
 clear aK
 rintro i0 ab ⟨aO, aQ⟩ aK j0
 conv at aK => whnf
 refine qad rfl ?_
 refine qag ?_ ?_ <;> intro w0
 rw [ltn (n := (8 : Int)) w0, Jav.eq_2] at aK
 refine qak rfl ?_
 refine qa4 ⟨⟨[], true⟩, _, [], []⟩ (by kernel_rfl) ⟨Hp.Le.refl _, (pf rfl), ci0⟩ ?_
 refine qc1 (qdb ay aM) (qaz rfl (qdb ay aM) ?_)
 obtain ⟨aR, aK⟩ := qa7 aK
 refine qib (sz := 1) rfl rfl (qdb ay aM) aR.1 aR.2 ?_
 obtain ⟨aJ, aV, aK⟩ := bnd aK
 refine qda (i := s_i) (o := 2 + (Int.toNat (i0 : Int))) r0 rfl aV (qjj (L := [aJ.Au.f0, aJ.Au.f1, aJ.Au.f2, aJ.Au.f3, aJ.Au.f4, aJ.Au.f5, aJ.Au.f6, aJ.Au.f7]) (pre := [.bool aJ.Av, .int .i64 aJ.depth]) (post := []) rfl aR.1 aR.2) (by omega) ?_
 refine fa rfl ?_
 obtain ⟨aS, aK⟩ := qa7 aK
 refine qbo (sz := 1) rfl rfl aS.1 aS.2 ?_
 refine qqy (L := [t.Au.f0, t.Au.f1, t.Au.f2, t.Au.f3, t.Au.f4, t.Au.f5, t.Au.f6, t.Au.f7]) (pre := [.bool t.Av, .int .i64 t.depth]) (post := []) r1 rfl (by simp) rfl aS.1 aS.2 ?_
 refine qji ?_
 refine qc1 (qdb ay aM) (qaz rfl (qdb ay aM) ?_)
 obtain ⟨aT, aK⟩ := qa7 aK
 refine qib (sz := 1) rfl rfl (qdb ay aM) aT.1 aT.2 ?_
 obtain ⟨aL, aN, aK⟩ := bnd aK
 replace aN := Option.some.inj aN
 have aP : aL.length = 8 := by rw [← aN]; simp
 refine qee (n := 1) (o := 2 + (Int.toNat (i0 : Int))) (y := (⟨aJ.Av, aJ.depth, (⟨(List.getD aL 0 0), (List.getD aL 1 0), (List.getD aL 2 0), (List.getD aL 3 0), (List.getD aL 4 0), (List.getD aL 5 0), (List.getD aL 6 0), (List.getD aL 7 0)⟩ : JaJ)⟩ : Jm)) aJ r0 rfl aV (by omega) (by rw [qbe]; exact ⟨rfl, rfl, by omega, (qg4 (L := [aJ.Au.f0, aJ.Au.f1, aJ.Au.f2, aJ.Au.f3, aJ.Au.f4, aJ.Au.f5, aJ.Au.f6, aJ.Au.f7]) (pre := [.bool aJ.Av, .int .i64 aJ.depth]) (post := []) aT.1 aT.2).trans (by rw [aN, qux aP]; rfl), rfl, rfl⟩) ?_
 refine qk (pf rfl) ?_
 refine qat (qo3 w0 aY) ?_
 exact rd (i0 + 1, (ab.set s_i (⟨aJ.Av, aJ.depth, (⟨(List.getD aL 0 0), (List.getD aL 1 0), (List.getD aL 2 0), (List.getD aL 3 0), (List.getD aL 4 0), (List.getD aL 5 0), (List.getD aL 6 0), (List.getD aL 7 0)⟩ : JaJ)⟩ : Jm))) ⟨rfl, trivial⟩ rfl (pf rfl) lr (quu w0) ⟨⟨(by first | simpa using aO | exact fun _ => ⟨_, _, rfl⟩), ((aQ).trans List.length_set.symm)⟩, aK⟩
 rw [lto (n := (8 : Int)) w0, Jav.eq_1] at aK
 refine cT ?_
 exact eM aK _
 rintro t0 ⟨aU, aW⟩ rfl j0
 refine qa4 ⟨⟨[], true⟩, _, [], []⟩ (by kernel_rfl) ⟨Hp.Le.refl _, (pf rfl), ci0⟩ ?_
 refine qc1 (qdb ay aM) (qaz rfl (qdb ay aM) ?_)
 obtain ⟨a6, aZ, hm⟩ := bnd hm
 refine qda (i := s_i) (o := 1) r0 rfl aZ rfl rfl ?_
 refine fa rfl ?_
 refine ld r1 rfl rfl ?_
 refine qaf ?_
 exact eE hm

def Jbe (code : (List Jj)) : List Jj → Nat → Int → (List Jm) → Option (Fl (Int × Bool) (Int × (List Jm)))
  | [], _, ab, aN => some (Fl.go (ab, aN))
  | e0 :: aS, i0, ab, aN =>
    (ix aN (i0 : Int)).bind fun aJ =>
    (JcO e0).bind fun aL =>
    (chk (InI ((code.length : Int) - 1))).bind fun _ =>
    if ((((!aL.2.2) || (!aJ.Av)) || decide (aJ.depth < aL.1)) || (!((decide (e0.Op = 12)) == (decide ((i0 : Int) = ((code.length : Int) - 1)))))) then
    some (Fl.ret (0, false))
    else
    (if decide (e0.Op = 3) then (Jb7 aJ e0.N).bind fun aV =>
    some (!aV) else some false).bind fun aW =>
    if aW then
    some (Fl.ret (0, false))
    else
    (chk (InI (aL.2.1 - aL.1))).bind fun _ =>
    (chk (InI (aJ.depth + (aL.2.1 - aL.1)))).bind fun _ =>
    ((if decide (e0.Op = 4) then
    (chk ((64 : Int) ≠ 0 ∧ InI (Int.tdiv e0.N 64))).bind fun _ =>
    (chk (0 ≤ (Int.tdiv e0.N 64) ∧ (Int.tdiv e0.N 64) < 8)).bind fun _ =>
    (chk (0 ≤ (Int.tmod e0.N 64))).bind fun _ =>
    (chk (0 ≤ (Int.tdiv e0.N 64) ∧ (Int.tdiv e0.N 64) < 8)).bind fun _ =>
    (some (List.set [aJ.Au.f0, aJ.Au.f1, aJ.Au.f2, aJ.Au.f3, aJ.Au.f4, aJ.Au.f5, aJ.Au.f6, aJ.Au.f7] (Int.toNat (Int.tdiv e0.N 64)) (u64or (List.getD [aJ.Au.f0, aJ.Au.f1, aJ.Au.f2, aJ.Au.f3, aJ.Au.f4, aJ.Au.f5, aJ.Au.f6, aJ.Au.f7] (Int.toNat (Int.tdiv e0.N 64)) 0) (qqv 1 (Int.tmod e0.N 64))))).bind fun aM =>
    some ((List.getD aM 0 0), (List.getD aM 1 0), (List.getD aM 2 0), (List.getD aM 3 0), (List.getD aM 4 0), (List.getD aM 5 0), (List.getD aM 6 0), (List.getD aM 7 0))
    else
    some (aJ.Au.f0, aJ.Au.f1, aJ.Au.f2, aJ.Au.f3, aJ.Au.f4, aJ.Au.f5, aJ.Au.f6, aJ.Au.f7) : Option (Int × Int × Int × Int × Int × Int × Int × Int))).bind fun aK =>
    ((if (decide (e0.Op = 9) || decide (e0.Op = 10)) then
    if (decide (e0.N ≤ (i0 : Int)) || decide (e0.N ≥ (code.length : Int))) then
    some (Fl.ret (0, false))
    else
    (ix aN e0.N).bind fun aT =>
    (Jbc aN ((e0.N).toNat) (⟨aJ.Av, (aJ.depth + (aL.2.1 - aL.1)), (⟨aK.1, aK.2.1, aK.2.2.1, aK.2.2.2.1, aK.2.2.2.2.1, aK.2.2.2.2.2.1, aK.2.2.2.2.2.2.1, aK.2.2.2.2.2.2.2⟩ : JaJ)⟩ : Jm)).bind fun aP =>
    if (!aP.1) then
    some (Fl.ret (0, false))
    else
    some (Fl.go aP.2)
    else
    some (Fl.go aN) : Option (Fl (Int × Bool) ((List Jm))))).bind fun aR => aR.el (fun r => some (Fl.ret r)) fun aO =>
    if decide ((i0 : Int) = ((code.length : Int) - 1)) then
    some (Fl.ret ((max (max ab aJ.depth) (aJ.depth + (aL.2.1 - aL.1))), decide ((aJ.depth + (aL.2.1 - aL.1)) = 0)))
    else
    if decide (e0.Op ≠ 9) then
    (ix aO ((i0 : Int) + 1)).bind fun aU =>
    (Jbc aO ((((i0 : Int) + 1)).toNat) (⟨aJ.Av, (aJ.depth + (aL.2.1 - aL.1)), (⟨aK.1, aK.2.1, aK.2.2.1, aK.2.2.2.1, aK.2.2.2.2.1, aK.2.2.2.2.2.1, aK.2.2.2.2.2.2.1, aK.2.2.2.2.2.2.2⟩ : JaJ)⟩ : Jm)).bind fun aQ =>
    if (!aQ.1) then
    some (Fl.ret (0, false))
    else
    Jbe code aS (i0 + 1) (max (max ab aJ.depth) (aJ.depth + (aL.2.1 - aL.1))) aQ.2
    else
    Jbe code aS (i0 + 1) (max (max ab aJ.depth) (aJ.depth + (aL.2.1 - aL.1))) aO
def Jc6 (code : (List Jj)) : Option (Int × Bool) :=
  if (decide ((code.length : Int) < 1) || decide ((code.length : Int) > 2048)) then
  some (0, false)
  else
  (chk ((0 : Int) ≤ (code.length : Int) ∧ (code.length : Int) ≤ (lim : Int))).bind fun _ =>
  (ix (List.replicate (Int.toNat (code.length : Int)) ((⟨false, 0, (⟨0, 0, 0, 0, 0, 0, 0, 0⟩ : JaJ)⟩ : Jm) : Jm)) 0).bind fun aJ =>
  (chk (code.length ≤ qav)).bind fun _ =>
  (Jbe code code 0 0 ((List.replicate (Int.toNat (code.length : Int)) ((⟨false, 0, (⟨0, 0, 0, 0, 0, 0, 0, 0⟩ : JaJ)⟩ : Jm) : Jm)).set ((0 : Int).toNat) (⟨true, aJ.depth, aJ.Au⟩ : Jm))).bind fun s0 => s0.el some fun t0 =>
  some (0, false)
theorem Jew {code : (List Jj)} {aa : Option Addr} {ac : Nat} {n0 : Nat} {K : Hp} {r : Int × Bool}
    (hm : Jc6 code = some r) (hX : RdC Jj.enc K aa ac 3 code ∧ n0 = code.length ∧ GG K) :
    Fn Tryz.prog 60 [.slice aa n0 ac] K [] (fun v K' H' => v = .tuple #[.int .i64 r.1, .bool r.2] ∧ H' = []) := by
 obtain ⟨ae, cD, hG⟩ := hX
 subst cD
 refine Fn.enter Tryz.func60 Tryz.call60 rfl fun F => ?_
 unfold Jc6 at hm
 refine jR (σ := Unit) (rg 13 8) (fun _ => [(20, .bool (decide ((code.length : Int) < 1) || decide ((code.length : Int) > 2048)))]) (fun cM => True) ?_ ?_
 refine qaj rfl ?_
 refine ro (qai rfl ?_)
 refine qag ?_ ?_ <;> intro aY
 refine ct aY (ct aY (ct aY ?_))
 exact eMt () ⟨bq (((qds aY)).symm), trivial⟩
 refine cf aY (ro (qai rfl (cf aY (cf aY ?_))))
 exact eMt () ⟨bq (qll (b := decide ((code.length : Int) > 2048)) aY), trivial⟩
 rintro _ _ cQ
 refine cs rfl rfl hm ?_ ?_ <;> intro cU hm
 exact eE hm
 refine ro (qai rfl ?_)
 obtain ⟨cI, hm⟩ := qa7 hm
 refine qo5 (enc := Jm.enc) ((⟨false, 0, (⟨0, 0, 0, 0, 0, 0, 0, 0⟩ : JaJ)⟩ : Jm) : Jm) qte rfl rfl rfl cI fun bR => ?_
 obtain ⟨bS, cr, bT, hm⟩ := ixb hm
 refine RStep.ofN (qac rfl rfl (qdb (fun _ => ⟨_, _, rfl⟩) bT) cr (qay List.length_replicate.symm cr bT) (qaz rfl (qdb (fun _ => ⟨_, _, rfl⟩) bT) ?_))
 refine qee (o := 0) (y := (⟨true, bS.depth, bS.Au⟩ : Jm)) bS r0 rfl bT rfl (by (conv => whnf); exact ⟨rfl, rfl, (nl rfl), rfl, rfl, rfl⟩) ?_
 refine ro (qai rfl ?_)
 obtain ⟨bQ, hm⟩ := qa7 hm
 obtain ⟨s0, aM, hm⟩ := bnd hm
 refine lD (σ := (Int × (List Jm))) ([2,3] ++ rg 5 8 ++ rg 29 129) [1] (fun i0 => [(29, .int .i64 (i0 : Int))]) (fun t0 => [(5, .int .i64 t0.1)]) (fun t0 => [OwnL Jm.enc (some ⟨bR, 0, none⟩) 204 10 (Int.toNat (code.length : Int)) t0.2]) (fun t0 => (0 < t0.2.length → Has (some ⟨bR, 0, none⟩)) ∧ (Int.toNat (code.length : Int)) = t0.2.length) (fun i0 t0 => Jbe code (code.drop i0) i0 t0.1 t0.2 = some s0) (fun t0 => s0 = Fl.go t0) (fun i0 => code.length - i0) 0 (0, ((List.replicate (Int.toNat (code.length : Int)) ((⟨false, 0, (⟨0, 0, 0, 0, 0, 0, 0, 0⟩ : JaJ)⟩ : Jm) : Jm)).set ((0 : Int).toNat) (⟨true, bS.depth, bS.Au⟩ : Jm))) aM (And.intro ⟨⟨(by first | simpa using (fun _ => ⟨_, _, rfl⟩) | exact fun _ => ⟨_, _, rfl⟩), ((List.length_replicate.symm).trans List.length_set.symm)⟩, ⟨rfl, rfl, trivial⟩, _, (sp rfl)⟩ (And.intro ?_ ?_))
 clear aM
 rintro i0 ⟨ab, cw⟩ ⟨bz, bg⟩ aM j0
 dsimp only at aM ⊢
 refine qad rfl ?_
 refine qag ?_ ?_ <;> intro w0
 obtain ⟨e0, bA, cG⟩ := ltx w0
 rw [cG, Jbe.eq_2] at aM
 refine qak rfl ?_
 refine RStep.ofN (qac rfl rfl (qdg ae.rd bA) (nn _) (qbs bA) (ro (qan i0 _ ae.rd rfl (mp bA) rfl ?_)))
 refine qal rfl fun b7 => ?_
 refine qab r0 rfl ⟨rfl, rfl, (nl rfl), ?_⟩
 obtain ⟨aS, co, bX, aM⟩ := ixb aM
 refine RStep.ofN (qac rfl rfl (qdb bz bX) co (qay bg co bX) (ro (qms (i := ((i0 : Int)).toNat) r1 rfl bX rfl rfl ?_)))
 refine qal rfl fun b8 => ?_
 refine qab r0 rfl ⟨rfl, rfl, (nl rfl), ?_⟩
 refine ro (qae r1 rfl (nl rfl) ?_)
 refine cb aM fun a8 cO aM => cgx (Jd9 cO :) ?_
 refine ro (qai rfl ?_)
 obtain ⟨cB, aM⟩ := qa7 aM
 refine qat cB (qaf ?_)
 refine qaj rfl ?_
 refine qax ?_
 refine qag ?_ ?_ <;> intro aU
 refine ct aU (ct aU (ct aU (cT (cT (cT (cT (cT ?_)))))))
 refine cT (cT (cT (cT (cT (cT ?_)))))
 replace aM := ift (qds (qds (qds (qja (qrx aU))))) aM
 refine cT (cT (cT (cT (cT (cT (qad rfl (cT ?_)))))))
 exact eE (er aM hm)
 refine fa rfl (cf aU (ro (ld r0 rfl rfl (cf aU (qax (cf aU ?_))))))
 refine qag ?_ ?_ <;> intro aT
 refine ct aT (ct aT (ct aT (ct aT (cT (cT (cT (cT ?_)))))))
 refine cT (cT ?_)
 replace aM := ift (qds (qds (qi9 (qed (ql5 aU)) (qja (qrx aT))))) aM
 refine cT (cT (cT (cT (cT (cT (qad rfl (cT ?_)))))))
 exact eE (er aM hm)
 refine fa rfl (cf aT (ro (ld r0 rfl rfl (cf aT (cf aT (cf aT ?_))))))
 refine qag ?_ ?_ <;> intro aR
 refine ct aR (ct aR (ct aR (ct aR (ct aR ?_))))
 replace aM := ift (qds (qi9 (qgw (qed (ql5 aU)) (qed (ql5 aT))) aR)) aM
 refine cT (cT (cT (cT (cT (cT (qad rfl (cT ?_)))))))
 exact eE (er aM hm)
 refine fa rfl (cf aR (ro (ld r1 rfl rfl (cf aR (qaf (cf aR (cf aR (qj8 rfl ?_))))))))
 refine cf aR ?_
 refine qag ?_ ?_ <;> intro aP
 replace aM := ift (qi9 (qgw (qgw (qed (ql5 aU)) (qed (ql5 aT))) aR) aP) aM
 refine ct aP (ct aP (ct aP (ct aP (ct aP (qad rfl (cT ?_))))))
 exact eE (er aM hm)
 replace aM := qbp (qgw (qgw (qgw (qed (ql5 aU)) (qed (ql5 aT))) aR) aP) aM
 refine fa rfl (cf aP (ro (ld r1 rfl rfl (cf aP (qaf (cf aP ?_))))))
 obtain ⟨cR, bI, aM⟩ := bnd aM
 refine cS bI (fun aV bI => ?_) fun aV bI => ?_
 refine ro (qae r0 rfl (nl rfl) (ct aV (fa rfl (ct aV (ro (ld r1 rfl rfl (ct aV ?_)))))))
 refine cb bI fun cV cP bI => cg0 (Jdo cP :) ?_
 refine ct aV (qax (cf aP (ct aV (cf aP (qad rfl ?_)))))
 refine qag ?_ ?_ <;> intro cq
 replace aM := ift ((si bI).symm.trans (qja (qrx cq))) aM
 exact eE (er aM hm)
 replace aM := qbp ((si bI).symm.trans (qed (ql5 cq))) aM
 refine fa rfl (ro (ld r0 rfl rfl (ro (qdf (fa rfl (ro (ld r0 rfl rfl ?_)))))))
 refine ci aM fun aM => ?_
 obtain ⟨cn, aM⟩ := qa7 aM
 refine qat cn (fa rfl ?_)
 refine qab r0 rfl ⟨rfl, rfl, (nl rfl), ?_⟩
 refine fa rfl (ro (ld r0 rfl rfl (ro (qdf (fa rfl (ro (ld r1 rfl rfl (qaf ?_))))))))
 obtain ⟨cm, aX, aM⟩ := bnd aM
 refine jD (σ := (Int × Int × Int × Int × Int × Int × Int × Int)) (rg 99 13) [1, 2, 3] (fun a6 => []) (fun a6 => [Cells b8 204 [.bool aS.Av, .int .i64 (aS.depth + (a8.2.1 - a8.1)), .int .u64 a6.1, .int .u64 a6.2.1, .int .u64 a6.2.2.1, .int .u64 a6.2.2.2.1, .int .u64 a6.2.2.2.2.1, .int .u64 a6.2.2.2.2.2.1, .int .u64 a6.2.2.2.2.2.2.1, .int .u64 a6.2.2.2.2.2.2.2]]) (fun a6 => a6 = cm) (And.intro ?_ ?_)
 refine cs rfl rfl aX ?_ ?_ <;> intro cL aX
 refine qbm ⟨⟨[], false⟩, _, [(_, _), (_, _)], []⟩ 12 rfl (by kernel_rfl) ⟨Hp.Le.refl _, (sc [1,0] rfl), ci0⟩ ?_
 refine fa rfl (qao m0 rfl rfl ?_)
 obtain ⟨bC, aX⟩ := qa7 aX
 refine qmr bC.1 bC.2 (fa rfl ?_)
 obtain ⟨bb, aX⟩ := qa7 aX
 refine qbo (sz := 1) rfl rfl bb.1 bb.2 ?_
 refine qfg (L := [aS.Au.f0, aS.Au.f1, aS.Au.f2, aS.Au.f3, aS.Au.f4, aS.Au.f5, aS.Au.f6, aS.Au.f7]) (pre := [.bool aS.Av, .int .i64 (aS.depth + (a8.2.1 - a8.1))]) (post := []) m1 rfl (by simp) rfl bb.1 bb.2 ?_
 refine fa rfl (qao m0 rfl rfl (qrz (by decide) ?_))
 obtain ⟨bK, aX⟩ := qa7 aX
 refine qm5 bK ?_
 refine qqx ?_
 refine fa rfl ?_
 obtain ⟨ba, aX⟩ := qa7 aX
 refine qbo (sz := 1) rfl rfl ba.1 ba.2 ?_
 obtain ⟨bc, bt, aX⟩ := bnd aX
 replace bt := Option.some.inj bt
 have bP : bc.length = 8 := by rw [← bt]; simp
 refine qm6 (L := [aS.Au.f0, aS.Au.f1, aS.Au.f2, aS.Au.f3, aS.Au.f4, aS.Au.f5, aS.Au.f6, aS.Au.f7]) (pre := [.bool aS.Av, .int .i64 (aS.depth + (a8.2.1 - a8.1))]) (post := []) (cs' := [.bool aS.Av, .int .i64 (aS.depth + (a8.2.1 - a8.1)), .int .u64 (List.getD bc 0 0), .int .u64 (List.getD bc 1 0), .int .u64 (List.getD bc 2 0), .int .u64 (List.getD bc 3 0), .int .u64 (List.getD bc 4 0), .int .u64 (List.getD bc 5 0), .int .u64 (List.getD bc 6 0), .int .u64 (List.getD bc 7 0)]) r0 rfl (by simp) rfl ba.1 ba.2 bt (by rw [qux bP]; rfl) ?_
 refine ⟨⟨Hp.emp_le _, (pf rfl), ci0⟩, ?_⟩
 exact eM aX _
 exact eM aX _
 rintro a6 rfl cE
 refine jR (σ := Unit) (rg 112 8) (fun _ => [(119, .bool (decide (e0.Op = 9) || decide (e0.Op = 10)))]) (fun cJ => True) ?_ ?_
 refine qaj rfl ?_
 refine fa rfl (ro (ld r1 rfl rfl (qaf ?_)))
 refine qag ?_ ?_ <;> intro aN
 refine ct aN (ct aN (ct aN ?_))
 exact eMt () ⟨bq (((qds aN)).symm), trivial⟩
 refine fa rfl (cf aN (ro (ld r1 rfl rfl (cf aN (qaf (cf aN ?_))))))
 exact eMt () ⟨bq (qll (b := decide (e0.Op = 10)) aN), trivial⟩
 rintro _ _ cz
 obtain ⟨bV, aQ, aM⟩ := bnd aM
 refine jD (σ := ((List Jm))) ([2,3] ++ rg 120 20) [0, 1, 3] (fun bp => []) (fun bp => [OwnL Jm.enc (some ⟨bR, 0, none⟩) 204 10 (Int.toNat (code.length : Int)) bp]) (fun bp => (0 < bp.length → Has (some ⟨bR, 0, none⟩)) ∧ (Int.toNat (code.length : Int)) = bp.length ∧ bV = Fl.go bp) (And.intro ?_ ?_)
 refine cs rfl rfl aQ ?_ ?_ <;> intro ce aQ
 refine qa4 ⟨⟨[], false⟩, _, [(_, _), (_, _)], []⟩ (by kernel_rfl) ⟨Hp.Le.refl _, (sc [1,0] rfl), ci0⟩ ?_
 refine fa rfl (qao m0 rfl rfl ?_)
 refine qag ?_ ?_ <;> intro aL
 refine ct aL (ct aL (ct aL (ct aL (ct aL ?_))))
 replace aQ := ift (qds aL) aQ
 refine cT (cT (cT (cT (cT (cT (cT (cT ?_)))))))
 refine qad rfl (cT ?_)
 exact eE (er (er aQ aM :) hm)
 refine fa rfl (cf aL (qao m0 rfl rfl (cf aL (cf aL (qcf rfl (cf aL (cf aL ?_)))))))
 refine qag ?_ ?_ <;> intro aJ
 replace aQ := ift (qi9 aL aJ) aQ
 refine ct aJ (ct aJ (ct aJ (ct aJ (ct aJ (ct aJ (ct aJ (qad rfl ?_)))))))
 refine cT ?_
 exact eE (er (er aQ aM :) hm)
 replace aQ := qbp (qgw aL aJ) aQ
 refine cf aJ (fa rfl (cf aJ (qao m0 rfl rfl (cf aJ ?_))))
 obtain ⟨bW, bF, bw, aQ⟩ := ixb aQ
 refine qac rfl rfl (qdb bz bw) bF (qay bg bF bw) (cf aJ (qbx m1 rfl (nl rfl) (cf aJ ?_)))
 refine cb aQ fun bL bJ aQ => ckx (JaO bJ :) ?_
 rintro _ _ _ ⟨rfl, bj, bo, rfl⟩
 refine qk (sc [2,1] rfl) ?_
 refine cf aJ (qax (cf aJ ?_))
 refine cs rfl rfl aQ ?_ ?_ <;> intro cj aQ
 exact eE (er (er aQ aM :) hm)
 exact mt (bL.2) trivial rfl (pf rfl) lr ⟨bj, ((bg).trans bo), (si aQ).symm⟩
 exact eM aQ _
 rintro bp ⟨bG, br, rfl⟩ cK
 replace aM := elg aM
 refine cs rfl rfl aM ?_ ?_ <;> intro bU aM
 refine qa4 ⟨⟨[], false⟩, _, [(_, _)], []⟩ (by kernel_rfl) ⟨Hp.Le.refl _, (sc [1] rfl), ci0⟩ ?_
 refine fa rfl (qao m0 rfl rfl (qaf ?_))
 exact eE (er aM hm)
 refine qa4 ⟨⟨[], false⟩, _, [(_, _), (_, _)], []⟩ (by kernel_rfl) ⟨Hp.Le.refl _, (sc [2,1] rfl), ci0⟩ ?_
 refine fa rfl (qao m0 rfl rfl (qbf ?_))
 refine cS aM (fun aK aM => ?_) fun aK aM => ?_
 refine ct aK (ct aK (qat (qcl bA bQ) (ct aK ?_)))
 obtain ⟨bY, bD, bB, aM⟩ := ixb aM
 refine qac rfl rfl (qdb bG bB) bD (qay br bD bB) (ct aK (qbx m1 rfl (nl rfl) (ct aK ?_)))
 refine cb aM fun bN bO aM => ckx (JaO bO :) ?_
 rintro _ _ _ ⟨rfl, bh, bn, rfl⟩
 refine qk (sc [2,1] rfl) ?_
 refine ct aK (qax (ct aK ?_))
 refine cs rfl rfl aM ?_ ?_ <;> intro ca aM
 exact eE (er aM hm)
 refine qat (qcl bA bQ) ?_
 exact rd (i0 + 1, ((max (max ab aS.depth) (aS.depth + (a8.2.1 - a8.1))), bN.2)) ⟨rfl, rfl, trivial⟩ rfl (sc [0,2] rfl) lr (ltm bA) ⟨⟨bh, ((br).trans bn)⟩, aM⟩
 refine cf aK (cf aK (cf aK (cf aK (cf aK (cf aK (cf aK (qad rfl ?_)))))))
 refine cF (qat (qcl bA bQ) ?_)
 exact eR aM (_, (_, _))
 refine cf aV (cf aV (cf aV (cf aV (cf aP (cf aV (cf aP (qad rfl ?_)))))))
 refine cF ?_
 replace aM := qbp (si bI).symm aM
 refine fa rfl (ro (ld r0 rfl rfl (ro (qdf (fa rfl (ro (ld r0 rfl rfl ?_)))))))
 refine ci aM fun aM => ?_
 obtain ⟨cn, aM⟩ := qa7 aM
 refine qat cn (fa rfl ?_)
 refine qab r0 rfl ⟨rfl, rfl, (nl rfl), ?_⟩
 refine fa rfl (ro (ld r0 rfl rfl (ro (qdf (fa rfl (ro (ld r1 rfl rfl (qaf ?_))))))))
 obtain ⟨bZ, aW, aM⟩ := bnd aM
 refine jD (σ := (Int × Int × Int × Int × Int × Int × Int × Int)) (rg 99 13) [1, 2, 3] (fun aZ => []) (fun aZ => [Cells b8 204 [.bool aS.Av, .int .i64 (aS.depth + (a8.2.1 - a8.1)), .int .u64 aZ.1, .int .u64 aZ.2.1, .int .u64 aZ.2.2.1, .int .u64 aZ.2.2.2.1, .int .u64 aZ.2.2.2.2.1, .int .u64 aZ.2.2.2.2.2.1, .int .u64 aZ.2.2.2.2.2.2.1, .int .u64 aZ.2.2.2.2.2.2.2]]) (fun aZ => aZ = bZ) (And.intro ?_ ?_)
 refine cs rfl rfl aW ?_ ?_ <;> intro cL aW
 refine qbm ⟨⟨[], false⟩, _, [(_, _), (_, _)], []⟩ 12 rfl (by kernel_rfl) ⟨Hp.Le.refl _, (sc [1,0] rfl), ci0⟩ ?_
 refine fa rfl (qao m0 rfl rfl ?_)
 obtain ⟨bC, aW⟩ := qa7 aW
 refine qmr bC.1 bC.2 (fa rfl ?_)
 obtain ⟨bb, aW⟩ := qa7 aW
 refine qbo (sz := 1) rfl rfl bb.1 bb.2 ?_
 refine qfg (L := [aS.Au.f0, aS.Au.f1, aS.Au.f2, aS.Au.f3, aS.Au.f4, aS.Au.f5, aS.Au.f6, aS.Au.f7]) (pre := [.bool aS.Av, .int .i64 (aS.depth + (a8.2.1 - a8.1))]) (post := []) m1 rfl (by simp) rfl bb.1 bb.2 ?_
 refine fa rfl (qao m0 rfl rfl (qrz (by decide) ?_))
 obtain ⟨bK, aW⟩ := qa7 aW
 refine qm5 bK ?_
 refine qqx ?_
 refine fa rfl ?_
 obtain ⟨ba, aW⟩ := qa7 aW
 refine qbo (sz := 1) rfl rfl ba.1 ba.2 ?_
 obtain ⟨bf, bu, aW⟩ := bnd aW
 replace bu := Option.some.inj bu
 have bM : bf.length = 8 := by rw [← bu]; simp
 refine qm6 (L := [aS.Au.f0, aS.Au.f1, aS.Au.f2, aS.Au.f3, aS.Au.f4, aS.Au.f5, aS.Au.f6, aS.Au.f7]) (pre := [.bool aS.Av, .int .i64 (aS.depth + (a8.2.1 - a8.1))]) (post := []) (cs' := [.bool aS.Av, .int .i64 (aS.depth + (a8.2.1 - a8.1)), .int .u64 (List.getD bf 0 0), .int .u64 (List.getD bf 1 0), .int .u64 (List.getD bf 2 0), .int .u64 (List.getD bf 3 0), .int .u64 (List.getD bf 4 0), .int .u64 (List.getD bf 5 0), .int .u64 (List.getD bf 6 0), .int .u64 (List.getD bf 7 0)]) r0 rfl (by simp) rfl ba.1 ba.2 bu (by rw [qux bM]; rfl) ?_
 refine ⟨⟨Hp.emp_le _, (pf rfl), ci0⟩, ?_⟩
 exact eM aW _
 exact eM aW _
 rintro aZ rfl cH
 refine jR (σ := Unit) (rg 112 8) (fun _ => [(119, .bool (decide (e0.Op = 9) || decide (e0.Op = 10)))]) (fun cN => True) ?_ ?_
 refine qaj rfl ?_
 refine fa rfl (ro (ld r1 rfl rfl (qaf ?_)))
 refine qag ?_ ?_ <;> intro aN
 refine ct aN (ct aN (ct aN ?_))
 exact eMt () ⟨bq (((qds aN)).symm), trivial⟩
 refine fa rfl (cf aN (ro (ld r1 rfl rfl (cf aN (qaf (cf aN ?_))))))
 exact eMt () ⟨bq (qll (b := decide (e0.Op = 10)) aN), trivial⟩
 rintro _ _ cA
 obtain ⟨cd, aO, aM⟩ := bnd aM
 refine jD (σ := ((List Jm))) ([2,3] ++ rg 120 20) [0, 1, 3] (fun bm => []) (fun bm => [OwnL Jm.enc (some ⟨bR, 0, none⟩) 204 10 (Int.toNat (code.length : Int)) bm]) (fun bm => (0 < bm.length → Has (some ⟨bR, 0, none⟩)) ∧ (Int.toNat (code.length : Int)) = bm.length ∧ cd = Fl.go bm) (And.intro ?_ ?_)
 refine cs rfl rfl aO ?_ ?_ <;> intro ce aO
 refine qa4 ⟨⟨[], false⟩, _, [(_, _), (_, _)], []⟩ (by kernel_rfl) ⟨Hp.Le.refl _, (sc [1,0] rfl), ci0⟩ ?_
 refine fa rfl (qao m0 rfl rfl ?_)
 refine qag ?_ ?_ <;> intro aL
 refine ct aL (ct aL (ct aL (ct aL (ct aL ?_))))
 replace aO := ift (qds aL) aO
 refine cT (cT (cT (cT (cT (cT (cT (cT ?_)))))))
 refine qad rfl (cT ?_)
 exact eE (er (er aO aM :) hm)
 refine fa rfl (cf aL (qao m0 rfl rfl (cf aL (cf aL (qcf rfl (cf aL (cf aL ?_)))))))
 refine qag ?_ ?_ <;> intro aJ
 replace aO := ift (qi9 aL aJ) aO
 refine ct aJ (ct aJ (ct aJ (ct aJ (ct aJ (ct aJ (ct aJ (qad rfl ?_)))))))
 refine cT ?_
 exact eE (er (er aO aM :) hm)
 replace aO := qbp (qgw aL aJ) aO
 refine cf aJ (fa rfl (cf aJ (qao m0 rfl rfl (cf aJ ?_))))
 obtain ⟨bW, bF, bw, aO⟩ := ixb aO
 refine qac rfl rfl (qdb bz bw) bF (qay bg bF bw) (cf aJ (qbx m1 rfl (nl rfl) (cf aJ ?_)))
 refine cb aO fun bL bJ aO => ckx (JaO bJ :) ?_
 rintro _ _ _ ⟨rfl, bj, bo, rfl⟩
 refine qk (sc [2,1] rfl) ?_
 refine cf aJ (qax (cf aJ ?_))
 refine cs rfl rfl aO ?_ ?_ <;> intro cj aO
 exact eE (er (er aO aM :) hm)
 exact mt (bL.2) trivial rfl (pf rfl) lr ⟨bj, ((bg).trans bo), (si aO).symm⟩
 exact eM aO _
 rintro bm ⟨bH, bv, rfl⟩ cC
 replace aM := elg aM
 refine cs rfl rfl aM ?_ ?_ <;> intro bU aM
 refine qa4 ⟨⟨[], false⟩, _, [(_, _)], []⟩ (by kernel_rfl) ⟨Hp.Le.refl _, (sc [1] rfl), ci0⟩ ?_
 refine fa rfl (qao m0 rfl rfl (qaf ?_))
 exact eE (er aM hm)
 refine qa4 ⟨⟨[], false⟩, _, [(_, _), (_, _)], []⟩ (by kernel_rfl) ⟨Hp.Le.refl _, (sc [2,1] rfl), ci0⟩ ?_
 refine fa rfl (qao m0 rfl rfl (qbf ?_))
 refine cS aM (fun aK aM => ?_) fun aK aM => ?_
 refine ct aK (ct aK (qat (qcl bA bQ) (ct aK ?_)))
 obtain ⟨bY, bD, bB, aM⟩ := ixb aM
 refine qac rfl rfl (qdb bH bB) bD (qay bv bD bB) (ct aK (qbx m1 rfl (nl rfl) (ct aK ?_)))
 refine cb aM fun bN bO aM => ckx (JaO bO :) ?_
 rintro _ _ _ ⟨rfl, bh, bn, rfl⟩
 refine qk (sc [2,1] rfl) ?_
 refine ct aK (qax (ct aK ?_))
 refine cs rfl rfl aM ?_ ?_ <;> intro ca aM
 exact eE (er aM hm)
 refine qat (qcl bA bQ) ?_
 exact rd (i0 + 1, ((max (max ab aS.depth) (aS.depth + (a8.2.1 - a8.1))), bN.2)) ⟨rfl, rfl, trivial⟩ rfl (sc [0,2] rfl) lr (ltm bA) ⟨⟨bh, ((bv).trans bn)⟩, aM⟩
 refine cf aK (cf aK (cf aK (cf aK (cf aK (cf aK (cf aK (qad rfl ?_)))))))
 refine cF (qat (qcl bA bQ) ?_)
 exact eR aM (_, (_, _))
 rw [lty w0, Jbe.eq_1] at aM
 refine cT ?_
 exact eM aM _
 rintro t0 ⟨cu, cp⟩ rfl j0
 replace hm := elg hm
 exact eE hm

def JcP (code : (List Jj)) : Option (Err) :=
  (Jc6 code).bind fun x7 =>
  if (!x7.2) then
  some (some 2)
  else
  some none
theorem Jea {code : (List Jj)} {aa : Option Addr} {ac : Nat} {n0 : Nat} {K : Hp} {r : Err}
    (hm : JcP code = some r) (hX : RdC Jj.enc K aa ac 3 code ∧ n0 = code.length ∧ GG K) :
    Fn Tryz.prog 32 [.slice aa n0 ac] K [] (fun v K' H' => v = qcu 87 r ∧ H' = []) := by
 obtain ⟨ae, aJ, hG⟩ := hX
 subst aJ
 refine Fn.enter Tryz.func32 Tryz.call32 rfl fun F => ?_
 unfold JcP at hm
 refine cb hm fun x7 q7 hm => cgx (Jew q7 :) ?_
 refine qax ?_
 refine cs rfl rfl hm ?_ ?_ <;> intro aK hm
 refine qa3 rfl ?_
 exact eE hm
 exact eE hm

def JaH (n' : Int) : Option (Jd) :=
  some (⟨2, (max (-1099511627776) (min n' 1099511627776)), ([] : Str), false⟩ : Jd)
theorem Ja1 {n' : Int} {K : Hp} {r : Jd}
    (hm : JaH n' = some r)  :
    Fn Tryz.prog 62 [.int .i64 n'] K [] (fun v K' H' => v = .agg #[.int .i64 r.kind, .int .i64 r.n, str r.s, .bool r.At] ∧ H' = []) := by
 refine Fn.enter Tryz.func62 Tryz.call62 rfl fun F => ?_
 unfold JaH at hm
 refine qal rfl fun b2 => ?_
 refine ro (qru (ro (qdf (qam rfl rfl (cT (cT ?_))))))
 refine qab r0 rfl ⟨rfl, rfl, (nl rfl), ?_⟩
 exact ro (qae r0 rfl (nl rfl) (eE hm))

def J7 (m : Jf) (x : Jd) (operation : Bool) : Option (Err × Jf) :=
  if decide ((x.s.length : Int) > 2048) then
  some ((some 5), m)
  else
  ((if (operation && decide (x.kind = 1)) then
  (chk ((64 : Int) ≠ 0 ∧ InI (Int.tdiv (x.s.length : Int) 64))).bind fun _ =>
  (chk (InI (m.result.Aj + (Int.tdiv (x.s.length : Int) 64)))).bind fun _ =>
  if decide ((m.result.Aj + (Int.tdiv (x.s.length : Int) 64)) > m.most) then
  some (Fl.ret ((some 13), (⟨m.Ar, m.most, (⟨m.result.Ae, m.result.Af, m.result.Ag, m.result.Vary, m.result.Ah, m.result.TTL, m.result.Ai, (m.result.Aj + (Int.tdiv (x.s.length : Int) 64)), m.result.Ak, m.result.Al⟩ : Je), m.stack, m.Ap⟩ : Jf)))
  else
  some (Fl.go (⟨m.Ar, m.most, (⟨m.result.Ae, m.result.Af, m.result.Ag, m.result.Vary, m.result.Ah, m.result.TTL, m.result.Ai, (m.result.Aj + (Int.tdiv (x.s.length : Int) 64)), m.result.Ak, m.result.Al⟩ : Je), m.stack, m.Ap⟩ : Jf))
  else
  some (Fl.go m) : Option (Fl (Err × Jf) (Jf)))).bind fun aK => aK.el some fun aJ =>
  (chk (aJ.stack.length + [x].length ≤ lim)).bind fun _ =>
  some (none, (⟨m.Ar, aJ.most, aJ.result, (aJ.stack ++ [x]), aJ.Ap⟩ : Jf))
theorem Jab {m : Jf} {x : Jd} {operation : Bool} {b0 : Nat} {aa : Option Addr} {ac : Nat} {aj : Option Addr} {al : Nat} {ak : Option Addr} {am : Nat} {an : Option Addr} {ar : Nat} {au : Option Addr} {aw : Nat} {K : Hp} {r : Err × Jf}
    (hm : J7 m x operation = some r) (hX : RdC Jc.enc K aa ac 2 m.Ar.Ao ∧ (0 < m.result.Ag.length → Has aj) ∧ (0 < m.result.Vary.length → Has ak) ∧ (0 < m.result.Ah.length → Has an) ∧ (0 < m.stack.length → Has au) ∧ m.Ap.length = 512) :
    Fn Tryz.prog 61 [.pointer (some ⟨b0, 0, none⟩), .agg #[.int .i64 x.kind, .int .i64 x.n, str x.s, .bool x.At], .bool operation] K [Cells b0 98 ((str m.Ar.Am) :: (str m.Ar.An) :: (str m.Ar.Ae) :: (str m.Ar.Af) :: (.slice aa m.Ar.Ao.length ac) :: (.int .i64 m.most) :: (str m.result.Ae) :: (str m.result.Af) :: (.slice aj m.result.Ag.length al) :: (.slice ak m.result.Vary.length am) :: (.slice an m.result.Ah.length ar) :: (.int .i64 m.result.TTL) :: (.int .i64 m.result.Ai) :: (.int .i64 m.result.Aj) :: (.bool m.result.Ak) :: (.bool m.result.Al) :: (.slice au m.stack.length aw) :: (m.Ap.map Jd.enc).flatten), OwnL Jc.enc aj 77 2 al m.result.Ag, OwnL eS ak 9 1 am m.result.Vary, OwnL eS an 9 1 ar m.result.Ah, OwnL Jd.enc au 95 4 aw m.stack] (fun v K' H' => ∃ ar_0 : Option Addr, ∃ cr_0 : Nat, ∃ ar_1 : Option Addr, ∃ cr_1 : Nat, ∃ ar_2 : Option Addr, ∃ cr_2 : Nat, ∃ ar_3 : Option Addr, ∃ cr_3 : Nat, v = qcu 87 r.1 ∧ (0 < r.2.result.Ag.length → Has ar_0) ∧ (0 < r.2.result.Vary.length → Has ar_1) ∧ (0 < r.2.result.Ah.length → Has ar_2) ∧ (0 < r.2.stack.length → Has ar_3) ∧ r.2.Ap.length = 512 ∧ H' = [Cells b0 98 ((str m.Ar.Am) :: (str m.Ar.An) :: (str m.Ar.Ae) :: (str m.Ar.Af) :: (.slice aa m.Ar.Ao.length ac) :: (.int .i64 r.2.most) :: (str r.2.result.Ae) :: (str r.2.result.Af) :: (.slice ar_0 r.2.result.Ag.length cr_0) :: (.slice ar_1 r.2.result.Vary.length cr_1) :: (.slice ar_2 r.2.result.Ah.length cr_2) :: (.int .i64 r.2.result.TTL) :: (.int .i64 r.2.result.Ai) :: (.int .i64 r.2.result.Aj) :: (.bool r.2.result.Ak) :: (.bool r.2.result.Al) :: (.slice ar_3 r.2.stack.length cr_3) :: (r.2.Ap.map Jd.enc).flatten), OwnL Jc.enc ar_0 77 2 cr_0 r.2.result.Ag, OwnL eS ar_1 9 1 cr_1 r.2.result.Vary, OwnL eS ar_2 9 1 cr_2 r.2.result.Ah, OwnL Jd.enc ar_3 95 4 cr_3 r.2.stack]) := by
 obtain ⟨ae, bf, a6, a8, bc, ba⟩ := hX
 refine Fn.enter Tryz.func61 Tryz.call61 rfl fun F => ?_
 unfold J7 at hm
 refine qas ?_
 intro b4
 refine fa rfl (ro (ld r0 rfl rfl (ro (qa2 rfl ?_))))
 refine cs rfl rfl hm ?_ ?_ <;> intro bw hm
 refine qa3 rfl ?_
 exact eE hm
 refine jR (σ := Unit) (rg 12 6) (fun _ => [(17, .bool (operation && decide (x.kind = 1)))]) (fun bn => True) ?_ ?_
 refine qaj rfl ?_
 refine qag ?_ ?_ <;> intro aT
 refine fa rfl (ct aT (ro (ld r0 rfl rfl (ct aT (qaf (ct aT ?_))))))
 exact eMt () ⟨bq (qdh (b := decide (x.kind = 1)) aT), trivial⟩
 refine cf aT (cf aT (cf aT ?_))
 exact eMt () ⟨bq (((qa0 aT)).symm), trivial⟩
 rintro _ _ bj
 obtain ⟨aZ, aS, hm⟩ := bnd hm
 refine jD (σ := (Jf) × Option Addr × Nat × Option Addr × Nat × Option Addr × Nat × Option Addr × Nat) ([6] ++ rg 18 24) [0, 6] (fun (aJ, aL, aP, aK, aO, aM, aQ, aN, aR) => []) (fun (aJ, aL, aP, aK, aO, aM, aQ, aN, aR) => [Cells b0 98 ((str m.Ar.Am) :: (str m.Ar.An) :: (str m.Ar.Ae) :: (str m.Ar.Af) :: (.slice aa m.Ar.Ao.length ac) :: (.int .i64 aJ.most) :: (str aJ.result.Ae) :: (str aJ.result.Af) :: (.slice aL aJ.result.Ag.length aP) :: (.slice aK aJ.result.Vary.length aO) :: (.slice aM aJ.result.Ah.length aQ) :: (.int .i64 aJ.result.TTL) :: (.int .i64 aJ.result.Ai) :: (.int .i64 aJ.result.Aj) :: (.bool aJ.result.Ak) :: (.bool aJ.result.Al) :: (.slice aN aJ.stack.length aR) :: (aJ.Ap.map Jd.enc).flatten), OwnL Jc.enc aL 77 2 aP aJ.result.Ag, OwnL eS aK 9 1 aO aJ.result.Vary, OwnL eS aM 9 1 aQ aJ.result.Ah, OwnL Jd.enc aN 95 4 aR aJ.stack]) (fun (aJ, aL, aP, aK, aO, aM, aQ, aN, aR) => (0 < aJ.result.Ag.length → Has aL) ∧ (0 < aJ.result.Vary.length → Has aK) ∧ (0 < aJ.result.Ah.length → Has aM) ∧ (0 < aJ.stack.length → Has aN) ∧ aJ.Ap.length = 512 ∧ aZ = Fl.go aJ) (And.intro ?_ ?_)
 refine cs rfl rfl aS ?_ ?_ <;> intro bu aS
 refine qbm ⟨⟨[], false⟩, _, [(_, _), (_, _)], []⟩ 9 rfl (by kernel_rfl) ⟨Hp.Le.refl _, (sc [1,0] rfl), ci0⟩ ?_
 refine qah (fa rfl (fa rfl (qao m0 rfl rfl (fa rfl (qao m1 rfl rfl (qhj rfl ?_))))))
 obtain ⟨bb, aS⟩ := qa7 aS
 refine qmr bb.1 bb.2 ?_
 obtain ⟨bh, aS⟩ := qa7 aS
 refine qat bh (qah (fa rfl (fa rfl ?_)))
 refine qnb (cs' := (str m.Ar.Am) :: (str m.Ar.An) :: (str m.Ar.Ae) :: (str m.Ar.Af) :: (.slice aa m.Ar.Ao.length ac) :: (.int .i64 m.most) :: (str m.result.Ae) :: (str m.result.Af) :: (.slice aj m.result.Ag.length al) :: (.slice ak m.result.Vary.length am) :: (.slice an m.result.Ah.length ar) :: (.int .i64 m.result.TTL) :: (.int .i64 m.result.Ai) :: (.int .i64 (m.result.Aj + (Int.tdiv (x.s.length : Int) 64))) :: (.bool m.result.Ak) :: (.bool m.result.Al) :: (.slice au m.stack.length aw) :: (m.Ap.map Jd.enc).flatten) r1 rfl rfl (by exact rfl) (by exact nl rfl) (by exact rfl) ?_
 refine ⟨⟨Hp.emp_le _, (pf rfl), ci0⟩, ?_⟩
 refine qa4 ⟨⟨[], false⟩, _, [(_, _)], []⟩ (by kernel_rfl) ⟨Hp.Le.refl _, (pf rfl), ci0⟩ ?_
 refine qah (fa rfl (fa rfl (qao m0 rfl rfl (qah (fa rfl (qao m0 rfl rfl ?_))))))
 refine cs rfl rfl aS ?_ ?_ <;> intro bt aS
 refine qa3 rfl ?_
 exact eE (er aS hm)
 exact eM aS (_, _, _, _, _, _, _, _, _)
 exact eM aS (_, _, _, _, _, _, _, _, _)
 rintro ⟨aJ, aL, aP, aK, aO, aM, aQ, aN, aR⟩ ⟨aY, aV, aU, aX, aW, rfl⟩ bo
 replace hm := elg hm
 refine qbm ⟨⟨[], false⟩, _, [(_, _), (_, _)], []⟩ 8 rfl (by kernel_rfl) ⟨Hp.Le.refl _, (sc [0,4] rfl), ci0⟩ ?_
 refine qah (fa rfl (qao m0 rfl rfl (qbx m1 rfl (nl rfl) ?_)))
 refine bsO (len := 1) (enc := Jd.enc) (l := [x]) (cl := [.int .i64 x.kind, .int .i64 x.n, str x.s, .bool x.At]) qtf rfl rfl (fun _ _ => rfl) rfl rfl rfl ?_ fun bv => ?_
 · conv => whnf
   refine cT ?_
   first | done | rfl
 refine qk (sc [1,5] rfl) ?_
 obtain ⟨bp, hm⟩ := qa7 hm
 refine apE rfl r5 qtf (qa6 rfl r0 rfl (fun _ => rfl) (fun _ => rfl)) bp ?_
 intro bm bg br
 refine qk (sc [2,5] rfl) ?_
 refine qah (fa rfl ?_)
 refine qnb (cs' := (str m.Ar.Am) :: (str m.Ar.An) :: (str m.Ar.Ae) :: (str m.Ar.Af) :: (.slice aa m.Ar.Ao.length ac) :: (.int .i64 aJ.most) :: (str aJ.result.Ae) :: (str aJ.result.Af) :: (.slice aL aJ.result.Ag.length aP) :: (.slice aK aJ.result.Vary.length aO) :: (.slice aM aJ.result.Ah.length aQ) :: (.int .i64 aJ.result.TTL) :: (.int .i64 aJ.result.Ai) :: (.int .i64 aJ.result.Aj) :: (.bool aJ.result.Ak) :: (.bool aJ.result.Al) :: (.slice bm ((aJ.stack ++ [x]).length) bg) :: (aJ.Ap.map Jd.enc).flatten) r2 rfl rfl (by exact rfl) (by exact nl rfl) (by exact rfl) ?_
 refine ⟨⟨Hp.emp_le _, (pf rfl), ci0⟩, ?_⟩
 exact eE hm

def Jac (s : Str) : Option (Jd) :=
  some (⟨1, 0, s, false⟩ : Jd)
theorem Jaa {s : Str} {K : Hp} {r : Jd}
    (hm : Jac s = some r)  :
    Fn Tryz.prog 63 [str s] K [] (fun v K' H' => v = .agg #[.int .i64 r.kind, .int .i64 r.n, str r.s, .bool r.At] ∧ H' = []) := by
 refine Fn.enter Tryz.func63 Tryz.call63 rfl fun F => ?_
 unfold Jac at hm
 refine qal rfl fun b2 => ?_
 refine qam rfl rfl (cT (cT ?_))
 refine qab r0 rfl ⟨rfl, rfl, (nl rfl), ?_⟩
 exact ro (qae r0 rfl (nl rfl) (eE hm))

def Jae (name : Str) (Ar : JB) : Option (Jd) :=
  if decide (name = ([109, 101, 116, 104, 111, 100] : Str)) then
  (Jac Ar.Am).bind fun aK =>
  some aK
  else
  if decide (name = ([104, 111, 115, 116] : Str)) then
  (Jac Ar.An).bind fun aL =>
  some aL
  else
  if decide (name = ([112, 97, 116, 104] : Str)) then
  (Jac Ar.Ae).bind fun aJ =>
  some aJ
  else
  (Jac Ar.Af).bind fun aM =>
  some aM
theorem Jcn {name : Str} {Ar : JB} {af : Option Addr} {ag : Nat} {K : Hp} {r : Jd}
    (hm : Jae name Ar = some r) (ah : RdC Jc.enc K af ag 2 Ar.Ao) :
    Fn Tryz.prog 64 [str name, .agg #[str Ar.Am, str Ar.An, str Ar.Ae, str Ar.Af, .slice af Ar.Ao.length ag]] K [] (fun v K' H' => v = .agg #[.int .i64 r.kind, .int .i64 r.n, str r.s, .bool r.At] ∧ H' = []) := by
 refine Fn.enter Tryz.func64 Tryz.call64 rfl fun F => ?_
 unfold Jae at hm
 refine qas ?_
 intro b3
 refine qal rfl fun b4 => ?_
 refine qak rfl ?_
 refine qar (cs rfl rfl hm ?_ ?_) <;> intro w6 hm
 refine fa rfl (ro (ld r1 rfl rfl ?_))
 refine cb hm fun aN aM hm => cg0 (Jaa aM :) ?_
 refine qab r0 rfl ⟨rfl, rfl, (nl rfl), ?_⟩
 exact ro (qae r0 rfl (nl rfl) (eE hm))
 refine qar (cs rfl rfl hm ?_ ?_) <;> intro aR hm
 refine fa rfl (ro (ld r1 rfl rfl ?_))
 refine cb hm fun aS aK hm => cg0 (Jaa aK :) ?_
 refine qab r0 rfl ⟨rfl, rfl, (nl rfl), ?_⟩
 exact ro (qae r0 rfl (nl rfl) (eE hm))
 refine qar (cs rfl rfl hm ?_ ?_) <;> intro aQ hm
 refine fa rfl (ro (ld r1 rfl rfl ?_))
 refine cb hm fun aO aJ hm => cg0 (Jaa aJ :) ?_
 refine qab r0 rfl ⟨rfl, rfl, (nl rfl), ?_⟩
 exact ro (qae r0 rfl (nl rfl) (eE hm))
 refine fa rfl (ro (ld r1 rfl rfl ?_))
 refine cb hm fun aP aL hm => cg0 (Jaa aL :) ?_
 refine qab r0 rfl ⟨rfl, rfl, (nl rfl), ?_⟩
 exact ro (qae r0 rfl (nl rfl) (eE hm))

def Jaf (m : Jf) : Option (Jd × Jf) :=
  (chk (InI ((m.stack.length : Int) - 1))).bind fun _ =>
  (ix m.stack ((m.stack.length : Int) - 1)).bind fun aJ =>
  (chk (InI ((m.stack.length : Int) - 1))).bind fun _ =>
  (chk (0 ≤ (0 : Int) ∧ (0 : Int) ≤ ((m.stack.length : Int) - 1) ∧ ((m.stack.length : Int) - 1) ≤ (m.stack.length : Int))).bind fun _ =>
  some (aJ, (⟨m.Ar, m.most, m.result, (subL m.stack (0 : Int) ((m.stack.length : Int) - 1)), m.Ap⟩ : Jf))
theorem Jaj {m : Jf} {b0 : Nat} {aa : Option Addr} {ac : Nat} {aj : Option Addr} {al : Nat} {ak : Option Addr} {am : Nat} {an : Option Addr} {ar : Nat} {au : Option Addr} {aw : Nat} {K : Hp} {r : Jd × Jf}
    (hm : Jaf m = some r) (hX : RdC Jc.enc K aa ac 2 m.Ar.Ao ∧ (0 < m.result.Ag.length → Has aj) ∧ (0 < m.result.Vary.length → Has ak) ∧ (0 < m.result.Ah.length → Has an) ∧ (0 < m.stack.length → Has au) ∧ m.Ap.length = 512) :
    Fn Tryz.prog 65 [.pointer (some ⟨b0, 0, none⟩)] K [Cells b0 98 ((str m.Ar.Am) :: (str m.Ar.An) :: (str m.Ar.Ae) :: (str m.Ar.Af) :: (.slice aa m.Ar.Ao.length ac) :: (.int .i64 m.most) :: (str m.result.Ae) :: (str m.result.Af) :: (.slice aj m.result.Ag.length al) :: (.slice ak m.result.Vary.length am) :: (.slice an m.result.Ah.length ar) :: (.int .i64 m.result.TTL) :: (.int .i64 m.result.Ai) :: (.int .i64 m.result.Aj) :: (.bool m.result.Ak) :: (.bool m.result.Al) :: (.slice au m.stack.length aw) :: (m.Ap.map Jd.enc).flatten), OwnL Jc.enc aj 77 2 al m.result.Ag, OwnL eS ak 9 1 am m.result.Vary, OwnL eS an 9 1 ar m.result.Ah, OwnL Jd.enc au 95 4 aw m.stack] (fun v K' H' => ∃ ar_0 : Option Addr, ∃ cr_0 : Nat, ∃ ar_1 : Option Addr, ∃ cr_1 : Nat, ∃ ar_2 : Option Addr, ∃ cr_2 : Nat, ∃ ar_3 : Option Addr, ∃ cr_3 : Nat, v = .agg #[.int .i64 r.1.kind, .int .i64 r.1.n, str r.1.s, .bool r.1.At] ∧ (0 < r.2.result.Ag.length → Has ar_0) ∧ (0 < r.2.result.Vary.length → Has ar_1) ∧ (0 < r.2.result.Ah.length → Has ar_2) ∧ (0 < r.2.stack.length → Has ar_3) ∧ r.2.Ap.length = 512 ∧ H' = [Cells b0 98 ((str m.Ar.Am) :: (str m.Ar.An) :: (str m.Ar.Ae) :: (str m.Ar.Af) :: (.slice aa m.Ar.Ao.length ac) :: (.int .i64 r.2.most) :: (str r.2.result.Ae) :: (str r.2.result.Af) :: (.slice ar_0 r.2.result.Ag.length cr_0) :: (.slice ar_1 r.2.result.Vary.length cr_1) :: (.slice ar_2 r.2.result.Ah.length cr_2) :: (.int .i64 r.2.result.TTL) :: (.int .i64 r.2.result.Ai) :: (.int .i64 r.2.result.Aj) :: (.bool r.2.result.Ak) :: (.bool r.2.result.Al) :: (.slice ar_3 r.2.stack.length cr_3) :: (r.2.Ap.map Jd.enc).flatten), OwnL Jc.enc ar_0 77 2 cr_0 r.2.result.Ag, OwnL eS ar_1 9 1 cr_1 r.2.result.Vary, OwnL eS ar_2 9 1 cr_2 r.2.result.Ah, OwnL Jd.enc ar_3 95 4 cr_3 r.2.stack]) := by
 obtain ⟨ae, aN, aL, aM, aJ, aK⟩ := hX
 refine Fn.enter Tryz.func65 Tryz.call65 rfl fun F => ?_
 unfold Jaf at hm
 refine qal rfl fun b2 => ?_
 refine qc0 ⟨⟨[], true⟩, _, [], []⟩ 14 rfl (by kernel_rfl) ⟨Hp.Le.refl _, (pf rfl), ci0⟩ ?_
 refine qah (fa rfl ?_)
 refine ld r1 rfl rfl ?_
 refine qah (fa rfl ?_)
 refine ld r1 rfl rfl ?_
 refine qcf rfl ?_
 refine ci hm fun hm => ?_
 obtain ⟨aU, aP, aO, hm⟩ := ixb hm
 refine qac rfl rfl (qdb aJ aO) aP (qay rfl aP aO) ?_
 refine qms (i := (((m.stack.length : Int) - 1)).toNat) r5 rfl aO rfl rfl ?_
 refine qg2 rfl ?_
 intro b3
 intro aS
 refine qab r0 rfl ⟨rfl, rfl, (nl rfl), ?_⟩
 refine ⟨⟨lr, (pf rfl), ci0⟩, ?_⟩
 refine ⟨_, .cons r8 .nil, ⟨lr, (pf rfl), ci0⟩, ?_⟩
 refine DStep.ownLe r3 fun aW => ?_
 refine DStep.ownLe r4 fun aT => ?_
 refine DStep.ownLe r5 fun aV => ?_
 refine DStep.ownLe r6 fun aR => ?_
 refine qbm ⟨⟨[], false⟩, _, [(_, _)], []⟩ 12 rfl (by kernel_rfl) ⟨Hp.Le.refl _, (sc [2] rfl), ci0⟩ ?_
 refine qah (fa rfl (qao m0 rfl rfl (qah (fa rfl (qao m0 rfl rfl (qcf rfl ?_))))))
 refine ci hm fun hm => ?_
 obtain ⟨aQ, hm⟩ := qa7 hm
 refine qr8 (l := m.stack) (hi := (some ((m.stack.length : Int) - 1))) rfl rfl rfl aR aQ ?_
 refine qah (fa rfl ?_)
 refine tkW ((m.stack.length : Int) - 1) r6 ?_
 refine qnb (cs' := (str m.Ar.Am) :: (str m.Ar.An) :: (str m.Ar.Ae) :: (str m.Ar.Af) :: (.slice aa m.Ar.Ao.length ac) :: (.int .i64 m.most) :: (str m.result.Ae) :: (str m.result.Af) :: (.slice aj m.result.Ag.length al) :: (.slice ak m.result.Vary.length am) :: (.slice an m.result.Ah.length ar) :: (.int .i64 m.result.TTL) :: (.int .i64 m.result.Ai) :: (.int .i64 m.result.Aj) :: (.bool m.result.Ak) :: (.bool m.result.Al) :: (.slice au ((subL m.stack (0 : Int) ((m.stack.length : Int) - 1)).length) aw) :: (m.Ap.map Jd.enc).flatten) r3 rfl rfl (by exact rfl) (by exact nl rfl) (by exact rfl) ?_
 refine ⟨⟨Hp.emp_le _, (pf rfl), ci0⟩, ?_⟩
 refine ro (qae r2 rfl (nl rfl) ?_)
 refine qab r3 rfl ⟨rfl, rfl, (nl rfl), ?_⟩
 obtain rfl := si hm
 exact ro (qae r0 rfl (nl rfl) (en lr ⟨aj, al, ak, am, an, ar, au, aw, rfl, aN, aL, aM, (fun h => aJ (qr3 aQ h)), aK, rfl⟩ (sc [1,3,3,3,1,2] rfl)))

def JbB (path : Str) : Option ((List Str)) :=
  (cutM path ([47] : Str)).bind fun x8 =>
  if (!x8.2.2) then
  some []
  else
  (qf8 x8.2.1 ([47] : Str)).bind fun aJ =>
  some aJ
theorem JdP {path : Str} {K : Hp} {r : (List Str)}
    (hm : JbB path = some r) (hG : GG K) :
    Fn Tryz.prog 104 [str path] K [] (fun v K' H' => ∃ ar_0 : Option Addr, ∃ cr_0 : Nat, v = .slice ar_0 r.length cr_0 ∧ (0 < r.length → Has ar_0) ∧ H' = [OwnL eS ar_0 9 1 cr_0 r]) := by
 refine Fn.enter Tryz.func104 Tryz.call104 rfl fun F => ?_
 unfold JbB at hm
 refine cb hm fun x8 q8 hm => cg0 (qrm q8 (gg3 hG)) ?_
 refine qax ?_
 refine cs rfl rfl hm ?_ ?_ <;> intro aO hm
 refine qjc eS 9 1 ?_
 exact eE hm
 refine cb hm fun aN aM hm => ck0 (qfi aM (gg3 hG)) ?_
 rintro _ _ _ ⟨aK, aJ, rfl, aL, rfl⟩
 exact eE hm

def JaP : Nat → Nat → Str → Option (Str)
  | 0, _, ab => some ab
  | aK + 1, i0, ab =>
    (ix ab (i0 : Int)).bind fun aJ =>
    if (decide ((aJ.toNat : Int) ≥ 65) && decide ((aJ.toNat : Int) ≤ 90)) then
    (ix ab (i0 : Int)).bind fun aL =>
    JaP aK (i0 + 1) (ab.set (((i0 : Int)).toNat) (aJ + (32 : UInt8)))
    else
    JaP aK (i0 + 1) ab
def Jbw (s : Str) : Option (Str) :=
  (chk (s.length ≤ lim)).bind fun _ =>
  (chk (InI (s.length : Int))).bind fun _ =>
  (JaP (s.length : Int).toNat 0 s).bind fun t0 =>
  some t0
theorem JbU {s : Str} {K : Hp} {r : Str}
    (hm : Jbw s = some r)  :
    Fn Tryz.prog 178 [str s] K [] (fun v K' H' => v = str r ∧ H' = []) := by
 refine Fn.enter Tryz.func178 Tryz.call178 rfl fun F => ?_
 unfold Jbw at hm
 obtain ⟨h7, hm⟩ := qa7 hm
 refine qka rfl rfl rfl h7 ?_
 intro a7 c7 o7
 refine ro (qai rfl ?_)
 obtain ⟨aQ, hm⟩ := qa7 hm
 obtain ⟨s0, aK, hm⟩ := bnd hm
 refine lD (σ := (Str)) ([4,5] ++ rg 10 17) [1] (fun i0 => [(10, .int .i64 (i0 : Int))]) (fun _ => []) (fun t0 => [OwnL eU a7 5 1 c7 t0]) (fun t0 => (0 < t0.length → Has a7) ∧ s.length = t0.length) (fun i0 t0 => JaP ((s.length : Int).toNat - i0) i0 t0 = some s0) (fun t0 => t0 = s0) (fun i0 => (s.length : Int).toNat - i0) 0 _ aK (And.intro qe (And.intro ?_ ?_))
 clear aK
 rintro i0 ab ⟨aL, aM⟩ aK j0
 conv at aK => whnf
 refine qad rfl ?_
 refine qag ?_ ?_ <;> intro w0
 rw [ltn w0, JaP.eq_2] at aK
 refine qak rfl ?_
 obtain ⟨aP, aT, aR, aK⟩ := ixb aK
 refine RStep.ofN (qac rfl rfl (qdb aL aR) aT (qay aM aT aR) (ro (qda (i := ((i0 : Int)).toNat) (o := 0) r0 rfl aR rfl rfl ?_)))
 refine qaj rfl ?_
 refine qag ?_ ?_ <;> intro aJ
 refine ct aJ (ct aJ (qad rfl ?_))
 refine qag ?_ ?_ <;> intro aV
 replace aK := ift (qb5 aJ aV) aK
 refine qmq (x := aP) (y := (32 : UInt8)) rfl rfl ?_
 obtain ⟨aW, aU, aO, aK⟩ := ixb aK
 refine RStep.ofN (qac rfl rfl (qdb aL aO) aU (qay aM aU aO) ?_)
 refine qee (o := 0) (y := (aP + (32 : UInt8))) aW r0 rfl aO rfl (by (conv => whnf); exact ⟨rfl, rfl, (nl rfl), rfl, rfl, rfl⟩) ?_
 refine qat (qo3 w0 aQ) ?_
 exact rd (i0 + 1, (ab.set (((i0 : Int)).toNat) (aP + (32 : UInt8)))) ⟨rfl, trivial⟩ rfl (pf rfl) lr (quu w0) ⟨⟨(by first | simpa using aL | exact fun _ => ⟨_, _, rfl⟩), ((aM).trans List.length_set.symm)⟩, aK⟩
 replace aK := qbp (qcs aJ aV) aK
 refine qat (qo3 w0 aQ) ?_
 exact eR aK (_, _)
 refine cf aJ (cf aJ (qad rfl (cF ?_)))
 replace aK := qbp (qa0 aJ) aK
 refine qat (qo3 w0 aQ) ?_
 exact eR aK (_, _)
 rw [lto w0, JaP.eq_1] at aK
 refine cT ?_
 exact eM aK _
 rintro t0 ⟨aS, aN⟩ rfl j0
 refine ro (qhl aN r0 rfl rfl rfl ?_)
 exact eE hm

def Ja3 (x9 : Str) : List Jc → Nat → (List Str) → Option ((List Str))
  | [], _, ab => some ab
  | e0 :: aJ, i0, ab =>
    (Jbw e0.Name).bind fun aK =>
    if decide (aK = x9) then
    (chk (ab.length + [e0.Value].length ≤ lim)).bind fun _ =>
    Ja3 x9 aJ (i0 + 1) (ab ++ [e0.Value])
    else
    Ja3 x9 aJ (i0 + 1) ab
def Jdp (f : (List Jc)) (name : Str) : Option ((List Str)) :=
  (Jbw name).bind fun x9 =>
  (chk (f.length ≤ qav)).bind fun _ =>
  (Ja3 x9 f 0 []).bind fun t0 =>
  some t0
theorem Je9 {f : (List Jc)} {name : Str} {aa : Option Addr} {ac : Nat} {n0 : Nat} {K : Hp} {r : (List Str)}
    (hm : Jdp f name = some r) (hX : RdC Jc.enc K aa ac 2 f ∧ n0 = f.length) :
    Fn Tryz.prog 145 [.slice aa n0 ac, str name] K [] (fun v K' H' => ∃ ar_0 : Option Addr, ∃ cr_0 : Nat, v = .slice ar_0 r.length cr_0 ∧ (0 < r.length → Has ar_0) ∧ H' = [OwnL eS ar_0 9 1 cr_0 r]) := by
 obtain ⟨ae, aU⟩ := hX
 subst aU
 refine Fn.enter Tryz.func145 Tryz.call145 rfl fun F => ?_
 unfold Jdp at hm
 refine cb hm fun x9 q9 hm => cg0 (JbU q9 :) ?_
 refine ro (qai rfl ?_)
 obtain ⟨aP, hm⟩ := qa7 hm
 obtain ⟨s0, aL, hm⟩ := bnd hm
 refine ql6 eS 9 1 ?_
 refine lD (σ := ((List Str)) × Option Addr × Nat) ([5,7] ++ rg 12 15) [1] (fun i0 => [(12, .int .i64 (i0 : Int))]) (fun (t0, aJ, aK) => [(5, .slice aJ t0.length aK)]) (fun (t0, aJ, aK) => [OwnL eS aJ 9 1 aK t0]) (fun (t0, aJ, aK) => (0 < t0.length → Has aJ) ∧ True) (fun i0 (t0, aJ, aK) => Ja3 x9 (f.drop i0) i0 t0 = some s0) (fun (t0, aJ, aK) => t0 = s0) (fun i0 => f.length - i0) 0 (_, _, _) aL (And.intro qe (And.intro ?_ ?_))
 clear aL
 rintro i0 ⟨ab, aR, aQ⟩ ⟨aN, _⟩ aL j0
 conv at aL => whnf
 refine qad rfl ?_
 refine qag ?_ ?_ <;> intro w0
 obtain ⟨e0, aM, aV⟩ := ltx w0
 rw [aV, Ja3.eq_2] at aL
 refine qak rfl ?_
 refine RStep.ofN (qac rfl rfl (qdg ae.rd aM) (nn _) (qbs aM) (ro (qan i0 _ ae.rd rfl (mp aM) rfl ?_)))
 refine qal rfl fun b7 => ?_
 refine qab r0 rfl ⟨rfl, rfl, (nl rfl), ?_⟩
 refine fa rfl (ro (ld r0 rfl rfl ?_))
 refine cb aL fun a6 aT aL => cg0 (JbU aT :) ?_
 refine qar (cs rfl rfl aL ?_ ?_) <;> intro aZ aL
 refine fa rfl (ro (ld r0 rfl rfl ?_))
 refine bsO (len := 1) (enc := eS) (l := [e0.Value]) (cl := [str e0.Value]) qfk rfl rfl (fun _ _ => rfl) rfl rfl rfl ?_ fun aW => ?_
 · conv => whnf
   refine cT ?_
   first | done | rfl
 obtain ⟨aS, aL⟩ := qa7 aL
 refine apE rfl r2 qfk (qa6 rfl r0 rfl (fun _ => rfl) (fun _ => rfl)) aS ?_
 intro a8 aY aX
 refine qat (qcl aM aP) ?_
 exact eR aL (_, _, _, _)
 refine qat (qcl aM aP) ?_
 exact eR aL (_, _, _, _)
 rw [lty w0, Ja3.eq_1] at aL
 refine cT ?_
 exact eM aL (_, _, _)
 rintro ⟨t0, aJ, aK⟩ ⟨aO, _⟩ rfl j0
 exact eE hm

def JcV (f : (List Jc)) (name : Str) : Option (Str × Bool) :=
  (Jdp f name).bind fun x9 =>
  (qjg x9 ([44, 32] : Str)).bind fun aJ =>
  some (aJ, decide ((x9.length : Int) > 0))
theorem Jeh {f : (List Jc)} {name : Str} {aa : Option Addr} {ac : Nat} {n0 : Nat} {K : Hp} {r : Str × Bool}
    (hm : JcV f name = some r) (hX : RdC Jc.enc K aa ac 2 f ∧ n0 = f.length) :
    Fn Tryz.prog 105 [.slice aa n0 ac, str name] K [] (fun v K' H' => v = .tuple #[str r.1, .bool r.2] ∧ H' = []) := by
 obtain ⟨ae, aO⟩ := hX
 subst aO
 refine Fn.enter Tryz.func105 Tryz.call105 rfl fun F => ?_
 unfold JcV at hm
 refine cb hm fun x9 q9 hm => ckx (Je9 q9 :) ?_
 rintro _ _ _ ⟨aP, aM, rfl, aQ, rfl⟩
 refine cb hm fun aR aN hm => ck0 (Fn.lend Tryz.call146 (fun aK aL aJ => (qs7 aN aJ rfl)) (by exact fun _ _ _ _ h => h)) ?_
 rintro _ _ _ ⟨_, rfl, rfl, rfl⟩
 refine ro (qai rfl ?_)
 exact eE hm

def Jat (At : Bool) : Option (Jd) :=
  some (⟨3, 0, ([] : Str), At⟩ : Jd)
theorem Jak {At : Bool} {K : Hp} {r : Jd}
    (hm : Jat At = some r)  :
    Fn Tryz.prog 68 [.bool At] K [] (fun v K' H' => v = .agg #[.int .i64 r.kind, .int .i64 r.n, str r.s, .bool r.At] ∧ H' = []) := by
 refine Fn.enter Tryz.func68 Tryz.call68 rfl fun F => ?_
 unfold Jat at hm
 refine qal rfl fun b2 => ?_
 refine qam rfl rfl (cT (cT ?_))
 refine qab r0 rfl ⟨rfl, rfl, (nl rfl), ?_⟩
 exact ro (qae r0 rfl (nl rfl) (eE hm))

def JV (s : Str) (prefixZ : Str) : Option (Bool) :=
  (J5 s prefixZ).bind fun x7 =>
  some x7
theorem Ja0 {s : Str} {prefixZ : Str} {K : Hp} {r : Bool}
    (hm : JV s prefixZ = some r)  :
    Fn Tryz.prog 69 [str s, str prefixZ] K [] (fun v K' H' => v = .bool r ∧ H' = []) := by
 refine Fn.enter Tryz.func69 Tryz.call69 rfl fun F => ?_
 unfold JV at hm
 refine cb hm fun x7 q7 hm => cg0 (Jbh q7 :) ?_
 exact eE hm

def Jbm (name : Str) : List Str → Nat → Option (Fl (Str × Bool) (Unit))
  | [], _ => some (Fl.go ())
  | e0 :: aJ, i0 =>
    (chk (name.length + ([61] : Str).length ≤ lim)).bind fun _ =>
    (JV e0 (name ++ ([61] : Str))).bind fun aK =>
    if aK then
    (chk (InI ((name.length : Int) + 1))).bind fun _ =>
    (chk (0 ≤ ((name.length : Int) + 1) ∧ ((name.length : Int) + 1) ≤ (e0.length : Int) ∧ (e0.length : Int) ≤ (e0.length : Int))).bind fun _ =>
    some (Fl.ret ((subL e0 ((name.length : Int) + 1) (e0.length : Int)), true))
    else
    Jbm name aJ (i0 + 1)
def Jcx (a : Jbs) (name : Str) : Option (Str × Bool) :=
  if (!a.HasQuery) then
  some (([] : Str), false)
  else
  (qf8 a.Af ([38] : Str)).bind fun aJ =>
  (chk (aJ.length ≤ qav)).bind fun _ =>
  (Jbm name aJ 0).bind fun s0 => s0.el some fun t0 =>
  some (([] : Str), false)
theorem JeO {a : Jbs} {name : Str} {K : Hp} {r : Str × Bool}
    (hm : Jcx a name = some r) (hG : GG K) :
    Fn Tryz.prog 106 [.agg #[str a.An, str a.Ae, str a.Af, .bool a.HasQuery], str name] K [] (fun v K' H' => v = .tuple #[str r.1, .bool r.2] ∧ H' = []) := by
 refine Fn.enter Tryz.func106 Tryz.call106 rfl fun F => ?_
 unfold Jcx at hm
 refine qas ?_
 intro b2
 refine fa rfl (ro (ld r0 rfl rfl (qax ?_)))
 refine cs rfl rfl hm ?_ ?_ <;> intro aY hm
 exact eE hm
 refine fa rfl (ro (ld r0 rfl rfl ?_))
 refine cb hm fun aM aQ hm => ck0 (qfi aQ (gg3 hG)) ?_
 rintro _ _ _ ⟨aO, aN, rfl, aK, rfl⟩
 refine ro (qai rfl ?_)
 obtain ⟨aR, hm⟩ := qa7 hm
 obtain ⟨s0, aJ, hm⟩ := bnd hm
 refine lD (σ := (Unit)) ([4,5,7] ++ rg 15 14) [0, 1, 2] (fun i0 => [(15, .int .i64 (i0 : Int))]) (fun _ => []) (fun _ => []) (fun _ => True) (fun i0 _ => Jbm name (aM.drop i0) i0 = some s0) (fun t0 => s0 = Fl.go t0) (fun i0 => aM.length - i0) 0 () aJ (And.intro qe (And.intro ?_ ?_))
 clear aJ
 rintro i0 _ _ aJ j0
 conv at aJ => whnf
 refine qad rfl ?_
 refine qag ?_ ?_ <;> intro w0
 obtain ⟨e0, aL, aT⟩ := ltx w0
 rw [aT, Jbm.eq_2] at aJ
 refine qak rfl ?_
 refine RStep.ofN (qac rfl rfl (qdb aK aL) (nn _) (qr2 rfl aL) (ro (qda (i := i0) (o := 0) r0 rfl aL rfl rfl ?_)))
 obtain ⟨aP, aJ⟩ := qa7 aJ
 refine qf1 aP ?_
 refine cb aJ fun aV aS aJ => cg0 (Ja0 aS :) ?_
 refine CStep.ownLe r0 fun aW => ?_
 refine cs rfl rfl aJ ?_ ?_ <;> intro aX aJ
 refine ro (qa2 rfl ?_)
 refine ci aJ fun aJ => ?_
 obtain ⟨aU, aJ⟩ := qa7 aJ
 refine RStep.ofN (qf2 (lo := (some ((name.length : Int) + 1))) (hi := none) rfl aU ?_)
 exact eE (er aJ hm)
 refine qat (qcl aL aR) ?_
 exact eR aJ (_, ())
 rw [lty w0, Jbm.eq_1] at aJ
 refine cT ?_
 exact eM aJ _
 rintro t0 _ rfl j0
 replace hm := elg hm
 exact eE hm

def JaD : Nat → Nat → Str → Option (Str)
  | 0, _, ab => some ab
  | aK + 1, i0, ab =>
    (ix ab (i0 : Int)).bind fun aJ =>
    if (decide ((aJ.toNat : Int) ≥ 65) && decide ((aJ.toNat : Int) ≤ 90)) then
    (ix ab (i0 : Int)).bind fun aL =>
    JaD aK (i0 + 1) (ab.set (((i0 : Int)).toNat) (aJ + (32 : UInt8)))
    else
    JaD aK (i0 + 1) ab
def Jco (s : Str) : Option (Str) :=
  (chk (s.length ≤ lim)).bind fun _ =>
  (chk (InI (s.length : Int))).bind fun _ =>
  (JaD (s.length : Int).toNat 0 s).bind fun t0 =>
  some t0
theorem JeD {s : Str} {K : Hp} {r : Str}
    (hm : Jco s = some r)  :
    Fn Tryz.prog 107 [str s] K [] (fun v K' H' => v = str r ∧ H' = []) := by
 refine Fn.enter Tryz.func107 Tryz.call107 rfl fun F => ?_
 unfold Jco at hm
 obtain ⟨h7, hm⟩ := qa7 hm
 refine qka rfl rfl rfl h7 ?_
 intro a7 c7 o7
 refine ro (qai rfl ?_)
 obtain ⟨aQ, hm⟩ := qa7 hm
 obtain ⟨s0, aK, hm⟩ := bnd hm
 refine lD (σ := (Str)) ([4,5] ++ rg 10 17) [1] (fun i0 => [(10, .int .i64 (i0 : Int))]) (fun _ => []) (fun t0 => [OwnL eU a7 5 1 c7 t0]) (fun t0 => (0 < t0.length → Has a7) ∧ s.length = t0.length) (fun i0 t0 => JaD ((s.length : Int).toNat - i0) i0 t0 = some s0) (fun t0 => t0 = s0) (fun i0 => (s.length : Int).toNat - i0) 0 _ aK (And.intro qe (And.intro ?_ ?_))
 clear aK
 rintro i0 ab ⟨aL, aM⟩ aK j0
 conv at aK => whnf
 refine qad rfl ?_
 refine qag ?_ ?_ <;> intro w0
 rw [ltn w0, JaD.eq_2] at aK
 refine qak rfl ?_
 obtain ⟨aP, aT, aR, aK⟩ := ixb aK
 refine RStep.ofN (qac rfl rfl (qdb aL aR) aT (qay aM aT aR) (ro (qda (i := ((i0 : Int)).toNat) (o := 0) r0 rfl aR rfl rfl ?_)))
 refine qaj rfl ?_
 refine qag ?_ ?_ <;> intro aJ
 refine ct aJ (ct aJ (qad rfl ?_))
 refine qag ?_ ?_ <;> intro aV
 replace aK := ift (qb5 aJ aV) aK
 refine qmq (x := aP) (y := (32 : UInt8)) rfl rfl ?_
 obtain ⟨aW, aU, aO, aK⟩ := ixb aK
 refine RStep.ofN (qac rfl rfl (qdb aL aO) aU (qay aM aU aO) ?_)
 refine qee (o := 0) (y := (aP + (32 : UInt8))) aW r0 rfl aO rfl (by (conv => whnf); exact ⟨rfl, rfl, (nl rfl), rfl, rfl, rfl⟩) ?_
 refine qat (qo3 w0 aQ) ?_
 exact rd (i0 + 1, (ab.set (((i0 : Int)).toNat) (aP + (32 : UInt8)))) ⟨rfl, trivial⟩ rfl (pf rfl) lr (quu w0) ⟨⟨(by first | simpa using aL | exact fun _ => ⟨_, _, rfl⟩), ((aM).trans List.length_set.symm)⟩, aK⟩
 replace aK := qbp (qcs aJ aV) aK
 refine qat (qo3 w0 aQ) ?_
 exact eR aK (_, _)
 refine cf aJ (cf aJ (qad rfl (cF ?_)))
 replace aK := qbp (qa0 aJ) aK
 refine qat (qo3 w0 aQ) ?_
 exact eR aK (_, _)
 rw [lto w0, JaD.eq_1] at aK
 refine cT ?_
 exact eM aK _
 rintro t0 ⟨aS, aN⟩ rfl j0
 refine ro (qhl aN r0 rfl rfl rfl ?_)
 exact eE hm

def JaU : List UInt8 → Nat → Int → Option (Fl (Int) (Int))
  | [], _, ab => some (Fl.go ab)
  | e0 :: aJ, i0, ab =>
    (if decide ((e0.toNat : Int) < 48) then some true else some (decide ((e0.toNat : Int) > 57))).bind fun aK =>
    if aK then
    some (Fl.ret 0)
    else
    (chk (InI (10 * ab))).bind fun _ =>
    (chk (InI ((10 * ab) + ((e0 - (48 : UInt8)).toNat : Int)))).bind fun _ =>
    JaU aJ (i0 + 1) ((10 * ab) + ((e0 - (48 : UInt8)).toNat : Int))
def JbP (s : Str) : Option (Int) :=
  if (decide ((s.length : Int) < 1) || decide ((s.length : Int) > 15)) then
  some 0
  else
  (chk (s.length ≤ qav)).bind fun _ =>
  (JaU s 0 0).bind fun s0 => s0.el some fun t0 =>
  some t0
theorem Jde {s : Str} {K : Hp} {r : Int}
    (hm : JbP s = some r)  :
    Fn Tryz.prog 108 [str s] K [] (fun v K' H' => v = .int .i64 r ∧ H' = []) := by
 refine Fn.enter Tryz.func108 Tryz.call108 rfl fun F => ?_
 unfold JbP at hm
 refine jR (σ := Unit) (rg 5 8) (fun _ => [(12, .bool (decide ((s.length : Int) < 1) || decide ((s.length : Int) > 15)))]) (fun aR => True) ?_ ?_
 refine qaj rfl ?_
 refine ro (qa2 rfl ?_)
 refine qag ?_ ?_ <;> intro aL
 refine ct aL (ct aL (ct aL ?_))
 exact eMt () ⟨bq (((qds aL)).symm), trivial⟩
 refine cf aL (ro (qa2 rfl (cf aL (cf aL ?_))))
 exact eMt () ⟨bq (qll (b := decide ((s.length : Int) > 15)) aL), trivial⟩
 rintro _ _ aU
 refine cs rfl rfl hm ?_ ?_ <;> intro aW hm
 exact eE hm
 refine ro (qa2 rfl ?_)
 obtain ⟨aS, hm⟩ := qa7 hm
 obtain ⟨s0, aK, hm⟩ := bnd hm
 refine lD (σ := (Int)) ([2,3,4] ++ rg 15 22) [0] (fun i0 => [(15, .int .i64 (i0 : Int))]) (fun t0 => [(3, .int .i64 t0)]) (fun _ => []) (fun _ => True) (fun i0 t0 => JaU (s.drop i0) i0 t0 = some s0) (fun t0 => s0 = Fl.go t0) (fun i0 => s.length - i0) 0 _ aK (And.intro qe (And.intro ?_ ?_))
 clear aK
 rintro i0 ab _ aK j0
 conv at aK => whnf
 refine qad rfl ?_
 refine qag ?_ ?_ <;> intro w0
 obtain ⟨e0, aN, aT⟩ := ltx w0
 rw [aT, JaU.eq_2] at aK
 refine qak rfl ?_
 refine qaj rfl ?_
 refine qba rfl (nn _) aN ?_
 obtain ⟨aV, aM, aK⟩ := bnd aK
 refine cS aM (fun aJ aM => ?_) fun aJ aM => ?_
 refine ct aJ (ct aJ (ct aJ (ct aJ (qad rfl (cT ?_)))))
 replace aK := ift (si aM).symm aK
 exact eE (er aK hm)
 refine cf aJ (cf aJ (qba rfl (nn _) aN (cf aJ (cf aJ (qad rfl ?_)))))
 refine qag ?_ ?_ <;> intro aO
 replace aK := ift ((si aM).symm.trans aO) aK
 exact eE (er aK hm)
 replace aK := qbp ((si aM).symm.trans aO) aK
 obtain ⟨aP, aK⟩ := qa7 aK
 refine qat aP (qba rfl (nn _) aN (qry (x := e0) (y := (48 : UInt8)) rfl rfl (qo1 rfl rfl (qv8 (e0 - (48 : UInt8))) ?_)))
 obtain ⟨aQ, aK⟩ := qa7 aK
 refine qat aQ (qat (qcl aN aS) ?_)
 exact eR aK (_, _)
 rw [lty w0, JaU.eq_1] at aK
 refine cT ?_
 exact eM aK _
 rintro t0 _ rfl j0
 replace hm := elg hm
 exact eE hm

def JE (name : Str) (x : Jd) (Ar : JB) : Option (Jd × Bool) :=
  if (decide (name = ([112, 97, 114, 116] : Str)) || decide (name = ([116, 101, 120, 116] : Str))) then
  if decide (x.kind ≠ 2) then
  some ((⟨0, 0, ([] : Str), false⟩ : Jd), false)
  else
  if decide (name = ([116, 101, 120, 116] : Str)) then
  (qls x.n).bind fun aX =>
  (Jac aX).bind fun aY =>
  some (aY, true)
  else
  (JbB Ar.Ae).bind fun aN =>
  if (decide (x.n < 0) || decide (x.n ≥ (aN.length : Int))) then
  (Jac ([] : Str)).bind fun aP =>
  some (aP, true)
  else
  (ix aN x.n).bind fun aT =>
  (Jac aT).bind fun aZ =>
  some (aZ, true)
  else
  if decide (x.kind ≠ 1) then
  some ((⟨0, 0, ([] : Str), false⟩ : Jd), false)
  else
  if decide (name = ([104, 101, 97, 100, 101, 114] : Str)) then
  (JcV Ar.Ao x.s).bind fun aO =>
  (Jac aO.1).bind fun aQ =>
  some (aQ, true)
  else
  if decide (name = ([104, 97, 115] : Str)) then
  (JcV Ar.Ao x.s).bind fun aU =>
  (Jat aU.2).bind fun aW =>
  some (aW, true)
  else
  if decide (name = ([97, 114, 103] : Str)) then
  (Jcx (⟨([] : Str), ([] : Str), Ar.Af, true⟩ : Jbs) x.s).bind fun aV =>
  (Jac aV.1).bind fun aS =>
  some (aS, true)
  else
  if decide (name = ([108, 101, 110] : Str)) then
  (JaH (x.s.length : Int)).bind fun aR =>
  some (aR, true)
  else
  if decide (name = ([108, 111, 119, 101, 114] : Str)) then
  (Jco x.s).bind fun aK =>
  (Jac aK).bind fun aL =>
  some (aL, true)
  else
  (JbP x.s).bind fun aJ =>
  (JaH aJ).bind fun aM =>
  some (aM, true)
theorem JdD {name : Str} {x : Jd} {Ar : JB} {ao : Option Addr} {aq : Nat} {K : Hp} {r : Jd × Bool}
    (hm : JE name x Ar = some r) (hX : RdC Jc.enc K ao aq 2 Ar.Ao ∧ GG K) :
    Fn Tryz.prog 66 [str name, .agg #[.int .i64 x.kind, .int .i64 x.n, str x.s, .bool x.At], .agg #[str Ar.Am, str Ar.An, str Ar.Ae, str Ar.Af, .slice ao Ar.Ao.length aq]] K [] (fun v K' H' => v = .tuple #[.agg #[.int .i64 r.1.kind, .int .i64 r.1.n, str r.1.s, .bool r.1.At], .bool r.2] ∧ H' = []) := by
 obtain ⟨aV, hG⟩ := hX
 refine Fn.enter Tryz.func66 Tryz.call66 rfl fun F => ?_
 unfold JE at hm
 refine qas ?_
 intro b4
 refine qas ?_
 intro b5
 refine qal rfl fun b6 => ?_
 refine jR (σ := Unit) (rg 15 6) (fun _ => [(20, .bool (decide (name = ([112, 97, 114, 116] : Str)) || decide (name = ([116, 101, 120, 116] : Str))))]) (fun bj => True) ?_ ?_
 refine qaj rfl ?_
 refine qar ?_
 refine qag ?_ ?_ <;> intro aK
 refine ct aK (ct aK ?_)
 exact eMt () ⟨bq (((qds aK)).symm), trivial⟩
 refine cf aK (qar (cf aK ?_))
 exact eMt () ⟨bq (qll (b := decide (name = ([116, 101, 120, 116] : Str))) aK), trivial⟩
 rintro _ _ bp
 refine cs rfl rfl hm ?_ ?_ <;> intro bJ hm
 refine fa rfl (ro (ld r2 rfl rfl (qbf ?_)))
 refine cs rfl rfl hm ?_ ?_ <;> intro bD hm
 refine qam rfl rfl ?_
 refine qab r0 rfl ⟨rfl, rfl, (nl rfl), ?_⟩
 exact ro (qae r0 rfl (nl rfl) (eE hm))
 refine qar (cs rfl rfl hm ?_ ?_) <;> intro bI hm
 refine fa rfl (ro (ld r2 rfl rfl ?_))
 refine cb hm fun bM ba hm => cg0 (qs9 ba (gg5 hG)) ?_
 refine cb hm fun bH bc hm => cg0 (Jaa bc :) ?_
 refine qab r0 rfl ⟨rfl, rfl, (nl rfl), ?_⟩
 exact ro (qae r0 rfl (nl rfl) (eE hm))
 refine fa rfl (ro (ld r1 rfl rfl ?_))
 refine cb hm fun aS bu hm => ckx (JdP bu :) ?_
 rintro _ _ _ ⟨aR, aU, rfl, aL, rfl⟩
 refine jR (σ := Unit) (rg 34 10) (fun _ => [(43, .bool (decide (x.n < 0) || decide (x.n ≥ (aS.length : Int))))]) (fun aZ => True) ?_ ?_
 refine qaj rfl ?_
 refine fa rfl (ro (ld r3 rfl rfl ?_))
 refine qag ?_ ?_ <;> intro aJ
 refine ct aJ (ct aJ (ct aJ (ct aJ (ct aJ ?_))))
 exact eMt () ⟨bq (((qds aJ)).symm), trivial⟩
 refine fa rfl (cf aJ (ro (ld r3 rfl rfl (cf aJ (cf aJ (ro (qai rfl (cf aJ (cf aJ ?_)))))))))
 exact eMt () ⟨bq (qll (b := decide (x.n ≥ (aS.length : Int))) aJ), trivial⟩
 rintro _ _ a8
 refine cs rfl rfl hm ?_ ?_ <;> intro bA hm
 refine cb hm fun bQ bf hm => cg0 (Jaa bf :) ?_
 refine qab r1 rfl ⟨rfl, rfl, (nl rfl), ?_⟩
 exact ro (qae r0 rfl (nl rfl) (eE hm))
 refine fa rfl (ro (ld r3 rfl rfl ?_))
 obtain ⟨bS, aT, aP, hm⟩ := ixb hm
 refine RStep.ofN (qac rfl rfl (qdb aL aP) aT (qay rfl aT aP) (ro (qda (i := (x.n).toNat) (o := 0) r0 rfl aP rfl rfl ?_)))
 refine cb hm fun bN bt hm => cg0 (Jaa bt :) ?_
 refine qab r1 rfl ⟨rfl, rfl, (nl rfl), ?_⟩
 exact ro (qae r0 rfl (nl rfl) (eE hm))
 refine fa rfl (ro (ld r2 rfl rfl (qbf ?_)))
 refine cs rfl rfl hm ?_ ?_ <;> intro bC hm
 refine qam rfl rfl ?_
 refine qab r0 rfl ⟨rfl, rfl, (nl rfl), ?_⟩
 exact ro (qae r0 rfl (nl rfl) (eE hm))
 refine qak rfl ?_
 refine qar (cs rfl rfl hm ?_ ?_) <;> intro bv hm
 refine fa rfl (ro (ld r1 rfl rfl (fa rfl (ro (ld r2 rfl rfl ?_)))))
 refine cb hm fun bw aW hm => cgx (Jeh aW :) ?_
 refine cb hm fun bK aX hm => cg0 (Jaa aX :) ?_
 refine qab r0 rfl ⟨rfl, rfl, (nl rfl), ?_⟩
 exact ro (qae r0 rfl (nl rfl) (eE hm))
 refine qar (cs rfl rfl hm ?_ ?_) <;> intro bB hm
 refine fa rfl (ro (ld r1 rfl rfl (fa rfl (ro (ld r2 rfl rfl ?_)))))
 refine cb hm fun bL bg hm => cgx (Jeh bg :) ?_
 refine cb hm fun bG bo hm => cg0 (Jak bo :) ?_
 refine qab r0 rfl ⟨rfl, rfl, (nl rfl), ?_⟩
 exact ro (qae r0 rfl (nl rfl) (eE hm))
 refine qar (cs rfl rfl hm ?_ ?_) <;> intro bO hm
 refine fa rfl (ro (ld r1 rfl rfl (qam rfl rfl (cT (cT (fa rfl (ro (ld r2 rfl rfl ?_))))))))
 refine cb hm fun bT aY hm => cgx (JeO aY :) ?_
 refine cb hm fun bR br hm => cg0 (Jaa br :) ?_
 refine qab r0 rfl ⟨rfl, rfl, (nl rfl), ?_⟩
 exact ro (qae r0 rfl (nl rfl) (eE hm))
 refine qar (cs rfl rfl hm ?_ ?_) <;> intro bP hm
 refine fa rfl (ro (ld r2 rfl rfl (ro (qa2 rfl ?_))))
 refine cb hm fun bz bm hm => cg0 (Ja1 bm :) ?_
 refine qab r0 rfl ⟨rfl, rfl, (nl rfl), ?_⟩
 exact ro (qae r0 rfl (nl rfl) (eE hm))
 refine qar (cs rfl rfl hm ?_ ?_) <;> intro bF hm
 refine fa rfl (ro (ld r2 rfl rfl ?_))
 refine cb hm fun a6 aM hm => cg0 (JeD aM :) ?_
 refine cb hm fun bb aQ hm => cg0 (Jaa aQ :) ?_
 refine qab r0 rfl ⟨rfl, rfl, (nl rfl), ?_⟩
 exact ro (qae r0 rfl (nl rfl) (eE hm))
 refine fa rfl (ro (ld r2 rfl rfl ?_))
 refine cb hm fun bh aN hm => cg0 (Jde aN :) ?_
 refine cb hm fun bn aO hm => cg0 (Ja1 aO :) ?_
 refine qab r0 rfl ⟨rfl, rfl, (nl rfl), ?_⟩
 exact ro (qae r0 rfl (nl rfl) (eE hm))

def JbV (a : Int) (b : Int) : Option (Jd) :=
  if (decide (a = 0) || decide (b = 0)) then
  (JaH 0).bind fun aL =>
  some aL
  else
  (chk (InI (-a))).bind fun _ =>
  (chk (InI (-b))).bind fun _ =>
  (chk ((max b (-b)) ≠ 0 ∧ InI (Int.tdiv 1099511627776 (max b (-b))))).bind fun _ =>
  ((if decide ((max a (-a)) > (Int.tdiv 1099511627776 (max b (-b)))) then
  some (1099511627776, 1)
  else
  some ((max a (-a)), (max b (-b))) : Option (Int × Int))).bind fun aJ =>
  if (!((decide (a < 0)) == (decide (b < 0)))) then
  (chk (InI (-aJ.1))).bind fun _ =>
  (chk (InI ((-aJ.1) * aJ.2))).bind fun _ =>
  (JaH ((-aJ.1) * aJ.2)).bind fun aM =>
  some aM
  else
  (chk (InI (aJ.1 * aJ.2))).bind fun _ =>
  (JaH (aJ.1 * aJ.2)).bind fun aK =>
  some aK
theorem Jeb {a : Int} {b : Int} {K : Hp} {r : Jd}
    (hm : JbV a b = some r)  :
    Fn Tryz.prog 109 [.int .i64 a, .int .i64 b] K [] (fun v K' H' => v = .agg #[.int .i64 r.kind, .int .i64 r.n, str r.s, .bool r.At] ∧ H' = []) := by
 refine Fn.enter Tryz.func109 Tryz.call109 rfl fun F => ?_
 unfold JbV at hm
 refine qal rfl fun b4 => ?_
 refine jR (σ := Unit) (rg 8 6) (fun _ => [(13, .bool (decide (a = 0) || decide (b = 0)))]) (fun aQ => True) ?_ ?_
 refine qaj rfl ?_
 refine qaf ?_
 refine qag ?_ ?_ <;> intro aJ
 refine ct aJ (ct aJ ?_)
 exact eMt () ⟨bq (((qds aJ)).symm), trivial⟩
 refine cf aJ (qaf (cf aJ ?_))
 exact eMt () ⟨bq (qll (b := decide (b = 0)) aJ), trivial⟩
 rintro _ _ aU
 refine cs rfl rfl hm ?_ ?_ <;> intro aZ hm
 refine cb hm fun a8 aV hm => cg0 (Ja1 aV :) ?_
 refine qab r0 rfl ⟨rfl, rfl, (nl rfl), ?_⟩
 exact ro (qae r0 rfl (nl rfl) (eE hm))
 refine qj8 rfl ?_
 obtain ⟨aP, hm⟩ := qa7 hm
 refine qml aP ?_
 refine ro (qdf ?_)
 obtain ⟨aR, hm⟩ := qa7 hm
 refine qml aR ?_
 refine ro (qdf ?_)
 obtain ⟨aN, hm⟩ := qa7 hm
 refine qmr aN.1 aN.2 ?_
 obtain ⟨aM, aK, hm⟩ := bnd hm
 refine jD (σ := (Int × Int)) [6,7] [0, 1] (fun aL => [(6, .int .i64 aL.1), (7, .int .i64 aL.2)]) (fun aL => []) (fun aL => aL = aM) (And.intro ?_ ?_)
 refine cs rfl rfl aK ?_ ?_ <;> intro aX aK
 exact eM aK _
 exact eM aK _
 rintro aL rfl aS
 refine cs rfl rfl hm ?_ ?_ <;> intro a6 hm
 obtain ⟨aT, hm⟩ := qa7 hm
 refine qml aT ?_
 refine ci hm fun hm => ?_
 refine cb hm fun aY aW hm => cg0 (Ja1 aW :) ?_
 refine qab r0 rfl ⟨rfl, rfl, (nl rfl), ?_⟩
 exact ro (qae r0 rfl (nl rfl) (eE hm))
 refine ci hm fun hm => ?_
 refine cb hm fun ba aO hm => cg0 (Ja1 aO :) ?_
 refine qab r0 rfl ⟨rfl, rfl, (nl rfl), ?_⟩
 exact ro (qae r0 rfl (nl rfl) (eE hm))

def Jau (s : Str) (suffix : Str) : Option (Bool) :=
  (if decide ((s.length : Int) ≥ (suffix.length : Int)) then (chk (InI ((s.length : Int) - (suffix.length : Int)))).bind fun _ =>
  (chk (0 ≤ ((s.length : Int) - (suffix.length : Int)) ∧ ((s.length : Int) - (suffix.length : Int)) ≤ (s.length : Int) ∧ (s.length : Int) ≤ (s.length : Int))).bind fun _ =>
  some (decide ((subL s ((s.length : Int) - (suffix.length : Int)) (s.length : Int)) = suffix)) else some false).bind fun aJ =>
  some aJ
theorem Jb8 {s : Str} {suffix : Str} {K : Hp} {r : Bool}
    (hm : Jau s suffix = some r)  :
    Fn Tryz.prog 147 [str s, str suffix] K [] (fun v K' H' => v = .bool r ∧ H' = []) := by
 refine Fn.enter Tryz.func147 Tryz.call147 rfl fun F => ?_
 unfold Jau at hm
 refine qaj rfl ?_
 refine ro (qa2 rfl (ro (qa2 rfl ?_)))
 obtain ⟨aN, aK, hm⟩ := bnd hm
 refine cS aK (fun aJ aK => ?_) fun aJ aK => ?_
 refine ct aJ (ct aJ (ro (qa2 rfl (ct aJ (ct aJ (ro (qa2 rfl (ct aJ ?_))))))))
 obtain ⟨aL, aK⟩ := qa7 aK
 refine qat aL (ct aJ ?_)
 obtain ⟨aM, aK⟩ := qa7 aK
 refine RStep.ofN (qf2 (lo := (some ((s.length : Int) - (suffix.length : Int)))) (hi := none) rfl aM (ct aJ (ct aJ (qar (ct aJ ?_)))))
 exact bE (si aK) (eE hm)
 refine cf aJ (cf aJ (cf aJ (cf aJ (cf aJ (cf aJ (cf aJ (cf aJ ?_)))))))
 refine cf aJ ?_
 exact bE (si aK) (eE hm)

def Jbt (s : Str) (suffix : Str) : Option (Bool) :=
  (Jau s suffix).bind fun x7 =>
  some x7
theorem Jdz {s : Str} {suffix : Str} {K : Hp} {r : Bool}
    (hm : Jbt s suffix = some r)  :
    Fn Tryz.prog 110 [str s, str suffix] K [] (fun v K' H' => v = .bool r ∧ H' = []) := by
 refine Fn.enter Tryz.func110 Tryz.call110 rfl fun F => ?_
 unfold Jbt at hm
 refine cb hm fun x7 q7 hm => cg0 (Jb8 q7 :) ?_
 exact eE hm
