/- Functions of the program: mirrors, and that a call returns what the mirror says. Printed by gen.py. -/
import Derived.Test.YtmpdebfckeahmaaGreatDoorShelf
import Derived.Test.YtmpdebfckeahmaaGreatDoorLS
import Derived.KernelRfl
import Derived.Test.YtmpdebfckeahmaaGreatDoorProg
set_option linter.unusedVariables false
set_option linter.unusedSimpArgs false
open Go Go.SL Go.Proofs
noncomputable section
set_option maxRecDepth 1000000
set_option maxHeartbeats 8000000
def Jaa : List Str := [[109, 101, 116, 104, 111, 100], [104, 111, 115, 116], [112, 97, 116, 104], [113, 117, 101, 114, 121]]
def Ja5 : List Str := [[104, 101, 97, 100, 101, 114], [104, 97, 115], [97, 114, 103], [108, 101, 110], [108, 111, 119, 101, 114], [112, 97, 114, 116], [116, 101, 120, 116], [110, 117, 109, 98, 101, 114]]
def Ja6 : List Str := [[43], [45], [42], [61, 61], [33, 61], [60], [60, 61], [115, 116, 97, 114, 116, 115], [101, 110, 100, 115], [99, 111, 110, 116, 97, 105, 110, 115]]
def gkw0 : List Str := [[105, 102], [101, 108, 115, 101], [108, 101, 116], [118, 97, 114, 121], [116, 97, 103], [116, 116, 108], [100, 101, 110, 121], [112, 97, 115, 115], [116, 111, 107, 101, 110], [111, 114], [97, 110, 100], [110, 111, 116], [115, 116, 97, 114, 116, 115], [101, 110, 100, 115], [99, 111, 110, 116, 97, 105, 110, 115], [116, 114, 117, 101], [102, 97, 108, 115, 101]]
structure Jb where
  Ab : Int
  Ac : Str
  Aa : (List Jb)
  Ad : Int
inductive Jb.R (K : Hp) : List Value → Jb → Prop
  | mk {cs : List Value} {x : Jb} (a_0 : Option Addr) (c_0 : Nat) (e : cs = [.int .i64 x.Ab, str x.Ac, .slice a_0 x.Aa.length c_0, .int .i64 x.Ad]) (css0 : List (List Value)) (p0 : RdS K a_0 4 css0) (q0 : css0.length = x.Aa.length) (r0 : x.Aa.length ≤ c_0) (z0 : ∀ (i : Nat) (c : List Value) (y : Jb), css0[i]? = some c → x.Aa[i]? = some y → Jb.R K c y) : Jb.R K cs x
theorem Jb.out {K : Hp} {cs : List Value} {x : Jb} (h : Jb.R K cs x) : ∃ a_0 : Option Addr, ∃ c_0 : Nat, cs = [.int .i64 x.Ab, str x.Ac, .slice a_0 x.Aa.length c_0, .int .i64 x.Ad] ∧ LiC Jb.R K a_0 c_0 4 x.Aa := by
  cases h with
  | mk a_0 c_0 e css0 p0 q0 r0 z0 => exact ⟨a_0, c_0, e, ⟨⟨css0, p0, q0, z0⟩, r0⟩⟩
theorem Jb.of {K : Hp} {cs : List Value} {x : Jb} (h : ∃ a_0 : Option Addr, ∃ c_0 : Nat, cs = [.int .i64 x.Ab, str x.Ac, .slice a_0 x.Aa.length c_0, .int .i64 x.Ad] ∧ LiC Jb.R K a_0 c_0 4 x.Aa) : Jb.R K cs x := by
  obtain ⟨a_0, c_0, e, ⟨⟨aS, p0, q0, z0⟩, r0⟩⟩ := h
  exact .mk a_0 c_0 e aS p0 q0 r0 z0
theorem Jb.R_mono {K K' : Hp} (hk : K.Le K') {cs : List Value} {x : Jb} (h : Jb.R K cs x) : Jb.R K' cs x := by
  induction h with
  | mk a_0 c_0 e css0 p0 q0 r0 z0 ih0 => exact .mk a_0 c_0 e css0 (p0.mono hk) q0 r0 (ih0)
theorem Jb.R_ok : RpOK 4 Jb.R := by
  refine ⟨fun hk h => Jb.R_mono hk h, fun h => ?_, fun h v hv => ?_⟩
  · obtain ⟨a_0, c_0, e, aS⟩ := Jb.out h; simp [e]
  · obtain ⟨a_0, c_0, e, aS⟩ := Jb.out h; rw [e] at hv; simp at hv; rcases hv with rfl | rfl | rfl | rfl <;> rfl
instance : RpI 4 Jb.R := ⟨Jb.R_ok⟩
structure Jc where
  Name : Str
  Value : Str
abbrev Jc.enc (x : Jc) : List Go.Value := [str x.Name, str x.Value]
structure Ju where
  Am : Str
  An : Str
  Ae : Str
  Af : Str
  Ao : (List Jc)
def Ju.R : Rp Ju := fun K cs x => ∃ a_0 : Option Addr, ∃ c_0 : Nat, cs = [str x.Am, str x.An, str x.Ae, str x.Af, .slice a_0 x.Ao.length c_0] ∧ RdC Jc.enc K a_0 c_0 2 x.Ao
theorem Ju.R_ok : RpOK 5 Ju.R :=
  ⟨fun hk ⟨a_0, c_0, e, h_0⟩ => ⟨a_0, c_0, e, (h_0.mono hk)⟩, fun ⟨a_0, c_0, e, h_0⟩ => by simp [e], fun ⟨a_0, c_0, e, h_0⟩ v hv => by rw [e] at hv; simp at hv; rcases hv with rfl | rfl | rfl | rfl | rfl <;> rfl⟩
instance : RpI 5 Ju.R := ⟨Ju.R_ok⟩
structure Jj where
  Op : Int
  N : Int
  S : Str
abbrev Jj.enc (x : Jj) : List Go.Value := [.int .i64 x.Op, .int .i64 x.N, str x.S]
structure Je where
  Name : Str
  Value : Str
abbrev Je.enc (x : Je) : List Go.Value := [str x.Name, str x.Value]
structure JG where
  Am : Str
  An : Str
  Ae : Str
  Af : Str
  Ao : (List Je)
def JG.R : Rp JG := fun K cs x => ∃ a_0 : Option Addr, ∃ c_0 : Nat, cs = [str x.Am, str x.An, str x.Ae, str x.Af, .slice a_0 x.Ao.length c_0] ∧ RdC Je.enc K a_0 c_0 2 x.Ao
theorem JG.R_ok : RpOK 5 JG.R :=
  ⟨fun hk ⟨a_0, c_0, e, h_0⟩ => ⟨a_0, c_0, e, (h_0.mono hk)⟩, fun ⟨a_0, c_0, e, h_0⟩ => by simp [e], fun ⟨a_0, c_0, e, h_0⟩ v hv => by rw [e] at hv; simp at hv; rcases hv with rfl | rfl | rfl | rfl | rfl <;> rfl⟩
instance : RpI 5 JG.R := ⟨JG.R_ok⟩
structure Jh where
  Ae : Str
  Af : Str
  Ag : (List Je)
  Vary : (List Str)
  Ah : (List Str)
  TTL : Int
  Ai : Int
  Aj : Int
  Ak : Bool
  Al : Bool
def Jh.R : Rp Jh := fun K cs x => ∃ a_0 : Option Addr, ∃ c_0 : Nat, ∃ a_1 : Option Addr, ∃ c_1 : Nat, ∃ a_2 : Option Addr, ∃ c_2 : Nat, cs = [str x.Ae, str x.Af, .slice a_0 x.Ag.length c_0, .slice a_1 x.Vary.length c_1, .slice a_2 x.Ah.length c_2, .int .i64 x.TTL, .int .i64 x.Ai, .int .i64 x.Aj, .bool x.Ak, .bool x.Al] ∧ RdC Je.enc K a_0 c_0 2 x.Ag ∧ RdC eS K a_1 c_1 1 x.Vary ∧ RdC eS K a_2 c_2 1 x.Ah
theorem Jh.R_ok : RpOK 10 Jh.R :=
  ⟨fun hk ⟨a_0, c_0, a_1, c_1, a_2, c_2, e, h_0, h_1, h_2⟩ => ⟨a_0, c_0, a_1, c_1, a_2, c_2, e, (h_0.mono hk), (h_1.mono hk), (h_2.mono hk)⟩, fun ⟨a_0, c_0, a_1, c_1, a_2, c_2, e, h_0, h_1, h_2⟩ => by simp [e], fun ⟨a_0, c_0, a_1, c_1, a_2, c_2, e, h_0, h_1, h_2⟩ v hv => by rw [e] at hv; simp at hv; rcases hv with rfl | rfl | rfl | rfl | rfl | rfl | rfl | rfl | rfl | rfl <;> rfl⟩
instance : RpI 10 Jh.R := ⟨Jh.R_ok⟩
structure Ja0 where
  f0 : Int
  f1 : Int
  f2 : Int
  f3 : Int
  f4 : Int
  f5 : Int
  f6 : Int
  f7 : Int
abbrev Ja0.enc (x : Ja0) : List Go.Value := [.int .u64 x.f0, .int .u64 x.f1, .int .u64 x.f2, .int .u64 x.f3, .int .u64 x.f4, .int .u64 x.f5, .int .u64 x.f6, .int .u64 x.f7]
structure Jn where
  Av : Bool
  depth : Int
  Au : Ja0
abbrev Jn.enc (x : Jn) : List Go.Value := [.bool x.Av, .int .i64 x.depth, .int .u64 x.Au.f0, .int .u64 x.Au.f1, .int .u64 x.Au.f2, .int .u64 x.Au.f3, .int .u64 x.Au.f4, .int .u64 x.Au.f5, .int .u64 x.Au.f6, .int .u64 x.Au.f7]
structure Jd where
  kind : Int
  n : Int
  s : Str
  At : Bool
abbrev Jd.enc (x : Jd) : List Go.Value := [.int .i64 x.kind, .int .i64 x.n, str x.s, .bool x.At]
structure Jf where
  Ar : JG
  most : Int
  result : Jh
  stack : (List Jd)
  Ap : (List Jd)
structure Jb7 where
  An : Str
  Ae : Str
  Af : Str
  HasQuery : Bool
abbrev Jb7.enc (x : Jb7) : List Go.Value := [str x.An, str x.Ae, str x.Af, .bool x.HasQuery]
structure Ja where
  Ab : Int
  Ac : Str
  Aa : (List Ja)
  Ad : Int
inductive Ja.R (K : Hp) : List Value → Ja → Prop
  | mk {cs : List Value} {x : Ja} (a_0 : Option Addr) (c_0 : Nat) (e : cs = [.int .i64 x.Ab, str x.Ac, .slice a_0 x.Aa.length c_0, .int .i64 x.Ad]) (css0 : List (List Value)) (p0 : RdS K a_0 4 css0) (q0 : css0.length = x.Aa.length) (r0 : x.Aa.length ≤ c_0) (z0 : ∀ (i : Nat) (c : List Value) (y : Ja), css0[i]? = some c → x.Aa[i]? = some y → Ja.R K c y) : Ja.R K cs x
theorem Ja.out {K : Hp} {cs : List Value} {x : Ja} (h : Ja.R K cs x) : ∃ a_0 : Option Addr, ∃ c_0 : Nat, cs = [.int .i64 x.Ab, str x.Ac, .slice a_0 x.Aa.length c_0, .int .i64 x.Ad] ∧ LiC Ja.R K a_0 c_0 4 x.Aa := by
  cases h with
  | mk a_0 c_0 e css0 p0 q0 r0 z0 => exact ⟨a_0, c_0, e, ⟨⟨css0, p0, q0, z0⟩, r0⟩⟩
theorem Ja.of {K : Hp} {cs : List Value} {x : Ja} (h : ∃ a_0 : Option Addr, ∃ c_0 : Nat, cs = [.int .i64 x.Ab, str x.Ac, .slice a_0 x.Aa.length c_0, .int .i64 x.Ad] ∧ LiC Ja.R K a_0 c_0 4 x.Aa) : Ja.R K cs x := by
  obtain ⟨a_0, c_0, e, ⟨⟨aS, p0, q0, z0⟩, r0⟩⟩ := h
  exact .mk a_0 c_0 e aS p0 q0 r0 z0
theorem Ja.R_mono {K K' : Hp} (hk : K.Le K') {cs : List Value} {x : Ja} (h : Ja.R K cs x) : Ja.R K' cs x := by
  induction h with
  | mk a_0 c_0 e css0 p0 q0 r0 z0 ih0 => exact .mk a_0 c_0 e css0 (p0.mono hk) q0 r0 (ih0)
theorem Ja.R_ok : RpOK 4 Ja.R := by
  refine ⟨fun hk h => Ja.R_mono hk h, fun h => ?_, fun h v hv => ?_⟩
  · obtain ⟨a_0, c_0, e, aS⟩ := Ja.out h; simp [e]
  · obtain ⟨a_0, c_0, e, aS⟩ := Ja.out h; rw [e] at hv; simp at hv; rcases hv with rfl | rfl | rfl | rfl <;> rfl
instance : RpI 4 Ja.R := ⟨Ja.R_ok⟩
structure JB where
  Ab : Int
  Ac : Str
  Ad : Int
  Column : Int
abbrev JB.enc (x : JB) : List Go.Value := [.int .i64 x.Ab, str x.Ac, .int .i64 x.Ad, .int .i64 x.Column]
structure Jm where
  line : Int
  err : Err
abbrev Jm.enc (x : Jm) : List Go.Value := [.int .i64 x.line, qde 87 x.err]
structure Jk where
  Name : Str
  As : Int
abbrev Jk.enc (x : Jk) : List Go.Value := [str x.Name, .int .i64 x.As]
structure Jo where
  Ar : JG
  result : Jh
  Aq : Bool
def Jo.R : Rp Jo := fun K cs x => ∃ a_0 : Option Addr, ∃ c_0 : Nat, ∃ a_1 : Option Addr, ∃ c_1 : Nat, ∃ a_2 : Option Addr, ∃ c_2 : Nat, ∃ a_3 : Option Addr, ∃ c_3 : Nat, cs = [str x.Ar.Am, str x.Ar.An, str x.Ar.Ae, str x.Ar.Af, .slice a_0 x.Ar.Ao.length c_0, str x.result.Ae, str x.result.Af, .slice a_1 x.result.Ag.length c_1, .slice a_2 x.result.Vary.length c_2, .slice a_3 x.result.Ah.length c_3, .int .i64 x.result.TTL, .int .i64 x.result.Ai, .int .i64 x.result.Aj, .bool x.result.Ak, .bool x.result.Al, .bool x.Aq] ∧ RdC Je.enc K a_0 c_0 2 x.Ar.Ao ∧ RdC Je.enc K a_1 c_1 2 x.result.Ag ∧ RdC eS K a_2 c_2 1 x.result.Vary ∧ RdC eS K a_3 c_3 1 x.result.Ah
theorem Jo.R_ok : RpOK 16 Jo.R :=
  ⟨fun hk ⟨a_0, c_0, a_1, c_1, a_2, c_2, a_3, c_3, e, h_0, h_1, h_2, h_3⟩ => ⟨a_0, c_0, a_1, c_1, a_2, c_2, a_3, c_3, e, (h_0.mono hk), (h_1.mono hk), (h_2.mono hk), (h_3.mono hk)⟩, fun ⟨a_0, c_0, a_1, c_1, a_2, c_2, a_3, c_3, e, h_0, h_1, h_2, h_3⟩ => by simp [e], fun ⟨a_0, c_0, a_1, c_1, a_2, c_2, a_3, c_3, e, h_0, h_1, h_2, h_3⟩ v hv => by rw [e] at hv; simp at hv; rcases hv with rfl | rfl | rfl | rfl | rfl | rfl | rfl | rfl | rfl | rfl | rfl | rfl | rfl | rfl | rfl | rfl <;> rfl⟩
instance : RpI 16 Jo.R := ⟨Jo.R_ok⟩
structure JD where
  name : Str
  value : Jd
abbrev JD.enc (x : JD) : List Go.Value := [str x.name, .int .i64 x.value.kind, .int .i64 x.value.n, str x.value.s, .bool x.value.At]
structure JH where
  Ad : Int
  Code : Int
abbrev JH.enc (x : JH) : List Go.Value := [.int .i64 x.Ad, .int .i64 x.Code]
structure JO where
  Ab : Int
  Ac : Str
  Ad : Int
  Column : Int
abbrev JO.enc (x : JO) : List Go.Value := [.int .i64 x.Ab, str x.Ac, .int .i64 x.Ad, .int .i64 x.Column]
structure JC where
  Name : Str
  As : Int
abbrev JC.enc (x : JC) : List Go.Value := [str x.Name, .int .i64 x.As]
structure Jg where
  Ae : Str
  Af : Str
  Ag : (List Jc)
  Vary : (List Str)
  Ah : (List Str)
  TTL : Int
  Ai : Int
  Aj : Int
  Ak : Bool
  Al : Bool
def Jg.R : Rp Jg := fun K cs x => ∃ a_0 : Option Addr, ∃ c_0 : Nat, ∃ a_1 : Option Addr, ∃ c_1 : Nat, ∃ a_2 : Option Addr, ∃ c_2 : Nat, cs = [str x.Ae, str x.Af, .slice a_0 x.Ag.length c_0, .slice a_1 x.Vary.length c_1, .slice a_2 x.Ah.length c_2, .int .i64 x.TTL, .int .i64 x.Ai, .int .i64 x.Aj, .bool x.Ak, .bool x.Al] ∧ RdC Jc.enc K a_0 c_0 2 x.Ag ∧ RdC eS K a_1 c_1 1 x.Vary ∧ RdC eS K a_2 c_2 1 x.Ah
theorem Jg.R_ok : RpOK 10 Jg.R :=
  ⟨fun hk ⟨a_0, c_0, a_1, c_1, a_2, c_2, e, h_0, h_1, h_2⟩ => ⟨a_0, c_0, a_1, c_1, a_2, c_2, e, (h_0.mono hk), (h_1.mono hk), (h_2.mono hk)⟩, fun ⟨a_0, c_0, a_1, c_1, a_2, c_2, e, h_0, h_1, h_2⟩ => by simp [e], fun ⟨a_0, c_0, a_1, c_1, a_2, c_2, e, h_0, h_1, h_2⟩ v hv => by rw [e] at hv; simp at hv; rcases hv with rfl | rfl | rfl | rfl | rfl | rfl | rfl | rfl | rfl | rfl <;> rfl⟩
instance : RpI 10 Jg.R := ⟨Jg.R_ok⟩
structure Jl where
  As : Int
  N : Int
  S : Str
  Is : Bool
abbrev Jl.enc (x : Jl) : List Go.Value := [.int .i64 x.As, .int .i64 x.N, str x.S, .bool x.Is]
structure Jz where
  Name : Str
  Value : Jl
abbrev Jz.enc (x : Jz) : List Go.Value := [str x.Name, .int .i64 x.Value.As, .int .i64 x.Value.N, str x.Value.S, .bool x.Value.Is]
structure Jcp where
  An : Str
  Ae : Str
  Af : Str
  HasQuery : Bool
abbrev Jcp.enc (x : Jcp) : List Go.Value := [str x.An, str x.Ae, str x.Af, .bool x.HasQuery]
theorem qxz : ElT Tryz.prog 38 54 3 := ElT.mk' rfl rfl rfl rfl rfl
theorem qvz : ElT Tryz.prog 200 204 10 := ElT.mk' rfl rfl rfl rfl rfl
theorem qbz : ElT Tryz.prog 130 5 1 := ElT.mk' rfl rfl rfl rfl rfl
theorem qv0 : ElT Tryz.prog 93 95 4 := ElT.mk' rfl rfl rfl rfl rfl
theorem qdf : ElT Tryz.prog 31 9 1 := ElT.mk' rfl rfl rfl rfl rfl
theorem qi0 : ElT Tryz.prog 30 77 2 := ElT.mk' rfl rfl rfl rfl rfl
theorem qt7 : ElT Tryz.prog 66 68 4 := ElT.mk' rfl rfl rfl rfl rfl
theorem qlj : ElT Tryz.prog 265 269 4 := ElT.mk' rfl rfl rfl rfl rfl
theorem qlk : ElT Tryz.prog 150 3 1 := ElT.mk' rfl rfl rfl rfl rfl
theorem qll : ElT Tryz.prog 195 233 2 := ElT.mk' rfl rfl rfl rfl rfl
theorem qss : ElT Tryz.prog 173 177 5 := ElT.mk' rfl rfl rfl rfl rfl
theorem qlm : ElT Tryz.prog 293 296 4 := ElT.mk' rfl rfl rfl rfl rfl
theorem qln : ElT Tryz.prog 181 187 2 := ElT.mk' rfl rfl rfl rfl rfl
theorem qx0 : ElT Tryz.prog 61 63 4 := ElT.mk' rfl rfl rfl rfl rfl
theorem qlo : ElT Tryz.prog 188 192 5 := ElT.mk' rfl rfl rfl rfl rfl
theorem qke : ElT Tryz.prog 23 90 2 := ElT.mk' rfl rfl rfl rfl rfl
def GG (K : Hp) : Prop := (GlL eS 1 0 Jaa K) ∧ (GlL eS 1 1 Ja5 K) ∧ (GlL eS 1 2 Ja6 K) ∧ (GlN 3 K) ∧ (GlL eS 1 4 gkw0 K) ∧ (GlA 5 (Go.Lib.pow10Tab.map fun z => Value.int .u64 z) K)
theorem GG.of {K : Hp} (h : (GlL eS 1 0 Jaa K) ∧ (GlL eS 1 1 Ja5 K) ∧ (GlL eS 1 2 Ja6 K) ∧ (GlN 3 K) ∧ (GlL eS 1 4 gkw0 K) ∧ (GlA 5 (Go.Lib.pow10Tab.map fun z => Value.int .u64 z) K)) : GG K := h
theorem GG.mono {K K' : Hp} (h : GG K) (hk : K.Le K') : GG K' := ⟨h.1.mono hk, h.2.1.mono hk, h.2.2.1.mono hk, h.2.2.2.1.mono hk, h.2.2.2.2.1.mono hk, h.2.2.2.2.2.mono hk⟩
theorem gg0 {K : Hp} (h : GG K) : GlL eS 1 0 Jaa K := h.1
theorem gg1 {K : Hp} (h : GG K) : GlL eS 1 1 Ja5 K := h.2.1
theorem gg2 {K : Hp} (h : GG K) : GlL eS 1 2 Ja6 K := h.2.2.1
theorem gg3 {K : Hp} (h : GG K) : GlN 3 K := h.2.2.2.1
theorem gg4 {K : Hp} (h : GG K) : GlL eS 1 4 gkw0 K := h.2.2.2.2.1
theorem gg5 {K : Hp} (h : GG K) : GlA 5 (Go.Lib.pow10Tab.map fun z => Value.int .u64 z) K := h.2.2.2.2.2
def JaY : List UInt8 → Nat → Str → Option (Fl (Str × Err) (Str))
  | [], _, ac => some (Fl.go ac)
  | e0 :: aT, i0, ac =>
    (if decide ((e0.toNat : Int) < 32) then some true else some (decide ((e0.toNat : Int) > 126))).bind fun aS =>
    if aS then
    some (Fl.ret (([] : Str), (some 2)))
    else
    (if decide ((e0.toNat : Int) = 34) then some true else some (decide ((e0.toNat : Int) = 92))).bind fun aU =>
    if aU then
    (chk (ac.length + ([(92 : UInt8)] : Str).length ≤ lim)).bind fun _ =>
    (chk ((ac ++ ([(92 : UInt8)] : Str)).length + ([e0] : Str).length ≤ lim)).bind fun _ =>
    JaY aT (i0 + 1) ((ac ++ ([(92 : UInt8)] : Str)) ++ ([e0] : Str))
    else
    (chk (ac.length + ([e0] : Str).length ≤ lim)).bind fun _ =>
    JaY aT (i0 + 1) (ac ++ ([e0] : Str))
def Jc3 (s : Str) : Option (Str × Err) :=
  (chk (s.length ≤ qax)).bind fun _ =>
  (JaY s 0 ([(34 : UInt8)] : Str)).bind fun s0 => s0.el some fun t0 =>
  (chk (t0.length + ([(34 : UInt8)] : Str).length ≤ lim)).bind fun _ =>
  some ((t0 ++ ([(34 : UInt8)] : Str)), none)
theorem Jeh {s : Str} {K : Hp} {r : Str × Err}
    (hm : Jc3 s = some r)  :
    Fn Tryz.prog 173 [str s] K [] (fun v K' H' => v = .tuple #[str r.1, qde 87 r.2] ∧ H' = []) := by
 refine Fn.enter Tryz.func173 Tryz.call173 rfl fun F => ?_
 unfold Jc3 at hm
 refine bsO (len := 1) (enc := eU) (l := ([(34 : UInt8)] : Str)) (cl := [.int .u8 34]) qbz rfl rfl (fun _ _ => rfl) rfl rfl rfl ?_ fun b6 => ?_
 · conv => whnf
   refine cT ?_
   first | done | rfl
 refine ro (qat rfl ?_)
 obtain ⟨bd, hm⟩ := qay hm
 obtain ⟨s0, aS, hm⟩ := bnd hm
 refine lD (σ := (Str) × Option Addr × Nat) ([2,3,4,5] ++ rg 9 34) [1] (fun i0 => [(9, .int .i64 (i0 : Int))]) (fun (t0, aV, aW) => [(4, .slice aV t0.length aW)]) (fun (t0, aV, aW) => [OwnL eU aV 5 1 aW t0]) (fun (t0, aV, aW) => (0 < t0.length → Has aV) ∧ True) (fun i0 (t0, aV, aW) => JaY (s.drop i0) i0 t0 = some s0) (fun (t0, aV, aW) => s0 = Fl.go t0) (fun i0 => s.length - i0) 0 (_, _, _) aS (And.intro qe (And.intro ?_ ?_))
 clear aS
 rintro i0 ⟨ac, br, bj⟩ ⟨bf, _⟩ aS j0
 conv at aS => whnf
 refine qaf rfl ?_
 refine qag ?_ ?_ <;> intro w0
 obtain ⟨e0, aY, bB⟩ := ltx w0
 rw [bB, JaY.eq_2] at aS
 refine qai rfl ?_
 obtain ⟨bc, aX, aS⟩ := bnd aS
 refine jR (σ := Bool) (rg 12 10) (fun aZ => [(21, .bool aZ)]) (fun aZ => aZ = bc) ?_ ?_
 replace aX := bsm aX
 refine qah rfl ?_
 refine qaz rfl (nn _) aY ?_
 obtain ⟨bH, ba, aX⟩ := bnd aX
 refine cS ba (fun aU ba => ?_) fun aU ba => ?_
 refine ct aU (ct aU (ct aU (ct aU ?_)))
 exact eMq aX _ ⟨bq (si ba), trivial⟩
 refine cf aU (cf aU (qaz rfl (nn _) aY (cf aU (cf aU ?_))))
 exact eMq aX _ ⟨bq (si ba), trivial⟩
 rintro aZ rfl bC
 refine cs rfl rfl aS ?_ ?_ <;> intro bF aS
 refine qa7 rfl ?_
 exact eE (er aS hm)
 refine qah rfl ?_
 refine qaz rfl (nn _) aY (qad ?_)
 obtain ⟨bI, a6, aS⟩ := bnd aS
 refine cS a6 (fun aT a6 => ?_) fun aT a6 => ?_
 refine ct aT (ct aT (ct aT (ct aT (qaf rfl (cT ?_)))))
 replace aS := ift (si a6).symm aS
 refine bsO (len := 1) (enc := eU) (l := ([(92 : UInt8)] : Str)) (cl := [.int .u8 92]) qbz rfl rfl (fun _ _ => rfl) rfl rfl rfl ?_ fun bA => ?_
 · conv => whnf
   refine cT ?_
   first | done | rfl
 obtain ⟨bb, aS⟩ := qay aS
 refine apE rfl r1 qbz (qa4 rfl r0 rfl (fun _ => rfl) (fun _ => rfl)) bb ?_
 intro bz bu bw
 refine qaz rfl (nn _) aY ?_
 refine bsO (len := 1) (enc := eU) (l := ([e0] : Str)) (cl := [.int .u8 (e0.toNat : Int)]) qbz rfl rfl (fun _ _ => rfl) rfl rfl rfl ?_ fun bo => ?_
 · conv => whnf
   refine cT ?_
   first | done | rfl
 obtain ⟨a8, aS⟩ := qay aS
 refine apE rfl r1 qbz (qa4 rfl r0 rfl (fun _ => rfl) (fun _ => rfl)) a8 ?_
 intro bh bm bp
 refine qar (qbu aY bd) ?_
 exact eR aS (_, _, _, _)
 refine cf aT (cf aT (qaz rfl (nn _) aY (cf aT (qad (cf aT (qaf rfl ?_))))))
 refine qag ?_ ?_ <;> intro bn
 replace aS := ift ((si a6).symm.trans bn) aS
 refine bsO (len := 1) (enc := eU) (l := ([(92 : UInt8)] : Str)) (cl := [.int .u8 92]) qbz rfl rfl (fun _ _ => rfl) rfl rfl rfl ?_ fun bA => ?_
 · conv => whnf
   refine cT ?_
   first | done | rfl
 obtain ⟨bb, aS⟩ := qay aS
 refine apE rfl r1 qbz (qa4 rfl r0 rfl (fun _ => rfl) (fun _ => rfl)) bb ?_
 intro bz bu bw
 refine qaz rfl (nn _) aY ?_
 refine bsO (len := 1) (enc := eU) (l := ([e0] : Str)) (cl := [.int .u8 (e0.toNat : Int)]) qbz rfl rfl (fun _ _ => rfl) rfl rfl rfl ?_ fun bo => ?_
 · conv => whnf
   refine cT ?_
   first | done | rfl
 obtain ⟨a8, aS⟩ := qay aS
 refine apE rfl r1 qbz (qa4 rfl r0 rfl (fun _ => rfl) (fun _ => rfl)) a8 ?_
 intro bh bm bp
 refine qar (qbu aY bd) ?_
 exact eR aS (_, _, _, _)
 replace aS := qa6 ((si a6).symm.trans bn) aS
 refine qaz rfl (nn _) aY ?_
 refine bsO (len := 1) (enc := eU) (l := ([e0] : Str)) (cl := [.int .u8 (e0.toNat : Int)]) qbz rfl rfl (fun _ _ => rfl) rfl rfl rfl ?_ fun bo => ?_
 · conv => whnf
   refine cT ?_
   first | done | rfl
 obtain ⟨a8, aS⟩ := qay aS
 refine apE rfl r1 qbz (qa4 rfl r0 rfl (fun _ => rfl) (fun _ => rfl)) a8 ?_
 intro bh bm bp
 refine qar (qbu aY bd) ?_
 exact eR aS (_, _, _, _)
 rw [lty w0, JaY.eq_1] at aS
 refine cT ?_
 exact eM aS (_, _, _)
 rintro ⟨t0, aV, aW⟩ ⟨bg, _⟩ rfl j0
 replace hm := elg hm
 refine bsO (len := 1) (enc := eU) (l := ([(34 : UInt8)] : Str)) (cl := [.int .u8 34]) qbz rfl rfl (fun _ _ => rfl) rfl rfl rfl ?_ fun bG => ?_
 · conv => whnf
   refine cT ?_
   first | done | rfl
 obtain ⟨bt, hm⟩ := qay hm
 refine apE rfl r1 qbz (qa4 rfl r0 rfl (fun _ => rfl) (fun _ => rfl)) bt ?_
 intro bD bK bJ
 refine ro (qdc rfl r0 rfl rfl rfl ?_)
 exact eE hm

def JbK (s : Str) : Option (Bool) :=
  (Jc3 s).bind fun x7 =>
  some x7.2.isNone
theorem Jcq {s : Str} {K : Hp} {r : Bool}
    (hm : JbK s = some r)  :
    Fn Tryz.prog 140 [str s] K [] (fun v K' H' => v = .bool r ∧ H' = []) := by
 refine Fn.enter Tryz.func140 Tryz.call140 rfl fun F => ?_
 unfold JbK at hm
 refine cb hm fun x7 q7 hm => cg0 (Jeh q7 :) ?_
 refine qgn rfl ?_
 exact eE hm

def JZ (v' : Str) : List Str → Nat → Option (Fl (Int) (Unit))
  | [], _ => some (Fl.go ())
  | e0 :: aS, i0 =>
    if decide (v' = e0) then
    some (Fl.ret (i0 : Int))
    else
    JZ v' aS (i0 + 1)
def JbA (s : (List Str)) (v' : Str) : Option (Int) :=
  (chk (s.length ≤ qax)).bind fun _ =>
  (JZ v' s 0).bind fun s0 => s0.el some fun t0 =>
  some (-1)
theorem Jel {s : (List Str)} {v' : Str} {aa : Option Addr} {ab : Nat} {n0 : Nat} {K : Hp} {r : Int}
    (hm : JbA s v' = some r) (hX : RdC eS K aa ab 1 s ∧ n0 = s.length) :
    Fn Tryz.prog 149 [.slice aa n0 ab, str v'] K [] (fun v K' H' => v = .int .i64 r ∧ H' = []) := by
 obtain ⟨ae, aU⟩ := hX
 subst aU
 refine Fn.enter Tryz.func149 Tryz.call149 rfl fun F => ?_
 unfold JbA at hm
 refine ro (qaj rfl ?_)
 obtain ⟨aV, hm⟩ := qay hm
 obtain ⟨s0, aS, hm⟩ := bnd hm
 refine lD (σ := (Unit)) ([4,5] ++ rg 8 11) [0] (fun i0 => [(8, .int .i64 (i0 : Int))]) (fun _ => []) (fun _ => []) (fun _ => True) (fun i0 _ => JZ v' (s.drop i0) i0 = some s0) (fun t0 => s0 = Fl.go t0) (fun i0 => s.length - i0) 0 () aS (And.intro qe (And.intro ?_ ?_))
 clear aS
 rintro i0 _ _ aS j0
 conv at aS => whnf
 refine qaf rfl ?_
 refine qag ?_ ?_ <;> intro w0
 obtain ⟨e0, aT, aW⟩ := ltx w0
 rw [aW, JZ.eq_2] at aS
 refine qai rfl ?_
 refine RStep.ofN (qac rfl rfl (qcc ae.rd aT) (nn _) (qbg aT) (ro (qbd i0 0 _ _ ae.rd rfl (mp aT) rfl rfl (qam ?_))))
 refine cs rfl rfl aS ?_ ?_ <;> intro aX aS
 exact eE (er aS hm)
 refine qar (qbu aT aV) ?_
 exact eR aS (_, ())
 rw [lty w0, JZ.eq_1] at aS
 refine cT ?_
 exact eM aS _
 rintro t0 _ rfl j0
 replace hm := elg hm
 exact eE hm

def JP (s : (List Str)) (v' : Str) : Option (Bool) :=
  (JbA s v').bind fun x7 =>
  some (decide (x7 ≥ 0))
theorem Jai {s : (List Str)} {v' : Str} {aa : Option Addr} {ab : Nat} {n0 : Nat} {K : Hp} {r : Bool}
    (hm : JP s v' = some r) (hX : RdC eS K aa ab 1 s ∧ n0 = s.length) :
    Fn Tryz.prog 113 [.slice aa n0 ab, str v'] K [] (fun v K' H' => v = .bool r ∧ H' = []) := by
 obtain ⟨ae, aS⟩ := hX
 subst aS
 refine Fn.enter Tryz.func113 Tryz.call113 rfl fun F => ?_
 unfold JP at hm
 refine cb hm fun x7 q7 hm => cgx (Jel q7 :) ?_
 exact eE hm

def Jad (s : Str) (prefixZ : Str) : Option (Bool) :=
  (if decide ((s.length : Int) ≥ (prefixZ.length : Int)) then (chk (0 ≤ (0 : Int) ∧ (0 : Int) ≤ (prefixZ.length : Int) ∧ (prefixZ.length : Int) ≤ (s.length : Int))).bind fun _ =>
  some (decide ((subL s (0 : Int) (prefixZ.length : Int)) = prefixZ)) else some false).bind fun aS =>
  some aS
theorem JbL {s : Str} {prefixZ : Str} {K : Hp} {r : Bool}
    (hm : Jad s prefixZ = some r)  :
    Fn Tryz.prog 112 [str s, str prefixZ] K [] (fun v K' H' => v = .bool r ∧ H' = []) := by
 refine Fn.enter Tryz.func112 Tryz.call112 rfl fun F => ?_
 unfold Jad at hm
 refine qah rfl ?_
 refine ro (qat rfl (ro (qat rfl ?_)))
 obtain ⟨aV, aT, hm⟩ := bnd hm
 refine cS aT (fun aS aT => ?_) fun aS aT => ?_
 refine ct aS (ct aS (ro (qat rfl (ct aS ?_))))
 obtain ⟨aU, aT⟩ := qay aT
 refine RStep.ofN (qbn (lo := none) (hi := (some (prefixZ.length : Int))) rfl aU (ct aS (ct aS (qam (ct aS ?_)))))
 exact bE (si aT) (eE hm)
 refine cf aS (cf aS (cf aS (cf aS (cf aS (cf aS ?_)))))
 exact bE (si aT) (eE hm)

def Jbc (s : Str) (prefixZ : Str) : Option (Str × Bool) :=
  (Jad s prefixZ).bind fun x8 =>
  if (!x8) then
  some (s, false)
  else
  (chk (0 ≤ (prefixZ.length : Int) ∧ (prefixZ.length : Int) ≤ (s.length : Int) ∧ (s.length : Int) ≤ (s.length : Int))).bind fun _ =>
  some ((subL s (prefixZ.length : Int) (s.length : Int)), true)
theorem Jc4 {s : Str} {prefixZ : Str} {K : Hp} {r : Str × Bool}
    (hm : Jbc s prefixZ = some r)  :
    Fn Tryz.prog 200 [str s, str prefixZ] K [] (fun v K' H' => v = .tuple #[str r.1, .bool r.2] ∧ H' = []) := by
 refine Fn.enter Tryz.func200 Tryz.call200 rfl fun F => ?_
 unfold Jbc at hm
 refine cb hm fun x8 q8 hm => cg0 (JbL q8 :) ?_
 refine qa1 ?_
 refine cs rfl rfl hm ?_ ?_ <;> intro w9 hm
 exact eE hm
 refine ro (qat rfl ?_)
 obtain ⟨aS, hm⟩ := qay hm
 refine RStep.ofN (qbn (lo := (some (prefixZ.length : Int))) (hi := none) rfl aS ?_)
 exact eE hm

def JcD (s : Str) (prefixZ : Str) : Option (Str × Bool) :=
  (Jbc s prefixZ).bind fun x8 =>
  some (x8.1, x8.2)
theorem Jdu {s : Str} {prefixZ : Str} {K : Hp} {r : Str × Bool}
    (hm : JcD s prefixZ = some r)  :
    Fn Tryz.prog 174 [str s, str prefixZ] K [] (fun v K' H' => v = .tuple #[str r.1, .bool r.2] ∧ H' = []) := by
 refine Fn.enter Tryz.func174 Tryz.call174 rfl fun F => ?_
 unfold JcD at hm
 refine cb hm fun x8 q8 hm => cg0 (Jc4 q8 :) ?_
 exact eE hm

def Jeo (s : Str) : Option (Int × Bool) :=
  if decide (s = ([112, 97, 116, 104] : Str)) then
  some (1, true)
  else
  if decide (s = ([113, 117, 101, 114, 121] : Str)) then
  some (1, true)
  else
  if decide (s = ([116, 97, 103] : Str)) then
  some (1, true)
  else
  if decide (s = ([116, 116, 108] : Str)) then
  some (1, true)
  else
  if decide (s = ([100, 101, 110, 121] : Str)) then
  some (1, true)
  else
  if decide (s = ([112, 97, 115, 115] : Str)) then
  some (0, true)
  else
  if decide (s = ([116, 111, 107, 101, 110] : Str)) then
  some (0, true)
  else
  (JcD s ([104, 101, 97, 100, 101, 114, 58] : Str)).bind fun aS =>
  if aS.2 then
  (JbK aS.1).bind fun aU =>
  some (1, aU)
  else
  (JcD s ([118, 97, 114, 121, 58] : Str)).bind fun aT =>
  (if aT.2 then (JbK aT.1).bind fun aV =>
  some aV else some false).bind fun aW =>
  some (0, aW)
theorem Jfw {s : Str} {K : Hp} {r : Int × Bool}
    (hm : Jeo s = some r)  :
    Fn Tryz.prog 141 [str s] K [] (fun v K' H' => v = .tuple #[.int .i64 r.1, .bool r.2] ∧ H' = []) := by
 refine Fn.enter Tryz.func141 Tryz.call141 rfl fun F => ?_
 unfold Jeo at hm
 refine qai rfl ?_
 refine qam (cs rfl rfl hm ?_ ?_) <;> intro w9 hm
 refine qaf rfl (ct w9 ?_)
 exact eE hm
 refine qam (cs rfl rfl hm ?_ ?_) <;> intro w9 hm
 refine qaf rfl (ct w9 ?_)
 exact eE hm
 refine qam (cs rfl rfl hm ?_ ?_) <;> intro w9 hm
 refine qaf rfl (ct w9 ?_)
 exact eE hm
 refine qam (cs rfl rfl hm ?_ ?_) <;> intro w9 hm
 refine qaf rfl (ct w9 ?_)
 exact eE hm
 refine qam (cs rfl rfl hm ?_ ?_) <;> intro w9 hm
 exact eE hm
 refine qam (cs rfl rfl hm ?_ ?_) <;> intro aU hm
 refine qaf rfl (ct aU ?_)
 exact eE hm
 refine qam (cs rfl rfl hm ?_ ?_) <;> intro aU hm
 exact eE hm
 refine cb hm fun aZ aV hm => cg0 (Jdu aV :) ?_
 refine cs rfl rfl hm ?_ ?_ <;> intro a6 hm
 refine cb hm fun a8 aW hm => cg0 (Jcq aW :) ?_
 exact eE hm
 refine cb hm fun bc aX hm => cg0 (Jdu aX :) ?_
 refine qah rfl ?_
 obtain ⟨bb, aT, hm⟩ := bnd hm
 refine cS aT (fun aS aT => ?_) fun aS aT => ?_
 refine ct aS ?_
 refine cb aT fun ba aY aT => cg0 (Jcq aY :) ?_
 refine ct aS ?_
 cases hm
 exact en lr ⟨(by rw [← (si aT)] <;> rfl), rfl⟩ (pf rfl)
 refine cf aS (cf aS ?_)
 cases hm
 exact en lr ⟨(by rw [← ((si aT).symm).symm] <;> rfl), rfl⟩ (pf rfl)

def JdS (x : Jj) : Option (Int × Int × Bool) :=
  if decide (x.Op = 1) then
  some (0, 1, ((decide (x.S = ([] : Str)) && decide (x.N ≥ 0)) && decide (x.N ≤ 999999999)))
  else
  if decide (x.Op = 2) then
  (if decide (x.N = 0) then (JbK x.S).bind fun aV =>
  some aV else some false).bind fun aW =>
  some (0, 1, aW)
  else
  if decide (x.Op = 3) then
  some (0, 1, ((decide (x.S = ([] : Str)) && decide (x.N ≥ 0)) && decide (x.N ≤ 511)))
  else
  if decide (x.Op = 4) then
  some (1, 0, ((decide (x.S = ([] : Str)) && decide (x.N ≥ 0)) && decide (x.N ≤ 511)))
  else
  if decide (x.Op = 5) then
  (if decide (x.N = 0) then (JP Jaa x.S).bind fun aZ =>
  some aZ else some false).bind fun aU =>
  some (0, 1, aU)
  else
  if decide (x.Op = 6) then
  (if decide (x.N = 0) then (JP Ja5 x.S).bind fun a6 =>
  some a6 else some false).bind fun aY =>
  some (1, 1, aY)
  else
  if decide (x.Op = 7) then
  (if decide (x.N = 0) then (JP Ja6 x.S).bind fun aX =>
  some aX else some false).bind fun aT =>
  some (2, 1, aT)
  else
  if decide (x.Op = 8) then
  some (1, 1, (decide (x.N = 0) && decide (x.S = ([] : Str))))
  else
  if decide (x.Op = 9) then
  some (0, 0, decide (x.S = ([] : Str)))
  else
  if decide (x.Op = 10) then
  some (1, 0, decide (x.S = ([] : Str)))
  else
  if decide (x.Op = 11) then
  (Jeo x.S).bind fun aS =>
  some (aS.1, 0, (decide (x.N = 0) && aS.2))
  else
  if decide (x.Op = 12) then
  some (0, 0, (decide (x.N = 0) && decide (x.S = ([] : Str))))
  else
  some (0, 0, false)
theorem Je0 {x : Jj} {K : Hp} {r : Int × Int × Bool}
    (hm : JdS x = some r) (hG : GG K) :
    Fn Tryz.prog 100 [.agg #[.int .i64 x.Op, .int .i64 x.N, str x.S]] K [] (fun v K' H' => v = .tuple #[.int .i64 r.1, .int .i64 r.2.1, .bool r.2.2] ∧ H' = []) := by
 obtain ⟨bL, bR, bZ, gn_, bt, bK⟩ := gg0 hG
 subst gn_
 obtain ⟨bX, cd, bH, gn_, bg, bA⟩ := gg1 hG
 subst gn_
 obtain ⟨cm, bS, bQ, gn_, bn, ca⟩ := gg2 hG
 subst gn_
 refine Fn.enter Tryz.func100 Tryz.call100 rfl fun F => ?_
 unfold JdS at hm
 refine qaq ?_
 intro b1
 refine fa rfl (ro (ld r0 rfl rfl (qad (fa rfl (ro (ld r0 rfl rfl (qam ?_)))))))
 refine jR (σ := Unit) ([7] ++ rg 14 11) (fun _ => [(7, .bool ((decide (x.S = ([] : Str)) && decide (x.N ≥ 0)) && decide (x.N ≤ 511)))]) (fun bo => True) ?_ ?_
 refine qah rfl ?_
 refine qag ?_ ?_ <;> intro aW
 refine fa rfl (ct aW (ro (ld r0 rfl rfl (ct aW (ct aW ?_)))))
 refine qag ?_ ?_ <;> intro aX
 refine fa rfl (ct aX (ro (ld r0 rfl rfl (ct aX (ct aX ?_)))))
 exact eMt () ⟨bq (qbw (b := decide (x.N ≤ 511)) (qby aW aX)), trivial⟩
 refine cf aX (cf aX (cf aX ?_))
 exact eMt () ⟨bq (((qa0 (qb8 aW aX))).symm), trivial⟩
 refine cf aW (cf aW (cf aW (cF (cF (cF (cF ?_))))))
 exact eMt () ⟨bq (((qa0 (qa0 aW))).symm), trivial⟩
 rintro _ _ bz
 refine fa rfl (ro (ld r0 rfl rfl ?_))
 refine qai rfl ?_
 refine qad (cs rfl rfl hm ?_ ?_) <;> intro bG hm
 refine qau ⟨⟨[], false⟩, _, [(_, _)], []⟩ (by kernel_rfl) ⟨Hp.Le.refl _, (pf rfl), ci0⟩ ?_
 refine qag ?_ ?_ <;> intro aV
 refine fa rfl (ct aV (qan m0 rfl rfl (ct aV (ct aV ?_))))
 refine qag ?_ ?_ <;> intro aY
 refine fa rfl (ct aY (qan m0 rfl rfl (ct aY (ct aY ?_))))
 cases hm
 exact en lr ⟨(by rw [← (qbw (b := decide (x.N ≤ 999999999)) (qby aV aY))] <;> rfl), rfl⟩ (sc [1] rfl)
 refine cf aY (cf aY (cf aY ?_))
 cases hm
 exact en lr ⟨(by rw [← ((qa0 (qb8 aV aY))).symm] <;> rfl), rfl⟩ (sc [1] rfl)
 refine cf aV (cf aV (cf aV (cF (cF (cF (cF ?_))))))
 cases hm
 exact en lr ⟨(by rw [← ((qa0 (qa0 aV))).symm] <;> rfl), rfl⟩ (sc [1] rfl)
 refine qad (cs rfl rfl hm ?_ ?_) <;> intro bO hm
 refine qah rfl ?_
 obtain ⟨bM, bc, hm⟩ := bnd hm
 refine cS bc (fun a8 bc => ?_) fun a8 bc => ?_
 refine fa rfl (ct a8 (ro (ld r0 rfl rfl (ct a8 ?_))))
 refine cb bc fun bF bj bc => cg0 (Jcq bj :) ?_
 refine ct a8 ?_
 cases hm
 exact en lr ⟨(by rw [← (si bc)] <;> rfl), rfl⟩ (sc [1] rfl)
 refine cf a8 (cf a8 (cf a8 ?_))
 cases hm
 exact en lr ⟨(by rw [← ((si bc).symm).symm] <;> rfl), rfl⟩ (sc [1] rfl)
 refine qad (cs rfl rfl hm ?_ ?_) <;> intro bD hm
 exact eE hm
 refine qad (cs rfl rfl hm ?_ ?_) <;> intro cn hm
 exact eE hm
 refine qad (cs rfl rfl hm ?_ ?_) <;> intro bT hm
 refine qah rfl ?_
 obtain ⟨ce, bf, hm⟩ := bnd hm
 refine cS bf (fun aT bf => ?_) fun aT bf => ?_
 refine ro (ql1 bt rfl (ct aT (fa rfl (ct aT (ro (ld r0 rfl rfl (ct aT ?_)))))))
 refine cb bf fun bP bu bf => cgx (Jai bu :) ?_
 refine ct aT ?_
 cases hm
 exact en lr ⟨(by rw [← (si bf)] <;> rfl), rfl⟩ (sc [1] rfl)
 refine cf aT (cf aT (cf aT (cf aT ?_)))
 cases hm
 exact en lr ⟨(by rw [← ((si bf).symm).symm] <;> rfl), rfl⟩ (sc [1] rfl)
 refine qad (cs rfl rfl hm ?_ ?_) <;> intro cj hm
 refine qah rfl ?_
 obtain ⟨bI, bd, hm⟩ := bnd hm
 refine cS bd (fun aS bd => ?_) fun aS bd => ?_
 refine ro (ql1 bg rfl (ct aS (fa rfl (ct aS (ro (ld r0 rfl rfl (ct aS ?_)))))))
 refine cb bd fun bJ bm bd => cgx (Jai bm :) ?_
 refine ct aS ?_
 cases hm
 exact en lr ⟨(by rw [← (si bd)] <;> rfl), rfl⟩ (sc [1] rfl)
 refine cf aS (cf aS (cf aS (cf aS ?_)))
 cases hm
 exact en lr ⟨(by rw [← ((si bd).symm).symm] <;> rfl), rfl⟩ (sc [1] rfl)
 refine qad (cs rfl rfl hm ?_ ?_) <;> intro bU hm
 refine qah rfl ?_
 obtain ⟨bY, bb, hm⟩ := bnd hm
 refine cS bb (fun aU bb => ?_) fun aU bb => ?_
 refine ro (ql1 bn rfl (ct aU (fa rfl (ct aU (ro (ld r0 rfl rfl (ct aU ?_)))))))
 refine cb bb fun bN bw bb => cgx (Jai bw :) ?_
 refine ct aU ?_
 cases hm
 exact en lr ⟨(by rw [← (si bb)] <;> rfl), rfl⟩ (sc [1] rfl)
 refine cf aU (cf aU (cf aU (cf aU ?_)))
 cases hm
 exact en lr ⟨(by rw [← ((si bb).symm).symm] <;> rfl), rfl⟩ (sc [1] rfl)
 refine qad (cs rfl rfl hm ?_ ?_) <;> intro bB hm
 refine qah rfl ?_
 refine qag ?_ ?_ <;> intro ba
 refine ct ba ?_
 cases hm
 exact en lr ⟨(by rw [← (qbw (b := decide (x.S = ([] : Str))) ba)] <;> rfl), rfl⟩ (sc [1] rfl)
 refine cf ba ?_
 cases hm
 exact en lr ⟨(by rw [← ((qa0 ba)).symm] <;> rfl), rfl⟩ (sc [1] rfl)
 refine qad (cs rfl rfl hm ?_ ?_) <;> intro bV hm
 exact eE hm
 refine qad (cs rfl rfl hm ?_ ?_) <;> intro bC hm
 exact eE hm
 refine qad (cs rfl rfl hm ?_ ?_) <;> intro bW hm
 refine fa rfl (ro (ld r0 rfl rfl ?_))
 refine cb hm fun bh bp hm => cg0 (Jfw bp :) ?_
 refine qah rfl ?_
 refine qag ?_ ?_ <;> intro aZ
 refine ct aZ ?_
 cases hm
 exact en lr ⟨(by rw [← (qbw (b := bh.2) aZ)] <;> rfl), rfl⟩ (sc [1] rfl)
 refine cf aZ ?_
 cases hm
 exact en lr ⟨(by rw [← ((qa0 aZ)).symm] <;> rfl), rfl⟩ (sc [1] rfl)
 refine qad (cs rfl rfl hm ?_ ?_) <;> intro br hm
 refine qah rfl ?_
 refine qag ?_ ?_ <;> intro a6
 refine ct a6 ?_
 cases hm
 exact en lr ⟨(by rw [← (qbw (b := decide (x.S = ([] : Str))) a6)] <;> rfl), rfl⟩ (sc [1] rfl)
 refine cf a6 ?_
 cases hm
 exact en lr ⟨(by rw [← ((qa0 a6)).symm] <;> rfl), rfl⟩ (sc [1] rfl)
 exact eE hm

def Jc5 (s : Jn) (slot : Int) : Option (Bool) :=
  (chk ((64 : Int) ≠ 0 ∧ InI (Int.tdiv slot 64))).bind fun _ =>
  (chk (0 ≤ (Int.tdiv slot 64) ∧ (Int.tdiv slot 64) < 8)).bind fun _ =>
  (chk (0 ≤ (Int.tmod slot 64))).bind fun _ =>
  some (decide ((u64and (qs5 (List.getD [s.Au.f0, s.Au.f1, s.Au.f2, s.Au.f3, s.Au.f4, s.Au.f5, s.Au.f6, s.Au.f7] (Int.toNat (Int.tdiv slot 64)) 0) (Int.tmod slot 64)) 1) = 1))
theorem Jep {s : Jn} {slot : Int} {K : Hp} {r : Bool}
    (hm : Jc5 s slot = some r)  :
    Fn Tryz.prog 101 [.agg #[.bool s.Av, .int .i64 s.depth, .int .u64 s.Au.f0, .int .u64 s.Au.f1, .int .u64 s.Au.f2, .int .u64 s.Au.f3, .int .u64 s.Au.f4, .int .u64 s.Au.f5, .int .u64 s.Au.f6, .int .u64 s.Au.f7], .int .i64 slot] K [] (fun v K' H' => v = .bool r ∧ H' = []) := by
 refine Fn.enter Tryz.func101 Tryz.call101 rfl fun F => ?_
 unfold Jc5 at hm
 refine qaq ?_
 intro b2
 obtain ⟨h6, hm⟩ := qay hm
 refine qja h6.1 h6.2 (fa rfl ?_)
 obtain ⟨h8, hm⟩ := qay hm
 refine RStep.ofN (qb0 (sz := 1) rfl rfl h8.1 h8.2 (ro (qs7 (L := [s.Au.f0, s.Au.f1, s.Au.f2, s.Au.f3, s.Au.f4, s.Au.f5, s.Au.f6, s.Au.f7]) (pre := [.bool s.Av, .int .i64 s.depth]) (post := []) r0 rfl (by simp) rfl h8.1 h8.2 (qrb (by decide) ?_))))
 obtain ⟨aS, hm⟩ := qay hm
 refine qus aS ?_
 refine qku ?_
 refine qad ?_
 exact eE hm

def JaE (s_i : Nat) (t : Jn) : Nat → Nat → (List Jn) → Option ((List Jn))
  | 0, _, ac => some ac
  | aU + 1, i0, ac =>
    (chk (0 ≤ (i0 : Int) ∧ (i0 : Int) < 8)).bind fun _ =>
    (ac[s_i]?).bind fun aS =>
    (chk (0 ≤ (i0 : Int) ∧ (i0 : Int) < 8)).bind fun _ =>
    (chk (0 ≤ (i0 : Int) ∧ (i0 : Int) < 8)).bind fun _ =>
    (some (List.set [aS.Au.f0, aS.Au.f1, aS.Au.f2, aS.Au.f3, aS.Au.f4, aS.Au.f5, aS.Au.f6, aS.Au.f7] (Int.toNat (i0 : Int)) (u64and (List.getD [aS.Au.f0, aS.Au.f1, aS.Au.f2, aS.Au.f3, aS.Au.f4, aS.Au.f5, aS.Au.f6, aS.Au.f7] (Int.toNat (i0 : Int)) 0) (List.getD [t.Au.f0, t.Au.f1, t.Au.f2, t.Au.f3, t.Au.f4, t.Au.f5, t.Au.f6, t.Au.f7] (Int.toNat (i0 : Int)) 0)))).bind fun aT =>
    JaE s_i t aU (i0 + 1) (ac.set s_i (⟨aS.Av, aS.depth, (⟨(List.getD aT 0 0), (List.getD aT 1 0), (List.getD aT 2 0), (List.getD aT 3 0), (List.getD aT 4 0), (List.getD aT 5 0), (List.getD aT 6 0), (List.getD aT 7 0)⟩ : Ja0)⟩ : Jn))
def JbE (s : (List Jn)) (s_i : Nat) (t : Jn) : Option (Bool × (List Jn)) :=
  (s[s_i]?).bind fun aT =>
  if (!aT.Av) then
  some (true, (s.set s_i t))
  else
  (chk (InI (8 : Int))).bind fun _ =>
  (JaE s_i t (8 : Int).toNat 0 s).bind fun t0 =>
  (t0[s_i]?).bind fun aS =>
  some (decide (aS.depth = t.depth), t0)
theorem Ja7 {s : (List Jn)} {s_i : Nat} {t : Jn} {aO : Option Addr} {aR : Nat} {K : Hp} {r : Bool × (List Jn)}
    (hm : JbE s s_i t = some r) (aH : 0 < s.length → Has aO) :
    Fn Tryz.prog 102 [(eptr aO (s_i * 10)), .agg #[.bool t.Av, .int .i64 t.depth, .int .u64 t.Au.f0, .int .u64 t.Au.f1, .int .u64 t.Au.f2, .int .u64 t.Au.f3, .int .u64 t.Au.f4, .int .u64 t.Au.f5, .int .u64 t.Au.f6, .int .u64 t.Au.f7]] K [OwnL Jn.enc aO 204 10 aR s] (fun v K' H' => v = .bool r.1 ∧ (0 < r.2.length → Has aO) ∧ s.length = r.2.length ∧ H' = [OwnL Jn.enc aO 204 10 aR r.2]) := by
 refine Fn.enter Tryz.func102 Tryz.call102 rfl fun F => ?_
 unfold JbE at hm
 obtain ⟨bf, aV, hm⟩ := bnd hm
 refine qaq ?_
 intro b3
 refine qdn (qcp aH aV) (qaw rfl (qcp aH aV) (ro (qbq (i := s_i) (o := 0) r1 rfl aV rfl rfl (qa1 ?_))))
 refine cs rfl rfl hm ?_ ?_ <;> intro bm hm
 refine ro (qae r0 rfl (nl rfl) (qdn (qcp aH aV) ?_))
 refine qho (o := 0) (y := t) bf r1 rfl aV rfl (by (conv => whnf); exact ⟨rfl, rfl, (nl rfl), rfl, rfl, rfl⟩) ?_
 cases hm
 exact en lr ⟨rfl, (by first | simpa using aH | exact fun _ => ⟨_, _, rfl⟩), ((rfl).trans List.length_set.symm), rfl⟩ (sc [0,1] rfl)
 obtain ⟨bg, hm⟩ := qay hm
 obtain ⟨s0, aT, hm⟩ := bnd hm
 refine lD (σ := ((List Jn))) ([5] ++ rg 14 18) [0, 2] (fun i0 => [(14, .int .i64 (i0 : Int))]) (fun _ => []) (fun t0 => [OwnL Jn.enc aO 204 10 aR t0]) (fun t0 => (0 < t0.length → Has aO) ∧ s.length = t0.length) (fun i0 t0 => JaE s_i t ((8 : Int).toNat - i0) i0 t0 = some s0) (fun t0 => t0 = s0) (fun i0 => (8 : Int).toNat - i0) 0 _ aT (And.intro qe (And.intro ?_ ?_))
 clear aT
 rintro i0 ac ⟨aX, aZ⟩ aT j0
 conv at aT => whnf
 refine qaf rfl ?_
 refine qag ?_ ?_ <;> intro w0
 rw [ltn (n := (8 : Int)) w0, JaE.eq_2] at aT
 refine qai rfl ?_
 refine qau ⟨⟨[], true⟩, _, [], []⟩ (by kernel_rfl) ⟨Hp.Le.refl _, (pf rfl), ci0⟩ ?_
 refine qdn (qcp aH aV) (qaw rfl (qcp aH aV) ?_)
 obtain ⟨a6, aT⟩ := qay aT
 refine qjf (sz := 1) rfl rfl (qcp aH aV) a6.1 a6.2 ?_
 obtain ⟨aS, bc, aT⟩ := bnd aT
 refine qbq (i := s_i) (o := 2 + (Int.toNat (i0 : Int))) r0 rfl bc (qkv (L := [aS.Au.f0, aS.Au.f1, aS.Au.f2, aS.Au.f3, aS.Au.f4, aS.Au.f5, aS.Au.f6, aS.Au.f7]) (pre := [.bool aS.Av, .int .i64 aS.depth]) (post := []) rfl a6.1 a6.2) (by omega) ?_
 refine fa rfl ?_
 obtain ⟨a8, aT⟩ := qay aT
 refine qb0 (sz := 1) rfl rfl a8.1 a8.2 ?_
 refine qs7 (L := [t.Au.f0, t.Au.f1, t.Au.f2, t.Au.f3, t.Au.f4, t.Au.f5, t.Au.f6, t.Au.f7]) (pre := [.bool t.Av, .int .i64 t.depth]) (post := []) r1 rfl (by simp) rfl a8.1 a8.2 ?_
 refine qku ?_
 refine qdn (qcp aH aV) (qaw rfl (qcp aH aV) ?_)
 obtain ⟨ba, aT⟩ := qay aT
 refine qjf (sz := 1) rfl rfl (qcp aH aV) ba.1 ba.2 ?_
 obtain ⟨aU, aW, aT⟩ := bnd aT
 replace aW := Option.some.inj aW
 have aY : aU.length = 8 := by rw [← aW]; simp
 refine qho (n := 1) (o := 2 + (Int.toNat (i0 : Int))) (y := (⟨aS.Av, aS.depth, (⟨(List.getD aU 0 0), (List.getD aU 1 0), (List.getD aU 2 0), (List.getD aU 3 0), (List.getD aU 4 0), (List.getD aU 5 0), (List.getD aU 6 0), (List.getD aU 7 0)⟩ : Ja0)⟩ : Jn)) aS r0 rfl bc (by omega) (by rw [qbl]; exact ⟨rfl, rfl, by omega, (qhw (L := [aS.Au.f0, aS.Au.f1, aS.Au.f2, aS.Au.f3, aS.Au.f4, aS.Au.f5, aS.Au.f6, aS.Au.f7]) (pre := [.bool aS.Av, .int .i64 aS.depth]) (post := []) ba.1 ba.2).trans (by rw [aW, qxx aY]; rfl), rfl, rfl⟩) ?_
 refine qk (pf rfl) ?_
 refine qar (qn1 w0 bg) ?_
 exact rd (i0 + 1, (ac.set s_i (⟨aS.Av, aS.depth, (⟨(List.getD aU 0 0), (List.getD aU 1 0), (List.getD aU 2 0), (List.getD aU 3 0), (List.getD aU 4 0), (List.getD aU 5 0), (List.getD aU 6 0), (List.getD aU 7 0)⟩ : Ja0)⟩ : Jn))) ⟨rfl, trivial⟩ rfl (pf rfl) lr (qxu w0) ⟨⟨(by first | simpa using aX | exact fun _ => ⟨_, _, rfl⟩), ((aZ).trans List.length_set.symm)⟩, aT⟩
 rw [lto (n := (8 : Int)) w0, JaE.eq_1] at aT
 refine cT ?_
 exact eM aT _
 rintro t0 ⟨bb, bd⟩ rfl j0
 refine qau ⟨⟨[], true⟩, _, [], []⟩ (by kernel_rfl) ⟨Hp.Le.refl _, (pf rfl), ci0⟩ ?_
 refine qdn (qcp aH aV) (qaw rfl (qcp aH aV) ?_)
 obtain ⟨bj, bh, hm⟩ := bnd hm
 refine qbq (i := s_i) (o := 1) r0 rfl bh rfl rfl ?_
 refine fa rfl ?_
 refine ld r1 rfl rfl ?_
 refine qad ?_
 exact eE hm

def JbG (code : (List Jj)) : List Jj → Nat → Int → (List Jn) → Option (Fl (Int × Bool) (Int × (List Jn)))
  | [], _, ac, aW => some (Fl.go (ac, aW))
  | e0 :: a8, i0, ac, aW =>
    (ix aW (i0 : Int)).bind fun aS =>
    (JdS e0).bind fun aU =>
    (chk (InI ((code.length : Int) - 1))).bind fun _ =>
    if ((((!aU.2.2) || (!aS.Av)) || decide (aS.depth < aU.1)) || (!((decide (e0.Op = 12)) == (decide ((i0 : Int) = ((code.length : Int) - 1)))))) then
    some (Fl.ret (0, false))
    else
    (if decide (e0.Op = 3) then (Jc5 aS e0.N).bind fun bc =>
    some (!bc) else some false).bind fun bd =>
    if bd then
    some (Fl.ret (0, false))
    else
    (chk (InI (aU.2.1 - aU.1))).bind fun _ =>
    (chk (InI (aS.depth + (aU.2.1 - aU.1)))).bind fun _ =>
    ((if decide (e0.Op = 4) then
    (chk ((64 : Int) ≠ 0 ∧ InI (Int.tdiv e0.N 64))).bind fun _ =>
    (chk (0 ≤ (Int.tdiv e0.N 64) ∧ (Int.tdiv e0.N 64) < 8)).bind fun _ =>
    (chk (0 ≤ (Int.tmod e0.N 64))).bind fun _ =>
    (chk (0 ≤ (Int.tdiv e0.N 64) ∧ (Int.tdiv e0.N 64) < 8)).bind fun _ =>
    (some (List.set [aS.Au.f0, aS.Au.f1, aS.Au.f2, aS.Au.f3, aS.Au.f4, aS.Au.f5, aS.Au.f6, aS.Au.f7] (Int.toNat (Int.tdiv e0.N 64)) (u64or (List.getD [aS.Au.f0, aS.Au.f1, aS.Au.f2, aS.Au.f3, aS.Au.f4, aS.Au.f5, aS.Au.f6, aS.Au.f7] (Int.toNat (Int.tdiv e0.N 64)) 0) (qs4 1 (Int.tmod e0.N 64))))).bind fun aV =>
    some ((List.getD aV 0 0), (List.getD aV 1 0), (List.getD aV 2 0), (List.getD aV 3 0), (List.getD aV 4 0), (List.getD aV 5 0), (List.getD aV 6 0), (List.getD aV 7 0))
    else
    some (aS.Au.f0, aS.Au.f1, aS.Au.f2, aS.Au.f3, aS.Au.f4, aS.Au.f5, aS.Au.f6, aS.Au.f7) : Option (Int × Int × Int × Int × Int × Int × Int × Int))).bind fun aT =>
    ((if (decide (e0.Op = 9) || decide (e0.Op = 10)) then
    if (decide (e0.N ≤ (i0 : Int)) || decide (e0.N ≥ (code.length : Int))) then
    some (Fl.ret (0, false))
    else
    (ix aW e0.N).bind fun ba =>
    (JbE aW ((e0.N).toNat) (⟨aS.Av, (aS.depth + (aU.2.1 - aU.1)), (⟨aT.1, aT.2.1, aT.2.2.1, aT.2.2.2.1, aT.2.2.2.2.1, aT.2.2.2.2.2.1, aT.2.2.2.2.2.2.1, aT.2.2.2.2.2.2.2⟩ : Ja0)⟩ : Jn)).bind fun aY =>
    if (!aY.1) then
    some (Fl.ret (0, false))
    else
    some (Fl.go aY.2)
    else
    some (Fl.go aW) : Option (Fl (Int × Bool) ((List Jn))))).bind fun a6 => a6.el (fun r => some (Fl.ret r)) fun aX =>
    if decide ((i0 : Int) = ((code.length : Int) - 1)) then
    some (Fl.ret ((max (max ac aS.depth) (aS.depth + (aU.2.1 - aU.1))), decide ((aS.depth + (aU.2.1 - aU.1)) = 0)))
    else
    if decide (e0.Op ≠ 9) then
    (ix aX ((i0 : Int) + 1)).bind fun bb =>
    (JbE aX ((((i0 : Int) + 1)).toNat) (⟨aS.Av, (aS.depth + (aU.2.1 - aU.1)), (⟨aT.1, aT.2.1, aT.2.2.1, aT.2.2.2.1, aT.2.2.2.2.1, aT.2.2.2.2.2.1, aT.2.2.2.2.2.2.1, aT.2.2.2.2.2.2.2⟩ : Ja0)⟩ : Jn)).bind fun aZ =>
    if (!aZ.1) then
    some (Fl.ret (0, false))
    else
    JbG code a8 (i0 + 1) (max (max ac aS.depth) (aS.depth + (aU.2.1 - aU.1))) aZ.2
    else
    JbG code a8 (i0 + 1) (max (max ac aS.depth) (aS.depth + (aU.2.1 - aU.1))) aX
def Jec (code : (List Jj)) : Option (Int × Bool) :=
  if (decide ((code.length : Int) < 1) || decide ((code.length : Int) > 2048)) then
  some (0, false)
  else
  (chk ((0 : Int) ≤ (code.length : Int) ∧ (code.length : Int) ≤ (lim : Int))).bind fun _ =>
  (ix (List.replicate (Int.toNat (code.length : Int)) ((⟨false, 0, (⟨0, 0, 0, 0, 0, 0, 0, 0⟩ : Ja0)⟩ : Jn) : Jn)) 0).bind fun aS =>
  (chk (code.length ≤ qax)).bind fun _ =>
  (JbG code code 0 0 ((List.replicate (Int.toNat (code.length : Int)) ((⟨false, 0, (⟨0, 0, 0, 0, 0, 0, 0, 0⟩ : Ja0)⟩ : Jn) : Jn)).set ((0 : Int).toNat) (⟨true, aS.depth, aS.Au⟩ : Jn))).bind fun s0 => s0.el some fun t0 =>
  some (0, false)
theorem Jfn {code : (List Jj)} {aa : Option Addr} {ab : Nat} {n0 : Nat} {K : Hp} {r : Int × Bool}
    (hm : Jec code = some r) (hX : RdC Jj.enc K aa ab 3 code ∧ n0 = code.length ∧ GG K) :
    Fn Tryz.prog 60 [.slice aa n0 ab] K [] (fun v K' H' => v = .tuple #[.int .i64 r.1, .bool r.2] ∧ H' = []) := by
 obtain ⟨ae, cO, hG⟩ := hX
 subst cO
 refine Fn.enter Tryz.func60 Tryz.call60 rfl fun F => ?_
 unfold Jec at hm
 refine jR (σ := Unit) (rg 13 8) (fun _ => [(20, .bool (decide ((code.length : Int) < 1) || decide ((code.length : Int) > 2048)))]) (fun cY => True) ?_ ?_
 refine qah rfl ?_
 refine ro (qaj rfl ?_)
 refine qag ?_ ?_ <;> intro bg
 refine ct bg (ct bg (ct bg ?_))
 exact eMt () ⟨bq (((qcj bg)).symm), trivial⟩
 refine cf bg (ro (qaj rfl (cf bg (cf bg ?_))))
 exact eMt () ⟨bq (qhe (b := decide ((code.length : Int) > 2048)) bg), trivial⟩
 rintro _ _ db
 refine cs rfl rfl hm ?_ ?_ <;> intro de hm
 exact eE hm
 refine ro (qaj rfl ?_)
 obtain ⟨cU, hm⟩ := qay hm
 refine qrd (enc := Jn.enc) ((⟨false, 0, (⟨0, 0, 0, 0, 0, 0, 0, 0⟩ : Ja0)⟩ : Jn) : Jn) qvz rfl rfl rfl cU fun ca => ?_
 obtain ⟨cd, cG, ce, hm⟩ := ixb hm
 refine RStep.ofN (qac rfl rfl (qcp (fun _ => ⟨_, _, rfl⟩) ce) cG (qas List.length_replicate.symm cG ce) (qaw rfl (qcp (fun _ => ⟨_, _, rfl⟩) ce) ?_))
 refine qho (o := 0) (y := (⟨true, cd.depth, cd.Au⟩ : Jn)) cd r0 rfl ce rfl (by (conv => whnf); exact ⟨rfl, rfl, (nl rfl), rfl, rfl, rfl⟩) ?_
 refine ro (qaj rfl ?_)
 obtain ⟨bZ, hm⟩ := qay hm
 obtain ⟨s0, aV, hm⟩ := bnd hm
 refine lD (σ := (Int × (List Jn))) ([2,3] ++ rg 5 8 ++ rg 29 129) [1] (fun i0 => [(29, .int .i64 (i0 : Int))]) (fun t0 => [(5, .int .i64 t0.1)]) (fun t0 => [OwnL Jn.enc (some ⟨ca, 0, none⟩) 204 10 (Int.toNat (code.length : Int)) t0.2]) (fun t0 => (0 < t0.2.length → Has (some ⟨ca, 0, none⟩)) ∧ (Int.toNat (code.length : Int)) = t0.2.length) (fun i0 t0 => JbG code (code.drop i0) i0 t0.1 t0.2 = some s0) (fun t0 => s0 = Fl.go t0) (fun i0 => code.length - i0) 0 (0, ((List.replicate (Int.toNat (code.length : Int)) ((⟨false, 0, (⟨0, 0, 0, 0, 0, 0, 0, 0⟩ : Ja0)⟩ : Jn) : Jn)).set ((0 : Int).toNat) (⟨true, cd.depth, cd.Au⟩ : Jn))) aV (And.intro ⟨⟨(by first | simpa using (fun _ => ⟨_, _, rfl⟩) | exact fun _ => ⟨_, _, rfl⟩), ((List.length_replicate.symm).trans List.length_set.symm)⟩, ⟨rfl, rfl, trivial⟩, _, (sp rfl)⟩ (And.intro ?_ ?_))
 clear aV
 rintro i0 ⟨ac, cI⟩ ⟨bJ, bt⟩ aV j0
 dsimp only at aV ⊢
 refine qaf rfl ?_
 refine qag ?_ ?_ <;> intro w0
 obtain ⟨e0, bK, cQ⟩ := ltx w0
 rw [cQ, JbG.eq_2] at aV
 refine qai rfl ?_
 refine RStep.ofN (qac rfl rfl (qcc ae.rd bK) (nn _) (qbg bK) (ro (qap i0 _ ae.rd rfl (mp bK) rfl ?_)))
 refine qal rfl fun b7 => ?_
 refine qaa r0 rfl ⟨rfl, rfl, (nl rfl), ?_⟩
 obtain ⟨a8, cC, co, aV⟩ := ixb aV
 refine RStep.ofN (qac rfl rfl (qcp bJ co) cC (qas bt cC co) (ro (qon (i := ((i0 : Int)).toNat) r1 rfl co rfl rfl ?_)))
 refine qal rfl fun b8 => ?_
 refine qaa r0 rfl ⟨rfl, rfl, (nl rfl), ?_⟩
 refine ro (qae r1 rfl (nl rfl) ?_)
 refine cb aV fun bm c8 aV => cgx (Je0 c8 :) ?_
 refine ro (qaj rfl ?_)
 obtain ⟨cL, aV⟩ := qay aV
 refine qar cL (qad ?_)
 refine qah rfl ?_
 refine qa1 ?_
 refine qag ?_ ?_ <;> intro bb
 refine ct bb (ct bb (ct bb (cT (cT (cT (cT (cT ?_)))))))
 refine cT (cT (cT (cT (cT (cT ?_)))))
 replace aV := ift (qcj (qcj (qcj (qii (qra bb))))) aV
 refine cT (cT (cT (cT (cT (cT (qaf rfl (cT ?_)))))))
 exact eE (er aV hm)
 refine fa rfl (cf bb (ro (ld r0 rfl rfl (cf bb (qa1 (cf bb ?_))))))
 refine qag ?_ ?_ <;> intro ba
 refine ct ba (ct ba (ct ba (ct ba (cT (cT (cT (cT ?_)))))))
 refine cT (cT ?_)
 replace aV := ift (qcj (qcj (qf0 (qeb (qlu bb)) (qii (qra ba))))) aV
 refine cT (cT (cT (cT (cT (cT (qaf rfl (cT ?_)))))))
 exact eE (er aV hm)
 refine fa rfl (cf ba (ro (ld r0 rfl rfl (cf ba (cf ba (cf ba ?_))))))
 refine qag ?_ ?_ <;> intro a6
 refine ct a6 (ct a6 (ct a6 (ct a6 (ct a6 ?_))))
 replace aV := ift (qcj (qf0 (qee (qeb (qlu bb)) (qeb (qlu ba))) a6)) aV
 refine cT (cT (cT (cT (cT (cT (qaf rfl (cT ?_)))))))
 exact eE (er aV hm)
 refine fa rfl (cf a6 (ro (ld r1 rfl rfl (cf a6 (qad (cf a6 (cf a6 (qls rfl ?_))))))))
 refine cf a6 ?_
 refine qag ?_ ?_ <;> intro aY
 replace aV := ift (qf0 (qee (qee (qeb (qlu bb)) (qeb (qlu ba))) a6) aY) aV
 refine ct aY (ct aY (ct aY (ct aY (ct aY (qaf rfl (cT ?_))))))
 exact eE (er aV hm)
 replace aV := qa6 (qee (qee (qee (qeb (qlu bb)) (qeb (qlu ba))) a6) aY) aV
 refine fa rfl (cf aY (ro (ld r1 rfl rfl (cf aY (qad (cf aY ?_))))))
 obtain ⟨dc, bR, aV⟩ := bnd aV
 refine cS bR (fun bc bR => ?_) fun bc bR => ?_
 refine ro (qae r0 rfl (nl rfl) (ct bc (fa rfl (ct bc (ro (ld r1 rfl rfl (ct bc ?_)))))))
 refine cb bR fun df da bR => cg0 (Jep da :) ?_
 refine ct bc (qa1 (cf aY (ct bc (cf aY (qaf rfl ?_)))))
 refine qag ?_ ?_ <;> intro cE
 replace aV := ift ((si bR).symm.trans (qii (qra cE))) aV
 exact eE (er aV hm)
 replace aV := qa6 ((si bR).symm.trans (qeb (qlu cE))) aV
 refine fa rfl (ro (ld r0 rfl rfl (ro (qcl (fa rfl (ro (ld r0 rfl rfl ?_)))))))
 refine ci aV fun aV => ?_
 obtain ⟨cB, aV⟩ := qay aV
 refine qar cB (fa rfl ?_)
 refine qaa r0 rfl ⟨rfl, rfl, (nl rfl), ?_⟩
 refine fa rfl (ro (ld r0 rfl rfl (ro (qcl (fa rfl (ro (ld r1 rfl rfl (qad ?_))))))))
 obtain ⟨cA, bf, aV⟩ := bnd aV
 refine jD (σ := (Int × Int × Int × Int × Int × Int × Int × Int)) (rg 99 13) [1, 2, 3] (fun bj => []) (fun bj => [Cells b8 204 [.bool a8.Av, .int .i64 (a8.depth + (bm.2.1 - bm.1)), .int .u64 bj.1, .int .u64 bj.2.1, .int .u64 bj.2.2.1, .int .u64 bj.2.2.2.1, .int .u64 bj.2.2.2.2.1, .int .u64 bj.2.2.2.2.2.1, .int .u64 bj.2.2.2.2.2.2.1, .int .u64 bj.2.2.2.2.2.2.2]]) (fun bj => bj = cA) (And.intro ?_ ?_)
 refine cs rfl rfl bf ?_ ?_ <;> intro cX bf
 refine qbx ⟨⟨[], false⟩, _, [(_, _), (_, _)], []⟩ 12 rfl (by kernel_rfl) ⟨Hp.Le.refl _, (sc [1,0] rfl), ci0⟩ ?_
 refine fa rfl (qan m0 rfl rfl ?_)
 obtain ⟨bM, bf⟩ := qay bf
 refine qja bM.1 bM.2 (fa rfl ?_)
 obtain ⟨bo, bf⟩ := qay bf
 refine qb0 (sz := 1) rfl rfl bo.1 bo.2 ?_
 refine qf4 (L := [a8.Au.f0, a8.Au.f1, a8.Au.f2, a8.Au.f3, a8.Au.f4, a8.Au.f5, a8.Au.f6, a8.Au.f7]) (pre := [.bool a8.Av, .int .i64 (a8.depth + (bm.2.1 - bm.1))]) (post := []) m1 rfl (by simp) rfl bo.1 bo.2 ?_
 refine fa rfl (qan m0 rfl rfl (qrb (by decide) ?_))
 obtain ⟨bT, bf⟩ := qay bf
 refine qoz bT ?_
 refine qs6 ?_
 refine fa rfl ?_
 obtain ⟨bn, bf⟩ := qay bf
 refine qb0 (sz := 1) rfl rfl bn.1 bn.2 ?_
 obtain ⟨bp, bF, bf⟩ := bnd bf
 replace bF := Option.some.inj bF
 have bY : bp.length = 8 := by rw [← bF]; simp
 refine qo0 (L := [a8.Au.f0, a8.Au.f1, a8.Au.f2, a8.Au.f3, a8.Au.f4, a8.Au.f5, a8.Au.f6, a8.Au.f7]) (pre := [.bool a8.Av, .int .i64 (a8.depth + (bm.2.1 - bm.1))]) (post := []) (cs' := [.bool a8.Av, .int .i64 (a8.depth + (bm.2.1 - bm.1)), .int .u64 (List.getD bp 0 0), .int .u64 (List.getD bp 1 0), .int .u64 (List.getD bp 2 0), .int .u64 (List.getD bp 3 0), .int .u64 (List.getD bp 4 0), .int .u64 (List.getD bp 5 0), .int .u64 (List.getD bp 6 0), .int .u64 (List.getD bp 7 0)]) r0 rfl (by simp) rfl bn.1 bn.2 bF (by rw [qxx bY]; rfl) ?_
 refine ⟨⟨Hp.emp_le _, (pf rfl), ci0⟩, ?_⟩
 exact eM bf _
 exact eM bf _
 rintro bj rfl cP
 refine jR (σ := Unit) (rg 112 8) (fun _ => [(119, .bool (decide (e0.Op = 9) || decide (e0.Op = 10)))]) (fun cV => True) ?_ ?_
 refine qah rfl ?_
 refine fa rfl (ro (ld r1 rfl rfl (qad ?_)))
 refine qag ?_ ?_ <;> intro aW
 refine ct aW (ct aW (ct aW ?_))
 exact eMt () ⟨bq (((qcj aW)).symm), trivial⟩
 refine fa rfl (cf aW (ro (ld r1 rfl rfl (cf aW (qad (cf aW ?_))))))
 exact eMt () ⟨bq (qhe (b := decide (e0.Op = 10)) aW), trivial⟩
 rintro _ _ cJ
 obtain ⟨cm, aZ, aV⟩ := bnd aV
 refine jD (σ := ((List Jn))) ([2,3] ++ rg 120 20) [0, 1, 3] (fun bC => []) (fun bC => [OwnL Jn.enc (some ⟨ca, 0, none⟩) 204 10 (Int.toNat (code.length : Int)) bC]) (fun bC => (0 < bC.length → Has (some ⟨ca, 0, none⟩)) ∧ (Int.toNat (code.length : Int)) = bC.length ∧ cm = Fl.go bC) (And.intro ?_ ?_)
 refine cs rfl rfl aZ ?_ ?_ <;> intro cw aZ
 refine qau ⟨⟨[], false⟩, _, [(_, _), (_, _)], []⟩ (by kernel_rfl) ⟨Hp.Le.refl _, (sc [1,0] rfl), ci0⟩ ?_
 refine fa rfl (qan m0 rfl rfl ?_)
 refine qag ?_ ?_ <;> intro aU
 refine ct aU (ct aU (ct aU (ct aU (ct aU ?_))))
 replace aZ := ift (qcj aU) aZ
 refine cT (cT (cT (cT (cT (cT (cT (cT ?_)))))))
 refine qaf rfl (cT ?_)
 exact eE (er (er aZ aV :) hm)
 refine fa rfl (cf aU (qan m0 rfl rfl (cf aU (cf aU (qcm rfl (cf aU (cf aU ?_)))))))
 refine qag ?_ ?_ <;> intro aS
 replace aZ := ift (qf0 aU aS) aZ
 refine ct aS (ct aS (ct aS (ct aS (ct aS (ct aS (ct aS (qaf rfl ?_)))))))
 refine cT ?_
 exact eE (er (er aZ aV :) hm)
 replace aZ := qa6 (qee aU aS) aZ
 refine cf aS (fa rfl (cf aS (qan m0 rfl rfl (cf aS ?_))))
 obtain ⟨cn, bO, bI, aZ⟩ := ixb aZ
 refine qac rfl rfl (qcp bJ bI) bO (qas bt bO bI) (cf aS (qba m1 rfl (nl rfl) (cf aS ?_)))
 refine cb aZ fun bU bS aZ => ckx (Ja7 bS :) ?_
 rintro _ _ _ ⟨rfl, bw, bB, rfl⟩
 refine qk (sc [2,1] rfl) ?_
 refine cf aS (qa1 (cf aS ?_))
 refine cs rfl rfl aZ ?_ ?_ <;> intro cz aZ
 exact eE (er (er aZ aV :) hm)
 exact mt (bU.2) trivial rfl (pf rfl) lr ⟨bw, ((bt).trans bB), (si aZ).symm⟩
 exact eM aZ _
 rintro bC ⟨bP, bD, rfl⟩ cW
 replace aV := elg aV
 refine cs rfl rfl aV ?_ ?_ <;> intro cj aV
 refine qau ⟨⟨[], false⟩, _, [(_, _)], []⟩ (by kernel_rfl) ⟨Hp.Le.refl _, (sc [1] rfl), ci0⟩ ?_
 refine fa rfl (qan m0 rfl rfl (qad ?_))
 exact eE (er aV hm)
 refine qau ⟨⟨[], false⟩, _, [(_, _), (_, _)], []⟩ (by kernel_rfl) ⟨Hp.Le.refl _, (sc [2,1] rfl), ci0⟩ ?_
 refine fa rfl (qan m0 rfl rfl (qa2 ?_))
 refine cS aV (fun aT aV => ?_) fun aT aV => ?_
 refine ct aT (ct aT (qar (qbu bK bZ) (ct aT ?_)))
 obtain ⟨cp, bN, bL, aV⟩ := ixb aV
 refine qac rfl rfl (qcp bP bL) bN (qas bD bN bL) (ct aT (qba m1 rfl (nl rfl) (ct aT ?_)))
 refine cb aV fun bW bX aV => ckx (Ja7 bX :) ?_
 rintro _ _ _ ⟨rfl, bu, bA, rfl⟩
 refine qk (sc [2,1] rfl) ?_
 refine ct aT (qa1 (ct aT ?_))
 refine cs rfl rfl aV ?_ ?_ <;> intro cr aV
 exact eE (er aV hm)
 refine qar (qbu bK bZ) ?_
 exact rd (i0 + 1, ((max (max ac a8.depth) (a8.depth + (bm.2.1 - bm.1))), bW.2)) ⟨rfl, rfl, trivial⟩ rfl (sc [0,2] rfl) lr (ltm bK) ⟨⟨bu, ((bD).trans bA)⟩, aV⟩
 refine cf aT (cf aT (cf aT (cf aT (cf aT (cf aT (cf aT (qaf rfl ?_)))))))
 refine cF (qar (qbu bK bZ) ?_)
 exact eR aV (_, (_, _))
 refine cf bc (cf bc (cf bc (cf bc (cf aY (cf bc (cf aY (qaf rfl ?_)))))))
 refine cF ?_
 replace aV := qa6 (si bR).symm aV
 refine fa rfl (ro (ld r0 rfl rfl (ro (qcl (fa rfl (ro (ld r0 rfl rfl ?_)))))))
 refine ci aV fun aV => ?_
 obtain ⟨cB, aV⟩ := qay aV
 refine qar cB (fa rfl ?_)
 refine qaa r0 rfl ⟨rfl, rfl, (nl rfl), ?_⟩
 refine fa rfl (ro (ld r0 rfl rfl (ro (qcl (fa rfl (ro (ld r1 rfl rfl (qad ?_))))))))
 obtain ⟨cq, bd, aV⟩ := bnd aV
 refine jD (σ := (Int × Int × Int × Int × Int × Int × Int × Int)) (rg 99 13) [1, 2, 3] (fun bh => []) (fun bh => [Cells b8 204 [.bool a8.Av, .int .i64 (a8.depth + (bm.2.1 - bm.1)), .int .u64 bh.1, .int .u64 bh.2.1, .int .u64 bh.2.2.1, .int .u64 bh.2.2.2.1, .int .u64 bh.2.2.2.2.1, .int .u64 bh.2.2.2.2.2.1, .int .u64 bh.2.2.2.2.2.2.1, .int .u64 bh.2.2.2.2.2.2.2]]) (fun bh => bh = cq) (And.intro ?_ ?_)
 refine cs rfl rfl bd ?_ ?_ <;> intro cX bd
 refine qbx ⟨⟨[], false⟩, _, [(_, _), (_, _)], []⟩ 12 rfl (by kernel_rfl) ⟨Hp.Le.refl _, (sc [1,0] rfl), ci0⟩ ?_
 refine fa rfl (qan m0 rfl rfl ?_)
 obtain ⟨bM, bd⟩ := qay bd
 refine qja bM.1 bM.2 (fa rfl ?_)
 obtain ⟨bo, bd⟩ := qay bd
 refine qb0 (sz := 1) rfl rfl bo.1 bo.2 ?_
 refine qf4 (L := [a8.Au.f0, a8.Au.f1, a8.Au.f2, a8.Au.f3, a8.Au.f4, a8.Au.f5, a8.Au.f6, a8.Au.f7]) (pre := [.bool a8.Av, .int .i64 (a8.depth + (bm.2.1 - bm.1))]) (post := []) m1 rfl (by simp) rfl bo.1 bo.2 ?_
 refine fa rfl (qan m0 rfl rfl (qrb (by decide) ?_))
 obtain ⟨bT, bd⟩ := qay bd
 refine qoz bT ?_
 refine qs6 ?_
 refine fa rfl ?_
 obtain ⟨bn, bd⟩ := qay bd
 refine qb0 (sz := 1) rfl rfl bn.1 bn.2 ?_
 obtain ⟨br, bG, bd⟩ := bnd bd
 replace bG := Option.some.inj bG
 have bV : br.length = 8 := by rw [← bG]; simp
 refine qo0 (L := [a8.Au.f0, a8.Au.f1, a8.Au.f2, a8.Au.f3, a8.Au.f4, a8.Au.f5, a8.Au.f6, a8.Au.f7]) (pre := [.bool a8.Av, .int .i64 (a8.depth + (bm.2.1 - bm.1))]) (post := []) (cs' := [.bool a8.Av, .int .i64 (a8.depth + (bm.2.1 - bm.1)), .int .u64 (List.getD br 0 0), .int .u64 (List.getD br 1 0), .int .u64 (List.getD br 2 0), .int .u64 (List.getD br 3 0), .int .u64 (List.getD br 4 0), .int .u64 (List.getD br 5 0), .int .u64 (List.getD br 6 0), .int .u64 (List.getD br 7 0)]) r0 rfl (by simp) rfl bn.1 bn.2 bG (by rw [qxx bV]; rfl) ?_
 refine ⟨⟨Hp.emp_le _, (pf rfl), ci0⟩, ?_⟩
 exact eM bd _
 exact eM bd _
 rintro bh rfl cR
 refine jR (σ := Unit) (rg 112 8) (fun _ => [(119, .bool (decide (e0.Op = 9) || decide (e0.Op = 10)))]) (fun cZ => True) ?_ ?_
 refine qah rfl ?_
 refine fa rfl (ro (ld r1 rfl rfl (qad ?_)))
 refine qag ?_ ?_ <;> intro aW
 refine ct aW (ct aW (ct aW ?_))
 exact eMt () ⟨bq (((qcj aW)).symm), trivial⟩
 refine fa rfl (cf aW (ro (ld r1 rfl rfl (cf aW (qad (cf aW ?_))))))
 exact eMt () ⟨bq (qhe (b := decide (e0.Op = 10)) aW), trivial⟩
 rintro _ _ cK
 obtain ⟨cu, aX, aV⟩ := bnd aV
 refine jD (σ := ((List Jn))) ([2,3] ++ rg 120 20) [0, 1, 3] (fun bz => []) (fun bz => [OwnL Jn.enc (some ⟨ca, 0, none⟩) 204 10 (Int.toNat (code.length : Int)) bz]) (fun bz => (0 < bz.length → Has (some ⟨ca, 0, none⟩)) ∧ (Int.toNat (code.length : Int)) = bz.length ∧ cu = Fl.go bz) (And.intro ?_ ?_)
 refine cs rfl rfl aX ?_ ?_ <;> intro cw aX
 refine qau ⟨⟨[], false⟩, _, [(_, _), (_, _)], []⟩ (by kernel_rfl) ⟨Hp.Le.refl _, (sc [1,0] rfl), ci0⟩ ?_
 refine fa rfl (qan m0 rfl rfl ?_)
 refine qag ?_ ?_ <;> intro aU
 refine ct aU (ct aU (ct aU (ct aU (ct aU ?_))))
 replace aX := ift (qcj aU) aX
 refine cT (cT (cT (cT (cT (cT (cT (cT ?_)))))))
 refine qaf rfl (cT ?_)
 exact eE (er (er aX aV :) hm)
 refine fa rfl (cf aU (qan m0 rfl rfl (cf aU (cf aU (qcm rfl (cf aU (cf aU ?_)))))))
 refine qag ?_ ?_ <;> intro aS
 replace aX := ift (qf0 aU aS) aX
 refine ct aS (ct aS (ct aS (ct aS (ct aS (ct aS (ct aS (qaf rfl ?_)))))))
 refine cT ?_
 exact eE (er (er aX aV :) hm)
 replace aX := qa6 (qee aU aS) aX
 refine cf aS (fa rfl (cf aS (qan m0 rfl rfl (cf aS ?_))))
 obtain ⟨cn, bO, bI, aX⟩ := ixb aX
 refine qac rfl rfl (qcp bJ bI) bO (qas bt bO bI) (cf aS (qba m1 rfl (nl rfl) (cf aS ?_)))
 refine cb aX fun bU bS aX => ckx (Ja7 bS :) ?_
 rintro _ _ _ ⟨rfl, bw, bB, rfl⟩
 refine qk (sc [2,1] rfl) ?_
 refine cf aS (qa1 (cf aS ?_))
 refine cs rfl rfl aX ?_ ?_ <;> intro cz aX
 exact eE (er (er aX aV :) hm)
 exact mt (bU.2) trivial rfl (pf rfl) lr ⟨bw, ((bt).trans bB), (si aX).symm⟩
 exact eM aX _
 rintro bz ⟨bQ, bH, rfl⟩ cM
 replace aV := elg aV
 refine cs rfl rfl aV ?_ ?_ <;> intro cj aV
 refine qau ⟨⟨[], false⟩, _, [(_, _)], []⟩ (by kernel_rfl) ⟨Hp.Le.refl _, (sc [1] rfl), ci0⟩ ?_
 refine fa rfl (qan m0 rfl rfl (qad ?_))
 exact eE (er aV hm)
 refine qau ⟨⟨[], false⟩, _, [(_, _), (_, _)], []⟩ (by kernel_rfl) ⟨Hp.Le.refl _, (sc [2,1] rfl), ci0⟩ ?_
 refine fa rfl (qan m0 rfl rfl (qa2 ?_))
 refine cS aV (fun aT aV => ?_) fun aT aV => ?_
 refine ct aT (ct aT (qar (qbu bK bZ) (ct aT ?_)))
 obtain ⟨cp, bN, bL, aV⟩ := ixb aV
 refine qac rfl rfl (qcp bQ bL) bN (qas bH bN bL) (ct aT (qba m1 rfl (nl rfl) (ct aT ?_)))
 refine cb aV fun bW bX aV => ckx (Ja7 bX :) ?_
 rintro _ _ _ ⟨rfl, bu, bA, rfl⟩
 refine qk (sc [2,1] rfl) ?_
 refine ct aT (qa1 (ct aT ?_))
 refine cs rfl rfl aV ?_ ?_ <;> intro cr aV
 exact eE (er aV hm)
 refine qar (qbu bK bZ) ?_
 exact rd (i0 + 1, ((max (max ac a8.depth) (a8.depth + (bm.2.1 - bm.1))), bW.2)) ⟨rfl, rfl, trivial⟩ rfl (sc [0,2] rfl) lr (ltm bK) ⟨⟨bu, ((bH).trans bA)⟩, aV⟩
 refine cf aT (cf aT (cf aT (cf aT (cf aT (cf aT (cf aT (qaf rfl ?_)))))))
 refine cF (qar (qbu bK bZ) ?_)
 exact eR aV (_, (_, _))
 rw [lty w0, JbG.eq_1] at aV
 refine cT ?_
 exact eM aV _
 rintro t0 ⟨cH, cD⟩ rfl j0
 replace hm := elg hm
 exact eE hm

def JdT (code : (List Jj)) : Option (Err) :=
  (Jec code).bind fun x7 =>
  if (!x7.2) then
  some (some 2)
  else
  some none
theorem Je1 {code : (List Jj)} {aa : Option Addr} {ab : Nat} {n0 : Nat} {K : Hp} {r : Err}
    (hm : JdT code = some r) (hX : RdC Jj.enc K aa ab 3 code ∧ n0 = code.length ∧ GG K) :
    Fn Tryz.prog 32 [.slice aa n0 ab] K [] (fun v K' H' => v = qde 87 r ∧ H' = []) := by
 obtain ⟨ae, aS, hG⟩ := hX
 subst aS
 refine Fn.enter Tryz.func32 Tryz.call32 rfl fun F => ?_
 unfold JdT at hm
 refine cb hm fun x7 q7 hm => cgx (Jfn q7 :) ?_
 refine qa1 ?_
 refine cs rfl rfl hm ?_ ?_ <;> intro aT hm
 refine qa7 rfl ?_
 exact eE hm
 exact eE hm

def JbH (n' : Int) : Option (Jd) :=
  some (⟨2, (max (-1099511627776) (min n' 1099511627776)), ([] : Str), false⟩ : Jd)
theorem Jbo {n' : Int} {K : Hp} {r : Jd}
    (hm : JbH n' = some r)  :
    Fn Tryz.prog 62 [.int .i64 n'] K [] (fun v K' H' => v = .agg #[.int .i64 r.kind, .int .i64 r.n, str r.s, .bool r.At] ∧ H' = []) := by
 refine Fn.enter Tryz.func62 Tryz.call62 rfl fun F => ?_
 unfold JbH at hm
 refine qal rfl fun b2 => ?_
 refine ro (qoe (ro (qcl (qak rfl rfl (cT (cT ?_))))))
 refine qaa r0 rfl ⟨rfl, rfl, (nl rfl), ?_⟩
 exact ro (qae r0 rfl (nl rfl) (eE hm))

def Jaf (m : Jf) (x : Jd) (operation : Bool) : Option (Err × Jf) :=
  if decide ((x.s.length : Int) > 2048) then
  some ((some 5), m)
  else
  ((if (operation && decide (x.kind = 1)) then
  (chk ((64 : Int) ≠ 0 ∧ InI (Int.tdiv (x.s.length : Int) 64))).bind fun _ =>
  (chk (InI (m.result.Aj + (Int.tdiv (x.s.length : Int) 64)))).bind fun _ =>
  if decide ((m.result.Aj + (Int.tdiv (x.s.length : Int) 64)) > m.most) then
  some (Fl.ret ((some 13), (⟨m.Ar, m.most, (⟨m.result.Ae, m.result.Af, m.result.Ag, m.result.Vary, m.result.Ah, m.result.TTL, m.result.Ai, (m.result.Aj + (Int.tdiv (x.s.length : Int) 64)), m.result.Ak, m.result.Al⟩ : Jh), m.stack, m.Ap⟩ : Jf)))
  else
  some (Fl.go (⟨m.Ar, m.most, (⟨m.result.Ae, m.result.Af, m.result.Ag, m.result.Vary, m.result.Ah, m.result.TTL, m.result.Ai, (m.result.Aj + (Int.tdiv (x.s.length : Int) 64)), m.result.Ak, m.result.Al⟩ : Jh), m.stack, m.Ap⟩ : Jf))
  else
  some (Fl.go m) : Option (Fl (Err × Jf) (Jf)))).bind fun aT => aT.el some fun aS =>
  (chk (aS.stack.length + [x].length ≤ lim)).bind fun _ =>
  some (none, (⟨m.Ar, aS.most, aS.result, (aS.stack ++ [x]), aS.Ap⟩ : Jf))
theorem Jak {m : Jf} {x : Jd} {operation : Bool} {b0 : Nat} {aa : Option Addr} {ab : Nat} {aj : Option Addr} {am : Nat} {ak : Option Addr} {an : Nat} {ar : Option Addr} {au : Nat} {aw : Option Addr} {ay : Nat} {K : Hp} {r : Err × Jf}
    (hm : Jaf m x operation = some r) (hX : RdC Je.enc K aa ab 2 m.Ar.Ao ∧ (0 < m.result.Ag.length → Has aj) ∧ (0 < m.result.Vary.length → Has ak) ∧ (0 < m.result.Ah.length → Has ar) ∧ (0 < m.stack.length → Has aw) ∧ m.Ap.length = 512) :
    Fn Tryz.prog 61 [.pointer (some ⟨b0, 0, none⟩), .agg #[.int .i64 x.kind, .int .i64 x.n, str x.s, .bool x.At], .bool operation] K [Cells b0 98 ((str m.Ar.Am) :: (str m.Ar.An) :: (str m.Ar.Ae) :: (str m.Ar.Af) :: (.slice aa m.Ar.Ao.length ab) :: (.int .i64 m.most) :: (str m.result.Ae) :: (str m.result.Af) :: (.slice aj m.result.Ag.length am) :: (.slice ak m.result.Vary.length an) :: (.slice ar m.result.Ah.length au) :: (.int .i64 m.result.TTL) :: (.int .i64 m.result.Ai) :: (.int .i64 m.result.Aj) :: (.bool m.result.Ak) :: (.bool m.result.Al) :: (.slice aw m.stack.length ay) :: (m.Ap.map Jd.enc).flatten), OwnL Je.enc aj 77 2 am m.result.Ag, OwnL eS ak 9 1 an m.result.Vary, OwnL eS ar 9 1 au m.result.Ah, OwnL Jd.enc aw 95 4 ay m.stack] (fun v K' H' => ∃ ar_0 : Option Addr, ∃ cr_0 : Nat, ∃ ar_1 : Option Addr, ∃ cr_1 : Nat, ∃ ar_2 : Option Addr, ∃ cr_2 : Nat, ∃ ar_3 : Option Addr, ∃ cr_3 : Nat, v = qde 87 r.1 ∧ (0 < r.2.result.Ag.length → Has ar_0) ∧ (0 < r.2.result.Vary.length → Has ar_1) ∧ (0 < r.2.result.Ah.length → Has ar_2) ∧ (0 < r.2.stack.length → Has ar_3) ∧ r.2.Ap.length = 512 ∧ H' = [Cells b0 98 ((str m.Ar.Am) :: (str m.Ar.An) :: (str m.Ar.Ae) :: (str m.Ar.Af) :: (.slice aa m.Ar.Ao.length ab) :: (.int .i64 r.2.most) :: (str r.2.result.Ae) :: (str r.2.result.Af) :: (.slice ar_0 r.2.result.Ag.length cr_0) :: (.slice ar_1 r.2.result.Vary.length cr_1) :: (.slice ar_2 r.2.result.Ah.length cr_2) :: (.int .i64 r.2.result.TTL) :: (.int .i64 r.2.result.Ai) :: (.int .i64 r.2.result.Aj) :: (.bool r.2.result.Ak) :: (.bool r.2.result.Al) :: (.slice ar_3 r.2.stack.length cr_3) :: (r.2.Ap.map Jd.enc).flatten), OwnL Je.enc ar_0 77 2 cr_0 r.2.result.Ag, OwnL eS ar_1 9 1 cr_1 r.2.result.Vary, OwnL eS ar_2 9 1 cr_2 r.2.result.Ah, OwnL Jd.enc ar_3 95 4 cr_3 r.2.stack]) := by
 obtain ⟨ae, br, bj, bm, bp, bn⟩ := hX
 refine Fn.enter Tryz.func61 Tryz.call61 rfl fun F => ?_
 unfold Jaf at hm
 refine qaq ?_
 intro b4
 refine fa rfl (ro (ld r0 rfl rfl (ro (qat rfl ?_))))
 refine cs rfl rfl hm ?_ ?_ <;> intro bI hm
 refine qa7 rfl ?_
 exact eE hm
 refine jR (σ := Unit) (rg 12 6) (fun _ => [(17, .bool (operation && decide (x.kind = 1)))]) (fun bA => True) ?_ ?_
 refine qah rfl ?_
 refine qag ?_ ?_ <;> intro ba
 refine fa rfl (ct ba (ro (ld r0 rfl rfl (ct ba (qad (ct ba ?_))))))
 exact eMt () ⟨bq (qbw (b := decide (x.kind = 1)) ba), trivial⟩
 refine cf ba (cf ba (cf ba ?_))
 exact eMt () ⟨bq (((qa0 ba)).symm), trivial⟩
 rintro _ _ bw
 obtain ⟨bh, a8, hm⟩ := bnd hm
 refine jD (σ := (Jf) × Option Addr × Nat × Option Addr × Nat × Option Addr × Nat × Option Addr × Nat) ([6] ++ rg 18 24) [0, 6] (fun (aS, aU, aY, aT, aX, aV, aZ, aW, a6) => []) (fun (aS, aU, aY, aT, aX, aV, aZ, aW, a6) => [Cells b0 98 ((str m.Ar.Am) :: (str m.Ar.An) :: (str m.Ar.Ae) :: (str m.Ar.Af) :: (.slice aa m.Ar.Ao.length ab) :: (.int .i64 aS.most) :: (str aS.result.Ae) :: (str aS.result.Af) :: (.slice aU aS.result.Ag.length aY) :: (.slice aT aS.result.Vary.length aX) :: (.slice aV aS.result.Ah.length aZ) :: (.int .i64 aS.result.TTL) :: (.int .i64 aS.result.Ai) :: (.int .i64 aS.result.Aj) :: (.bool aS.result.Ak) :: (.bool aS.result.Al) :: (.slice aW aS.stack.length a6) :: (aS.Ap.map Jd.enc).flatten), OwnL Je.enc aU 77 2 aY aS.result.Ag, OwnL eS aT 9 1 aX aS.result.Vary, OwnL eS aV 9 1 aZ aS.result.Ah, OwnL Jd.enc aW 95 4 a6 aS.stack]) (fun (aS, aU, aY, aT, aX, aV, aZ, aW, a6) => (0 < aS.result.Ag.length → Has aU) ∧ (0 < aS.result.Vary.length → Has aT) ∧ (0 < aS.result.Ah.length → Has aV) ∧ (0 < aS.stack.length → Has aW) ∧ aS.Ap.length = 512 ∧ bh = Fl.go aS) (And.intro ?_ ?_)
 refine cs rfl rfl a8 ?_ ?_ <;> intro bG a8
 refine qbx ⟨⟨[], false⟩, _, [(_, _), (_, _)], []⟩ 9 rfl (by kernel_rfl) ⟨Hp.Le.refl _, (sc [1,0] rfl), ci0⟩ ?_
 refine qao (fa rfl (fa rfl (qan m0 rfl rfl (fa rfl (qan m1 rfl rfl (qbs rfl ?_))))))
 obtain ⟨bo, a8⟩ := qay a8
 refine qja bo.1 bo.2 ?_
 obtain ⟨bu, a8⟩ := qay a8
 refine qar bu (qao (fa rfl (fa rfl ?_)))
 refine qo6 (cs' := (str m.Ar.Am) :: (str m.Ar.An) :: (str m.Ar.Ae) :: (str m.Ar.Af) :: (.slice aa m.Ar.Ao.length ab) :: (.int .i64 m.most) :: (str m.result.Ae) :: (str m.result.Af) :: (.slice aj m.result.Ag.length am) :: (.slice ak m.result.Vary.length an) :: (.slice ar m.result.Ah.length au) :: (.int .i64 m.result.TTL) :: (.int .i64 m.result.Ai) :: (.int .i64 (m.result.Aj + (Int.tdiv (x.s.length : Int) 64))) :: (.bool m.result.Ak) :: (.bool m.result.Al) :: (.slice aw m.stack.length ay) :: (m.Ap.map Jd.enc).flatten) r1 rfl rfl (by exact rfl) (by exact nl rfl) (by exact rfl) ?_
 refine ⟨⟨Hp.emp_le _, (pf rfl), ci0⟩, ?_⟩
 refine qau ⟨⟨[], false⟩, _, [(_, _)], []⟩ (by kernel_rfl) ⟨Hp.Le.refl _, (pf rfl), ci0⟩ ?_
 refine qao (fa rfl (fa rfl (qan m0 rfl rfl (qao (fa rfl (qan m0 rfl rfl ?_))))))
 refine cs rfl rfl a8 ?_ ?_ <;> intro bF a8
 refine qa7 rfl ?_
 exact eE (er a8 hm)
 exact eM a8 (_, _, _, _, _, _, _, _, _)
 exact eM a8 (_, _, _, _, _, _, _, _, _)
 rintro ⟨aS, aU, aY, aT, aX, aV, aZ, aW, a6⟩ ⟨bg, bc, bb, bf, bd, rfl⟩ bB
 replace hm := elg hm
 refine qbx ⟨⟨[], false⟩, _, [(_, _), (_, _)], []⟩ 8 rfl (by kernel_rfl) ⟨Hp.Le.refl _, (sc [0,4] rfl), ci0⟩ ?_
 refine qao (fa rfl (qan m0 rfl rfl (qba m1 rfl (nl rfl) ?_)))
 refine bsO (len := 1) (enc := Jd.enc) (l := [x]) (cl := [.int .i64 x.kind, .int .i64 x.n, str x.s, .bool x.At]) qv0 rfl rfl (fun _ _ => rfl) rfl rfl rfl ?_ fun bH => ?_
 · conv => whnf
   refine cT ?_
   first | done | rfl
 refine qk (sc [1,5] rfl) ?_
 obtain ⟨bC, hm⟩ := qay hm
 refine apE rfl r5 qv0 (qa4 rfl r0 rfl (fun _ => rfl) (fun _ => rfl)) bC ?_
 intro bz bt bD
 refine qk (sc [2,5] rfl) ?_
 refine qao (fa rfl ?_)
 refine qo6 (cs' := (str m.Ar.Am) :: (str m.Ar.An) :: (str m.Ar.Ae) :: (str m.Ar.Af) :: (.slice aa m.Ar.Ao.length ab) :: (.int .i64 aS.most) :: (str aS.result.Ae) :: (str aS.result.Af) :: (.slice aU aS.result.Ag.length aY) :: (.slice aT aS.result.Vary.length aX) :: (.slice aV aS.result.Ah.length aZ) :: (.int .i64 aS.result.TTL) :: (.int .i64 aS.result.Ai) :: (.int .i64 aS.result.Aj) :: (.bool aS.result.Ak) :: (.bool aS.result.Al) :: (.slice bz ((aS.stack ++ [x]).length) bt) :: (aS.Ap.map Jd.enc).flatten) r2 rfl rfl (by exact rfl) (by exact nl rfl) (by exact rfl) ?_
 refine ⟨⟨Hp.emp_le _, (pf rfl), ci0⟩, ?_⟩
 exact eE hm

def JaA (s : Str) : Option (Jd) :=
  some (⟨1, 0, s, false⟩ : Jd)
theorem Jaj {s : Str} {K : Hp} {r : Jd}
    (hm : JaA s = some r)  :
    Fn Tryz.prog 63 [str s] K [] (fun v K' H' => v = .agg #[.int .i64 r.kind, .int .i64 r.n, str r.s, .bool r.At] ∧ H' = []) := by
 refine Fn.enter Tryz.func63 Tryz.call63 rfl fun F => ?_
 unfold JaA at hm
 refine qal rfl fun b2 => ?_
 refine qak rfl rfl (cT (cT ?_))
 refine qaa r0 rfl ⟨rfl, rfl, (nl rfl), ?_⟩
 exact ro (qae r0 rfl (nl rfl) (eE hm))

def Jam (name : Str) (Ar : JG) : Option (Jd) :=
  if decide (name = ([109, 101, 116, 104, 111, 100] : Str)) then
  (JaA Ar.Am).bind fun aT =>
  some aT
  else
  if decide (name = ([104, 111, 115, 116] : Str)) then
  (JaA Ar.An).bind fun aU =>
  some aU
  else
  if decide (name = ([112, 97, 116, 104] : Str)) then
  (JaA Ar.Ae).bind fun aS =>
  some aS
  else
  (JaA Ar.Af).bind fun aV =>
  some aV
theorem Jdp {name : Str} {Ar : JG} {ag : Option Addr} {ah : Nat} {K : Hp} {r : Jd}
    (hm : Jam name Ar = some r) (af : RdC Je.enc K ag ah 2 Ar.Ao) :
    Fn Tryz.prog 64 [str name, .agg #[str Ar.Am, str Ar.An, str Ar.Ae, str Ar.Af, .slice ag Ar.Ao.length ah]] K [] (fun v K' H' => v = .agg #[.int .i64 r.kind, .int .i64 r.n, str r.s, .bool r.At] ∧ H' = []) := by
 refine Fn.enter Tryz.func64 Tryz.call64 rfl fun F => ?_
 unfold Jam at hm
 refine qaq ?_
 intro b3
 refine qal rfl fun b4 => ?_
 refine qai rfl ?_
 refine qam (cs rfl rfl hm ?_ ?_) <;> intro w6 hm
 refine fa rfl (ro (ld r1 rfl rfl ?_))
 refine cb hm fun aW aV hm => cg0 (Jaj aV :) ?_
 refine qaa r0 rfl ⟨rfl, rfl, (nl rfl), ?_⟩
 exact ro (qae r0 rfl (nl rfl) (eE hm))
 refine qam (cs rfl rfl hm ?_ ?_) <;> intro a6 hm
 refine fa rfl (ro (ld r1 rfl rfl ?_))
 refine cb hm fun a8 aT hm => cg0 (Jaj aT :) ?_
 refine qaa r0 rfl ⟨rfl, rfl, (nl rfl), ?_⟩
 exact ro (qae r0 rfl (nl rfl) (eE hm))
 refine qam (cs rfl rfl hm ?_ ?_) <;> intro aZ hm
 refine fa rfl (ro (ld r1 rfl rfl ?_))
 refine cb hm fun aX aS hm => cg0 (Jaj aS :) ?_
 refine qaa r0 rfl ⟨rfl, rfl, (nl rfl), ?_⟩
 exact ro (qae r0 rfl (nl rfl) (eE hm))
 refine fa rfl (ro (ld r1 rfl rfl ?_))
 refine cb hm fun aY aU hm => cg0 (Jaj aU :) ?_
 refine qaa r0 rfl ⟨rfl, rfl, (nl rfl), ?_⟩
 exact ro (qae r0 rfl (nl rfl) (eE hm))

def Jan (m : Jf) : Option (Jd × Jf) :=
  (chk (InI ((m.stack.length : Int) - 1))).bind fun _ =>
  (ix m.stack ((m.stack.length : Int) - 1)).bind fun aS =>
  (chk (InI ((m.stack.length : Int) - 1))).bind fun _ =>
  (chk (0 ≤ (0 : Int) ∧ (0 : Int) ≤ ((m.stack.length : Int) - 1) ∧ ((m.stack.length : Int) - 1) ≤ (m.stack.length : Int))).bind fun _ =>
  some (aS, (⟨m.Ar, m.most, m.result, (subL m.stack (0 : Int) ((m.stack.length : Int) - 1)), m.Ap⟩ : Jf))
theorem Jap {m : Jf} {b0 : Nat} {aa : Option Addr} {ab : Nat} {aj : Option Addr} {am : Nat} {ak : Option Addr} {an : Nat} {ar : Option Addr} {au : Nat} {aw : Option Addr} {ay : Nat} {K : Hp} {r : Jd × Jf}
    (hm : Jan m = some r) (hX : RdC Je.enc K aa ab 2 m.Ar.Ao ∧ (0 < m.result.Ag.length → Has aj) ∧ (0 < m.result.Vary.length → Has ak) ∧ (0 < m.result.Ah.length → Has ar) ∧ (0 < m.stack.length → Has aw) ∧ m.Ap.length = 512) :
    Fn Tryz.prog 65 [.pointer (some ⟨b0, 0, none⟩)] K [Cells b0 98 ((str m.Ar.Am) :: (str m.Ar.An) :: (str m.Ar.Ae) :: (str m.Ar.Af) :: (.slice aa m.Ar.Ao.length ab) :: (.int .i64 m.most) :: (str m.result.Ae) :: (str m.result.Af) :: (.slice aj m.result.Ag.length am) :: (.slice ak m.result.Vary.length an) :: (.slice ar m.result.Ah.length au) :: (.int .i64 m.result.TTL) :: (.int .i64 m.result.Ai) :: (.int .i64 m.result.Aj) :: (.bool m.result.Ak) :: (.bool m.result.Al) :: (.slice aw m.stack.length ay) :: (m.Ap.map Jd.enc).flatten), OwnL Je.enc aj 77 2 am m.result.Ag, OwnL eS ak 9 1 an m.result.Vary, OwnL eS ar 9 1 au m.result.Ah, OwnL Jd.enc aw 95 4 ay m.stack] (fun v K' H' => ∃ ar_0 : Option Addr, ∃ cr_0 : Nat, ∃ ar_1 : Option Addr, ∃ cr_1 : Nat, ∃ ar_2 : Option Addr, ∃ cr_2 : Nat, ∃ ar_3 : Option Addr, ∃ cr_3 : Nat, v = .agg #[.int .i64 r.1.kind, .int .i64 r.1.n, str r.1.s, .bool r.1.At] ∧ (0 < r.2.result.Ag.length → Has ar_0) ∧ (0 < r.2.result.Vary.length → Has ar_1) ∧ (0 < r.2.result.Ah.length → Has ar_2) ∧ (0 < r.2.stack.length → Has ar_3) ∧ r.2.Ap.length = 512 ∧ H' = [Cells b0 98 ((str m.Ar.Am) :: (str m.Ar.An) :: (str m.Ar.Ae) :: (str m.Ar.Af) :: (.slice aa m.Ar.Ao.length ab) :: (.int .i64 r.2.most) :: (str r.2.result.Ae) :: (str r.2.result.Af) :: (.slice ar_0 r.2.result.Ag.length cr_0) :: (.slice ar_1 r.2.result.Vary.length cr_1) :: (.slice ar_2 r.2.result.Ah.length cr_2) :: (.int .i64 r.2.result.TTL) :: (.int .i64 r.2.result.Ai) :: (.int .i64 r.2.result.Aj) :: (.bool r.2.result.Ak) :: (.bool r.2.result.Al) :: (.slice ar_3 r.2.stack.length cr_3) :: (r.2.Ap.map Jd.enc).flatten), OwnL Je.enc ar_0 77 2 cr_0 r.2.result.Ag, OwnL eS ar_1 9 1 cr_1 r.2.result.Vary, OwnL eS ar_2 9 1 cr_2 r.2.result.Ah, OwnL Jd.enc ar_3 95 4 cr_3 r.2.stack]) := by
 obtain ⟨ae, aW, aU, aV, aS, aT⟩ := hX
 refine Fn.enter Tryz.func65 Tryz.call65 rfl fun F => ?_
 unfold Jan at hm
 refine qal rfl fun b2 => ?_
 refine qb9 ⟨⟨[], true⟩, _, [], []⟩ 14 rfl (by kernel_rfl) ⟨Hp.Le.refl _, (pf rfl), ci0⟩ ?_
 refine qao (fa rfl ?_)
 refine ld r1 rfl rfl ?_
 refine qao (fa rfl ?_)
 refine ld r1 rfl rfl ?_
 refine qcm rfl ?_
 refine ci hm fun hm => ?_
 obtain ⟨bb, aY, aX, hm⟩ := ixb hm
 refine qac rfl rfl (qcp aS aX) aY (qas rfl aY aX) ?_
 refine qon (i := (((m.stack.length : Int) - 1)).toNat) r5 rfl aX rfl rfl ?_
 refine qfp rfl ?_
 intro b3
 intro a8
 refine qaa r0 rfl ⟨rfl, rfl, (nl rfl), ?_⟩
 refine ⟨⟨lr, (pf rfl), ci0⟩, ?_⟩
 refine ⟨_, .cons r8 .nil, ⟨lr, (pf rfl), ci0⟩, ?_⟩
 refine DStep.ownLe r3 fun bd => ?_
 refine DStep.ownLe r4 fun ba => ?_
 refine DStep.ownLe r5 fun bc => ?_
 refine DStep.ownLe r6 fun a6 => ?_
 refine qbx ⟨⟨[], false⟩, _, [(_, _)], []⟩ 12 rfl (by kernel_rfl) ⟨Hp.Le.refl _, (sc [2] rfl), ci0⟩ ?_
 refine qao (fa rfl (qan m0 rfl rfl (qao (fa rfl (qan m0 rfl rfl (qcm rfl ?_))))))
 refine ci hm fun hm => ?_
 obtain ⟨aZ, hm⟩ := qay hm
 refine quq (l := m.stack) (hi := (some ((m.stack.length : Int) - 1))) rfl rfl rfl a6 aZ ?_
 refine qao (fa rfl ?_)
 refine tkW ((m.stack.length : Int) - 1) r6 ?_
 refine qo6 (cs' := (str m.Ar.Am) :: (str m.Ar.An) :: (str m.Ar.Ae) :: (str m.Ar.Af) :: (.slice aa m.Ar.Ao.length ab) :: (.int .i64 m.most) :: (str m.result.Ae) :: (str m.result.Af) :: (.slice aj m.result.Ag.length am) :: (.slice ak m.result.Vary.length an) :: (.slice ar m.result.Ah.length au) :: (.int .i64 m.result.TTL) :: (.int .i64 m.result.Ai) :: (.int .i64 m.result.Aj) :: (.bool m.result.Ak) :: (.bool m.result.Al) :: (.slice aw ((subL m.stack (0 : Int) ((m.stack.length : Int) - 1)).length) ay) :: (m.Ap.map Jd.enc).flatten) r3 rfl rfl (by exact rfl) (by exact nl rfl) (by exact rfl) ?_
 refine ⟨⟨Hp.emp_le _, (pf rfl), ci0⟩, ?_⟩
 refine ro (qae r2 rfl (nl rfl) ?_)
 refine qaa r3 rfl ⟨rfl, rfl, (nl rfl), ?_⟩
 obtain rfl := si hm
 exact ro (qae r0 rfl (nl rfl) (en lr ⟨aj, am, ak, an, ar, au, aw, ay, rfl, aW, aU, aV, (fun h => aS (quk aZ h)), aT, rfl⟩ (sc [1,3,3,3,1,2] rfl)))

def Jcl (path : Str) : Option ((List Str)) :=
  (cutM path ([47] : Str)).bind fun x8 =>
  if (!x8.2.2) then
  some []
  else
  (qgu x8.2.1 ([47] : Str)).bind fun aS =>
  some aS
theorem JeQ {path : Str} {K : Hp} {r : (List Str)}
    (hm : Jcl path = some r) (hG : GG K) :
    Fn Tryz.prog 104 [str path] K [] (fun v K' H' => ∃ ar_0 : Option Addr, ∃ cr_0 : Nat, v = .slice ar_0 r.length cr_0 ∧ (0 < r.length → Has ar_0) ∧ H' = [OwnL eS ar_0 9 1 cr_0 r]) := by
 refine Fn.enter Tryz.func104 Tryz.call104 rfl fun F => ?_
 unfold Jcl at hm
 refine cb hm fun x8 q8 hm => cg0 (qt6 q8 (gg3 hG)) ?_
 refine qa1 ?_
 refine cs rfl rfl hm ?_ ?_ <;> intro aX hm
 refine qhp eS 9 1 ?_
 exact eE hm
 refine cb hm fun aW aV hm => ck0 (qf6 aV (gg3 hG)) ?_
 rintro _ _ _ ⟨aT, aS, rfl, aU, rfl⟩
 exact eE hm

def Ja8 : Nat → Nat → Str → Option (Str)
  | 0, _, ac => some ac
  | aT + 1, i0, ac =>
    (ix ac (i0 : Int)).bind fun aS =>
    if (decide ((aS.toNat : Int) ≥ 65) && decide ((aS.toNat : Int) ≤ 90)) then
    (ix ac (i0 : Int)).bind fun aU =>
    Ja8 aT (i0 + 1) (ac.set (((i0 : Int)).toNat) (aS + (32 : UInt8)))
    else
    Ja8 aT (i0 + 1) ac
def Jcd (s : Str) : Option (Str) :=
  (chk (s.length ≤ lim)).bind fun _ =>
  (chk (InI (s.length : Int))).bind fun _ =>
  (Ja8 (s.length : Int).toNat 0 s).bind fun t0 =>
  some t0
theorem JcL {s : Str} {K : Hp} {r : Str}
    (hm : Jcd s = some r)  :
    Fn Tryz.prog 178 [str s] K [] (fun v K' H' => v = str r ∧ H' = []) := by
 refine Fn.enter Tryz.func178 Tryz.call178 rfl fun F => ?_
 unfold Jcd at hm
 obtain ⟨h7, hm⟩ := qay hm
 refine qlw rfl rfl rfl h7 ?_
 intro a7 c7 o7
 refine ro (qaj rfl ?_)
 obtain ⟨aZ, hm⟩ := qay hm
 obtain ⟨s0, aT, hm⟩ := bnd hm
 refine lD (σ := (Str)) ([4,5] ++ rg 10 17) [1] (fun i0 => [(10, .int .i64 (i0 : Int))]) (fun _ => []) (fun t0 => [OwnL eU a7 5 1 c7 t0]) (fun t0 => (0 < t0.length → Has a7) ∧ s.length = t0.length) (fun i0 t0 => Ja8 ((s.length : Int).toNat - i0) i0 t0 = some s0) (fun t0 => t0 = s0) (fun i0 => (s.length : Int).toNat - i0) 0 _ aT (And.intro qe (And.intro ?_ ?_))
 clear aT
 rintro i0 ac ⟨aU, aV⟩ aT j0
 conv at aT => whnf
 refine qaf rfl ?_
 refine qag ?_ ?_ <;> intro w0
 rw [ltn w0, Ja8.eq_2] at aT
 refine qai rfl ?_
 obtain ⟨aY, ba, a6, aT⟩ := ixb aT
 refine RStep.ofN (qac rfl rfl (qcp aU a6) ba (qas aV ba a6) (ro (qbq (i := ((i0 : Int)).toNat) (o := 0) r0 rfl a6 rfl rfl ?_)))
 refine qah rfl ?_
 refine qag ?_ ?_ <;> intro aS
 refine ct aS (ct aS (qaf rfl ?_))
 refine qag ?_ ?_ <;> intro bc
 replace aT := ift (qby aS bc) aT
 refine qkn (x := aY) (y := (32 : UInt8)) rfl rfl ?_
 obtain ⟨bd, bb, aX, aT⟩ := ixb aT
 refine RStep.ofN (qac rfl rfl (qcp aU aX) bb (qas aV bb aX) ?_)
 refine qho (o := 0) (y := (aY + (32 : UInt8))) bd r0 rfl aX rfl (by (conv => whnf); exact ⟨rfl, rfl, (nl rfl), rfl, rfl, rfl⟩) ?_
 refine qar (qn1 w0 aZ) ?_
 exact rd (i0 + 1, (ac.set (((i0 : Int)).toNat) (aY + (32 : UInt8)))) ⟨rfl, trivial⟩ rfl (pf rfl) lr (qxu w0) ⟨⟨(by first | simpa using aU | exact fun _ => ⟨_, _, rfl⟩), ((aV).trans List.length_set.symm)⟩, aT⟩
 replace aT := qa6 (qb8 aS bc) aT
 refine qar (qn1 w0 aZ) ?_
 exact eR aT (_, _)
 refine cf aS (cf aS (qaf rfl (cF ?_)))
 replace aT := qa6 (qa0 aS) aT
 refine qar (qn1 w0 aZ) ?_
 exact eR aT (_, _)
 rw [lto w0, Ja8.eq_1] at aT
 refine cT ?_
 exact eM aT _
 rintro t0 ⟨a8, aW⟩ rfl j0
 refine ro (qdc aW r0 rfl rfl rfl ?_)
 exact eE hm

def Jbs (x9 : Str) : List Je → Nat → (List Str) → Option ((List Str))
  | [], _, ac => some ac
  | e0 :: aS, i0, ac =>
    (Jcd e0.Name).bind fun aT =>
    if decide (aT = x9) then
    (chk (ac.length + [e0.Value].length ≤ lim)).bind fun _ =>
    Jbs x9 aS (i0 + 1) (ac ++ [e0.Value])
    else
    Jbs x9 aS (i0 + 1) ac
def Jeq (f : (List Je)) (name : Str) : Option ((List Str)) :=
  (Jcd name).bind fun x9 =>
  (chk (f.length ≤ qax)).bind fun _ =>
  (Jbs x9 f 0 []).bind fun t0 =>
  some t0
theorem Jgj {f : (List Je)} {name : Str} {aa : Option Addr} {ab : Nat} {n0 : Nat} {K : Hp} {r : (List Str)}
    (hm : Jeq f name = some r) (hX : RdC Je.enc K aa ab 2 f ∧ n0 = f.length) :
    Fn Tryz.prog 145 [.slice aa n0 ab, str name] K [] (fun v K' H' => ∃ ar_0 : Option Addr, ∃ cr_0 : Nat, v = .slice ar_0 r.length cr_0 ∧ (0 < r.length → Has ar_0) ∧ H' = [OwnL eS ar_0 9 1 cr_0 r]) := by
 obtain ⟨ae, bb⟩ := hX
 subst bb
 refine Fn.enter Tryz.func145 Tryz.call145 rfl fun F => ?_
 unfold Jeq at hm
 refine cb hm fun x9 q9 hm => cg0 (JcL q9 :) ?_
 refine ro (qaj rfl ?_)
 obtain ⟨aY, hm⟩ := qay hm
 obtain ⟨s0, aU, hm⟩ := bnd hm
 refine qkc eS 9 1 ?_
 refine lD (σ := ((List Str)) × Option Addr × Nat) ([5,7] ++ rg 12 15) [1] (fun i0 => [(12, .int .i64 (i0 : Int))]) (fun (t0, aS, aT) => [(5, .slice aS t0.length aT)]) (fun (t0, aS, aT) => [OwnL eS aS 9 1 aT t0]) (fun (t0, aS, aT) => (0 < t0.length → Has aS) ∧ True) (fun i0 (t0, aS, aT) => Jbs x9 (f.drop i0) i0 t0 = some s0) (fun (t0, aS, aT) => t0 = s0) (fun i0 => f.length - i0) 0 (_, _, _) aU (And.intro qe (And.intro ?_ ?_))
 clear aU
 rintro i0 ⟨ac, a6, aZ⟩ ⟨aW, _⟩ aU j0
 conv at aU => whnf
 refine qaf rfl ?_
 refine qag ?_ ?_ <;> intro w0
 obtain ⟨e0, aV, bc⟩ := ltx w0
 rw [bc, Jbs.eq_2] at aU
 refine qai rfl ?_
 refine RStep.ofN (qac rfl rfl (qcc ae.rd aV) (nn _) (qbg aV) (ro (qap i0 _ ae.rd rfl (mp aV) rfl ?_)))
 refine qal rfl fun b7 => ?_
 refine qaa r0 rfl ⟨rfl, rfl, (nl rfl), ?_⟩
 refine fa rfl (ro (ld r0 rfl rfl ?_))
 refine cb aU fun bj ba aU => cg0 (JcL ba :) ?_
 refine qam (cs rfl rfl aU ?_ ?_) <;> intro bh aU
 refine fa rfl (ro (ld r0 rfl rfl ?_))
 refine bsO (len := 1) (enc := eS) (l := [e0.Value]) (cl := [str e0.Value]) qdf rfl rfl (fun _ _ => rfl) rfl rfl rfl ?_ fun bd => ?_
 · conv => whnf
   refine cT ?_
   first | done | rfl
 obtain ⟨a8, aU⟩ := qay aU
 refine apE rfl r2 qdf (qa4 rfl r0 rfl (fun _ => rfl) (fun _ => rfl)) a8 ?_
 intro bm bg bf
 refine qar (qbu aV aY) ?_
 exact eR aU (_, _, _, _)
 refine qar (qbu aV aY) ?_
 exact eR aU (_, _, _, _)
 rw [lty w0, Jbs.eq_1] at aU
 refine cT ?_
 exact eM aU (_, _, _)
 rintro ⟨t0, aS, aT⟩ ⟨aX, _⟩ rfl j0
 exact eE hm

def JdX (f : (List Je)) (name : Str) : Option (Str × Bool) :=
  (Jeq f name).bind fun x9 =>
  (qks x9 ([44, 32] : Str)).bind fun aS =>
  some (aS, decide ((x9.length : Int) > 0))
theorem Jfc {f : (List Je)} {name : Str} {aa : Option Addr} {ab : Nat} {n0 : Nat} {K : Hp} {r : Str × Bool}
    (hm : JdX f name = some r) (hX : RdC Je.enc K aa ab 2 f ∧ n0 = f.length) :
    Fn Tryz.prog 105 [.slice aa n0 ab, str name] K [] (fun v K' H' => v = .tuple #[str r.1, .bool r.2] ∧ H' = []) := by
 obtain ⟨ae, aX⟩ := hX
 subst aX
 refine Fn.enter Tryz.func105 Tryz.call105 rfl fun F => ?_
 unfold JdX at hm
 refine cb hm fun x9 q9 hm => ckx (Jgj q9 :) ?_
 rintro _ _ _ ⟨aY, aV, rfl, aZ, rfl⟩
 refine cb hm fun a6 aW hm => ck0 (Fn.lend Tryz.call146 (fun aT aU aS => (qvt aW aS rfl)) (by exact fun _ _ _ _ h => h)) ?_
 rintro _ _ _ ⟨_, rfl, rfl, rfl⟩
 refine ro (qaj rfl ?_)
 exact eE hm

def JaC (At : Bool) : Option (Jd) :=
  some (⟨3, 0, ([] : Str), At⟩ : Jd)
theorem Jaq {At : Bool} {K : Hp} {r : Jd}
    (hm : JaC At = some r)  :
    Fn Tryz.prog 68 [.bool At] K [] (fun v K' H' => v = .agg #[.int .i64 r.kind, .int .i64 r.n, str r.s, .bool r.At] ∧ H' = []) := by
 refine Fn.enter Tryz.func68 Tryz.call68 rfl fun F => ?_
 unfold JaC at hm
 refine qal rfl fun b2 => ?_
 refine qak rfl rfl (cT (cT ?_))
 refine qaa r0 rfl ⟨rfl, rfl, (nl rfl), ?_⟩
 exact ro (qae r0 rfl (nl rfl) (eE hm))

def J2 (s : Str) (prefixZ : Str) : Option (Bool) :=
  (Jad s prefixZ).bind fun x7 =>
  some x7
theorem Jbn {s : Str} {prefixZ : Str} {K : Hp} {r : Bool}
    (hm : J2 s prefixZ = some r)  :
    Fn Tryz.prog 69 [str s, str prefixZ] K [] (fun v K' H' => v = .bool r ∧ H' = []) := by
 refine Fn.enter Tryz.func69 Tryz.call69 rfl fun F => ?_
 unfold J2 at hm
 refine cb hm fun x7 q7 hm => cg0 (JbL q7 :) ?_
 exact eE hm

def JbX (name : Str) : List Str → Nat → Option (Fl (Str × Bool) (Unit))
  | [], _ => some (Fl.go ())
  | e0 :: aS, i0 =>
    (chk (name.length + ([61] : Str).length ≤ lim)).bind fun _ =>
    (J2 e0 (name ++ ([61] : Str))).bind fun aT =>
    if aT then
    (chk (InI ((name.length : Int) + 1))).bind fun _ =>
    (chk (0 ≤ ((name.length : Int) + 1) ∧ ((name.length : Int) + 1) ≤ (e0.length : Int) ∧ (e0.length : Int) ≤ (e0.length : Int))).bind fun _ =>
    some (Fl.ret ((subL e0 ((name.length : Int) + 1) (e0.length : Int)), true))
    else
    JbX name aS (i0 + 1)
def JdC (a : Jb7) (name : Str) : Option (Str × Bool) :=
  if (!a.HasQuery) then
  some (([] : Str), false)
  else
  (qgu a.Af ([38] : Str)).bind fun aS =>
  (chk (aS.length ≤ qax)).bind fun _ =>
  (JbX name aS 0).bind fun s0 => s0.el some fun t0 =>
  some (([] : Str), false)
theorem JfH {a : Jb7} {name : Str} {K : Hp} {r : Str × Bool}
    (hm : JdC a name = some r) (hG : GG K) :
    Fn Tryz.prog 106 [.agg #[str a.An, str a.Ae, str a.Af, .bool a.HasQuery], str name] K [] (fun v K' H' => v = .tuple #[str r.1, .bool r.2] ∧ H' = []) := by
 refine Fn.enter Tryz.func106 Tryz.call106 rfl fun F => ?_
 unfold JdC at hm
 refine qaq ?_
 intro b2
 refine fa rfl (ro (ld r0 rfl rfl (qa1 ?_)))
 refine cs rfl rfl hm ?_ ?_ <;> intro bg hm
 exact eE hm
 refine fa rfl (ro (ld r0 rfl rfl ?_))
 refine cb hm fun aV aZ hm => ck0 (qf6 aZ (gg3 hG)) ?_
 rintro _ _ _ ⟨aX, aW, rfl, aT, rfl⟩
 refine ro (qaj rfl ?_)
 obtain ⟨a6, hm⟩ := qay hm
 obtain ⟨s0, aS, hm⟩ := bnd hm
 refine lD (σ := (Unit)) ([4,5,7] ++ rg 15 14) [0, 1, 2] (fun i0 => [(15, .int .i64 (i0 : Int))]) (fun _ => []) (fun _ => []) (fun _ => True) (fun i0 _ => JbX name (aV.drop i0) i0 = some s0) (fun t0 => s0 = Fl.go t0) (fun i0 => aV.length - i0) 0 () aS (And.intro qe (And.intro ?_ ?_))
 clear aS
 rintro i0 _ _ aS j0
 conv at aS => whnf
 refine qaf rfl ?_
 refine qag ?_ ?_ <;> intro w0
 obtain ⟨e0, aU, ba⟩ := ltx w0
 rw [ba, JbX.eq_2] at aS
 refine qai rfl ?_
 refine RStep.ofN (qac rfl rfl (qcp aT aU) (nn _) (qdx rfl aU) (ro (qbq (i := i0) (o := 0) r0 rfl aU rfl rfl ?_)))
 obtain ⟨aY, aS⟩ := qay aS
 refine qbk aY ?_
 refine cb aS fun bc a8 aS => cg0 (Jbn a8 :) ?_
 refine CStep.ownLe r0 fun bd => ?_
 refine cs rfl rfl aS ?_ ?_ <;> intro bf aS
 refine ro (qat rfl ?_)
 refine ci aS fun aS => ?_
 obtain ⟨bb, aS⟩ := qay aS
 refine RStep.ofN (qbn (lo := (some ((name.length : Int) + 1))) (hi := none) rfl bb ?_)
 exact eE (er aS hm)
 refine qar (qbu aU a6) ?_
 exact eR aS (_, ())
 rw [lty w0, JbX.eq_1] at aS
 refine cT ?_
 exact eM aS _
 rintro t0 _ rfl j0
 replace hm := elg hm
 exact eE hm

def JaO : Nat → Nat → Str → Option (Str)
  | 0, _, ac => some ac
  | aT + 1, i0, ac =>
    (ix ac (i0 : Int)).bind fun aS =>
    if (decide ((aS.toNat : Int) ≥ 65) && decide ((aS.toNat : Int) ≤ 90)) then
    (ix ac (i0 : Int)).bind fun aU =>
    JaO aT (i0 + 1) (ac.set (((i0 : Int)).toNat) (aS + (32 : UInt8)))
    else
    JaO aT (i0 + 1) ac
def Jdq (s : Str) : Option (Str) :=
  (chk (s.length ≤ lim)).bind fun _ =>
  (chk (InI (s.length : Int))).bind fun _ =>
  (JaO (s.length : Int).toNat 0 s).bind fun t0 =>
  some t0
theorem Jfx {s : Str} {K : Hp} {r : Str}
    (hm : Jdq s = some r)  :
    Fn Tryz.prog 107 [str s] K [] (fun v K' H' => v = str r ∧ H' = []) := by
 refine Fn.enter Tryz.func107 Tryz.call107 rfl fun F => ?_
 unfold Jdq at hm
 obtain ⟨h7, hm⟩ := qay hm
 refine qlw rfl rfl rfl h7 ?_
 intro a7 c7 o7
 refine ro (qaj rfl ?_)
 obtain ⟨aZ, hm⟩ := qay hm
 obtain ⟨s0, aT, hm⟩ := bnd hm
 refine lD (σ := (Str)) ([4,5] ++ rg 10 17) [1] (fun i0 => [(10, .int .i64 (i0 : Int))]) (fun _ => []) (fun t0 => [OwnL eU a7 5 1 c7 t0]) (fun t0 => (0 < t0.length → Has a7) ∧ s.length = t0.length) (fun i0 t0 => JaO ((s.length : Int).toNat - i0) i0 t0 = some s0) (fun t0 => t0 = s0) (fun i0 => (s.length : Int).toNat - i0) 0 _ aT (And.intro qe (And.intro ?_ ?_))
 clear aT
 rintro i0 ac ⟨aU, aV⟩ aT j0
 conv at aT => whnf
 refine qaf rfl ?_
 refine qag ?_ ?_ <;> intro w0
 rw [ltn w0, JaO.eq_2] at aT
 refine qai rfl ?_
 obtain ⟨aY, ba, a6, aT⟩ := ixb aT
 refine RStep.ofN (qac rfl rfl (qcp aU a6) ba (qas aV ba a6) (ro (qbq (i := ((i0 : Int)).toNat) (o := 0) r0 rfl a6 rfl rfl ?_)))
 refine qah rfl ?_
 refine qag ?_ ?_ <;> intro aS
 refine ct aS (ct aS (qaf rfl ?_))
 refine qag ?_ ?_ <;> intro bc
 replace aT := ift (qby aS bc) aT
 refine qkn (x := aY) (y := (32 : UInt8)) rfl rfl ?_
 obtain ⟨bd, bb, aX, aT⟩ := ixb aT
 refine RStep.ofN (qac rfl rfl (qcp aU aX) bb (qas aV bb aX) ?_)
 refine qho (o := 0) (y := (aY + (32 : UInt8))) bd r0 rfl aX rfl (by (conv => whnf); exact ⟨rfl, rfl, (nl rfl), rfl, rfl, rfl⟩) ?_
 refine qar (qn1 w0 aZ) ?_
 exact rd (i0 + 1, (ac.set (((i0 : Int)).toNat) (aY + (32 : UInt8)))) ⟨rfl, trivial⟩ rfl (pf rfl) lr (qxu w0) ⟨⟨(by first | simpa using aU | exact fun _ => ⟨_, _, rfl⟩), ((aV).trans List.length_set.symm)⟩, aT⟩
 replace aT := qa6 (qb8 aS bc) aT
 refine qar (qn1 w0 aZ) ?_
 exact eR aT (_, _)
 refine cf aS (cf aS (qaf rfl (cF ?_)))
 replace aT := qa6 (qa0 aS) aT
 refine qar (qn1 w0 aZ) ?_
 exact eR aT (_, _)
 rw [lto w0, JaO.eq_1] at aT
 refine cT ?_
 exact eM aT _
 rintro t0 ⟨a8, aW⟩ rfl j0
 refine ro (qdc aW r0 rfl rfl rfl ?_)
 exact eE hm

def Jbh : List UInt8 → Nat → Int → Option (Fl (Int) (Int))
  | [], _, ac => some (Fl.go ac)
  | e0 :: aS, i0, ac =>
    (if decide ((e0.toNat : Int) < 48) then some true else some (decide ((e0.toNat : Int) > 57))).bind fun aT =>
    if aT then
    some (Fl.ret 0)
    else
    (chk (InI (10 * ac))).bind fun _ =>
    (chk (InI ((10 * ac) + ((e0 - (48 : UInt8)).toNat : Int)))).bind fun _ =>
    Jbh aS (i0 + 1) ((10 * ac) + ((e0 - (48 : UInt8)).toNat : Int))
def JcE (s : Str) : Option (Int) :=
  if (decide ((s.length : Int) < 1) || decide ((s.length : Int) > 15)) then
  some 0
  else
  (chk (s.length ≤ qax)).bind fun _ =>
  (Jbh s 0 0).bind fun s0 => s0.el some fun t0 =>
  some t0
theorem Jei {s : Str} {K : Hp} {r : Int}
    (hm : JcE s = some r)  :
    Fn Tryz.prog 108 [str s] K [] (fun v K' H' => v = .int .i64 r ∧ H' = []) := by
 refine Fn.enter Tryz.func108 Tryz.call108 rfl fun F => ?_
 unfold JcE at hm
 refine jR (σ := Unit) (rg 5 8) (fun _ => [(12, .bool (decide ((s.length : Int) < 1) || decide ((s.length : Int) > 15)))]) (fun a6 => True) ?_ ?_
 refine qah rfl ?_
 refine ro (qat rfl ?_)
 refine qag ?_ ?_ <;> intro aU
 refine ct aU (ct aU (ct aU ?_))
 exact eMt () ⟨bq (((qcj aU)).symm), trivial⟩
 refine cf aU (ro (qat rfl (cf aU (cf aU ?_))))
 exact eMt () ⟨bq (qhe (b := decide ((s.length : Int) > 15)) aU), trivial⟩
 rintro _ _ ba
 refine cs rfl rfl hm ?_ ?_ <;> intro bd hm
 exact eE hm
 refine ro (qat rfl ?_)
 obtain ⟨a8, hm⟩ := qay hm
 obtain ⟨s0, aT, hm⟩ := bnd hm
 refine lD (σ := (Int)) ([2,3,4] ++ rg 15 22) [0] (fun i0 => [(15, .int .i64 (i0 : Int))]) (fun t0 => [(3, .int .i64 t0)]) (fun _ => []) (fun _ => True) (fun i0 t0 => Jbh (s.drop i0) i0 t0 = some s0) (fun t0 => s0 = Fl.go t0) (fun i0 => s.length - i0) 0 _ aT (And.intro qe (And.intro ?_ ?_))
 clear aT
 rintro i0 ac _ aT j0
 conv at aT => whnf
 refine qaf rfl ?_
 refine qag ?_ ?_ <;> intro w0
 obtain ⟨e0, aW, bb⟩ := ltx w0
 rw [bb, Jbh.eq_2] at aT
 refine qai rfl ?_
 refine qah rfl ?_
 refine qaz rfl (nn _) aW ?_
 obtain ⟨bc, aV, aT⟩ := bnd aT
 refine cS aV (fun aS aV => ?_) fun aS aV => ?_
 refine ct aS (ct aS (ct aS (ct aS (qaf rfl (cT ?_)))))
 replace aT := ift (si aV).symm aT
 exact eE (er aT hm)
 refine cf aS (cf aS (qaz rfl (nn _) aW (cf aS (cf aS (qaf rfl ?_)))))
 refine qag ?_ ?_ <;> intro aX
 replace aT := ift ((si aV).symm.trans aX) aT
 exact eE (er aT hm)
 replace aT := qa6 ((si aV).symm.trans aX) aT
 obtain ⟨aY, aT⟩ := qay aT
 refine qar aY (qaz rfl (nn _) aW (qok (x := e0) (y := (48 : UInt8)) rfl rfl (qlt rfl rfl (qyx (e0 - (48 : UInt8))) ?_)))
 obtain ⟨aZ, aT⟩ := qay aT
 refine qar aZ (qar (qbu aW a8) ?_)
 exact eR aT (_, _)
 rw [lty w0, Jbh.eq_1] at aT
 refine cT ?_
 exact eM aT _
 rintro t0 _ rfl j0
 replace hm := elg hm
 exact eE hm

def JL (name : Str) (x : Jd) (Ar : JG) : Option (Jd × Bool) :=
  if (decide (name = ([112, 97, 114, 116] : Str)) || decide (name = ([116, 101, 120, 116] : Str))) then
  if decide (x.kind ≠ 2) then
  some ((⟨0, 0, ([] : Str), false⟩ : Jd), false)
  else
  if decide (name = ([116, 101, 120, 116] : Str)) then
  (qno x.n).bind fun bf =>
  (JaA bf).bind fun bg =>
  some (bg, true)
  else
  (Jcl Ar.Ae).bind fun aW =>
  if (decide (x.n < 0) || decide (x.n ≥ (aW.length : Int))) then
  (JaA ([] : Str)).bind fun aY =>
  some (aY, true)
  else
  (ix aW x.n).bind fun ba =>
  (JaA ba).bind fun bh =>
  some (bh, true)
  else
  if decide (x.kind ≠ 1) then
  some ((⟨0, 0, ([] : Str), false⟩ : Jd), false)
  else
  if decide (name = ([104, 101, 97, 100, 101, 114] : Str)) then
  (JdX Ar.Ao x.s).bind fun aX =>
  (JaA aX.1).bind fun aZ =>
  some (aZ, true)
  else
  if decide (name = ([104, 97, 115] : Str)) then
  (JdX Ar.Ao x.s).bind fun bb =>
  (JaC bb.2).bind fun bd =>
  some (bd, true)
  else
  if decide (name = ([97, 114, 103] : Str)) then
  (JdC (⟨([] : Str), ([] : Str), Ar.Af, true⟩ : Jb7) x.s).bind fun bc =>
  (JaA bc.1).bind fun a8 =>
  some (a8, true)
  else
  if decide (name = ([108, 101, 110] : Str)) then
  (JbH (x.s.length : Int)).bind fun a6 =>
  some (a6, true)
  else
  if decide (name = ([108, 111, 119, 101, 114] : Str)) then
  (Jdq x.s).bind fun aT =>
  (JaA aT).bind fun aU =>
  some (aU, true)
  else
  (JcE x.s).bind fun aS =>
  (JbH aS).bind fun aV =>
  some (aV, true)
theorem JeJ {name : Str} {x : Jd} {Ar : JG} {ao : Option Addr} {aq : Nat} {K : Hp} {r : Jd × Bool}
    (hm : JL name x Ar = some r) (hX : RdC Je.enc K ao aq 2 Ar.Ao ∧ GG K) :
    Fn Tryz.prog 66 [str name, .agg #[.int .i64 x.kind, .int .i64 x.n, str x.s, .bool x.At], .agg #[str Ar.Am, str Ar.An, str Ar.Ae, str Ar.Af, .slice ao Ar.Ao.length aq]] K [] (fun v K' H' => v = .tuple #[.agg #[.int .i64 r.1.kind, .int .i64 r.1.n, str r.1.s, .bool r.1.At], .bool r.2] ∧ H' = []) := by
 obtain ⟨av, hG⟩ := hX
 refine Fn.enter Tryz.func66 Tryz.call66 rfl fun F => ?_
 unfold JL at hm
 refine qaq ?_
 intro b4
 refine qaq ?_
 intro b5
 refine qal rfl fun b6 => ?_
 refine jR (σ := Unit) (rg 15 6) (fun _ => [(20, .bool (decide (name = ([112, 97, 114, 116] : Str)) || decide (name = ([116, 101, 120, 116] : Str))))]) (fun bu => True) ?_ ?_
 refine qah rfl ?_
 refine qam ?_
 refine qag ?_ ?_ <;> intro aT
 refine ct aT (ct aT ?_)
 exact eMt () ⟨bq (((qcj aT)).symm), trivial⟩
 refine cf aT (qam (cf aT ?_))
 exact eMt () ⟨bq (qhe (b := decide (name = ([116, 101, 120, 116] : Str))) aT), trivial⟩
 rintro _ _ bB
 refine cs rfl rfl hm ?_ ?_ <;> intro bR hm
 refine fa rfl (ro (ld r2 rfl rfl (qa2 ?_)))
 refine cs rfl rfl hm ?_ ?_ <;> intro bM hm
 refine qak rfl rfl ?_
 refine qaa r0 rfl ⟨rfl, rfl, (nl rfl), ?_⟩
 exact ro (qae r0 rfl (nl rfl) (eE hm))
 refine qam (cs rfl rfl hm ?_ ?_) <;> intro bQ hm
 refine fa rfl (ro (ld r2 rfl rfl ?_))
 refine cb hm fun bU bm hm => cg0 (qvv bm (gg5 hG)) ?_
 refine cb hm fun bP bo hm => cg0 (Jaj bo :) ?_
 refine qaa r0 rfl ⟨rfl, rfl, (nl rfl), ?_⟩
 exact ro (qae r0 rfl (nl rfl) (eE hm))
 refine fa rfl (ro (ld r1 rfl rfl ?_))
 refine cb hm fun a8 bF hm => ckx (JeQ bF :) ?_
 rintro _ _ _ ⟨a6, bb, rfl, aU, rfl⟩
 refine jR (σ := Unit) (rg 34 10) (fun _ => [(43, .bool (decide (x.n < 0) || decide (x.n ≥ (a8.length : Int))))]) (fun bg => True) ?_ ?_
 refine qah rfl ?_
 refine fa rfl (ro (ld r3 rfl rfl ?_))
 refine qag ?_ ?_ <;> intro aS
 refine ct aS (ct aS (ct aS (ct aS (ct aS ?_))))
 exact eMt () ⟨bq (((qcj aS)).symm), trivial⟩
 refine fa rfl (cf aS (ro (ld r3 rfl rfl (cf aS (cf aS (ro (qaj rfl (cf aS (cf aS ?_)))))))))
 exact eMt () ⟨bq (qhe (b := decide (x.n ≥ (a8.length : Int))) aS), trivial⟩
 rintro _ _ bj
 refine cs rfl rfl hm ?_ ?_ <;> intro bJ hm
 refine cb hm fun bY bp hm => cg0 (Jaj bp :) ?_
 refine qaa r1 rfl ⟨rfl, rfl, (nl rfl), ?_⟩
 exact ro (qae r0 rfl (nl rfl) (eE hm))
 refine fa rfl (ro (ld r3 rfl rfl ?_))
 obtain ⟨ca, ba, aY, hm⟩ := ixb hm
 refine RStep.ofN (qac rfl rfl (qcp aU aY) ba (qas rfl ba aY) (ro (qbq (i := (x.n).toNat) (o := 0) r0 rfl aY rfl rfl ?_)))
 refine cb hm fun bV bD hm => cg0 (Jaj bD :) ?_
 refine qaa r1 rfl ⟨rfl, rfl, (nl rfl), ?_⟩
 exact ro (qae r0 rfl (nl rfl) (eE hm))
 refine fa rfl (ro (ld r2 rfl rfl (qa2 ?_)))
 refine cs rfl rfl hm ?_ ?_ <;> intro bL hm
 refine qak rfl rfl ?_
 refine qaa r0 rfl ⟨rfl, rfl, (nl rfl), ?_⟩
 exact ro (qae r0 rfl (nl rfl) (eE hm))
 refine qai rfl ?_
 refine qam (cs rfl rfl hm ?_ ?_) <;> intro bG hm
 refine fa rfl (ro (ld r1 rfl rfl (fa rfl (ro (ld r2 rfl rfl ?_)))))
 refine cb hm fun bH bc hm => cgx (Jfc bc :) ?_
 refine cb hm fun bS bd hm => cg0 (Jaj bd :) ?_
 refine qaa r0 rfl ⟨rfl, rfl, (nl rfl), ?_⟩
 exact ro (qae r0 rfl (nl rfl) (eE hm))
 refine qam (cs rfl rfl hm ?_ ?_) <;> intro bK hm
 refine fa rfl (ro (ld r1 rfl rfl (fa rfl (ro (ld r2 rfl rfl ?_)))))
 refine cb hm fun bT br hm => cgx (Jfc br :) ?_
 refine cb hm fun bO bA hm => cg0 (Jaq bA :) ?_
 refine qaa r0 rfl ⟨rfl, rfl, (nl rfl), ?_⟩
 exact ro (qae r0 rfl (nl rfl) (eE hm))
 refine qam (cs rfl rfl hm ?_ ?_) <;> intro bW hm
 refine fa rfl (ro (ld r1 rfl rfl (qak rfl rfl (cT (cT (fa rfl (ro (ld r2 rfl rfl ?_))))))))
 refine cb hm fun cd bf hm => cgx (JfH bf :) ?_
 refine cb hm fun bZ bC hm => cg0 (Jaj bC :) ?_
 refine qaa r0 rfl ⟨rfl, rfl, (nl rfl), ?_⟩
 exact ro (qae r0 rfl (nl rfl) (eE hm))
 refine qam (cs rfl rfl hm ?_ ?_) <;> intro bX hm
 refine fa rfl (ro (ld r2 rfl rfl (ro (qat rfl ?_))))
 refine cb hm fun bI bw hm => cg0 (Jbo bw :) ?_
 refine qaa r0 rfl ⟨rfl, rfl, (nl rfl), ?_⟩
 exact ro (qae r0 rfl (nl rfl) (eE hm))
 refine qam (cs rfl rfl hm ?_ ?_) <;> intro bN hm
 refine fa rfl (ro (ld r2 rfl rfl ?_))
 refine cb hm fun bh aV hm => cg0 (Jfx aV :) ?_
 refine cb hm fun bn aZ hm => cg0 (Jaj aZ :) ?_
 refine qaa r0 rfl ⟨rfl, rfl, (nl rfl), ?_⟩
 exact ro (qae r0 rfl (nl rfl) (eE hm))
 refine fa rfl (ro (ld r2 rfl rfl ?_))
 refine cb hm fun bt aW hm => cg0 (Jei aW :) ?_
 refine cb hm fun bz aX hm => cg0 (Jbo aX :) ?_
 refine qaa r0 rfl ⟨rfl, rfl, (nl rfl), ?_⟩
 exact ro (qae r0 rfl (nl rfl) (eE hm))

def JcM (a : Int) (b : Int) : Option (Jd) :=
  if (decide (a = 0) || decide (b = 0)) then
  (JbH 0).bind fun aU =>
  some aU
  else
  (chk (InI (-a))).bind fun _ =>
  (chk (InI (-b))).bind fun _ =>
  (chk ((max b (-b)) ≠ 0 ∧ InI (Int.tdiv 1099511627776 (max b (-b))))).bind fun _ =>
  ((if decide ((max a (-a)) > (Int.tdiv 1099511627776 (max b (-b)))) then
  some (1099511627776, 1)
  else
  some ((max a (-a)), (max b (-b))) : Option (Int × Int))).bind fun aS =>
  if (!((decide (a < 0)) == (decide (b < 0)))) then
  (chk (InI (-aS.1))).bind fun _ =>
  (chk (InI ((-aS.1) * aS.2))).bind fun _ =>
  (JbH ((-aS.1) * aS.2)).bind fun aV =>
  some aV
  else
  (chk (InI (aS.1 * aS.2))).bind fun _ =>
  (JbH (aS.1 * aS.2)).bind fun aT =>
  some aT
theorem Je2 {a : Int} {b : Int} {K : Hp} {r : Jd}
    (hm : JcM a b = some r)  :
    Fn Tryz.prog 109 [.int .i64 a, .int .i64 b] K [] (fun v K' H' => v = .agg #[.int .i64 r.kind, .int .i64 r.n, str r.s, .bool r.At] ∧ H' = []) := by
 refine Fn.enter Tryz.func109 Tryz.call109 rfl fun F => ?_
 unfold JcM at hm
 refine qal rfl fun b4 => ?_
 refine jR (σ := Unit) (rg 8 6) (fun _ => [(13, .bool (decide (a = 0) || decide (b = 0)))]) (fun aZ => True) ?_ ?_
 refine qah rfl ?_
 refine qad ?_
 refine qag ?_ ?_ <;> intro aS
 refine ct aS (ct aS ?_)
 exact eMt () ⟨bq (((qcj aS)).symm), trivial⟩
 refine cf aS (qad (cf aS ?_))
 exact eMt () ⟨bq (qhe (b := decide (b = 0)) aS), trivial⟩
 rintro _ _ bb
 refine cs rfl rfl hm ?_ ?_ <;> intro bh hm
 refine cb hm fun bm bc hm => cg0 (Jbo bc :) ?_
 refine qaa r0 rfl ⟨rfl, rfl, (nl rfl), ?_⟩
 exact ro (qae r0 rfl (nl rfl) (eE hm))
 refine qls rfl ?_
 obtain ⟨aY, hm⟩ := qay hm
 refine qgh aY ?_
 refine ro (qcl ?_)
 obtain ⟨a6, hm⟩ := qay hm
 refine qgh a6 ?_
 refine ro (qcl ?_)
 obtain ⟨aW, hm⟩ := qay hm
 refine qja aW.1 aW.2 ?_
 obtain ⟨aV, aT, hm⟩ := bnd hm
 refine jD (σ := (Int × Int)) [6,7] [0, 1] (fun aU => [(6, .int .i64 aU.1), (7, .int .i64 aU.2)]) (fun aU => []) (fun aU => aU = aV) (And.intro ?_ ?_)
 refine cs rfl rfl aT ?_ ?_ <;> intro bf aT
 exact eM aT _
 exact eM aT _
 rintro aU rfl a8
 refine cs rfl rfl hm ?_ ?_ <;> intro bj hm
 obtain ⟨ba, hm⟩ := qay hm
 refine qgh ba ?_
 refine ci hm fun hm => ?_
 refine cb hm fun bg bd hm => cg0 (Jbo bd :) ?_
 refine qaa r0 rfl ⟨rfl, rfl, (nl rfl), ?_⟩
 exact ro (qae r0 rfl (nl rfl) (eE hm))
 refine ci hm fun hm => ?_
 refine cb hm fun bn aX hm => cg0 (Jbo aX :) ?_
 refine qaa r0 rfl ⟨rfl, rfl, (nl rfl), ?_⟩
 exact ro (qae r0 rfl (nl rfl) (eE hm))

def JaD (s : Str) (suffix : Str) : Option (Bool) :=
  (if decide ((s.length : Int) ≥ (suffix.length : Int)) then (chk (InI ((s.length : Int) - (suffix.length : Int)))).bind fun _ =>
  (chk (0 ≤ ((s.length : Int) - (suffix.length : Int)) ∧ ((s.length : Int) - (suffix.length : Int)) ≤ (s.length : Int) ∧ (s.length : Int) ≤ (s.length : Int))).bind fun _ =>
  some (decide ((subL s ((s.length : Int) - (suffix.length : Int)) (s.length : Int)) = suffix)) else some false).bind fun aS =>
  some aS
theorem Jc6 {s : Str} {suffix : Str} {K : Hp} {r : Bool}
    (hm : JaD s suffix = some r)  :
    Fn Tryz.prog 147 [str s, str suffix] K [] (fun v K' H' => v = .bool r ∧ H' = []) := by
 refine Fn.enter Tryz.func147 Tryz.call147 rfl fun F => ?_
 unfold JaD at hm
 refine qah rfl ?_
 refine ro (qat rfl (ro (qat rfl ?_)))
 obtain ⟨aW, aT, hm⟩ := bnd hm
 refine cS aT (fun aS aT => ?_) fun aS aT => ?_
 refine ct aS (ct aS (ro (qat rfl (ct aS (ct aS (ro (qat rfl (ct aS ?_))))))))
 obtain ⟨aU, aT⟩ := qay aT
 refine qar aU (ct aS ?_)
 obtain ⟨aV, aT⟩ := qay aT
 refine RStep.ofN (qbn (lo := (some ((s.length : Int) - (suffix.length : Int)))) (hi := none) rfl aV (ct aS (ct aS (qam (ct aS ?_)))))
 exact bE (si aT) (eE hm)
 refine cf aS (cf aS (cf aS (cf aS (cf aS (cf aS (cf aS (cf aS ?_)))))))
 refine cf aS ?_
 exact bE (si aT) (eE hm)

def Jb8 (s : Str) (suffix : Str) : Option (Bool) :=
  (JaD s suffix).bind fun x7 =>
  some x7
theorem JeE {s : Str} {suffix : Str} {K : Hp} {r : Bool}
    (hm : Jb8 s suffix = some r)  :
    Fn Tryz.prog 110 [str s, str suffix] K [] (fun v K' H' => v = .bool r ∧ H' = []) := by
 refine Fn.enter Tryz.func110 Tryz.call110 rfl fun F => ?_
 unfold Jb8 at hm
 refine cb hm fun x7 q7 hm => cg0 (Jc6 q7 :) ?_
 exact eE hm
