/- Functions of the program: mirrors, and that a call returns what the mirror says. Printed by gen.py. -/
import Derived.Test.YtmpdebfckeahmaaGreatDoorShelf
import Derived.Test.YtmpdebfckeahmaaGreatDoorLS
import Derived.KernelRfl
import Derived.Test.YtmpdebfckeahmaaGreatDoorProg
set_option linter.unusedVariables false
set_option linter.unusedSimpArgs false
open Go Go.SL Go.Proofs
noncomputable section
set_option maxRecDepth 1000000
set_option maxHeartbeats 8000000
def Jaf : List Str := [[109, 101, 116, 104, 111, 100], [104, 111, 115, 116], [112, 97, 116, 104], [113, 117, 101, 114, 121]]
def Jal : List Str := [[104, 101, 97, 100, 101, 114], [104, 97, 115], [97, 114, 103], [108, 101, 110], [108, 111, 119, 101, 114], [112, 97, 114, 116], [116, 101, 120, 116], [110, 117, 109, 98, 101, 114]]
def Jab : List Str := [[43], [45], [42], [61, 61], [33, 61], [60], [60, 61], [115, 116, 97, 114, 116, 115], [101, 110, 100, 115], [99, 111, 110, 116, 97, 105, 110, 115]]
def gkw0 : List Str := [[105, 102], [101, 108, 115, 101], [108, 101, 116], [118, 97, 114, 121], [116, 97, 103], [116, 116, 108], [100, 101, 110, 121], [112, 97, 115, 115], [116, 111, 107, 101, 110], [111, 114], [97, 110, 100], [110, 111, 116], [115, 116, 97, 114, 116, 115], [101, 110, 100, 115], [99, 111, 110, 116, 97, 105, 110, 115], [116, 114, 117, 101], [102, 97, 108, 115, 101]]
structure Je where
  Ab : Int
  Ac : Str
  Aa : (List Je)
  Ad : Int
inductive Je.R (K : Hp) : List Value → Je → Prop
  | mk {cs : List Value} {x : Je} (a_0 : Option Addr) (c_0 : Nat) (e : cs = [.int .i64 x.Ab, str x.Ac, .slice a_0 x.Aa.length c_0, .int .i64 x.Ad]) (css0 : List (List Value)) (p0 : RdS K a_0 4 css0) (q0 : css0.length = x.Aa.length) (r0 : x.Aa.length ≤ c_0) (z0 : ∀ (i : Nat) (c : List Value) (y : Je), css0[i]? = some c → x.Aa[i]? = some y → Je.R K c y) : Je.R K cs x
theorem Je.out {K : Hp} {cs : List Value} {x : Je} (h : Je.R K cs x) : ∃ a_0 : Option Addr, ∃ c_0 : Nat, cs = [.int .i64 x.Ab, str x.Ac, .slice a_0 x.Aa.length c_0, .int .i64 x.Ad] ∧ LiC Je.R K a_0 c_0 4 x.Aa := by
  cases h with
  | mk a_0 c_0 e css0 p0 q0 r0 z0 => exact ⟨a_0, c_0, e, ⟨⟨css0, p0, q0, z0⟩, r0⟩⟩
theorem Je.of {K : Hp} {cs : List Value} {x : Je} (h : ∃ a_0 : Option Addr, ∃ c_0 : Nat, cs = [.int .i64 x.Ab, str x.Ac, .slice a_0 x.Aa.length c_0, .int .i64 x.Ad] ∧ LiC Je.R K a_0 c_0 4 x.Aa) : Je.R K cs x := by
  obtain ⟨a_0, c_0, e, ⟨⟨aL, p0, q0, z0⟩, r0⟩⟩ := h
  exact .mk a_0 c_0 e aL p0 q0 r0 z0
theorem Je.R_mono {K K' : Hp} (hk : K.Le K') {cs : List Value} {x : Je} (h : Je.R K cs x) : Je.R K' cs x := by
  induction h with
  | mk a_0 c_0 e css0 p0 q0 r0 z0 ih0 => exact .mk a_0 c_0 e css0 (p0.mono hk) q0 r0 (ih0)
theorem Je.R_ok : RpOK 4 Je.R := by
  refine ⟨fun hk h => Je.R_mono hk h, fun h => ?_, fun h v hv => ?_⟩
  · obtain ⟨a_0, c_0, e, aL⟩ := Je.out h; simp [e]
  · obtain ⟨a_0, c_0, e, aL⟩ := Je.out h; rw [e] at hv; simp at hv; rcases hv with rfl | rfl | rfl | rfl <;> rfl
instance : RpI 4 Je.R := ⟨Je.R_ok⟩
structure Jo where
  Name : Str
  Value : Str
abbrev Jo.enc (x : Jo) : List Go.Value := [str x.Name, str x.Value]
structure Jw where
  Am : Str
  An : Str
  Ae : Str
  Af : Str
  Ao : (List Jo)
def Jw.R : Rp Jw := fun K cs x => ∃ a_0 : Option Addr, ∃ c_0 : Nat, cs = [str x.Am, str x.An, str x.Ae, str x.Af, .slice a_0 x.Ao.length c_0] ∧ RdC Jo.enc K a_0 c_0 2 x.Ao
theorem Jw.R_ok : RpOK 5 Jw.R :=
  ⟨fun hk ⟨a_0, c_0, e, h_0⟩ => ⟨a_0, c_0, e, (h_0.mono hk)⟩, fun ⟨a_0, c_0, e, h_0⟩ => by simp [e], fun ⟨a_0, c_0, e, h_0⟩ v hv => by rw [e] at hv; simp at hv; rcases hv with rfl | rfl | rfl | rfl | rfl <;> rfl⟩
instance : RpI 5 Jw.R := ⟨Jw.R_ok⟩
structure Jc where
  Op : Int
  N : Int
  S : Str
abbrev Jc.enc (x : Jc) : List Go.Value := [.int .i64 x.Op, .int .i64 x.N, str x.S]
structure Jg where
  Name : Str
  Value : Str
abbrev Jg.enc (x : Jg) : List Go.Value := [str x.Name, str x.Value]
structure JH where
  Am : Str
  An : Str
  Ae : Str
  Af : Str
  Ao : (List Jg)
def JH.R : Rp JH := fun K cs x => ∃ a_0 : Option Addr, ∃ c_0 : Nat, cs = [str x.Am, str x.An, str x.Ae, str x.Af, .slice a_0 x.Ao.length c_0] ∧ RdC Jg.enc K a_0 c_0 2 x.Ao
theorem JH.R_ok : RpOK 5 JH.R :=
  ⟨fun hk ⟨a_0, c_0, e, h_0⟩ => ⟨a_0, c_0, e, (h_0.mono hk)⟩, fun ⟨a_0, c_0, e, h_0⟩ => by simp [e], fun ⟨a_0, c_0, e, h_0⟩ v hv => by rw [e] at hv; simp at hv; rcases hv with rfl | rfl | rfl | rfl | rfl <;> rfl⟩
instance : RpI 5 JH.R := ⟨JH.R_ok⟩
structure Jk where
  Ae : Str
  Af : Str
  Ag : (List Jg)
  Vary : (List Str)
  Ah : (List Str)
  TTL : Int
  Ai : Int
  Aj : Int
  Ak : Bool
  Al : Bool
def Jk.R : Rp Jk := fun K cs x => ∃ a_0 : Option Addr, ∃ c_0 : Nat, ∃ a_1 : Option Addr, ∃ c_1 : Nat, ∃ a_2 : Option Addr, ∃ c_2 : Nat, cs = [str x.Ae, str x.Af, .slice a_0 x.Ag.length c_0, .slice a_1 x.Vary.length c_1, .slice a_2 x.Ah.length c_2, .int .i64 x.TTL, .int .i64 x.Ai, .int .i64 x.Aj, .bool x.Ak, .bool x.Al] ∧ RdC Jg.enc K a_0 c_0 2 x.Ag ∧ RdC eS K a_1 c_1 1 x.Vary ∧ RdC eS K a_2 c_2 1 x.Ah
theorem Jk.R_ok : RpOK 10 Jk.R :=
  ⟨fun hk ⟨a_0, c_0, a_1, c_1, a_2, c_2, e, h_0, h_1, h_2⟩ => ⟨a_0, c_0, a_1, c_1, a_2, c_2, e, (h_0.mono hk), (h_1.mono hk), (h_2.mono hk)⟩, fun ⟨a_0, c_0, a_1, c_1, a_2, c_2, e, h_0, h_1, h_2⟩ => by simp [e], fun ⟨a_0, c_0, a_1, c_1, a_2, c_2, e, h_0, h_1, h_2⟩ v hv => by rw [e] at hv; simp at hv; rcases hv with rfl | rfl | rfl | rfl | rfl | rfl | rfl | rfl | rfl | rfl <;> rfl⟩
instance : RpI 10 Jk.R := ⟨Jk.R_ok⟩
structure JaH where
  f0 : Int
  f1 : Int
  f2 : Int
  f3 : Int
  f4 : Int
  f5 : Int
  f6 : Int
  f7 : Int
abbrev JaH.enc (x : JaH) : List Go.Value := [.int .u64 x.f0, .int .u64 x.f1, .int .u64 x.f2, .int .u64 x.f3, .int .u64 x.f4, .int .u64 x.f5, .int .u64 x.f6, .int .u64 x.f7]
structure Jl where
  Aw : Bool
  depth : Int
  Av : JaH
abbrev Jl.enc (x : Jl) : List Go.Value := [.bool x.Aw, .int .i64 x.depth, .int .u64 x.Av.f0, .int .u64 x.Av.f1, .int .u64 x.Av.f2, .int .u64 x.Av.f3, .int .u64 x.Av.f4, .int .u64 x.Av.f5, .int .u64 x.Av.f6, .int .u64 x.Av.f7]
structure Jf where
  kind : Int
  n : Int
  s : Str
  Au : Bool
abbrev Jf.enc (x : Jf) : List Go.Value := [.int .i64 x.kind, .int .i64 x.n, str x.s, .bool x.Au]
structure Jh where
  Ar : JH
  most : Int
  result : Jk
  stack : (List Jf)
  Ap : (List Jf)
structure JbF where
  An : Str
  Ae : Str
  Af : Str
  HasQuery : Bool
abbrev JbF.enc (x : JbF) : List Go.Value := [str x.An, str x.Ae, str x.Af, .bool x.HasQuery]
structure Ja where
  Ab : Int
  Ac : Str
  Aa : (List Ja)
  Ad : Int
inductive Ja.R (K : Hp) : List Value → Ja → Prop
  | mk {cs : List Value} {x : Ja} (a_0 : Option Addr) (c_0 : Nat) (e : cs = [.int .i64 x.Ab, str x.Ac, .slice a_0 x.Aa.length c_0, .int .i64 x.Ad]) (css0 : List (List Value)) (p0 : RdS K a_0 4 css0) (q0 : css0.length = x.Aa.length) (r0 : x.Aa.length ≤ c_0) (z0 : ∀ (i : Nat) (c : List Value) (y : Ja), css0[i]? = some c → x.Aa[i]? = some y → Ja.R K c y) : Ja.R K cs x
theorem Ja.out {K : Hp} {cs : List Value} {x : Ja} (h : Ja.R K cs x) : ∃ a_0 : Option Addr, ∃ c_0 : Nat, cs = [.int .i64 x.Ab, str x.Ac, .slice a_0 x.Aa.length c_0, .int .i64 x.Ad] ∧ LiC Ja.R K a_0 c_0 4 x.Aa := by
  cases h with
  | mk a_0 c_0 e css0 p0 q0 r0 z0 => exact ⟨a_0, c_0, e, ⟨⟨css0, p0, q0, z0⟩, r0⟩⟩
theorem Ja.of {K : Hp} {cs : List Value} {x : Ja} (h : ∃ a_0 : Option Addr, ∃ c_0 : Nat, cs = [.int .i64 x.Ab, str x.Ac, .slice a_0 x.Aa.length c_0, .int .i64 x.Ad] ∧ LiC Ja.R K a_0 c_0 4 x.Aa) : Ja.R K cs x := by
  obtain ⟨a_0, c_0, e, ⟨⟨aL, p0, q0, z0⟩, r0⟩⟩ := h
  exact .mk a_0 c_0 e aL p0 q0 r0 z0
theorem Ja.R_mono {K K' : Hp} (hk : K.Le K') {cs : List Value} {x : Ja} (h : Ja.R K cs x) : Ja.R K' cs x := by
  induction h with
  | mk a_0 c_0 e css0 p0 q0 r0 z0 ih0 => exact .mk a_0 c_0 e css0 (p0.mono hk) q0 r0 (ih0)
theorem Ja.R_ok : RpOK 4 Ja.R := by
  refine ⟨fun hk h => Ja.R_mono hk h, fun h => ?_, fun h v hv => ?_⟩
  · obtain ⟨a_0, c_0, e, aL⟩ := Ja.out h; simp [e]
  · obtain ⟨a_0, c_0, e, aL⟩ := Ja.out h; rw [e] at hv; simp at hv; rcases hv with rfl | rfl | rfl | rfl <;> rfl
instance : RpI 4 Ja.R := ⟨Ja.R_ok⟩
structure JG where
  Ab : Int
  Ac : Str
  Ad : Int
  Column : Int
abbrev JG.enc (x : JG) : List Go.Value := [.int .i64 x.Ab, str x.Ac, .int .i64 x.Ad, .int .i64 x.Column]
structure Jp where
  line : Int
  err : Err
abbrev Jp.enc (x : Jp) : List Go.Value := [.int .i64 x.line, qcx 87 x.err]
structure Jm where
  Name : Str
  As : Int
abbrev Jm.enc (x : Jm) : List Go.Value := [str x.Name, .int .i64 x.As]
structure Jj where
  name : Str
  slot : Int
abbrev Jj.enc (x : Jj) : List Go.Value := [str x.name, .int .i64 x.slot]
structure Jb where
  code : (List Jc)
  names : (List Jj)
  Ap : Int
def Jb.R : Rp Jb := fun K cs x => ∃ a_0 : Option Addr, ∃ c_0 : Nat, ∃ a_1 : Option Addr, ∃ c_1 : Nat, cs = [.slice a_0 x.code.length c_0, .slice a_1 x.names.length c_1, .int .i64 x.Ap] ∧ RdC Jc.enc K a_0 c_0 3 x.code ∧ RdC Jj.enc K a_1 c_1 2 x.names
theorem Jb.R_ok : RpOK 3 Jb.R :=
  ⟨fun hk ⟨a_0, c_0, a_1, c_1, e, h_0, h_1⟩ => ⟨a_0, c_0, a_1, c_1, e, (h_0.mono hk), (h_1.mono hk)⟩, fun ⟨a_0, c_0, a_1, c_1, e, h_0, h_1⟩ => by simp [e], fun ⟨a_0, c_0, a_1, c_1, e, h_0, h_1⟩ v hv => by rw [e] at hv; simp at hv; rcases hv with rfl | rfl | rfl <;> rfl⟩
instance : RpI 3 Jb.R := ⟨Jb.R_ok⟩
structure Jr where
  Ar : JH
  result : Jk
  Aq : Bool
def Jr.R : Rp Jr := fun K cs x => ∃ a_0 : Option Addr, ∃ c_0 : Nat, ∃ a_1 : Option Addr, ∃ c_1 : Nat, ∃ a_2 : Option Addr, ∃ c_2 : Nat, ∃ a_3 : Option Addr, ∃ c_3 : Nat, cs = [str x.Ar.Am, str x.Ar.An, str x.Ar.Ae, str x.Ar.Af, .slice a_0 x.Ar.Ao.length c_0, str x.result.Ae, str x.result.Af, .slice a_1 x.result.Ag.length c_1, .slice a_2 x.result.Vary.length c_2, .slice a_3 x.result.Ah.length c_3, .int .i64 x.result.TTL, .int .i64 x.result.Ai, .int .i64 x.result.Aj, .bool x.result.Ak, .bool x.result.Al, .bool x.Aq] ∧ RdC Jg.enc K a_0 c_0 2 x.Ar.Ao ∧ RdC Jg.enc K a_1 c_1 2 x.result.Ag ∧ RdC eS K a_2 c_2 1 x.result.Vary ∧ RdC eS K a_3 c_3 1 x.result.Ah
theorem Jr.R_ok : RpOK 16 Jr.R :=
  ⟨fun hk ⟨a_0, c_0, a_1, c_1, a_2, c_2, a_3, c_3, e, h_0, h_1, h_2, h_3⟩ => ⟨a_0, c_0, a_1, c_1, a_2, c_2, a_3, c_3, e, (h_0.mono hk), (h_1.mono hk), (h_2.mono hk), (h_3.mono hk)⟩, fun ⟨a_0, c_0, a_1, c_1, a_2, c_2, a_3, c_3, e, h_0, h_1, h_2, h_3⟩ => by simp [e], fun ⟨a_0, c_0, a_1, c_1, a_2, c_2, a_3, c_3, e, h_0, h_1, h_2, h_3⟩ v hv => by rw [e] at hv; simp at hv; rcases hv with rfl | rfl | rfl | rfl | rfl | rfl | rfl | rfl | rfl | rfl | rfl | rfl | rfl | rfl | rfl | rfl <;> rfl⟩
instance : RpI 16 Jr.R := ⟨Jr.R_ok⟩
structure JD where
  name : Str
  value : Jf
abbrev JD.enc (x : JD) : List Go.Value := [str x.name, .int .i64 x.value.kind, .int .i64 x.value.n, str x.value.s, .bool x.value.Au]
structure Jq where
  Ae : Str
  Af : Str
  Ag : (List Jo)
  Vary : (List Str)
  Ah : (List Str)
  TTL : Int
  Ai : Int
  Aj : Int
  Ak : Bool
  Al : Bool
def Jq.R : Rp Jq := fun K cs x => ∃ a_0 : Option Addr, ∃ c_0 : Nat, ∃ a_1 : Option Addr, ∃ c_1 : Nat, ∃ a_2 : Option Addr, ∃ c_2 : Nat, cs = [str x.Ae, str x.Af, .slice a_0 x.Ag.length c_0, .slice a_1 x.Vary.length c_1, .slice a_2 x.Ah.length c_2, .int .i64 x.TTL, .int .i64 x.Ai, .int .i64 x.Aj, .bool x.Ak, .bool x.Al] ∧ RdC Jo.enc K a_0 c_0 2 x.Ag ∧ RdC eS K a_1 c_1 1 x.Vary ∧ RdC eS K a_2 c_2 1 x.Ah
theorem Jq.R_ok : RpOK 10 Jq.R :=
  ⟨fun hk ⟨a_0, c_0, a_1, c_1, a_2, c_2, e, h_0, h_1, h_2⟩ => ⟨a_0, c_0, a_1, c_1, a_2, c_2, e, (h_0.mono hk), (h_1.mono hk), (h_2.mono hk)⟩, fun ⟨a_0, c_0, a_1, c_1, a_2, c_2, e, h_0, h_1, h_2⟩ => by simp [e], fun ⟨a_0, c_0, a_1, c_1, a_2, c_2, e, h_0, h_1, h_2⟩ v hv => by rw [e] at hv; simp at hv; rcases hv with rfl | rfl | rfl | rfl | rfl | rfl | rfl | rfl | rfl | rfl <;> rfl⟩
instance : RpI 10 Jq.R := ⟨Jq.R_ok⟩
theorem qtz : ElT Tryz.prog 38 54 3 := ElT.mk' rfl rfl rfl rfl rfl
theorem qv3 : ElT Tryz.prog 200 204 10 := ElT.mk' rfl rfl rfl rfl rfl
theorem qb5 : ElT Tryz.prog 130 5 1 := ElT.mk' rfl rfl rfl rfl rfl
theorem qv4 : ElT Tryz.prog 93 95 4 := ElT.mk' rfl rfl rfl rfl rfl
theorem qj3 : ElT Tryz.prog 31 9 1 := ElT.mk' rfl rfl rfl rfl rfl
theorem qiv : ElT Tryz.prog 30 77 2 := ElT.mk' rfl rfl rfl rfl rfl
theorem qt0 : ElT Tryz.prog 66 68 4 := ElT.mk' rfl rfl rfl rfl rfl
theorem qlc : ElT Tryz.prog 265 269 4 := ElT.mk' rfl rfl rfl rfl rfl
theorem qsp : ElT Tryz.prog 150 3 1 := ElT.mk' rfl rfl rfl rfl rfl
theorem qld : ElT Tryz.prog 195 233 2 := ElT.mk' rfl rfl rfl rfl rfl
theorem qle : ElT Tryz.prog 132 230 2 := ElT.mk' rfl rfl rfl rfl rfl
theorem qsq : ElT Tryz.prog 173 177 5 := ElT.mk' rfl rfl rfl rfl rfl
theorem qv5 : ElT Tryz.prog 23 90 2 := ElT.mk' rfl rfl rfl rfl rfl
def GG (K : Hp) : Prop := (GlL eS 1 0 Jaf K) ∧ (GlL eS 1 1 Jal K) ∧ (GlL eS 1 2 Jab K) ∧ (GlN 3 K) ∧ (GlL eS 1 4 gkw0 K) ∧ (GlA 5 (Go.Lib.pow10Tab.map fun z => Value.int .u64 z) K)
theorem GG.of {K : Hp} (h : (GlL eS 1 0 Jaf K) ∧ (GlL eS 1 1 Jal K) ∧ (GlL eS 1 2 Jab K) ∧ (GlN 3 K) ∧ (GlL eS 1 4 gkw0 K) ∧ (GlA 5 (Go.Lib.pow10Tab.map fun z => Value.int .u64 z) K)) : GG K := h
theorem GG.mono {K K' : Hp} (h : GG K) (hk : K.Le K') : GG K' := ⟨h.1.mono hk, h.2.1.mono hk, h.2.2.1.mono hk, h.2.2.2.1.mono hk, h.2.2.2.2.1.mono hk, h.2.2.2.2.2.mono hk⟩
theorem gg0 {K : Hp} (h : GG K) : GlL eS 1 0 Jaf K := h.1
theorem gg1 {K : Hp} (h : GG K) : GlL eS 1 1 Jal K := h.2.1
theorem gg2 {K : Hp} (h : GG K) : GlL eS 1 2 Jab K := h.2.2.1
theorem gg3 {K : Hp} (h : GG K) : GlN 3 K := h.2.2.2.1
theorem gg4 {K : Hp} (h : GG K) : GlL eS 1 4 gkw0 K := h.2.2.2.2.1
theorem gg5 {K : Hp} (h : GG K) : GlA 5 (Go.Lib.pow10Tab.map fun z => Value.int .u64 z) K := h.2.2.2.2.2
def JaC : List UInt8 → Nat → Str → Option (Fl (Str × Err) (Str))
  | [], _, ac => some (Fl.go ac)
  | e0 :: aM, i0, ac =>
    (if decide ((e0.toNat : Int) < 32) then some true else some (decide ((e0.toNat : Int) > 126))).bind fun aL =>
    if aL then
    some (Fl.ret (([] : Str), (some 2)))
    else
    (if decide ((e0.toNat : Int) = 34) then some true else some (decide ((e0.toNat : Int) = 92))).bind fun aN =>
    if aN then
    (chk (ac.length + ([(92 : UInt8)] : Str).length ≤ lim)).bind fun _ =>
    (chk ((ac ++ ([(92 : UInt8)] : Str)).length + ([e0] : Str).length ≤ lim)).bind fun _ =>
    JaC aM (i0 + 1) ((ac ++ ([(92 : UInt8)] : Str)) ++ ([e0] : Str))
    else
    (chk (ac.length + ([e0] : Str).length ≤ lim)).bind fun _ =>
    JaC aM (i0 + 1) (ac ++ ([e0] : Str))
def JbJ (s : Str) : Option (Str × Err) :=
  (chk (s.length ≤ qau)).bind fun _ =>
  (JaC s 0 ([(34 : UInt8)] : Str)).bind fun s0 => s0.el some fun t0 =>
  (chk (t0.length + ([(34 : UInt8)] : Str).length ≤ lim)).bind fun _ =>
  some ((t0 ++ ([(34 : UInt8)] : Str)), none)
theorem Jdn {s : Str} {K : Hp} {r : Str × Err}
    (hm : JbJ s = some r)  :
    Fn Tryz.prog 173 [str s] K [] (fun v K' H' => v = .tuple #[str r.1, qcx 87 r.2] ∧ H' = []) := by
 refine Fn.enter Tryz.func173 Tryz.call173 rfl fun F => ?_
 unfold JbJ at hm
 refine bsO (len := 1) (enc := eU) (l := ([(34 : UInt8)] : Str)) (cl := [.int .u8 34]) qb5 rfl rfl (fun _ _ => rfl) rfl rfl rfl ?_ fun b6 => ?_
 · conv => whnf
   refine cT ?_
   first | done | rfl
 refine ro (qa2 rfl ?_)
 obtain ⟨aY, hm⟩ := qa5 hm
 obtain ⟨s0, aL, hm⟩ := bnd hm
 refine lD (σ := (Str) × Option Addr × Nat) ([2,3,4,5] ++ rg 9 34) [1] (fun i0 => [(9, .int .i64 (i0 : Int))]) (fun (t0, aO, aP) => [(4, .slice aO t0.length aP)]) (fun (t0, aO, aP) => [OwnL eU aO 5 1 aP t0]) (fun (t0, aO, aP) => (0 < t0.length → Has aO) ∧ True) (fun i0 (t0, aO, aP) => JaC (s.drop i0) i0 t0 = some s0) (fun (t0, aO, aP) => s0 = Fl.go t0) (fun i0 => s.length - i0) 0 (_, _, _) aL (And.intro qe (And.intro ?_ ?_))
 clear aL
 rintro i0 ⟨ac, bm, bb⟩ ⟨aZ, _⟩ aL j0
 conv at aL => whnf
 refine qaf rfl ?_
 refine qah ?_ ?_ <;> intro w0
 obtain ⟨e0, aR, bv⟩ := ltx w0
 rw [bv, JaC.eq_2] at aL
 refine qal rfl ?_
 obtain ⟨aX, aQ, aL⟩ := bnd aL
 refine jR (σ := Bool) (rg 12 10) (fun aS => [(21, .bool aS)]) (fun aS => aS = aX) ?_ ?_
 replace aQ := bsm aQ
 refine qam rfl ?_
 refine qbb rfl (nn _) aR ?_
 obtain ⟨bC, aV, aQ⟩ := bnd aQ
 refine cS aV (fun aN aV => ?_) fun aN aV => ?_
 refine ct aN (ct aN (ct aN (ct aN ?_)))
 exact eMq aQ _ ⟨bq (si aV), trivial⟩
 refine cf aN (cf aN (qbb rfl (nn _) aR (cf aN (cf aN ?_))))
 exact eMq aQ _ ⟨bq (si aV), trivial⟩
 rintro aS rfl bw
 refine cs rfl rfl aL ?_ ?_ <;> intro bA aL
 refine qa3 rfl ?_
 exact eE (er aL hm)
 refine qam rfl ?_
 refine qbb rfl (nn _) aR (qad ?_)
 obtain ⟨bD, aT, aL⟩ := bnd aL
 refine cS aT (fun aM aT => ?_) fun aM aT => ?_
 refine ct aM (ct aM (ct aM (ct aM (qaf rfl (cT ?_)))))
 replace aL := ift (si aT).symm aL
 refine bsO (len := 1) (enc := eU) (l := ([(92 : UInt8)] : Str)) (cl := [.int .u8 92]) qb5 rfl rfl (fun _ _ => rfl) rfl rfl rfl ?_ fun bu => ?_
 · conv => whnf
   refine cT ?_
   first | done | rfl
 obtain ⟨aW, aL⟩ := qa5 aL
 refine apE rfl r1 qb5 (qa6 rfl r0 rfl (fun _ => rfl) (fun _ => rfl)) aW ?_
 intro bt bo bp
 refine qbb rfl (nn _) aR ?_
 refine bsO (len := 1) (enc := eU) (l := ([e0] : Str)) (cl := [.int .u8 (e0.toNat : Int)]) qb5 rfl rfl (fun _ _ => rfl) rfl rfl rfl ?_ fun bh => ?_
 · conv => whnf
   refine cT ?_
   first | done | rfl
 obtain ⟨aU, aL⟩ := qa5 aL
 refine apE rfl r1 qb5 (qa6 rfl r0 rfl (fun _ => rfl) (fun _ => rfl)) aU ?_
 intro ba bf bj
 refine qat (qcn aR aY) ?_
 exact eR aL (_, _, _, _)
 refine cf aM (cf aM (qbb rfl (nn _) aR (cf aM (qad (cf aM (qaf rfl ?_))))))
 refine qah ?_ ?_ <;> intro bg
 replace aL := ift ((si aT).symm.trans bg) aL
 refine bsO (len := 1) (enc := eU) (l := ([(92 : UInt8)] : Str)) (cl := [.int .u8 92]) qb5 rfl rfl (fun _ _ => rfl) rfl rfl rfl ?_ fun bu => ?_
 · conv => whnf
   refine cT ?_
   first | done | rfl
 obtain ⟨aW, aL⟩ := qa5 aL
 refine apE rfl r1 qb5 (qa6 rfl r0 rfl (fun _ => rfl) (fun _ => rfl)) aW ?_
 intro bt bo bp
 refine qbb rfl (nn _) aR ?_
 refine bsO (len := 1) (enc := eU) (l := ([e0] : Str)) (cl := [.int .u8 (e0.toNat : Int)]) qb5 rfl rfl (fun _ _ => rfl) rfl rfl rfl ?_ fun bh => ?_
 · conv => whnf
   refine cT ?_
   first | done | rfl
 obtain ⟨aU, aL⟩ := qa5 aL
 refine apE rfl r1 qb5 (qa6 rfl r0 rfl (fun _ => rfl) (fun _ => rfl)) aU ?_
 intro ba bf bj
 refine qat (qcn aR aY) ?_
 exact eR aL (_, _, _, _)
 replace aL := qbs ((si aT).symm.trans bg) aL
 refine qbb rfl (nn _) aR ?_
 refine bsO (len := 1) (enc := eU) (l := ([e0] : Str)) (cl := [.int .u8 (e0.toNat : Int)]) qb5 rfl rfl (fun _ _ => rfl) rfl rfl rfl ?_ fun bh => ?_
 · conv => whnf
   refine cT ?_
   first | done | rfl
 obtain ⟨aU, aL⟩ := qa5 aL
 refine apE rfl r1 qb5 (qa6 rfl r0 rfl (fun _ => rfl) (fun _ => rfl)) aU ?_
 intro ba bf bj
 refine qat (qcn aR aY) ?_
 exact eR aL (_, _, _, _)
 rw [lty w0, JaC.eq_1] at aL
 refine cT ?_
 exact eM aL (_, _, _)
 rintro ⟨t0, aO, aP⟩ ⟨a8, _⟩ rfl j0
 replace hm := elg hm
 refine bsO (len := 1) (enc := eU) (l := ([(34 : UInt8)] : Str)) (cl := [.int .u8 34]) qb5 rfl rfl (fun _ _ => rfl) rfl rfl rfl ?_ fun bB => ?_
 · conv => whnf
   refine cT ?_
   first | done | rfl
 obtain ⟨bn, hm⟩ := qa5 hm
 refine apE rfl r1 qb5 (qa6 rfl r0 rfl (fun _ => rfl) (fun _ => rfl)) bn ?_
 intro bz bG bF
 refine ro (qib rfl r0 rfl rfl rfl ?_)
 exact eE hm

def JaS (s : Str) : Option (Bool) :=
  (JbJ s).bind fun x7 =>
  some x7.2.isNone
theorem JbT {s : Str} {K : Hp} {r : Bool}
    (hm : JaS s = some r)  :
    Fn Tryz.prog 140 [str s] K [] (fun v K' H' => v = .bool r ∧ H' = []) := by
 refine Fn.enter Tryz.func140 Tryz.call140 rfl fun F => ?_
 unfold JaS at hm
 refine cb hm fun x7 q7 hm => cg0 (Jdn q7 :) ?_
 refine qgl rfl ?_
 exact eE hm

def J4 (v' : Str) : List Str → Nat → Option (Fl (Int) (Unit))
  | [], _ => some (Fl.go ())
  | e0 :: aL, i0 =>
    if decide (v' = e0) then
    some (Fl.ret (i0 : Int))
    else
    J4 v' aL (i0 + 1)
def Jbp (s : (List Str)) (v' : Str) : Option (Int) :=
  (chk (s.length ≤ qau)).bind fun _ =>
  (J4 v' s 0).bind fun s0 => s0.el some fun t0 =>
  some (-1)
theorem Jds {s : (List Str)} {v' : Str} {aa : Option Addr} {ab : Nat} {n0 : Nat} {K : Hp} {r : Int}
    (hm : Jbp s v' = some r) (hX : RdC eS K aa ab 1 s ∧ n0 = s.length) :
    Fn Tryz.prog 149 [.slice aa n0 ab, str v'] K [] (fun v K' H' => v = .int .i64 r ∧ H' = []) := by
 obtain ⟨ae, aN⟩ := hX
 subst aN
 refine Fn.enter Tryz.func149 Tryz.call149 rfl fun F => ?_
 unfold Jbp at hm
 refine ro (qai rfl ?_)
 obtain ⟨aO, hm⟩ := qa5 hm
 obtain ⟨s0, aL, hm⟩ := bnd hm
 refine lD (σ := (Unit)) ([4,5] ++ rg 8 11) [0] (fun i0 => [(8, .int .i64 (i0 : Int))]) (fun _ => []) (fun _ => []) (fun _ => True) (fun i0 _ => J4 v' (s.drop i0) i0 = some s0) (fun t0 => s0 = Fl.go t0) (fun i0 => s.length - i0) 0 () aL (And.intro qe (And.intro ?_ ?_))
 clear aL
 rintro i0 _ _ aL j0
 conv at aL => whnf
 refine qaf rfl ?_
 refine qah ?_ ?_ <;> intro w0
 obtain ⟨e0, aM, aP⟩ := ltx w0
 rw [aP, J4.eq_2] at aL
 refine qal rfl ?_
 refine RStep.ofN (qac rfl rfl (qdm ae.rd aM) (nn _) (qbr aM) (ro (qca i0 0 _ _ ae.rd rfl (mp aM) rfl rfl (qas ?_))))
 refine cs rfl rfl aL ?_ ?_ <;> intro aQ aL
 exact eE (er aL hm)
 refine qat (qcn aM aO) ?_
 exact eR aL (_, ())
 rw [lty w0, J4.eq_1] at aL
 refine cT ?_
 exact eM aL _
 rintro t0 _ rfl j0
 replace hm := elg hm
 exact eE hm

def JM (s : (List Str)) (v' : Str) : Option (Bool) :=
  (Jbp s v').bind fun x7 =>
  some (decide (x7 ≥ 0))
theorem Jan {s : (List Str)} {v' : Str} {aa : Option Addr} {ab : Nat} {n0 : Nat} {K : Hp} {r : Bool}
    (hm : JM s v' = some r) (hX : RdC eS K aa ab 1 s ∧ n0 = s.length) :
    Fn Tryz.prog 113 [.slice aa n0 ab, str v'] K [] (fun v K' H' => v = .bool r ∧ H' = []) := by
 obtain ⟨ae, aL⟩ := hX
 subst aL
 refine Fn.enter Tryz.func113 Tryz.call113 rfl fun F => ?_
 unfold JM at hm
 refine cb hm fun x7 q7 hm => cgx (Jds q7 :) ?_
 exact eE hm

def J8 (s : Str) (prefixZ : Str) : Option (Bool) :=
  (if decide ((s.length : Int) ≥ (prefixZ.length : Int)) then (chk (0 ≤ (0 : Int) ∧ (0 : Int) ≤ (prefixZ.length : Int) ∧ (prefixZ.length : Int) ≤ (s.length : Int))).bind fun _ =>
  some (decide ((subL s (0 : Int) (prefixZ.length : Int)) = prefixZ)) else some false).bind fun aL =>
  some aL
theorem Jbv {s : Str} {prefixZ : Str} {K : Hp} {r : Bool}
    (hm : J8 s prefixZ = some r)  :
    Fn Tryz.prog 112 [str s, str prefixZ] K [] (fun v K' H' => v = .bool r ∧ H' = []) := by
 refine Fn.enter Tryz.func112 Tryz.call112 rfl fun F => ?_
 unfold J8 at hm
 refine qam rfl ?_
 refine ro (qa2 rfl (ro (qa2 rfl ?_)))
 obtain ⟨aO, aM, hm⟩ := bnd hm
 refine cS aM (fun aL aM => ?_) fun aL aM => ?_
 refine ct aL (ct aL (ro (qa2 rfl (ct aL ?_))))
 obtain ⟨aN, aM⟩ := qa5 aM
 refine RStep.ofN (qgn (lo := none) (hi := (some (prefixZ.length : Int))) rfl aN (ct aL (ct aL (qas (ct aL ?_)))))
 exact bE (si aM) (eE hm)
 refine cf aL (cf aL (cf aL (cf aL (cf aL (cf aL ?_)))))
 exact bE (si aM) (eE hm)

def JaJ (s : Str) (prefixZ : Str) : Option (Str × Bool) :=
  (J8 s prefixZ).bind fun x8 =>
  if (!x8) then
  some (s, false)
  else
  (chk (0 ≤ (prefixZ.length : Int) ∧ (prefixZ.length : Int) ≤ (s.length : Int) ∧ (s.length : Int) ≤ (s.length : Int))).bind fun _ =>
  some ((subL s (prefixZ.length : Int) (s.length : Int)), true)
theorem Jcg {s : Str} {prefixZ : Str} {K : Hp} {r : Str × Bool}
    (hm : JaJ s prefixZ = some r)  :
    Fn Tryz.prog 200 [str s, str prefixZ] K [] (fun v K' H' => v = .tuple #[str r.1, .bool r.2] ∧ H' = []) := by
 refine Fn.enter Tryz.func200 Tryz.call200 rfl fun F => ?_
 unfold JaJ at hm
 refine cb hm fun x8 q8 hm => cg0 (Jbv q8 :) ?_
 refine qaz ?_
 refine cs rfl rfl hm ?_ ?_ <;> intro w9 hm
 exact eE hm
 refine ro (qa2 rfl ?_)
 obtain ⟨aL, hm⟩ := qa5 hm
 refine RStep.ofN (qgn (lo := (some (prefixZ.length : Int))) (hi := none) rfl aL ?_)
 exact eE hm

def Jbm (s : Str) (prefixZ : Str) : Option (Str × Bool) :=
  (JaJ s prefixZ).bind fun x8 =>
  some (x8.1, x8.2)
theorem JcC {s : Str} {prefixZ : Str} {K : Hp} {r : Str × Bool}
    (hm : Jbm s prefixZ = some r)  :
    Fn Tryz.prog 174 [str s, str prefixZ] K [] (fun v K' H' => v = .tuple #[str r.1, .bool r.2] ∧ H' = []) := by
 refine Fn.enter Tryz.func174 Tryz.call174 rfl fun F => ?_
 unfold Jbm at hm
 refine cb hm fun x8 q8 hm => cg0 (Jcg q8 :) ?_
 exact eE hm

def Jcw (s : Str) : Option (Int × Bool) :=
  if decide (s = ([112, 97, 116, 104] : Str)) then
  some (1, true)
  else
  if decide (s = ([113, 117, 101, 114, 121] : Str)) then
  some (1, true)
  else
  if decide (s = ([116, 97, 103] : Str)) then
  some (1, true)
  else
  if decide (s = ([116, 116, 108] : Str)) then
  some (1, true)
  else
  if decide (s = ([100, 101, 110, 121] : Str)) then
  some (1, true)
  else
  if decide (s = ([112, 97, 115, 115] : Str)) then
  some (0, true)
  else
  if decide (s = ([116, 111, 107, 101, 110] : Str)) then
  some (0, true)
  else
  (Jbm s ([104, 101, 97, 100, 101, 114, 58] : Str)).bind fun aL =>
  if aL.2 then
  (JaS aL.1).bind fun aN =>
  some (1, aN)
  else
  (Jbm s ([118, 97, 114, 121, 58] : Str)).bind fun aM =>
  (if aM.2 then (JaS aM.1).bind fun aO =>
  some aO else some false).bind fun aP =>
  some (0, aP)
theorem JeI {s : Str} {K : Hp} {r : Int × Bool}
    (hm : Jcw s = some r)  :
    Fn Tryz.prog 141 [str s] K [] (fun v K' H' => v = .tuple #[.int .i64 r.1, .bool r.2] ∧ H' = []) := by
 refine Fn.enter Tryz.func141 Tryz.call141 rfl fun F => ?_
 unfold Jcw at hm
 refine qal rfl ?_
 refine qas (cs rfl rfl hm ?_ ?_) <;> intro w9 hm
 refine qaf rfl (ct w9 ?_)
 exact eE hm
 refine qas (cs rfl rfl hm ?_ ?_) <;> intro w9 hm
 refine qaf rfl (ct w9 ?_)
 exact eE hm
 refine qas (cs rfl rfl hm ?_ ?_) <;> intro w9 hm
 refine qaf rfl (ct w9 ?_)
 exact eE hm
 refine qas (cs rfl rfl hm ?_ ?_) <;> intro w9 hm
 refine qaf rfl (ct w9 ?_)
 exact eE hm
 refine qas (cs rfl rfl hm ?_ ?_) <;> intro w9 hm
 exact eE hm
 refine qas (cs rfl rfl hm ?_ ?_) <;> intro aN hm
 refine qaf rfl (ct aN ?_)
 exact eE hm
 refine qas (cs rfl rfl hm ?_ ?_) <;> intro aN hm
 exact eE hm
 refine cb hm fun aS aO hm => cg0 (JcC aO :) ?_
 refine cs rfl rfl hm ?_ ?_ <;> intro aT hm
 refine cb hm fun aU aP hm => cg0 (JbT aP :) ?_
 exact eE hm
 refine cb hm fun aX aQ hm => cg0 (JcC aQ :) ?_
 refine qam rfl ?_
 obtain ⟨aW, aM, hm⟩ := bnd hm
 refine cS aM (fun aL aM => ?_) fun aL aM => ?_
 refine ct aL ?_
 refine cb aM fun aV aR aM => cg0 (JbT aR :) ?_
 refine ct aL ?_
 cases hm
 exact en lr ⟨(by rw [← (si aM)] <;> rfl), rfl⟩ (pf rfl)
 refine cf aL (cf aL ?_)
 cases hm
 exact en lr ⟨(by rw [← ((si aM).symm).symm] <;> rfl), rfl⟩ (pf rfl)

def Jb6 (x : Jc) : Option (Int × Int × Bool) :=
  if decide (x.Op = 1) then
  some (0, 1, ((decide (x.S = ([] : Str)) && decide (x.N ≥ 0)) && decide (x.N ≤ 999999999)))
  else
  if decide (x.Op = 2) then
  (if decide (x.N = 0) then (JaS x.S).bind fun aO =>
  some aO else some false).bind fun aP =>
  some (0, 1, aP)
  else
  if decide (x.Op = 3) then
  some (0, 1, ((decide (x.S = ([] : Str)) && decide (x.N ≥ 0)) && decide (x.N ≤ 511)))
  else
  if decide (x.Op = 4) then
  some (1, 0, ((decide (x.S = ([] : Str)) && decide (x.N ≥ 0)) && decide (x.N ≤ 511)))
  else
  if decide (x.Op = 5) then
  (if decide (x.N = 0) then (JM Jaf x.S).bind fun aS =>
  some aS else some false).bind fun aN =>
  some (0, 1, aN)
  else
  if decide (x.Op = 6) then
  (if decide (x.N = 0) then (JM Jal x.S).bind fun aT =>
  some aT else some false).bind fun aR =>
  some (1, 1, aR)
  else
  if decide (x.Op = 7) then
  (if decide (x.N = 0) then (JM Jab x.S).bind fun aQ =>
  some aQ else some false).bind fun aM =>
  some (2, 1, aM)
  else
  if decide (x.Op = 8) then
  some (1, 1, (decide (x.N = 0) && decide (x.S = ([] : Str))))
  else
  if decide (x.Op = 9) then
  some (0, 0, decide (x.S = ([] : Str)))
  else
  if decide (x.Op = 10) then
  some (1, 0, decide (x.S = ([] : Str)))
  else
  if decide (x.Op = 11) then
  (Jcw x.S).bind fun aL =>
  some (aL.1, 0, (decide (x.N = 0) && aL.2))
  else
  if decide (x.Op = 12) then
  some (0, 0, (decide (x.N = 0) && decide (x.S = ([] : Str))))
  else
  some (0, 0, false)
theorem Jeh {x : Jc} {K : Hp} {r : Int × Int × Bool}
    (hm : Jb6 x = some r) (hG : GG K) :
    Fn Tryz.prog 100 [.agg #[.int .i64 x.Op, .int .i64 x.N, str x.S]] K [] (fun v K' H' => v = .tuple #[.int .i64 r.1, .int .i64 r.2.1, .bool r.2.2] ∧ H' = []) := by
 obtain ⟨bH, bN, bV, gn_, bn, bG⟩ := gg0 hG
 subst gn_
 obtain ⟨bT, bX, bC, gn_, a8, bu⟩ := gg1 hG
 subst gn_
 obtain ⟨ca, bO, bM, gn_, bg, bW⟩ := gg2 hG
 subst gn_
 refine Fn.enter Tryz.func100 Tryz.call100 rfl fun F => ?_
 unfold Jb6 at hm
 refine qap ?_
 intro b1
 refine fa rfl (ro (ld r0 rfl rfl (qad (fa rfl (ro (ld r0 rfl rfl (qas ?_)))))))
 refine jR (σ := Unit) ([7] ++ rg 14 11) (fun _ => [(7, .bool ((decide (x.S = ([] : Str)) && decide (x.N ≥ 0)) && decide (x.N ≤ 511)))]) (fun bh => True) ?_ ?_
 refine qam rfl ?_
 refine qah ?_ ?_ <;> intro aP
 refine fa rfl (ct aP (ro (ld r0 rfl rfl (ct aP (ct aP ?_)))))
 refine qah ?_ ?_ <;> intro aQ
 refine fa rfl (ct aQ (ro (ld r0 rfl rfl (ct aQ (ct aQ ?_)))))
 exact eMt () ⟨bq (qd3 (b := decide (x.N ≤ 511)) (qb8 aP aQ)), trivial⟩
 refine cf aQ (cf aQ (cf aQ ?_))
 exact eMt () ⟨bq (((qa1 (qcw aP aQ))).symm), trivial⟩
 refine cf aP (cf aP (cf aP (cF (cF (cF (cF ?_))))))
 exact eMt () ⟨bq (((qa1 (qa1 aP))).symm), trivial⟩
 rintro _ _ bt
 refine fa rfl (ro (ld r0 rfl rfl ?_))
 refine qal rfl ?_
 refine qad (cs rfl rfl hm ?_ ?_) <;> intro bB hm
 refine qa4 ⟨⟨[], false⟩, _, [(_, _)], []⟩ (by kernel_rfl) ⟨Hp.Le.refl _, (pf rfl), ci0⟩ ?_
 refine qah ?_ ?_ <;> intro aO
 refine fa rfl (ct aO (qao m0 rfl rfl (ct aO (ct aO ?_))))
 refine qah ?_ ?_ <;> intro aR
 refine fa rfl (ct aR (qao m0 rfl rfl (ct aR (ct aR ?_))))
 cases hm
 exact en lr ⟨(by rw [← (qd3 (b := decide (x.N ≤ 999999999)) (qb8 aO aR))] <;> rfl), rfl⟩ (sc [1] rfl)
 refine cf aR (cf aR (cf aR ?_))
 cases hm
 exact en lr ⟨(by rw [← ((qa1 (qcw aO aR))).symm] <;> rfl), rfl⟩ (sc [1] rfl)
 refine cf aO (cf aO (cf aO (cF (cF (cF (cF ?_))))))
 cases hm
 exact en lr ⟨(by rw [← ((qa1 (qa1 aO))).symm] <;> rfl), rfl⟩ (sc [1] rfl)
 refine qad (cs rfl rfl hm ?_ ?_) <;> intro bK hm
 refine qam rfl ?_
 obtain ⟨bI, aX, hm⟩ := bnd hm
 refine cS aX (fun aU aX => ?_) fun aU aX => ?_
 refine fa rfl (ct aU (ro (ld r0 rfl rfl (ct aU ?_))))
 refine cb aX fun bA bb aX => cg0 (JbT bb :) ?_
 refine ct aU ?_
 cases hm
 exact en lr ⟨(by rw [← (si aX)] <;> rfl), rfl⟩ (sc [1] rfl)
 refine cf aU (cf aU (cf aU ?_))
 cases hm
 exact en lr ⟨(by rw [← ((si aX).symm).symm] <;> rfl), rfl⟩ (sc [1] rfl)
 refine qad (cs rfl rfl hm ?_ ?_) <;> intro bz hm
 exact eE hm
 refine qad (cs rfl rfl hm ?_ ?_) <;> intro cd hm
 exact eE hm
 refine qad (cs rfl rfl hm ?_ ?_) <;> intro bP hm
 refine qam rfl ?_
 obtain ⟨bY, aZ, hm⟩ := bnd hm
 refine cS aZ (fun aM aZ => ?_) fun aM aZ => ?_
 refine ro (qlp bn rfl (ct aM (fa rfl (ct aM (ro (ld r0 rfl rfl (ct aM ?_)))))))
 refine cb aZ fun bL bo aZ => cgx (Jan bo :) ?_
 refine ct aM ?_
 cases hm
 exact en lr ⟨(by rw [← (si aZ)] <;> rfl), rfl⟩ (sc [1] rfl)
 refine cf aM (cf aM (cf aM (cf aM ?_)))
 cases hm
 exact en lr ⟨(by rw [← ((si aZ).symm).symm] <;> rfl), rfl⟩ (sc [1] rfl)
 refine qad (cs rfl rfl hm ?_ ?_) <;> intro bZ hm
 refine qam rfl ?_
 obtain ⟨bD, aY, hm⟩ := bnd hm
 refine cS aY (fun aL aY => ?_) fun aL aY => ?_
 refine ro (qlp a8 rfl (ct aL (fa rfl (ct aL (ro (ld r0 rfl rfl (ct aL ?_)))))))
 refine cb aY fun bF bf aY => cgx (Jan bf :) ?_
 refine ct aL ?_
 cases hm
 exact en lr ⟨(by rw [← (si aY)] <;> rfl), rfl⟩ (sc [1] rfl)
 refine cf aL (cf aL (cf aL (cf aL ?_)))
 cases hm
 exact en lr ⟨(by rw [← ((si aY).symm).symm] <;> rfl), rfl⟩ (sc [1] rfl)
 refine qad (cs rfl rfl hm ?_ ?_) <;> intro bQ hm
 refine qam rfl ?_
 obtain ⟨bU, aW, hm⟩ := bnd hm
 refine cS aW (fun aN aW => ?_) fun aN aW => ?_
 refine ro (qlp bg rfl (ct aN (fa rfl (ct aN (ro (ld r0 rfl rfl (ct aN ?_)))))))
 refine cb aW fun bJ bp aW => cgx (Jan bp :) ?_
 refine ct aN ?_
 cases hm
 exact en lr ⟨(by rw [← (si aW)] <;> rfl), rfl⟩ (sc [1] rfl)
 refine cf aN (cf aN (cf aN (cf aN ?_)))
 cases hm
 exact en lr ⟨(by rw [← ((si aW).symm).symm] <;> rfl), rfl⟩ (sc [1] rfl)
 refine qad (cs rfl rfl hm ?_ ?_) <;> intro bv hm
 refine qam rfl ?_
 refine qah ?_ ?_ <;> intro aV
 refine ct aV ?_
 cases hm
 exact en lr ⟨(by rw [← (qd3 (b := decide (x.S = ([] : Str))) aV)] <;> rfl), rfl⟩ (sc [1] rfl)
 refine cf aV ?_
 cases hm
 exact en lr ⟨(by rw [← ((qa1 aV)).symm] <;> rfl), rfl⟩ (sc [1] rfl)
 refine qad (cs rfl rfl hm ?_ ?_) <;> intro bR hm
 exact eE hm
 refine qad (cs rfl rfl hm ?_ ?_) <;> intro bw hm
 exact eE hm
 refine qad (cs rfl rfl hm ?_ ?_) <;> intro bS hm
 refine fa rfl (ro (ld r0 rfl rfl ?_))
 refine cb hm fun ba bj hm => cg0 (JeI bj :) ?_
 refine qam rfl ?_
 refine qah ?_ ?_ <;> intro aS
 refine ct aS ?_
 cases hm
 exact en lr ⟨(by rw [← (qd3 (b := ba.2) aS)] <;> rfl), rfl⟩ (sc [1] rfl)
 refine cf aS ?_
 cases hm
 exact en lr ⟨(by rw [← ((qa1 aS)).symm] <;> rfl), rfl⟩ (sc [1] rfl)
 refine qad (cs rfl rfl hm ?_ ?_) <;> intro bm hm
 refine qam rfl ?_
 refine qah ?_ ?_ <;> intro aT
 refine ct aT ?_
 cases hm
 exact en lr ⟨(by rw [← (qd3 (b := decide (x.S = ([] : Str))) aT)] <;> rfl), rfl⟩ (sc [1] rfl)
 refine cf aT ?_
 cases hm
 exact en lr ⟨(by rw [← ((qa1 aT)).symm] <;> rfl), rfl⟩ (sc [1] rfl)
 exact eE hm

def Jba (s : Jl) (slot : Int) : Option (Bool) :=
  (chk ((64 : Int) ≠ 0 ∧ InI (Int.tdiv slot 64))).bind fun _ =>
  (chk (0 ≤ (Int.tdiv slot 64) ∧ (Int.tdiv slot 64) < 8)).bind fun _ =>
  (chk (0 ≤ (Int.tmod slot 64))).bind fun _ =>
  some (decide ((u64and (u64shr (List.getD [s.Av.f0, s.Av.f1, s.Av.f2, s.Av.f3, s.Av.f4, s.Av.f5, s.Av.f6, s.Av.f7] (Int.toNat (Int.tdiv slot 64)) 0) (Int.tmod slot 64)) 1) = 1))
theorem Jdv {s : Jl} {slot : Int} {K : Hp} {r : Bool}
    (hm : Jba s slot = some r)  :
    Fn Tryz.prog 101 [.agg #[.bool s.Aw, .int .i64 s.depth, .int .u64 s.Av.f0, .int .u64 s.Av.f1, .int .u64 s.Av.f2, .int .u64 s.Av.f3, .int .u64 s.Av.f4, .int .u64 s.Av.f5, .int .u64 s.Av.f6, .int .u64 s.Av.f7], .int .i64 slot] K [] (fun v K' H' => v = .bool r ∧ H' = []) := by
 refine Fn.enter Tryz.func101 Tryz.call101 rfl fun F => ?_
 unfold Jba at hm
 refine qap ?_
 intro b2
 obtain ⟨h6, hm⟩ := qa5 hm
 refine qob h6.1 h6.2 (fa rfl ?_)
 obtain ⟨h8, hm⟩ := qa5 hm
 refine RStep.ofN (qbp (sz := 1) rfl rfl h8.1 h8.2 (ro (qs4 (L := [s.Av.f0, s.Av.f1, s.Av.f2, s.Av.f3, s.Av.f4, s.Av.f5, s.Av.f6, s.Av.f7]) (pre := [.bool s.Aw, .int .i64 s.depth]) (post := []) r0 rfl (by simp) rfl h8.1 h8.2 (quc (by decide) ?_))))
 obtain ⟨aL, hm⟩ := qa5 hm
 refine qum aL ?_
 refine qkl ?_
 refine qad ?_
 exact eE hm

def Ja0 (t : Jl) : Nat → Nat → Int → Int → Int → Int → Int → Int → Int → Int → Option (Int × Int × Int × Int × Int × Int × Int × Int)
  | 0, _, ac, aP, aO, aQ, aM, aS, aN, aR => some (ac, aP, aO, aQ, aM, aS, aN, aR)
  | aT + 1, i0, ac, aP, aO, aQ, aM, aS, aN, aR =>
    (chk (0 ≤ (i0 : Int) ∧ (i0 : Int) < 8)).bind fun _ =>
    (chk (0 ≤ (i0 : Int) ∧ (i0 : Int) < 8)).bind fun _ =>
    (chk (0 ≤ (i0 : Int) ∧ (i0 : Int) < 8)).bind fun _ =>
    (some (List.set [ac, aP, aO, aQ, aM, aS, aN, aR] (Int.toNat (i0 : Int)) (u64and (List.getD [ac, aP, aO, aQ, aM, aS, aN, aR] (Int.toNat (i0 : Int)) 0) (List.getD [t.Av.f0, t.Av.f1, t.Av.f2, t.Av.f3, t.Av.f4, t.Av.f5, t.Av.f6, t.Av.f7] (Int.toNat (i0 : Int)) 0)))).bind fun aL =>
    Ja0 t aT (i0 + 1) (List.getD aL 0 0) (List.getD aL 1 0) (List.getD aL 2 0) (List.getD aL 3 0) (List.getD aL 4 0) (List.getD aL 5 0) (List.getD aL 6 0) (List.getD aL 7 0)
def JcH (s : Jl) (t : Jl) : Option (Bool × Jl) :=
  if (!s.Aw) then
  some (true, t)
  else
  (chk (InI (8 : Int))).bind fun _ =>
  (Ja0 t (8 : Int).toNat 0 s.Av.f0 s.Av.f1 s.Av.f2 s.Av.f3 s.Av.f4 s.Av.f5 s.Av.f6 s.Av.f7).bind fun t0 =>
  some (decide (s.depth = t.depth), (⟨s.Aw, s.depth, (⟨t0.1, t0.2.1, t0.2.2.1, t0.2.2.2.1, t0.2.2.2.2.1, t0.2.2.2.2.2.1, t0.2.2.2.2.2.2.1, t0.2.2.2.2.2.2.2⟩ : JaH)⟩ : Jl))
theorem Jfd {s : Jl} {t : Jl} {b0 : Nat} {K : Hp} {r : Bool × Jl}
    (hm : JcH s t = some r)  :
    Fn Tryz.prog 102 [.pointer (some ⟨b0, 0, none⟩), .agg #[.bool t.Aw, .int .i64 t.depth, .int .u64 t.Av.f0, .int .u64 t.Av.f1, .int .u64 t.Av.f2, .int .u64 t.Av.f3, .int .u64 t.Av.f4, .int .u64 t.Av.f5, .int .u64 t.Av.f6, .int .u64 t.Av.f7]] K [Cells b0 204 [.bool s.Aw, .int .i64 s.depth, .int .u64 s.Av.f0, .int .u64 s.Av.f1, .int .u64 s.Av.f2, .int .u64 s.Av.f3, .int .u64 s.Av.f4, .int .u64 s.Av.f5, .int .u64 s.Av.f6, .int .u64 s.Av.f7]] (fun v K' H' => v = .bool r.1 ∧ H' = [Cells b0 204 [.bool r.2.Aw, .int .i64 r.2.depth, .int .u64 r.2.Av.f0, .int .u64 r.2.Av.f1, .int .u64 r.2.Av.f2, .int .u64 r.2.Av.f3, .int .u64 r.2.Av.f4, .int .u64 r.2.Av.f5, .int .u64 r.2.Av.f6, .int .u64 r.2.Av.f7]]) := by
 refine Fn.enter Tryz.func102 Tryz.call102 rfl fun F => ?_
 unfold JcH at hm
 refine qap ?_
 intro b3
 refine qae (fa rfl (ro (ld r1 rfl rfl (qaz ?_))))
 refine cs rfl rfl hm ?_ ?_ <;> intro a8 hm
 refine ro (qag r0 rfl (nl rfl) (qae ?_))
 refine qab r1 rfl ⟨rfl, rfl, (nl rfl), ?_⟩
 exact eE hm
 obtain ⟨aZ, hm⟩ := qa5 hm
 obtain ⟨s0, aM, hm⟩ := bnd hm
 refine lD (σ := (Int × Int × Int × Int × Int × Int × Int × Int)) ([5] ++ rg 14 18) [0, 2] (fun i0 => [(14, .int .i64 (i0 : Int))]) (fun _ => []) (fun t0 => [Cells b0 204 [.bool s.Aw, .int .i64 s.depth, .int .u64 t0.1, .int .u64 t0.2.1, .int .u64 t0.2.2.1, .int .u64 t0.2.2.2.1, .int .u64 t0.2.2.2.2.1, .int .u64 t0.2.2.2.2.2.1, .int .u64 t0.2.2.2.2.2.2.1, .int .u64 t0.2.2.2.2.2.2.2]]) (fun _ => True) (fun i0 t0 => Ja0 t ((8 : Int).toNat - i0) i0 t0.1 t0.2.1 t0.2.2.1 t0.2.2.2.1 t0.2.2.2.2.1 t0.2.2.2.2.2.1 t0.2.2.2.2.2.2.1 t0.2.2.2.2.2.2.2 = some s0) (fun t0 => t0 = s0) (fun i0 => (8 : Int).toNat - i0) 0 (_, _, _, _, _, _, _, _) aM (And.intro qe (And.intro ?_ ?_))
 clear aM
 rintro i0 ⟨ac, aR, aV, aS, aP, aU, aQ, aT⟩ _ aM j0
 dsimp only at aM ⊢
 refine qaf rfl ?_
 refine qah ?_ ?_ <;> intro w0
 rw [ltn (n := (8 : Int)) w0, Ja0.eq_2] at aM
 refine qal rfl ?_
 refine qbg ⟨⟨[], false⟩, _, [(_, _), (_, _)], []⟩ 13 rfl (by kernel_rfl) ⟨Hp.Le.refl _, (pf rfl), ci0⟩ ?_
 refine qae (fa rfl ?_)
 obtain ⟨aW, aM⟩ := qa5 aM
 refine qbp (sz := 1) rfl rfl aW.1 aW.2 ?_
 refine qfz (L := [ac, aR, aV, aS, aP, aU, aQ, aT]) (pre := [.bool s.Aw, .int .i64 s.depth]) (post := []) m0 rfl (by simp) rfl aW.1 aW.2 ?_
 refine fa rfl ?_
 obtain ⟨aX, aM⟩ := qa5 aM
 refine qbp (sz := 1) rfl rfl aX.1 aX.2 ?_
 refine qfz (L := [t.Av.f0, t.Av.f1, t.Av.f2, t.Av.f3, t.Av.f4, t.Av.f5, t.Av.f6, t.Av.f7]) (pre := [.bool t.Aw, .int .i64 t.depth]) (post := []) m1 rfl (by simp) rfl aX.1 aX.2 ?_
 refine qkl ?_
 refine qae (fa rfl ?_)
 obtain ⟨aY, aM⟩ := qa5 aM
 refine qbp (sz := 1) rfl rfl aY.1 aY.2 ?_
 obtain ⟨aL, aN, aM⟩ := bnd aM
 replace aN := Option.some.inj aN
 have aO : aL.length = 8 := by rw [← aN]; simp
 refine qoq (L := [ac, aR, aV, aS, aP, aU, aQ, aT]) (pre := [.bool s.Aw, .int .i64 s.depth]) (post := []) (cs' := [.bool s.Aw, .int .i64 s.depth, .int .u64 (List.getD aL 0 0), .int .u64 (List.getD aL 1 0), .int .u64 (List.getD aL 2 0), .int .u64 (List.getD aL 3 0), .int .u64 (List.getD aL 4 0), .int .u64 (List.getD aL 5 0), .int .u64 (List.getD aL 6 0), .int .u64 (List.getD aL 7 0)]) r0 rfl (by simp) rfl aY.1 aY.2 aN (by rw [qyk aO]; rfl) ?_
 refine ⟨⟨Hp.emp_le _, (pf rfl), ci0⟩, ?_⟩
 refine qat (qq3 w0 aZ) ?_
 exact eR aM (_, (_, _, _, _, _, _, _, _))
 rw [lto (n := (8 : Int)) w0, Ja0.eq_1] at aM
 refine cT ?_
 exact eM aM _
 rintro t0 _ rfl j0
 refine qa4 ⟨⟨[], false⟩, _, [(_, _), (_, _)], []⟩ (by kernel_rfl) ⟨Hp.Le.refl _, (pf rfl), ci0⟩ ?_
 refine qae (fa rfl (qao m0 rfl rfl (fa rfl (qao m1 rfl rfl (qad ?_)))))
 exact eE hm

def Jn (s_i : Nat) (t : Jl) : Nat → Nat → (List Jl) → Option ((List Jl))
  | 0, _, ac => some ac
  | aN + 1, i0, ac =>
    (chk (0 ≤ (i0 : Int) ∧ (i0 : Int) < 8)).bind fun _ =>
    (ac[s_i]?).bind fun aL =>
    (chk (0 ≤ (i0 : Int) ∧ (i0 : Int) < 8)).bind fun _ =>
    (chk (0 ≤ (i0 : Int) ∧ (i0 : Int) < 8)).bind fun _ =>
    (some (List.set [aL.Av.f0, aL.Av.f1, aL.Av.f2, aL.Av.f3, aL.Av.f4, aL.Av.f5, aL.Av.f6, aL.Av.f7] (Int.toNat (i0 : Int)) (u64and (List.getD [aL.Av.f0, aL.Av.f1, aL.Av.f2, aL.Av.f3, aL.Av.f4, aL.Av.f5, aL.Av.f6, aL.Av.f7] (Int.toNat (i0 : Int)) 0) (List.getD [t.Av.f0, t.Av.f1, t.Av.f2, t.Av.f3, t.Av.f4, t.Av.f5, t.Av.f6, t.Av.f7] (Int.toNat (i0 : Int)) 0)))).bind fun aM =>
    Jn s_i t aN (i0 + 1) (ac.set s_i (⟨aL.Aw, aL.depth, (⟨(List.getD aM 0 0), (List.getD aM 1 0), (List.getD aM 2 0), (List.getD aM 3 0), (List.getD aM 4 0), (List.getD aM 5 0), (List.getD aM 6 0), (List.getD aM 7 0)⟩ : JaH)⟩ : Jl))
def Jar (s : (List Jl)) (s_i : Nat) (t : Jl) : Option (Bool × (List Jl)) :=
  (s[s_i]?).bind fun aM =>
  if (!aM.Aw) then
  some (true, (s.set s_i t))
  else
  (chk (InI (8 : Int))).bind fun _ =>
  (Jn s_i t (8 : Int).toNat 0 s).bind fun t0 =>
  (t0[s_i]?).bind fun aL =>
  some (decide (aL.depth = t.depth), t0)
theorem Ja3 {s : (List Jl)} {s_i : Nat} {t : Jl} {aH : Option Addr} {aK : Nat} {K : Hp} {r : Bool × (List Jl)}
    (hm : Jar s s_i t = some r) (aA : 0 < s.length → Has aH) :
    Fn Tryz.prog 102 [(eptr aH (s_i * 10)), .agg #[.bool t.Aw, .int .i64 t.depth, .int .u64 t.Av.f0, .int .u64 t.Av.f1, .int .u64 t.Av.f2, .int .u64 t.Av.f3, .int .u64 t.Av.f4, .int .u64 t.Av.f5, .int .u64 t.Av.f6, .int .u64 t.Av.f7]] K [OwnL Jl.enc aH 204 10 aK s] (fun v K' H' => v = .bool r.1 ∧ (0 < r.2.length → Has aH) ∧ s.length = r.2.length ∧ H' = [OwnL Jl.enc aH 204 10 aK r.2]) := by
 refine Fn.enter Tryz.func102 Tryz.call102 rfl fun F => ?_
 unfold Jar at hm
 obtain ⟨aZ, aO, hm⟩ := bnd hm
 refine qap ?_
 intro b3
 refine qc4 (qdh aA aO) (qax rfl (qdh aA aO) (ro (qc2 (i := s_i) (o := 0) r1 rfl aO rfl rfl (qaz ?_))))
 refine cs rfl rfl hm ?_ ?_ <;> intro bf hm
 refine ro (qag r0 rfl (nl rfl) (qc4 (qdh aA aO) ?_))
 refine qgm (o := 0) (y := t) aZ r1 rfl aO rfl (by (conv => whnf); exact ⟨rfl, rfl, (nl rfl), rfl, rfl, rfl⟩) ?_
 cases hm
 exact en lr ⟨rfl, (by first | simpa using aA | exact fun _ => ⟨_, _, rfl⟩), ((rfl).trans List.length_set.symm), rfl⟩ (sc [0,1] rfl)
 obtain ⟨a8, hm⟩ := qa5 hm
 obtain ⟨s0, aM, hm⟩ := bnd hm
 refine lD (σ := ((List Jl))) ([5] ++ rg 14 18) [0, 2] (fun i0 => [(14, .int .i64 (i0 : Int))]) (fun _ => []) (fun t0 => [OwnL Jl.enc aH 204 10 aK t0]) (fun t0 => (0 < t0.length → Has aH) ∧ s.length = t0.length) (fun i0 t0 => Jn s_i t ((8 : Int).toNat - i0) i0 t0 = some s0) (fun t0 => t0 = s0) (fun i0 => (8 : Int).toNat - i0) 0 _ aM (And.intro qe (And.intro ?_ ?_))
 clear aM
 rintro i0 ac ⟨aQ, aS⟩ aM j0
 conv at aM => whnf
 refine qaf rfl ?_
 refine qah ?_ ?_ <;> intro w0
 rw [ltn (n := (8 : Int)) w0, Jn.eq_2] at aM
 refine qal rfl ?_
 refine qa4 ⟨⟨[], true⟩, _, [], []⟩ (by kernel_rfl) ⟨Hp.Le.refl _, (pf rfl), ci0⟩ ?_
 refine qc4 (qdh aA aO) (qax rfl (qdh aA aO) ?_)
 obtain ⟨aT, aM⟩ := qa5 aM
 refine qjd (sz := 1) rfl rfl (qdh aA aO) aT.1 aT.2 ?_
 obtain ⟨aL, aX, aM⟩ := bnd aM
 refine qc2 (i := s_i) (o := 2 + (Int.toNat (i0 : Int))) r0 rfl aX (qkm (L := [aL.Av.f0, aL.Av.f1, aL.Av.f2, aL.Av.f3, aL.Av.f4, aL.Av.f5, aL.Av.f6, aL.Av.f7]) (pre := [.bool aL.Aw, .int .i64 aL.depth]) (post := []) rfl aT.1 aT.2) (by omega) ?_
 refine fa rfl ?_
 obtain ⟨aU, aM⟩ := qa5 aM
 refine qbp (sz := 1) rfl rfl aU.1 aU.2 ?_
 refine qs4 (L := [t.Av.f0, t.Av.f1, t.Av.f2, t.Av.f3, t.Av.f4, t.Av.f5, t.Av.f6, t.Av.f7]) (pre := [.bool t.Aw, .int .i64 t.depth]) (post := []) r1 rfl (by simp) rfl aU.1 aU.2 ?_
 refine qkl ?_
 refine qc4 (qdh aA aO) (qax rfl (qdh aA aO) ?_)
 obtain ⟨aV, aM⟩ := qa5 aM
 refine qjd (sz := 1) rfl rfl (qdh aA aO) aV.1 aV.2 ?_
 obtain ⟨aN, aP, aM⟩ := bnd aM
 replace aP := Option.some.inj aP
 have aR : aN.length = 8 := by rw [← aP]; simp
 refine qgm (n := 1) (o := 2 + (Int.toNat (i0 : Int))) (y := (⟨aL.Aw, aL.depth, (⟨(List.getD aN 0 0), (List.getD aN 1 0), (List.getD aN 2 0), (List.getD aN 3 0), (List.getD aN 4 0), (List.getD aN 5 0), (List.getD aN 6 0), (List.getD aN 7 0)⟩ : JaH)⟩ : Jl)) aL r0 rfl aX (by omega) (by rw [qbi]; exact ⟨rfl, rfl, by omega, (qhn (L := [aL.Av.f0, aL.Av.f1, aL.Av.f2, aL.Av.f3, aL.Av.f4, aL.Av.f5, aL.Av.f6, aL.Av.f7]) (pre := [.bool aL.Aw, .int .i64 aL.depth]) (post := []) aV.1 aV.2).trans (by rw [aP, qyk aR]; rfl), rfl, rfl⟩) ?_
 refine qk (pf rfl) ?_
 refine qat (qq3 w0 a8) ?_
 exact rd (i0 + 1, (ac.set s_i (⟨aL.Aw, aL.depth, (⟨(List.getD aN 0 0), (List.getD aN 1 0), (List.getD aN 2 0), (List.getD aN 3 0), (List.getD aN 4 0), (List.getD aN 5 0), (List.getD aN 6 0), (List.getD aN 7 0)⟩ : JaH)⟩ : Jl))) ⟨rfl, trivial⟩ rfl (pf rfl) lr (qyh w0) ⟨⟨(by first | simpa using aQ | exact fun _ => ⟨_, _, rfl⟩), ((aS).trans List.length_set.symm)⟩, aM⟩
 rw [lto (n := (8 : Int)) w0, Jn.eq_1] at aM
 refine cT ?_
 exact eM aM _
 rintro t0 ⟨aW, aY⟩ rfl j0
 refine qa4 ⟨⟨[], true⟩, _, [], []⟩ (by kernel_rfl) ⟨Hp.Le.refl _, (pf rfl), ci0⟩ ?_
 refine qc4 (qdh aA aO) (qax rfl (qdh aA aO) ?_)
 obtain ⟨bb, ba, hm⟩ := bnd hm
 refine qc2 (i := s_i) (o := 1) r0 rfl ba rfl rfl ?_
 refine fa rfl ?_
 refine ld r1 rfl rfl ?_
 refine qad ?_
 exact eE hm

def JaY (code : (List Jc)) : List Jc → Nat → Int → (List Jl) → Option (Fl (Int × Bool) (Int × (List Jl)))
  | [], _, ac, aP => some (Fl.go (ac, aP))
  | e0 :: aU, i0, ac, aP =>
    (ix aP (i0 : Int)).bind fun aL =>
    (Jb6 e0).bind fun aN =>
    (chk (InI ((code.length : Int) - 1))).bind fun _ =>
    if ((((!aN.2.2) || (!aL.Aw)) || decide (aL.depth < aN.1)) || (!((decide (e0.Op = 12)) == (decide ((i0 : Int) = ((code.length : Int) - 1)))))) then
    some (Fl.ret (0, false))
    else
    (if decide (e0.Op = 3) then (Jba aL e0.N).bind fun aX =>
    some (!aX) else some false).bind fun aY =>
    if aY then
    some (Fl.ret (0, false))
    else
    (chk (InI (aN.2.1 - aN.1))).bind fun _ =>
    (chk (InI (aL.depth + (aN.2.1 - aN.1)))).bind fun _ =>
    ((if decide (e0.Op = 4) then
    (chk ((64 : Int) ≠ 0 ∧ InI (Int.tdiv e0.N 64))).bind fun _ =>
    (chk (0 ≤ (Int.tdiv e0.N 64) ∧ (Int.tdiv e0.N 64) < 8)).bind fun _ =>
    (chk (0 ≤ (Int.tmod e0.N 64))).bind fun _ =>
    (chk (0 ≤ (Int.tdiv e0.N 64) ∧ (Int.tdiv e0.N 64) < 8)).bind fun _ =>
    (some (List.set [aL.Av.f0, aL.Av.f1, aL.Av.f2, aL.Av.f3, aL.Av.f4, aL.Av.f5, aL.Av.f6, aL.Av.f7] (Int.toNat (Int.tdiv e0.N 64)) (u64or (List.getD [aL.Av.f0, aL.Av.f1, aL.Av.f2, aL.Av.f3, aL.Av.f4, aL.Av.f5, aL.Av.f6, aL.Av.f7] (Int.toNat (Int.tdiv e0.N 64)) 0) (u64shl 1 (Int.tmod e0.N 64))))).bind fun aO =>
    some ((List.getD aO 0 0), (List.getD aO 1 0), (List.getD aO 2 0), (List.getD aO 3 0), (List.getD aO 4 0), (List.getD aO 5 0), (List.getD aO 6 0), (List.getD aO 7 0))
    else
    some (aL.Av.f0, aL.Av.f1, aL.Av.f2, aL.Av.f3, aL.Av.f4, aL.Av.f5, aL.Av.f6, aL.Av.f7) : Option (Int × Int × Int × Int × Int × Int × Int × Int))).bind fun aM =>
    ((if (decide (e0.Op = 9) || decide (e0.Op = 10)) then
    if (decide (e0.N ≤ (i0 : Int)) || decide (e0.N ≥ (code.length : Int))) then
    some (Fl.ret (0, false))
    else
    (ix aP e0.N).bind fun aV =>
    (Jar aP ((e0.N).toNat) (⟨aL.Aw, (aL.depth + (aN.2.1 - aN.1)), (⟨aM.1, aM.2.1, aM.2.2.1, aM.2.2.2.1, aM.2.2.2.2.1, aM.2.2.2.2.2.1, aM.2.2.2.2.2.2.1, aM.2.2.2.2.2.2.2⟩ : JaH)⟩ : Jl)).bind fun aR =>
    if (!aR.1) then
    some (Fl.ret (0, false))
    else
    some (Fl.go aR.2)
    else
    some (Fl.go aP) : Option (Fl (Int × Bool) ((List Jl))))).bind fun aT => aT.el (fun r => some (Fl.ret r)) fun aQ =>
    if decide ((i0 : Int) = ((code.length : Int) - 1)) then
    some (Fl.ret ((max (max ac aL.depth) (aL.depth + (aN.2.1 - aN.1))), decide ((aL.depth + (aN.2.1 - aN.1)) = 0)))
    else
    if decide (e0.Op ≠ 9) then
    (ix aQ ((i0 : Int) + 1)).bind fun aW =>
    (Jar aQ ((((i0 : Int) + 1)).toNat) (⟨aL.Aw, (aL.depth + (aN.2.1 - aN.1)), (⟨aM.1, aM.2.1, aM.2.2.1, aM.2.2.2.1, aM.2.2.2.2.1, aM.2.2.2.2.2.1, aM.2.2.2.2.2.2.1, aM.2.2.2.2.2.2.2⟩ : JaH)⟩ : Jl)).bind fun aS =>
    if (!aS.1) then
    some (Fl.ret (0, false))
    else
    JaY code aU (i0 + 1) (max (max ac aL.depth) (aL.depth + (aN.2.1 - aN.1))) aS.2
    else
    JaY code aU (i0 + 1) (max (max ac aL.depth) (aL.depth + (aN.2.1 - aN.1))) aQ
def Jch (code : (List Jc)) : Option (Int × Bool) :=
  if (decide ((code.length : Int) < 1) || decide ((code.length : Int) > 2048)) then
  some (0, false)
  else
  (chk ((0 : Int) ≤ (code.length : Int) ∧ (code.length : Int) ≤ (lim : Int))).bind fun _ =>
  (ix (List.replicate (Int.toNat (code.length : Int)) ((⟨false, 0, (⟨0, 0, 0, 0, 0, 0, 0, 0⟩ : JaH)⟩ : Jl) : Jl)) 0).bind fun aL =>
  (chk (code.length ≤ qau)).bind fun _ =>
  (JaY code code 0 0 ((List.replicate (Int.toNat (code.length : Int)) ((⟨false, 0, (⟨0, 0, 0, 0, 0, 0, 0, 0⟩ : JaH)⟩ : Jl) : Jl)).set ((0 : Int).toNat) (⟨true, aL.depth, aL.Av⟩ : Jl))).bind fun s0 => s0.el some fun t0 =>
  some (0, false)
theorem JeD {code : (List Jc)} {aa : Option Addr} {ab : Nat} {n0 : Nat} {K : Hp} {r : Int × Bool}
    (hm : Jch code = some r) (hX : RdC Jc.enc K aa ab 3 code ∧ n0 = code.length ∧ GG K) :
    Fn Tryz.prog 60 [.slice aa n0 ab] K [] (fun v K' H' => v = .tuple #[.int .i64 r.1, .bool r.2] ∧ H' = []) := by
 obtain ⟨ae, cL, hG⟩ := hX
 subst cL
 refine Fn.enter Tryz.func60 Tryz.call60 rfl fun F => ?_
 unfold Jch at hm
 refine jR (σ := Unit) (rg 13 8) (fun _ => [(20, .bool (decide ((code.length : Int) < 1) || decide ((code.length : Int) > 2048)))]) (fun cW => True) ?_ ?_
 refine qam rfl ?_
 refine ro (qai rfl ?_)
 refine qah ?_ ?_ <;> intro a8
 refine ct a8 (ct a8 (ct a8 ?_))
 exact eMt () ⟨bq (((qd0 a8)).symm), trivial⟩
 refine cf a8 (ro (qai rfl (cf a8 (cf a8 ?_))))
 exact eMt () ⟨bq (qm6 (b := decide ((code.length : Int) > 2048)) a8), trivial⟩
 rintro _ _ c5
 refine cs rfl rfl hm ?_ ?_ <;> intro c8 hm
 exact eE hm
 refine ro (qai rfl ?_)
 obtain ⟨cQ, hm⟩ := qa5 hm
 refine qq5 (enc := Jl.enc) ((⟨false, 0, (⟨0, 0, 0, 0, 0, 0, 0, 0⟩ : JaH)⟩ : Jl) : Jl) qv3 rfl rfl rfl cQ fun bW => ?_
 obtain ⟨bX, cC, bY, hm⟩ := ixb hm
 refine RStep.ofN (qac rfl rfl (qdh (fun _ => ⟨_, _, rfl⟩) bY) cC (qaw List.length_replicate.symm cC bY) (qax rfl (qdh (fun _ => ⟨_, _, rfl⟩) bY) ?_))
 refine qgm (o := 0) (y := (⟨true, bX.depth, bX.Av⟩ : Jl)) bX r0 rfl bY rfl (by (conv => whnf); exact ⟨rfl, rfl, (nl rfl), rfl, rfl, rfl⟩) ?_
 refine ro (qai rfl ?_)
 obtain ⟨bV, hm⟩ := qa5 hm
 obtain ⟨s0, aO, hm⟩ := bnd hm
 refine lD (σ := (Int × (List Jl))) ([2,3] ++ rg 5 8 ++ rg 29 129) [1] (fun i0 => [(29, .int .i64 (i0 : Int))]) (fun t0 => [(5, .int .i64 t0.1)]) (fun t0 => [OwnL Jl.enc (some ⟨bW, 0, none⟩) 204 10 (Int.toNat (code.length : Int)) t0.2]) (fun t0 => (0 < t0.2.length → Has (some ⟨bW, 0, none⟩)) ∧ (Int.toNat (code.length : Int)) = t0.2.length) (fun i0 t0 => JaY code (code.drop i0) i0 t0.1 t0.2 = some s0) (fun t0 => s0 = Fl.go t0) (fun i0 => code.length - i0) 0 (0, ((List.replicate (Int.toNat (code.length : Int)) ((⟨false, 0, (⟨0, 0, 0, 0, 0, 0, 0, 0⟩ : JaH)⟩ : Jl) : Jl)).set ((0 : Int).toNat) (⟨true, bX.depth, bX.Av⟩ : Jl))) aO (And.intro ⟨⟨(by first | simpa using (fun _ => ⟨_, _, rfl⟩) | exact fun _ => ⟨_, _, rfl⟩), ((List.length_replicate.symm).trans List.length_set.symm)⟩, ⟨rfl, rfl, trivial⟩, _, (sp rfl)⟩ (And.intro ?_ ?_))
 clear aO
 rintro i0 ⟨ac, cG⟩ ⟨bF, bn⟩ aO j0
 dsimp only at aO ⊢
 refine qaf rfl ?_
 refine qah ?_ ?_ <;> intro w0
 obtain ⟨e0, bG, cO⟩ := ltx w0
 rw [cO, JaY.eq_2] at aO
 refine qal rfl ?_
 refine RStep.ofN (qac rfl rfl (qdm ae.rd bG) (nn _) (qbr bG) (ro (qaj i0 _ ae.rd rfl (mp bG) rfl ?_)))
 refine qan rfl fun b7 => ?_
 refine qab r0 rfl ⟨rfl, rfl, (nl rfl), ?_⟩
 obtain ⟨aU, cz, ce, aO⟩ := ixb aO
 refine RStep.ofN (qac rfl rfl (qdh bF ce) cz (qaw bn cz ce) (ro (qoc (i := ((i0 : Int)).toNat) r1 rfl ce rfl rfl ?_)))
 refine qan rfl fun b8 => ?_
 refine qab r0 rfl ⟨rfl, rfl, (nl rfl), ?_⟩
 refine ro (qag r1 rfl (nl rfl) ?_)
 refine cb aO fun bf cY aO => cgx (Jeh cY :) ?_
 refine ro (qai rfl ?_)
 obtain ⟨cJ, aO⟩ := qa5 aO
 refine qat cJ (qad ?_)
 refine qam rfl ?_
 refine qaz ?_
 refine qah ?_ ?_ <;> intro aW
 refine ct aW (ct aW (ct aW (cT (cT (cT (cT (cT ?_)))))))
 refine cT (cT (cT (cT (cT (cT ?_)))))
 replace aO := ift (qd0 (qd0 (qd0 (qke (qua aW))))) aO
 refine cT (cT (cT (cT (cT (cT (qaf rfl (cT ?_)))))))
 exact eE (er aO hm)
 refine fa rfl (cf aW (ro (ld r0 rfl rfl (cf aW (qaz (cf aW ?_))))))
 refine qah ?_ ?_ <;> intro aV
 refine ct aV (ct aV (ct aV (ct aV (cT (cT (cT (cT ?_)))))))
 refine cT (cT ?_)
 replace aO := ift (qd0 (qd0 (qkd (qer (qnq aW)) (qke (qua aV))))) aO
 refine cT (cT (cT (cT (cT (cT (qaf rfl (cT ?_)))))))
 exact eE (er aO hm)
 refine fa rfl (cf aV (ro (ld r0 rfl rfl (cf aV (cf aV (cf aV ?_))))))
 refine qah ?_ ?_ <;> intro aT
 refine ct aT (ct aT (ct aT (ct aT (ct aT ?_))))
 replace aO := ift (qd0 (qkd (qhg (qer (qnq aW)) (qer (qnq aV))) aT)) aO
 refine cT (cT (cT (cT (cT (cT (qaf rfl (cT ?_)))))))
 exact eE (er aO hm)
 refine fa rfl (cf aT (ro (ld r1 rfl rfl (cf aT (qad (cf aT (cf aT (qli rfl ?_))))))))
 refine cf aT ?_
 refine qah ?_ ?_ <;> intro aR
 replace aO := ift (qkd (qhg (qhg (qer (qnq aW)) (qer (qnq aV))) aT) aR) aO
 refine ct aR (ct aR (ct aR (ct aR (ct aR (qaf rfl (cT ?_))))))
 exact eE (er aO hm)
 replace aO := qbs (qhg (qhg (qhg (qer (qnq aW)) (qer (qnq aV))) aT) aR) aO
 refine fa rfl (cf aR (ro (ld r1 rfl rfl (cf aR (qad (cf aR ?_))))))
 obtain ⟨c6, bN, aO⟩ := bnd aO
 refine cS bN (fun aX bN => ?_) fun aX bN => ?_
 refine ro (qag r0 rfl (nl rfl) (ct aX (fa rfl (ct aX (ro (ld r1 rfl rfl (ct aX ?_)))))))
 refine cb bN fun c9 cZ bN => cg0 (Jdv cZ :) ?_
 refine ct aX (qaz (cf aR (ct aX (cf aR (qaf rfl ?_)))))
 refine qah ?_ ?_ <;> intro cB
 replace aO := ift ((si bN).symm.trans (qke (qua cB))) aO
 exact eE (er aO hm)
 replace aO := qbs ((si bN).symm.trans (qer (qnq cB))) aO
 refine fa rfl (ro (ld r0 rfl rfl (ro (qdl (fa rfl (ro (ld r0 rfl rfl ?_)))))))
 refine ci aO fun aO => ?_
 obtain ⟨cw, aO⟩ := qa5 aO
 refine qat cw (fa rfl ?_)
 refine qab r0 rfl ⟨rfl, rfl, (nl rfl), ?_⟩
 refine fa rfl (ro (ld r0 rfl rfl (ro (qdl (fa rfl (ro (ld r1 rfl rfl (qad ?_))))))))
 obtain ⟨cu, aZ, aO⟩ := bnd aO
 refine jD (σ := (Int × Int × Int × Int × Int × Int × Int × Int)) (rg 99 13) [1, 2, 3] (fun bb => []) (fun bb => [Cells b8 204 [.bool aU.Aw, .int .i64 (aU.depth + (bf.2.1 - bf.1)), .int .u64 bb.1, .int .u64 bb.2.1, .int .u64 bb.2.2.1, .int .u64 bb.2.2.2.1, .int .u64 bb.2.2.2.2.1, .int .u64 bb.2.2.2.2.2.1, .int .u64 bb.2.2.2.2.2.2.1, .int .u64 bb.2.2.2.2.2.2.2]]) (fun bb => bb = cu) (And.intro ?_ ?_)
 refine cs rfl rfl aZ ?_ ?_ <;> intro cV aZ
 refine qbg ⟨⟨[], false⟩, _, [(_, _), (_, _)], []⟩ 12 rfl (by kernel_rfl) ⟨Hp.Le.refl _, (sc [1,0] rfl), ci0⟩ ?_
 refine fa rfl (qao m0 rfl rfl ?_)
 obtain ⟨bI, aZ⟩ := qa5 aZ
 refine qob bI.1 bI.2 (fa rfl ?_)
 obtain ⟨bh, aZ⟩ := qa5 aZ
 refine qbp (sz := 1) rfl rfl bh.1 bh.2 ?_
 refine qfz (L := [aU.Av.f0, aU.Av.f1, aU.Av.f2, aU.Av.f3, aU.Av.f4, aU.Av.f5, aU.Av.f6, aU.Av.f7]) (pre := [.bool aU.Aw, .int .i64 (aU.depth + (bf.2.1 - bf.1))]) (post := []) m1 rfl (by simp) rfl bh.1 bh.2 ?_
 refine fa rfl (qao m0 rfl rfl (quc (by decide) ?_))
 obtain ⟨bP, aZ⟩ := qa5 aZ
 refine qop bP ?_
 refine qs3 ?_
 refine fa rfl ?_
 obtain ⟨bg, aZ⟩ := qa5 aZ
 refine qbp (sz := 1) rfl rfl bg.1 bg.2 ?_
 obtain ⟨bj, bA, aZ⟩ := bnd aZ
 replace bA := Option.some.inj bA
 have bU : bj.length = 8 := by rw [← bA]; simp
 refine qoq (L := [aU.Av.f0, aU.Av.f1, aU.Av.f2, aU.Av.f3, aU.Av.f4, aU.Av.f5, aU.Av.f6, aU.Av.f7]) (pre := [.bool aU.Aw, .int .i64 (aU.depth + (bf.2.1 - bf.1))]) (post := []) (cs' := [.bool aU.Aw, .int .i64 (aU.depth + (bf.2.1 - bf.1)), .int .u64 (List.getD bj 0 0), .int .u64 (List.getD bj 1 0), .int .u64 (List.getD bj 2 0), .int .u64 (List.getD bj 3 0), .int .u64 (List.getD bj 4 0), .int .u64 (List.getD bj 5 0), .int .u64 (List.getD bj 6 0), .int .u64 (List.getD bj 7 0)]) r0 rfl (by simp) rfl bg.1 bg.2 bA (by rw [qyk bU]; rfl) ?_
 refine ⟨⟨Hp.emp_le _, (pf rfl), ci0⟩, ?_⟩
 exact eM aZ _
 exact eM aZ _
 rintro bb rfl cM
 refine jR (σ := Unit) (rg 112 8) (fun _ => [(119, .bool (decide (e0.Op = 9) || decide (e0.Op = 10)))]) (fun cR => True) ?_ ?_
 refine qam rfl ?_
 refine fa rfl (ro (ld r1 rfl rfl (qad ?_)))
 refine qah ?_ ?_ <;> intro aP
 refine ct aP (ct aP (ct aP ?_))
 exact eMt () ⟨bq (((qd0 aP)).symm), trivial⟩
 refine fa rfl (cf aP (ro (ld r1 rfl rfl (cf aP (qad (cf aP ?_))))))
 exact eMt () ⟨bq (qm6 (b := decide (e0.Op = 10)) aP), trivial⟩
 rintro _ _ cH
 obtain ⟨ca, aS, aO⟩ := bnd aO
 refine jD (σ := ((List Jl))) ([2,3] ++ rg 120 20) [0, 1, 3] (fun bw => []) (fun bw => [OwnL Jl.enc (some ⟨bW, 0, none⟩) 204 10 (Int.toNat (code.length : Int)) bw]) (fun bw => (0 < bw.length → Has (some ⟨bW, 0, none⟩)) ∧ (Int.toNat (code.length : Int)) = bw.length ∧ ca = Fl.go bw) (And.intro ?_ ?_)
 refine cs rfl rfl aS ?_ ?_ <;> intro cq aS
 refine qa4 ⟨⟨[], false⟩, _, [(_, _), (_, _)], []⟩ (by kernel_rfl) ⟨Hp.Le.refl _, (sc [1,0] rfl), ci0⟩ ?_
 refine fa rfl (qao m0 rfl rfl ?_)
 refine qah ?_ ?_ <;> intro aN
 refine ct aN (ct aN (ct aN (ct aN (ct aN ?_))))
 replace aS := ift (qd0 aN) aS
 refine cT (cT (cT (cT (cT (cT (cT (cT ?_)))))))
 refine qaf rfl (cT ?_)
 exact eE (er (er aS aO :) hm)
 refine fa rfl (cf aN (qao m0 rfl rfl (cf aN (cf aN (qcb rfl (cf aN (cf aN ?_)))))))
 refine qah ?_ ?_ <;> intro aL
 replace aS := ift (qkd aN aL) aS
 refine ct aL (ct aL (ct aL (ct aL (ct aL (ct aL (ct aL (qaf rfl ?_)))))))
 refine cT ?_
 exact eE (er (er aS aO :) hm)
 replace aS := qbs (qhg aN aL) aS
 refine cf aL (fa rfl (cf aL (qao m0 rfl rfl (cf aL ?_))))
 obtain ⟨cd, bK, bD, aS⟩ := ixb aS
 refine qac rfl rfl (qdh bF bD) bK (qaw bn bK bD) (cf aL (qbq m1 rfl (nl rfl) (cf aL ?_)))
 refine cb aS fun bQ bO aS => ckx (Ja3 bO :) ?_
 rintro _ _ _ ⟨rfl, bp, bv, rfl⟩
 refine qk (sc [2,1] rfl) ?_
 refine cf aL (qaz (cf aL ?_))
 refine cs rfl rfl aS ?_ ?_ <;> intro cr aS
 exact eE (er (er aS aO :) hm)
 exact mt (bQ.2) trivial rfl (pf rfl) lr ⟨bp, ((bn).trans bv), (si aS).symm⟩
 exact eM aS _
 rintro bw ⟨bL, bz, rfl⟩ cU
 replace aO := elg aO
 refine cs rfl rfl aO ?_ ?_ <;> intro bZ aO
 refine qa4 ⟨⟨[], false⟩, _, [(_, _)], []⟩ (by kernel_rfl) ⟨Hp.Le.refl _, (sc [1] rfl), ci0⟩ ?_
 refine fa rfl (qao m0 rfl rfl (qad ?_))
 exact eE (er aO hm)
 refine qa4 ⟨⟨[], false⟩, _, [(_, _), (_, _)], []⟩ (by kernel_rfl) ⟨Hp.Le.refl _, (sc [2,1] rfl), ci0⟩ ?_
 refine fa rfl (qao m0 rfl rfl (qbd ?_))
 refine cS aO (fun aM aO => ?_) fun aM aO => ?_
 refine ct aM (ct aM (qat (qcn bG bV) (ct aM ?_)))
 obtain ⟨cj, bJ, bH, aO⟩ := ixb aO
 refine qac rfl rfl (qdh bL bH) bJ (qaw bz bJ bH) (ct aM (qbq m1 rfl (nl rfl) (ct aM ?_)))
 refine cb aO fun bS bT aO => ckx (Ja3 bT :) ?_
 rintro _ _ _ ⟨rfl, bo, bu, rfl⟩
 refine qk (sc [2,1] rfl) ?_
 refine ct aM (qaz (ct aM ?_))
 refine cs rfl rfl aO ?_ ?_ <;> intro cn aO
 exact eE (er aO hm)
 refine qat (qcn bG bV) ?_
 exact rd (i0 + 1, ((max (max ac aU.depth) (aU.depth + (bf.2.1 - bf.1))), bS.2)) ⟨rfl, rfl, trivial⟩ rfl (sc [0,2] rfl) lr (ltm bG) ⟨⟨bo, ((bz).trans bu)⟩, aO⟩
 refine cf aM (cf aM (cf aM (cf aM (cf aM (cf aM (cf aM (qaf rfl ?_)))))))
 refine cF (qat (qcn bG bV) ?_)
 exact eR aO (_, (_, _))
 refine cf aX (cf aX (cf aX (cf aX (cf aR (cf aX (cf aR (qaf rfl ?_)))))))
 refine cF ?_
 replace aO := qbs (si bN).symm aO
 refine fa rfl (ro (ld r0 rfl rfl (ro (qdl (fa rfl (ro (ld r0 rfl rfl ?_)))))))
 refine ci aO fun aO => ?_
 obtain ⟨cw, aO⟩ := qa5 aO
 refine qat cw (fa rfl ?_)
 refine qab r0 rfl ⟨rfl, rfl, (nl rfl), ?_⟩
 refine fa rfl (ro (ld r0 rfl rfl (ro (qdl (fa rfl (ro (ld r1 rfl rfl (qad ?_))))))))
 obtain ⟨cm, aY, aO⟩ := bnd aO
 refine jD (σ := (Int × Int × Int × Int × Int × Int × Int × Int)) (rg 99 13) [1, 2, 3] (fun ba => []) (fun ba => [Cells b8 204 [.bool aU.Aw, .int .i64 (aU.depth + (bf.2.1 - bf.1)), .int .u64 ba.1, .int .u64 ba.2.1, .int .u64 ba.2.2.1, .int .u64 ba.2.2.2.1, .int .u64 ba.2.2.2.2.1, .int .u64 ba.2.2.2.2.2.1, .int .u64 ba.2.2.2.2.2.2.1, .int .u64 ba.2.2.2.2.2.2.2]]) (fun ba => ba = cm) (And.intro ?_ ?_)
 refine cs rfl rfl aY ?_ ?_ <;> intro cV aY
 refine qbg ⟨⟨[], false⟩, _, [(_, _), (_, _)], []⟩ 12 rfl (by kernel_rfl) ⟨Hp.Le.refl _, (sc [1,0] rfl), ci0⟩ ?_
 refine fa rfl (qao m0 rfl rfl ?_)
 obtain ⟨bI, aY⟩ := qa5 aY
 refine qob bI.1 bI.2 (fa rfl ?_)
 obtain ⟨bh, aY⟩ := qa5 aY
 refine qbp (sz := 1) rfl rfl bh.1 bh.2 ?_
 refine qfz (L := [aU.Av.f0, aU.Av.f1, aU.Av.f2, aU.Av.f3, aU.Av.f4, aU.Av.f5, aU.Av.f6, aU.Av.f7]) (pre := [.bool aU.Aw, .int .i64 (aU.depth + (bf.2.1 - bf.1))]) (post := []) m1 rfl (by simp) rfl bh.1 bh.2 ?_
 refine fa rfl (qao m0 rfl rfl (quc (by decide) ?_))
 obtain ⟨bP, aY⟩ := qa5 aY
 refine qop bP ?_
 refine qs3 ?_
 refine fa rfl ?_
 obtain ⟨bg, aY⟩ := qa5 aY
 refine qbp (sz := 1) rfl rfl bg.1 bg.2 ?_
 obtain ⟨bm, bB, aY⟩ := bnd aY
 replace bB := Option.some.inj bB
 have bR : bm.length = 8 := by rw [← bB]; simp
 refine qoq (L := [aU.Av.f0, aU.Av.f1, aU.Av.f2, aU.Av.f3, aU.Av.f4, aU.Av.f5, aU.Av.f6, aU.Av.f7]) (pre := [.bool aU.Aw, .int .i64 (aU.depth + (bf.2.1 - bf.1))]) (post := []) (cs' := [.bool aU.Aw, .int .i64 (aU.depth + (bf.2.1 - bf.1)), .int .u64 (List.getD bm 0 0), .int .u64 (List.getD bm 1 0), .int .u64 (List.getD bm 2 0), .int .u64 (List.getD bm 3 0), .int .u64 (List.getD bm 4 0), .int .u64 (List.getD bm 5 0), .int .u64 (List.getD bm 6 0), .int .u64 (List.getD bm 7 0)]) r0 rfl (by simp) rfl bg.1 bg.2 bB (by rw [qyk bR]; rfl) ?_
 refine ⟨⟨Hp.emp_le _, (pf rfl), ci0⟩, ?_⟩
 exact eM aY _
 exact eM aY _
 rintro ba rfl cP
 refine jR (σ := Unit) (rg 112 8) (fun _ => [(119, .bool (decide (e0.Op = 9) || decide (e0.Op = 10)))]) (fun cX => True) ?_ ?_
 refine qam rfl ?_
 refine fa rfl (ro (ld r1 rfl rfl (qad ?_)))
 refine qah ?_ ?_ <;> intro aP
 refine ct aP (ct aP (ct aP ?_))
 exact eMt () ⟨bq (((qd0 aP)).symm), trivial⟩
 refine fa rfl (cf aP (ro (ld r1 rfl rfl (cf aP (qad (cf aP ?_))))))
 exact eMt () ⟨bq (qm6 (b := decide (e0.Op = 10)) aP), trivial⟩
 rintro _ _ cI
 obtain ⟨cp, aQ, aO⟩ := bnd aO
 refine jD (σ := ((List Jl))) ([2,3] ++ rg 120 20) [0, 1, 3] (fun bt => []) (fun bt => [OwnL Jl.enc (some ⟨bW, 0, none⟩) 204 10 (Int.toNat (code.length : Int)) bt]) (fun bt => (0 < bt.length → Has (some ⟨bW, 0, none⟩)) ∧ (Int.toNat (code.length : Int)) = bt.length ∧ cp = Fl.go bt) (And.intro ?_ ?_)
 refine cs rfl rfl aQ ?_ ?_ <;> intro cq aQ
 refine qa4 ⟨⟨[], false⟩, _, [(_, _), (_, _)], []⟩ (by kernel_rfl) ⟨Hp.Le.refl _, (sc [1,0] rfl), ci0⟩ ?_
 refine fa rfl (qao m0 rfl rfl ?_)
 refine qah ?_ ?_ <;> intro aN
 refine ct aN (ct aN (ct aN (ct aN (ct aN ?_))))
 replace aQ := ift (qd0 aN) aQ
 refine cT (cT (cT (cT (cT (cT (cT (cT ?_)))))))
 refine qaf rfl (cT ?_)
 exact eE (er (er aQ aO :) hm)
 refine fa rfl (cf aN (qao m0 rfl rfl (cf aN (cf aN (qcb rfl (cf aN (cf aN ?_)))))))
 refine qah ?_ ?_ <;> intro aL
 replace aQ := ift (qkd aN aL) aQ
 refine ct aL (ct aL (ct aL (ct aL (ct aL (ct aL (ct aL (qaf rfl ?_)))))))
 refine cT ?_
 exact eE (er (er aQ aO :) hm)
 replace aQ := qbs (qhg aN aL) aQ
 refine cf aL (fa rfl (cf aL (qao m0 rfl rfl (cf aL ?_))))
 obtain ⟨cd, bK, bD, aQ⟩ := ixb aQ
 refine qac rfl rfl (qdh bF bD) bK (qaw bn bK bD) (cf aL (qbq m1 rfl (nl rfl) (cf aL ?_)))
 refine cb aQ fun bQ bO aQ => ckx (Ja3 bO :) ?_
 rintro _ _ _ ⟨rfl, bp, bv, rfl⟩
 refine qk (sc [2,1] rfl) ?_
 refine cf aL (qaz (cf aL ?_))
 refine cs rfl rfl aQ ?_ ?_ <;> intro cr aQ
 exact eE (er (er aQ aO :) hm)
 exact mt (bQ.2) trivial rfl (pf rfl) lr ⟨bp, ((bn).trans bv), (si aQ).symm⟩
 exact eM aQ _
 rintro bt ⟨bM, bC, rfl⟩ cK
 replace aO := elg aO
 refine cs rfl rfl aO ?_ ?_ <;> intro bZ aO
 refine qa4 ⟨⟨[], false⟩, _, [(_, _)], []⟩ (by kernel_rfl) ⟨Hp.Le.refl _, (sc [1] rfl), ci0⟩ ?_
 refine fa rfl (qao m0 rfl rfl (qad ?_))
 exact eE (er aO hm)
 refine qa4 ⟨⟨[], false⟩, _, [(_, _), (_, _)], []⟩ (by kernel_rfl) ⟨Hp.Le.refl _, (sc [2,1] rfl), ci0⟩ ?_
 refine fa rfl (qao m0 rfl rfl (qbd ?_))
 refine cS aO (fun aM aO => ?_) fun aM aO => ?_
 refine ct aM (ct aM (qat (qcn bG bV) (ct aM ?_)))
 obtain ⟨cj, bJ, bH, aO⟩ := ixb aO
 refine qac rfl rfl (qdh bM bH) bJ (qaw bC bJ bH) (ct aM (qbq m1 rfl (nl rfl) (ct aM ?_)))
 refine cb aO fun bS bT aO => ckx (Ja3 bT :) ?_
 rintro _ _ _ ⟨rfl, bo, bu, rfl⟩
 refine qk (sc [2,1] rfl) ?_
 refine ct aM (qaz (ct aM ?_))
 refine cs rfl rfl aO ?_ ?_ <;> intro cn aO
 exact eE (er aO hm)
 refine qat (qcn bG bV) ?_
 exact rd (i0 + 1, ((max (max ac aU.depth) (aU.depth + (bf.2.1 - bf.1))), bS.2)) ⟨rfl, rfl, trivial⟩ rfl (sc [0,2] rfl) lr (ltm bG) ⟨⟨bo, ((bC).trans bu)⟩, aO⟩
 refine cf aM (cf aM (cf aM (cf aM (cf aM (cf aM (cf aM (qaf rfl ?_)))))))
 refine cF (qat (qcn bG bV) ?_)
 exact eR aO (_, (_, _))
 rw [lty w0, JaY.eq_1] at aO
 refine cT ?_
 exact eM aO _
 rintro t0 ⟨cD, cA⟩ rfl j0
 replace hm := elg hm
 exact eE hm

def Jb7 (code : (List Jc)) : Option (Err) :=
  (Jch code).bind fun x7 =>
  if (!x7.2) then
  some (some 2)
  else
  some none
theorem Jei {code : (List Jc)} {aa : Option Addr} {ab : Nat} {n0 : Nat} {K : Hp} {r : Err}
    (hm : Jb7 code = some r) (hX : RdC Jc.enc K aa ab 3 code ∧ n0 = code.length ∧ GG K) :
    Fn Tryz.prog 32 [.slice aa n0 ab] K [] (fun v K' H' => v = qcx 87 r ∧ H' = []) := by
 obtain ⟨ae, aL, hG⟩ := hX
 subst aL
 refine Fn.enter Tryz.func32 Tryz.call32 rfl fun F => ?_
 unfold Jb7 at hm
 refine cb hm fun x7 q7 hm => cgx (JeD q7 :) ?_
 refine qaz ?_
 refine cs rfl rfl hm ?_ ?_ <;> intro aM hm
 refine qa3 rfl ?_
 exact eE hm
 exact eE hm

def JaX (n' : Int) : Option (Jf) :=
  some (⟨2, (max (-1099511627776) (min n' 1099511627776)), ([] : Str), false⟩ : Jf)
theorem Jbj {n' : Int} {K : Hp} {r : Jf}
    (hm : JaX n' = some r)  :
    Fn Tryz.prog 62 [.int .i64 n'] K [] (fun v K' H' => v = .agg #[.int .i64 r.kind, .int .i64 r.n, str r.s, .bool r.Au] ∧ H' = []) := by
 refine Fn.enter Tryz.func62 Tryz.call62 rfl fun F => ?_
 unfold JaX at hm
 refine qan rfl fun b2 => ?_
 refine ro (qt7 (ro (qdl (qak rfl rfl (cT (cT ?_))))))
 refine qab r0 rfl ⟨rfl, rfl, (nl rfl), ?_⟩
 exact ro (qag r0 rfl (nl rfl) (eE hm))

def JP (m : Jh) (x : Jf) (operation : Bool) : Option (Err × Jh) :=
  if decide ((x.s.length : Int) > 2048) then
  some ((some 5), m)
  else
  ((if (operation && decide (x.kind = 1)) then
  (chk ((64 : Int) ≠ 0 ∧ InI (Int.tdiv (x.s.length : Int) 64))).bind fun _ =>
  (chk (InI (m.result.Aj + (Int.tdiv (x.s.length : Int) 64)))).bind fun _ =>
  if decide ((m.result.Aj + (Int.tdiv (x.s.length : Int) 64)) > m.most) then
  some (Fl.ret ((some 13), (⟨m.Ar, m.most, (⟨m.result.Ae, m.result.Af, m.result.Ag, m.result.Vary, m.result.Ah, m.result.TTL, m.result.Ai, (m.result.Aj + (Int.tdiv (x.s.length : Int) 64)), m.result.Ak, m.result.Al⟩ : Jk), m.stack, m.Ap⟩ : Jh)))
  else
  some (Fl.go (⟨m.Ar, m.most, (⟨m.result.Ae, m.result.Af, m.result.Ag, m.result.Vary, m.result.Ah, m.result.TTL, m.result.Ai, (m.result.Aj + (Int.tdiv (x.s.length : Int) 64)), m.result.Ak, m.result.Al⟩ : Jk), m.stack, m.Ap⟩ : Jh))
  else
  some (Fl.go m) : Option (Fl (Err × Jh) (Jh)))).bind fun aM => aM.el some fun aL =>
  (chk (aL.stack.length + [x].length ≤ lim)).bind fun _ =>
  some (none, (⟨m.Ar, aL.most, aL.result, (aL.stack ++ [x]), aL.Ap⟩ : Jh))
theorem Jas {m : Jh} {x : Jf} {operation : Bool} {b0 : Nat} {aa : Option Addr} {ab : Nat} {af : Option Addr} {ak : Nat} {al : Option Addr} {am : Nat} {an : Option Addr} {ar : Nat} {av : Option Addr} {ax : Nat} {K : Hp} {r : Err × Jh}
    (hm : JP m x operation = some r) (hX : RdC Jg.enc K aa ab 2 m.Ar.Ao ∧ (0 < m.result.Ag.length → Has af) ∧ (0 < m.result.Vary.length → Has al) ∧ (0 < m.result.Ah.length → Has an) ∧ (0 < m.stack.length → Has av) ∧ m.Ap.length = 512) :
    Fn Tryz.prog 61 [.pointer (some ⟨b0, 0, none⟩), .agg #[.int .i64 x.kind, .int .i64 x.n, str x.s, .bool x.Au], .bool operation] K [Cells b0 98 ((str m.Ar.Am) :: (str m.Ar.An) :: (str m.Ar.Ae) :: (str m.Ar.Af) :: (.slice aa m.Ar.Ao.length ab) :: (.int .i64 m.most) :: (str m.result.Ae) :: (str m.result.Af) :: (.slice af m.result.Ag.length ak) :: (.slice al m.result.Vary.length am) :: (.slice an m.result.Ah.length ar) :: (.int .i64 m.result.TTL) :: (.int .i64 m.result.Ai) :: (.int .i64 m.result.Aj) :: (.bool m.result.Ak) :: (.bool m.result.Al) :: (.slice av m.stack.length ax) :: (m.Ap.map Jf.enc).flatten), OwnL Jg.enc af 77 2 ak m.result.Ag, OwnL eS al 9 1 am m.result.Vary, OwnL eS an 9 1 ar m.result.Ah, OwnL Jf.enc av 95 4 ax m.stack] (fun v K' H' => ∃ ar_0 : Option Addr, ∃ cr_0 : Nat, ∃ ar_1 : Option Addr, ∃ cr_1 : Nat, ∃ ar_2 : Option Addr, ∃ cr_2 : Nat, ∃ ar_3 : Option Addr, ∃ cr_3 : Nat, v = qcx 87 r.1 ∧ (0 < r.2.result.Ag.length → Has ar_0) ∧ (0 < r.2.result.Vary.length → Has ar_1) ∧ (0 < r.2.result.Ah.length → Has ar_2) ∧ (0 < r.2.stack.length → Has ar_3) ∧ r.2.Ap.length = 512 ∧ H' = [Cells b0 98 ((str m.Ar.Am) :: (str m.Ar.An) :: (str m.Ar.Ae) :: (str m.Ar.Af) :: (.slice aa m.Ar.Ao.length ab) :: (.int .i64 r.2.most) :: (str r.2.result.Ae) :: (str r.2.result.Af) :: (.slice ar_0 r.2.result.Ag.length cr_0) :: (.slice ar_1 r.2.result.Vary.length cr_1) :: (.slice ar_2 r.2.result.Ah.length cr_2) :: (.int .i64 r.2.result.TTL) :: (.int .i64 r.2.result.Ai) :: (.int .i64 r.2.result.Aj) :: (.bool r.2.result.Ak) :: (.bool r.2.result.Al) :: (.slice ar_3 r.2.stack.length cr_3) :: (r.2.Ap.map Jf.enc).flatten), OwnL Jg.enc ar_0 77 2 cr_0 r.2.result.Ag, OwnL eS ar_1 9 1 cr_1 r.2.result.Vary, OwnL eS ar_2 9 1 cr_2 r.2.result.Ah, OwnL Jf.enc ar_3 95 4 cr_3 r.2.stack]) := by
 obtain ⟨ae, bm, bb, bf, bj, bg⟩ := hX
 refine Fn.enter Tryz.func61 Tryz.call61 rfl fun F => ?_
 unfold JP at hm
 refine qap ?_
 intro b4
 refine fa rfl (ro (ld r0 rfl rfl (ro (qa2 rfl ?_))))
 refine cs rfl rfl hm ?_ ?_ <;> intro bD hm
 refine qa3 rfl ?_
 exact eE hm
 refine jR (σ := Unit) (rg 12 6) (fun _ => [(17, .bool (operation && decide (x.kind = 1)))]) (fun bu => True) ?_ ?_
 refine qam rfl ?_
 refine qah ?_ ?_ <;> intro aV
 refine fa rfl (ct aV (ro (ld r0 rfl rfl (ct aV (qad (ct aV ?_))))))
 exact eMt () ⟨bq (qd3 (b := decide (x.kind = 1)) aV), trivial⟩
 refine cf aV (cf aV (cf aV ?_))
 exact eMt () ⟨bq (((qa1 aV)).symm), trivial⟩
 rintro _ _ bp
 obtain ⟨ba, aU, hm⟩ := bnd hm
 refine jD (σ := (Jh) × Option Addr × Nat × Option Addr × Nat × Option Addr × Nat × Option Addr × Nat) ([6] ++ rg 18 24) [0, 6] (fun (aL, aN, aR, aM, aQ, aO, aS, aP, aT) => []) (fun (aL, aN, aR, aM, aQ, aO, aS, aP, aT) => [Cells b0 98 ((str m.Ar.Am) :: (str m.Ar.An) :: (str m.Ar.Ae) :: (str m.Ar.Af) :: (.slice aa m.Ar.Ao.length ab) :: (.int .i64 aL.most) :: (str aL.result.Ae) :: (str aL.result.Af) :: (.slice aN aL.result.Ag.length aR) :: (.slice aM aL.result.Vary.length aQ) :: (.slice aO aL.result.Ah.length aS) :: (.int .i64 aL.result.TTL) :: (.int .i64 aL.result.Ai) :: (.int .i64 aL.result.Aj) :: (.bool aL.result.Ak) :: (.bool aL.result.Al) :: (.slice aP aL.stack.length aT) :: (aL.Ap.map Jf.enc).flatten), OwnL Jg.enc aN 77 2 aR aL.result.Ag, OwnL eS aM 9 1 aQ aL.result.Vary, OwnL eS aO 9 1 aS aL.result.Ah, OwnL Jf.enc aP 95 4 aT aL.stack]) (fun (aL, aN, aR, aM, aQ, aO, aS, aP, aT) => (0 < aL.result.Ag.length → Has aN) ∧ (0 < aL.result.Vary.length → Has aM) ∧ (0 < aL.result.Ah.length → Has aO) ∧ (0 < aL.stack.length → Has aP) ∧ aL.Ap.length = 512 ∧ ba = Fl.go aL) (And.intro ?_ ?_)
 refine cs rfl rfl aU ?_ ?_ <;> intro bB aU
 refine qbg ⟨⟨[], false⟩, _, [(_, _), (_, _)], []⟩ 9 rfl (by kernel_rfl) ⟨Hp.Le.refl _, (sc [1,0] rfl), ci0⟩ ?_
 refine qae (fa rfl (fa rfl (qao m0 rfl rfl (fa rfl (qao m1 rfl rfl (qia rfl ?_))))))
 obtain ⟨bh, aU⟩ := qa5 aU
 refine qob bh.1 bh.2 ?_
 obtain ⟨bo, aU⟩ := qa5 aU
 refine qat bo (qae (fa rfl (fa rfl ?_)))
 refine qov (cs' := (str m.Ar.Am) :: (str m.Ar.An) :: (str m.Ar.Ae) :: (str m.Ar.Af) :: (.slice aa m.Ar.Ao.length ab) :: (.int .i64 m.most) :: (str m.result.Ae) :: (str m.result.Af) :: (.slice af m.result.Ag.length ak) :: (.slice al m.result.Vary.length am) :: (.slice an m.result.Ah.length ar) :: (.int .i64 m.result.TTL) :: (.int .i64 m.result.Ai) :: (.int .i64 (m.result.Aj + (Int.tdiv (x.s.length : Int) 64))) :: (.bool m.result.Ak) :: (.bool m.result.Al) :: (.slice av m.stack.length ax) :: (m.Ap.map Jf.enc).flatten) r1 rfl rfl (by exact rfl) (by exact nl rfl) (by exact rfl) ?_
 refine ⟨⟨Hp.emp_le _, (pf rfl), ci0⟩, ?_⟩
 refine qa4 ⟨⟨[], false⟩, _, [(_, _)], []⟩ (by kernel_rfl) ⟨Hp.Le.refl _, (pf rfl), ci0⟩ ?_
 refine qae (fa rfl (fa rfl (qao m0 rfl rfl (qae (fa rfl (qao m0 rfl rfl ?_))))))
 refine cs rfl rfl aU ?_ ?_ <;> intro bA aU
 refine qa3 rfl ?_
 exact eE (er aU hm)
 exact eM aU (_, _, _, _, _, _, _, _, _)
 exact eM aU (_, _, _, _, _, _, _, _, _)
 rintro ⟨aL, aN, aR, aM, aQ, aO, aS, aP, aT⟩ ⟨a8, aX, aW, aZ, aY, rfl⟩ bv
 replace hm := elg hm
 refine qbg ⟨⟨[], false⟩, _, [(_, _), (_, _)], []⟩ 8 rfl (by kernel_rfl) ⟨Hp.Le.refl _, (sc [0,4] rfl), ci0⟩ ?_
 refine qae (fa rfl (qao m0 rfl rfl (qbq m1 rfl (nl rfl) ?_)))
 refine bsO (len := 1) (enc := Jf.enc) (l := [x]) (cl := [.int .i64 x.kind, .int .i64 x.n, str x.s, .bool x.Au]) qv4 rfl rfl (fun _ _ => rfl) rfl rfl rfl ?_ fun bC => ?_
 · conv => whnf
   refine cT ?_
   first | done | rfl
 refine qk (sc [1,5] rfl) ?_
 obtain ⟨bw, hm⟩ := qa5 hm
 refine apE rfl r5 qv4 (qa6 rfl r0 rfl (fun _ => rfl) (fun _ => rfl)) bw ?_
 intro bt bn bz
 refine qk (sc [2,5] rfl) ?_
 refine qae (fa rfl ?_)
 refine qov (cs' := (str m.Ar.Am) :: (str m.Ar.An) :: (str m.Ar.Ae) :: (str m.Ar.Af) :: (.slice aa m.Ar.Ao.length ab) :: (.int .i64 aL.most) :: (str aL.result.Ae) :: (str aL.result.Af) :: (.slice aN aL.result.Ag.length aR) :: (.slice aM aL.result.Vary.length aQ) :: (.slice aO aL.result.Ah.length aS) :: (.int .i64 aL.result.TTL) :: (.int .i64 aL.result.Ai) :: (.int .i64 aL.result.Aj) :: (.bool aL.result.Ak) :: (.bool aL.result.Al) :: (.slice bt ((aL.stack ++ [x]).length) bn) :: (aL.Ap.map Jf.enc).flatten) r2 rfl rfl (by exact rfl) (by exact nl rfl) (by exact rfl) ?_
 refine ⟨⟨Hp.emp_le _, (pf rfl), ci0⟩, ?_⟩
 exact eE hm

def Jat (s : Str) : Option (Jf) :=
  some (⟨1, 0, s, false⟩ : Jf)
theorem Jao {s : Str} {K : Hp} {r : Jf}
    (hm : Jat s = some r)  :
    Fn Tryz.prog 63 [str s] K [] (fun v K' H' => v = .agg #[.int .i64 r.kind, .int .i64 r.n, str r.s, .bool r.Au] ∧ H' = []) := by
 refine Fn.enter Tryz.func63 Tryz.call63 rfl fun F => ?_
 unfold Jat at hm
 refine qan rfl fun b2 => ?_
 refine qak rfl rfl (cT (cT ?_))
 refine qab r0 rfl ⟨rfl, rfl, (nl rfl), ?_⟩
 exact ro (qag r0 rfl (nl rfl) (eE hm))

def Jau (name : Str) (Ar : JH) : Option (Jf) :=
  if decide (name = ([109, 101, 116, 104, 111, 100] : Str)) then
  (Jat Ar.Am).bind fun aM =>
  some aM
  else
  if decide (name = ([104, 111, 115, 116] : Str)) then
  (Jat Ar.An).bind fun aN =>
  some aN
  else
  if decide (name = ([112, 97, 116, 104] : Str)) then
  (Jat Ar.Ae).bind fun aL =>
  some aL
  else
  (Jat Ar.Af).bind fun aO =>
  some aO
theorem Jcx {name : Str} {Ar : JH} {ah : Option Addr} {aj : Nat} {K : Hp} {r : Jf}
    (hm : Jau name Ar = some r) (ag : RdC Jg.enc K ah aj 2 Ar.Ao) :
    Fn Tryz.prog 64 [str name, .agg #[str Ar.Am, str Ar.An, str Ar.Ae, str Ar.Af, .slice ah Ar.Ao.length aj]] K [] (fun v K' H' => v = .agg #[.int .i64 r.kind, .int .i64 r.n, str r.s, .bool r.Au] ∧ H' = []) := by
 refine Fn.enter Tryz.func64 Tryz.call64 rfl fun F => ?_
 unfold Jau at hm
 refine qap ?_
 intro b3
 refine qan rfl fun b4 => ?_
 refine qal rfl ?_
 refine qas (cs rfl rfl hm ?_ ?_) <;> intro w6 hm
 refine fa rfl (ro (ld r1 rfl rfl ?_))
 refine cb hm fun aP aO hm => cg0 (Jao aO :) ?_
 refine qab r0 rfl ⟨rfl, rfl, (nl rfl), ?_⟩
 exact ro (qag r0 rfl (nl rfl) (eE hm))
 refine qas (cs rfl rfl hm ?_ ?_) <;> intro aT hm
 refine fa rfl (ro (ld r1 rfl rfl ?_))
 refine cb hm fun aU aM hm => cg0 (Jao aM :) ?_
 refine qab r0 rfl ⟨rfl, rfl, (nl rfl), ?_⟩
 exact ro (qag r0 rfl (nl rfl) (eE hm))
 refine qas (cs rfl rfl hm ?_ ?_) <;> intro aS hm
 refine fa rfl (ro (ld r1 rfl rfl ?_))
 refine cb hm fun aQ aL hm => cg0 (Jao aL :) ?_
 refine qab r0 rfl ⟨rfl, rfl, (nl rfl), ?_⟩
 exact ro (qag r0 rfl (nl rfl) (eE hm))
 refine fa rfl (ro (ld r1 rfl rfl ?_))
 refine cb hm fun aR aN hm => cg0 (Jao aN :) ?_
 refine qab r0 rfl ⟨rfl, rfl, (nl rfl), ?_⟩
 exact ro (qag r0 rfl (nl rfl) (eE hm))

def JQ (m : Jh) : Option (Jf × Jh) :=
  (chk (InI ((m.stack.length : Int) - 1))).bind fun _ =>
  (ix m.stack ((m.stack.length : Int) - 1)).bind fun aL =>
  (chk (InI ((m.stack.length : Int) - 1))).bind fun _ =>
  (chk (0 ≤ (0 : Int) ∧ (0 : Int) ≤ ((m.stack.length : Int) - 1) ∧ ((m.stack.length : Int) - 1) ≤ (m.stack.length : Int))).bind fun _ =>
  some (aL, (⟨m.Ar, m.most, m.result, (subL m.stack (0 : Int) ((m.stack.length : Int) - 1)), m.Ap⟩ : Jh))
theorem Jaz {m : Jh} {b0 : Nat} {aa : Option Addr} {ab : Nat} {af : Option Addr} {ak : Nat} {al : Option Addr} {am : Nat} {an : Option Addr} {ar : Nat} {av : Option Addr} {ax : Nat} {K : Hp} {r : Jf × Jh}
    (hm : JQ m = some r) (hX : RdC Jg.enc K aa ab 2 m.Ar.Ao ∧ (0 < m.result.Ag.length → Has af) ∧ (0 < m.result.Vary.length → Has al) ∧ (0 < m.result.Ah.length → Has an) ∧ (0 < m.stack.length → Has av) ∧ m.Ap.length = 512) :
    Fn Tryz.prog 65 [.pointer (some ⟨b0, 0, none⟩)] K [Cells b0 98 ((str m.Ar.Am) :: (str m.Ar.An) :: (str m.Ar.Ae) :: (str m.Ar.Af) :: (.slice aa m.Ar.Ao.length ab) :: (.int .i64 m.most) :: (str m.result.Ae) :: (str m.result.Af) :: (.slice af m.result.Ag.length ak) :: (.slice al m.result.Vary.length am) :: (.slice an m.result.Ah.length ar) :: (.int .i64 m.result.TTL) :: (.int .i64 m.result.Ai) :: (.int .i64 m.result.Aj) :: (.bool m.result.Ak) :: (.bool m.result.Al) :: (.slice av m.stack.length ax) :: (m.Ap.map Jf.enc).flatten), OwnL Jg.enc af 77 2 ak m.result.Ag, OwnL eS al 9 1 am m.result.Vary, OwnL eS an 9 1 ar m.result.Ah, OwnL Jf.enc av 95 4 ax m.stack] (fun v K' H' => ∃ ar_0 : Option Addr, ∃ cr_0 : Nat, ∃ ar_1 : Option Addr, ∃ cr_1 : Nat, ∃ ar_2 : Option Addr, ∃ cr_2 : Nat, ∃ ar_3 : Option Addr, ∃ cr_3 : Nat, v = .agg #[.int .i64 r.1.kind, .int .i64 r.1.n, str r.1.s, .bool r.1.Au] ∧ (0 < r.2.result.Ag.length → Has ar_0) ∧ (0 < r.2.result.Vary.length → Has ar_1) ∧ (0 < r.2.result.Ah.length → Has ar_2) ∧ (0 < r.2.stack.length → Has ar_3) ∧ r.2.Ap.length = 512 ∧ H' = [Cells b0 98 ((str m.Ar.Am) :: (str m.Ar.An) :: (str m.Ar.Ae) :: (str m.Ar.Af) :: (.slice aa m.Ar.Ao.length ab) :: (.int .i64 r.2.most) :: (str r.2.result.Ae) :: (str r.2.result.Af) :: (.slice ar_0 r.2.result.Ag.length cr_0) :: (.slice ar_1 r.2.result.Vary.length cr_1) :: (.slice ar_2 r.2.result.Ah.length cr_2) :: (.int .i64 r.2.result.TTL) :: (.int .i64 r.2.result.Ai) :: (.int .i64 r.2.result.Aj) :: (.bool r.2.result.Ak) :: (.bool r.2.result.Al) :: (.slice ar_3 r.2.stack.length cr_3) :: (r.2.Ap.map Jf.enc).flatten), OwnL Jg.enc ar_0 77 2 cr_0 r.2.result.Ag, OwnL eS ar_1 9 1 cr_1 r.2.result.Vary, OwnL eS ar_2 9 1 cr_2 r.2.result.Ah, OwnL Jf.enc ar_3 95 4 cr_3 r.2.stack]) := by
 obtain ⟨ae, aP, aN, aO, aL, aM⟩ := hX
 refine Fn.enter Tryz.func65 Tryz.call65 rfl fun F => ?_
 unfold JQ at hm
 refine qan rfl fun b2 => ?_
 refine qdp ⟨⟨[], true⟩, _, [], []⟩ 14 rfl (by kernel_rfl) ⟨Hp.Le.refl _, (pf rfl), ci0⟩ ?_
 refine qae (fa rfl ?_)
 refine ld r1 rfl rfl ?_
 refine qae (fa rfl ?_)
 refine ld r1 rfl rfl ?_
 refine qcb rfl ?_
 refine ci hm fun hm => ?_
 obtain ⟨aW, aR, aQ, hm⟩ := ixb hm
 refine qac rfl rfl (qdh aL aQ) aR (qaw rfl aR aQ) ?_
 refine qoc (i := (((m.stack.length : Int) - 1)).toNat) r5 rfl aQ rfl rfl ?_
 refine qjb rfl ?_
 intro b3
 intro aU
 refine qab r0 rfl ⟨rfl, rfl, (nl rfl), ?_⟩
 refine ⟨⟨lr, (pf rfl), ci0⟩, ?_⟩
 refine ⟨_, .cons r8 .nil, ⟨lr, (pf rfl), ci0⟩, ?_⟩
 refine DStep.ownLe r3 fun aY => ?_
 refine DStep.ownLe r4 fun aV => ?_
 refine DStep.ownLe r5 fun aX => ?_
 refine DStep.ownLe r6 fun aT => ?_
 refine qbg ⟨⟨[], false⟩, _, [(_, _)], []⟩ 12 rfl (by kernel_rfl) ⟨Hp.Le.refl _, (sc [2] rfl), ci0⟩ ?_
 refine qae (fa rfl (qao m0 rfl rfl (qae (fa rfl (qao m0 rfl rfl (qcb rfl ?_))))))
 refine ci hm fun hm => ?_
 obtain ⟨aS, hm⟩ := qa5 hm
 refine qul (l := m.stack) (hi := (some ((m.stack.length : Int) - 1))) rfl rfl rfl aT aS ?_
 refine qae (fa rfl ?_)
 refine tkW ((m.stack.length : Int) - 1) r6 ?_
 refine qov (cs' := (str m.Ar.Am) :: (str m.Ar.An) :: (str m.Ar.Ae) :: (str m.Ar.Af) :: (.slice aa m.Ar.Ao.length ab) :: (.int .i64 m.most) :: (str m.result.Ae) :: (str m.result.Af) :: (.slice af m.result.Ag.length ak) :: (.slice al m.result.Vary.length am) :: (.slice an m.result.Ah.length ar) :: (.int .i64 m.result.TTL) :: (.int .i64 m.result.Ai) :: (.int .i64 m.result.Aj) :: (.bool m.result.Ak) :: (.bool m.result.Al) :: (.slice av ((subL m.stack (0 : Int) ((m.stack.length : Int) - 1)).length) ax) :: (m.Ap.map Jf.enc).flatten) r3 rfl rfl (by exact rfl) (by exact nl rfl) (by exact rfl) ?_
 refine ⟨⟨Hp.emp_le _, (pf rfl), ci0⟩, ?_⟩
 refine ro (qag r2 rfl (nl rfl) ?_)
 refine qab r3 rfl ⟨rfl, rfl, (nl rfl), ?_⟩
 obtain rfl := si hm
 exact ro (qag r0 rfl (nl rfl) (en lr ⟨af, ak, al, am, an, ar, av, ax, rfl, aP, aN, aO, (fun h => aL (qoe aS h)), aM, rfl⟩ (sc [1,3,3,3,1,2] rfl)))

def JbP (path : Str) : Option ((List Str)) :=
  (cutM path ([47] : Str)).bind fun x8 =>
  if (!x8.2.2) then
  some []
  else
  (qgt x8.2.1 ([47] : Str)).bind fun aL =>
  some aL
theorem JdU {path : Str} {K : Hp} {r : (List Str)}
    (hm : JbP path = some r) (hG : GG K) :
    Fn Tryz.prog 104 [str path] K [] (fun v K' H' => ∃ ar_0 : Option Addr, ∃ cr_0 : Nat, v = .slice ar_0 r.length cr_0 ∧ (0 < r.length → Has ar_0) ∧ H' = [OwnL eS ar_0 9 1 cr_0 r]) := by
 refine Fn.enter Tryz.func104 Tryz.call104 rfl fun F => ?_
 unfold JbP at hm
 refine cb hm fun x8 q8 hm => cg0 (qty q8 (gg3 hG)) ?_
 refine qaz ?_
 refine cs rfl rfl hm ?_ ?_ <;> intro aQ hm
 refine qi7 eS 9 1 ?_
 exact eE hm
 refine cb hm fun aP aO hm => ck0 (qf1 aO (gg3 hG)) ?_
 rintro _ _ _ ⟨aM, aL, rfl, aN, rfl⟩
 exact eE hm

def Ja4 : Nat → Nat → Str → Option (Str)
  | 0, _, ac => some ac
  | aM + 1, i0, ac =>
    (ix ac (i0 : Int)).bind fun aL =>
    if (decide ((aL.toNat : Int) ≥ 65) && decide ((aL.toNat : Int) ≤ 90)) then
    (ix ac (i0 : Int)).bind fun aN =>
    Ja4 aM (i0 + 1) (ac.set (((i0 : Int)).toNat) (aL + (32 : UInt8)))
    else
    Ja4 aM (i0 + 1) ac
def JbK (s : Str) : Option (Str) :=
  (chk (s.length ≤ lim)).bind fun _ =>
  (chk (InI (s.length : Int))).bind fun _ =>
  (Ja4 (s.length : Int).toNat 0 s).bind fun t0 =>
  some t0
theorem Jb8 {s : Str} {K : Hp} {r : Str}
    (hm : JbK s = some r)  :
    Fn Tryz.prog 178 [str s] K [] (fun v K' H' => v = str r ∧ H' = []) := by
 refine Fn.enter Tryz.func178 Tryz.call178 rfl fun F => ?_
 unfold JbK at hm
 obtain ⟨h7, hm⟩ := qa5 hm
 refine qlk rfl rfl rfl h7 ?_
 intro a7 c7 o7
 refine ro (qai rfl ?_)
 obtain ⟨aS, hm⟩ := qa5 hm
 obtain ⟨s0, aM, hm⟩ := bnd hm
 refine lD (σ := (Str)) ([4,5] ++ rg 10 17) [1] (fun i0 => [(10, .int .i64 (i0 : Int))]) (fun _ => []) (fun t0 => [OwnL eU a7 5 1 c7 t0]) (fun t0 => (0 < t0.length → Has a7) ∧ s.length = t0.length) (fun i0 t0 => Ja4 ((s.length : Int).toNat - i0) i0 t0 = some s0) (fun t0 => t0 = s0) (fun i0 => (s.length : Int).toNat - i0) 0 _ aM (And.intro qe (And.intro ?_ ?_))
 clear aM
 rintro i0 ac ⟨aN, aO⟩ aM j0
 conv at aM => whnf
 refine qaf rfl ?_
 refine qah ?_ ?_ <;> intro w0
 rw [ltn w0, Ja4.eq_2] at aM
 refine qal rfl ?_
 obtain ⟨aR, aV, aT, aM⟩ := ixb aM
 refine RStep.ofN (qac rfl rfl (qdh aN aT) aV (qaw aO aV aT) (ro (qc2 (i := ((i0 : Int)).toNat) (o := 0) r0 rfl aT rfl rfl ?_)))
 refine qam rfl ?_
 refine qah ?_ ?_ <;> intro aL
 refine ct aL (ct aL (qaf rfl ?_))
 refine qah ?_ ?_ <;> intro aX
 replace aM := ift (qb8 aL aX) aM
 refine qoa (x := aR) (y := (32 : UInt8)) rfl rfl ?_
 obtain ⟨aY, aW, aQ, aM⟩ := ixb aM
 refine RStep.ofN (qac rfl rfl (qdh aN aQ) aW (qaw aO aW aQ) ?_)
 refine qgm (o := 0) (y := (aR + (32 : UInt8))) aY r0 rfl aQ rfl (by (conv => whnf); exact ⟨rfl, rfl, (nl rfl), rfl, rfl, rfl⟩) ?_
 refine qat (qq3 w0 aS) ?_
 exact rd (i0 + 1, (ac.set (((i0 : Int)).toNat) (aR + (32 : UInt8)))) ⟨rfl, trivial⟩ rfl (pf rfl) lr (qyh w0) ⟨⟨(by first | simpa using aN | exact fun _ => ⟨_, _, rfl⟩), ((aO).trans List.length_set.symm)⟩, aM⟩
 replace aM := qbs (qcw aL aX) aM
 refine qat (qq3 w0 aS) ?_
 exact eR aM (_, _)
 refine cf aL (cf aL (qaf rfl (cF ?_)))
 replace aM := qbs (qa1 aL) aM
 refine qat (qq3 w0 aS) ?_
 exact eR aM (_, _)
 rw [lto w0, Ja4.eq_1] at aM
 refine cT ?_
 exact eM aM _
 rintro t0 ⟨aU, aP⟩ rfl j0
 refine ro (qib aP r0 rfl rfl rfl ?_)
 exact eE hm

def Jbk (x9 : Str) : List Jg → Nat → (List Str) → Option ((List Str))
  | [], _, ac => some ac
  | e0 :: aL, i0, ac =>
    (JbK e0.Name).bind fun aM =>
    if decide (aM = x9) then
    (chk (ac.length + [e0.Value].length ≤ lim)).bind fun _ =>
    Jbk x9 aL (i0 + 1) (ac ++ [e0.Value])
    else
    Jbk x9 aL (i0 + 1) ac
def Jdw (f : (List Jg)) (name : Str) : Option ((List Str)) :=
  (JbK name).bind fun x9 =>
  (chk (f.length ≤ qau)).bind fun _ =>
  (Jbk x9 f 0 []).bind fun t0 =>
  some t0
theorem Jfe {f : (List Jg)} {name : Str} {aa : Option Addr} {ab : Nat} {n0 : Nat} {K : Hp} {r : (List Str)}
    (hm : Jdw f name = some r) (hX : RdC Jg.enc K aa ab 2 f ∧ n0 = f.length) :
    Fn Tryz.prog 145 [.slice aa n0 ab, str name] K [] (fun v K' H' => ∃ ar_0 : Option Addr, ∃ cr_0 : Nat, v = .slice ar_0 r.length cr_0 ∧ (0 < r.length → Has ar_0) ∧ H' = [OwnL eS ar_0 9 1 cr_0 r]) := by
 obtain ⟨ae, aW⟩ := hX
 subst aW
 refine Fn.enter Tryz.func145 Tryz.call145 rfl fun F => ?_
 unfold Jdw at hm
 refine cb hm fun x9 q9 hm => cg0 (Jb8 q9 :) ?_
 refine ro (qai rfl ?_)
 obtain ⟨aR, hm⟩ := qa5 hm
 obtain ⟨s0, aN, hm⟩ := bnd hm
 refine qnr eS 9 1 ?_
 refine lD (σ := ((List Str)) × Option Addr × Nat) ([5,7] ++ rg 12 15) [1] (fun i0 => [(12, .int .i64 (i0 : Int))]) (fun (t0, aL, aM) => [(5, .slice aL t0.length aM)]) (fun (t0, aL, aM) => [OwnL eS aL 9 1 aM t0]) (fun (t0, aL, aM) => (0 < t0.length → Has aL) ∧ True) (fun i0 (t0, aL, aM) => Jbk x9 (f.drop i0) i0 t0 = some s0) (fun (t0, aL, aM) => t0 = s0) (fun i0 => f.length - i0) 0 (_, _, _) aN (And.intro qe (And.intro ?_ ?_))
 clear aN
 rintro i0 ⟨ac, aT, aS⟩ ⟨aP, _⟩ aN j0
 conv at aN => whnf
 refine qaf rfl ?_
 refine qah ?_ ?_ <;> intro w0
 obtain ⟨e0, aO, aX⟩ := ltx w0
 rw [aX, Jbk.eq_2] at aN
 refine qal rfl ?_
 refine RStep.ofN (qac rfl rfl (qdm ae.rd aO) (nn _) (qbr aO) (ro (qaj i0 _ ae.rd rfl (mp aO) rfl ?_)))
 refine qan rfl fun b7 => ?_
 refine qab r0 rfl ⟨rfl, rfl, (nl rfl), ?_⟩
 refine fa rfl (ro (ld r0 rfl rfl ?_))
 refine cb aN fun bb aV aN => cg0 (Jb8 aV :) ?_
 refine qas (cs rfl rfl aN ?_ ?_) <;> intro ba aN
 refine fa rfl (ro (ld r0 rfl rfl ?_))
 refine bsO (len := 1) (enc := eS) (l := [e0.Value]) (cl := [str e0.Value]) qj3 rfl rfl (fun _ _ => rfl) rfl rfl rfl ?_ fun aY => ?_
 · conv => whnf
   refine cT ?_
   first | done | rfl
 obtain ⟨aU, aN⟩ := qa5 aN
 refine apE rfl r2 qj3 (qa6 rfl r0 rfl (fun _ => rfl) (fun _ => rfl)) aU ?_
 intro bf a8 aZ
 refine qat (qcn aO aR) ?_
 exact eR aN (_, _, _, _)
 refine qat (qcn aO aR) ?_
 exact eR aN (_, _, _, _)
 rw [lty w0, Jbk.eq_1] at aN
 refine cT ?_
 exact eM aN (_, _, _)
 rintro ⟨t0, aL, aM⟩ ⟨aQ, _⟩ rfl j0
 exact eE hm

def Jc6 (f : (List Jg)) (name : Str) : Option (Str × Bool) :=
  (Jdw f name).bind fun x9 =>
  (qkj x9 ([44, 32] : Str)).bind fun aL =>
  some (aL, decide ((x9.length : Int) > 0))
theorem Jep {f : (List Jg)} {name : Str} {aa : Option Addr} {ab : Nat} {n0 : Nat} {K : Hp} {r : Str × Bool}
    (hm : Jc6 f name = some r) (hX : RdC Jg.enc K aa ab 2 f ∧ n0 = f.length) :
    Fn Tryz.prog 105 [.slice aa n0 ab, str name] K [] (fun v K' H' => v = .tuple #[str r.1, .bool r.2] ∧ H' = []) := by
 obtain ⟨ae, aQ⟩ := hX
 subst aQ
 refine Fn.enter Tryz.func105 Tryz.call105 rfl fun F => ?_
 unfold Jc6 at hm
 refine cb hm fun x9 q9 hm => ckx (Jfe q9 :) ?_
 rintro _ _ _ ⟨aR, aO, rfl, aS, rfl⟩
 refine cb hm fun aT aP hm => ck0 (Fn.lend Tryz.call146 (fun aM aN aL => (qvv aP aL rfl)) (by exact fun _ _ _ _ h => h)) ?_
 rintro _ _ _ ⟨_, rfl, rfl, rfl⟩
 refine ro (qai rfl ?_)
 exact eE hm

def Jaj (Au : Bool) : Option (Jf) :=
  some (⟨3, 0, ([] : Str), Au⟩ : Jf)
theorem JaA {Au : Bool} {K : Hp} {r : Jf}
    (hm : Jaj Au = some r)  :
    Fn Tryz.prog 68 [.bool Au] K [] (fun v K' H' => v = .agg #[.int .i64 r.kind, .int .i64 r.n, str r.s, .bool r.Au] ∧ H' = []) := by
 refine Fn.enter Tryz.func68 Tryz.call68 rfl fun F => ?_
 unfold Jaj at hm
 refine qan rfl fun b2 => ?_
 refine qak rfl rfl (cT (cT ?_))
 refine qab r0 rfl ⟨rfl, rfl, (nl rfl), ?_⟩
 exact ro (qag r0 rfl (nl rfl) (eE hm))

def JU (s : Str) (prefixZ : Str) : Option (Bool) :=
  (J8 s prefixZ).bind fun x7 =>
  some x7
theorem Jbi {s : Str} {prefixZ : Str} {K : Hp} {r : Bool}
    (hm : JU s prefixZ = some r)  :
    Fn Tryz.prog 69 [str s, str prefixZ] K [] (fun v K' H' => v = .bool r ∧ H' = []) := by
 refine Fn.enter Tryz.func69 Tryz.call69 rfl fun F => ?_
 unfold JU at hm
 refine cb hm fun x7 q7 hm => cg0 (Jbv q7 :) ?_
 exact eE hm

def Jbz (name : Str) : List Str → Nat → Option (Fl (Str × Bool) (Unit))
  | [], _ => some (Fl.go ())
  | e0 :: aL, i0 =>
    (chk (name.length + ([61] : Str).length ≤ lim)).bind fun _ =>
    (JU e0 (name ++ ([61] : Str))).bind fun aM =>
    if aM then
    (chk (InI ((name.length : Int) + 1))).bind fun _ =>
    (chk (0 ≤ ((name.length : Int) + 1) ∧ ((name.length : Int) + 1) ≤ (e0.length : Int) ∧ (e0.length : Int) ≤ (e0.length : Int))).bind fun _ =>
    some (Fl.ret ((subL e0 ((name.length : Int) + 1) (e0.length : Int)), true))
    else
    Jbz name aL (i0 + 1)
def JcI (a : JbF) (name : Str) : Option (Str × Bool) :=
  if (!a.HasQuery) then
  some (([] : Str), false)
  else
  (qgt a.Af ([38] : Str)).bind fun aL =>
  (chk (aL.length ≤ qau)).bind fun _ =>
  (Jbz name aL 0).bind fun s0 => s0.el some fun t0 =>
  some (([] : Str), false)
theorem JeU {a : JbF} {name : Str} {K : Hp} {r : Str × Bool}
    (hm : JcI a name = some r) (hG : GG K) :
    Fn Tryz.prog 106 [.agg #[str a.An, str a.Ae, str a.Af, .bool a.HasQuery], str name] K [] (fun v K' H' => v = .tuple #[str r.1, .bool r.2] ∧ H' = []) := by
 refine Fn.enter Tryz.func106 Tryz.call106 rfl fun F => ?_
 unfold JcI at hm
 refine qap ?_
 intro b2
 refine fa rfl (ro (ld r0 rfl rfl (qaz ?_)))
 refine cs rfl rfl hm ?_ ?_ <;> intro a8 hm
 exact eE hm
 refine fa rfl (ro (ld r0 rfl rfl ?_))
 refine cb hm fun aO aS hm => ck0 (qf1 aS (gg3 hG)) ?_
 rintro _ _ _ ⟨aQ, aP, rfl, aM, rfl⟩
 refine ro (qai rfl ?_)
 obtain ⟨aT, hm⟩ := qa5 hm
 obtain ⟨s0, aL, hm⟩ := bnd hm
 refine lD (σ := (Unit)) ([4,5,7] ++ rg 15 14) [0, 1, 2] (fun i0 => [(15, .int .i64 (i0 : Int))]) (fun _ => []) (fun _ => []) (fun _ => True) (fun i0 _ => Jbz name (aO.drop i0) i0 = some s0) (fun t0 => s0 = Fl.go t0) (fun i0 => aO.length - i0) 0 () aL (And.intro qe (And.intro ?_ ?_))
 clear aL
 rintro i0 _ _ aL j0
 conv at aL => whnf
 refine qaf rfl ?_
 refine qah ?_ ?_ <;> intro w0
 obtain ⟨e0, aN, aV⟩ := ltx w0
 rw [aV, Jbz.eq_2] at aL
 refine qal rfl ?_
 refine RStep.ofN (qac rfl rfl (qdh aM aN) (nn _) (qug rfl aN) (ro (qc2 (i := i0) (o := 0) r0 rfl aN rfl rfl ?_)))
 obtain ⟨aR, aL⟩ := qa5 aL
 refine qdn aR ?_
 refine cb aL fun aX aU aL => cg0 (Jbi aU :) ?_
 refine CStep.ownLe r0 fun aY => ?_
 refine cs rfl rfl aL ?_ ?_ <;> intro aZ aL
 refine ro (qa2 rfl ?_)
 refine ci aL fun aL => ?_
 obtain ⟨aW, aL⟩ := qa5 aL
 refine RStep.ofN (qgn (lo := (some ((name.length : Int) + 1))) (hi := none) rfl aW ?_)
 exact eE (er aL hm)
 refine qat (qcn aN aT) ?_
 exact eR aL (_, ())
 rw [lty w0, Jbz.eq_1] at aL
 refine cT ?_
 exact eM aL _
 rintro t0 _ rfl j0
 replace hm := elg hm
 exact eE hm

def JaT : Nat → Nat → Str → Option (Str)
  | 0, _, ac => some ac
  | aM + 1, i0, ac =>
    (ix ac (i0 : Int)).bind fun aL =>
    if (decide ((aL.toNat : Int) ≥ 65) && decide ((aL.toNat : Int) ≤ 90)) then
    (ix ac (i0 : Int)).bind fun aN =>
    JaT aM (i0 + 1) (ac.set (((i0 : Int)).toNat) (aL + (32 : UInt8)))
    else
    JaT aM (i0 + 1) ac
def Jcy (s : Str) : Option (Str) :=
  (chk (s.length ≤ lim)).bind fun _ =>
  (chk (InI (s.length : Int))).bind fun _ =>
  (JaT (s.length : Int).toNat 0 s).bind fun t0 =>
  some t0
theorem JeJ {s : Str} {K : Hp} {r : Str}
    (hm : Jcy s = some r)  :
    Fn Tryz.prog 107 [str s] K [] (fun v K' H' => v = str r ∧ H' = []) := by
 refine Fn.enter Tryz.func107 Tryz.call107 rfl fun F => ?_
 unfold Jcy at hm
 obtain ⟨h7, hm⟩ := qa5 hm
 refine qlk rfl rfl rfl h7 ?_
 intro a7 c7 o7
 refine ro (qai rfl ?_)
 obtain ⟨aS, hm⟩ := qa5 hm
 obtain ⟨s0, aM, hm⟩ := bnd hm
 refine lD (σ := (Str)) ([4,5] ++ rg 10 17) [1] (fun i0 => [(10, .int .i64 (i0 : Int))]) (fun _ => []) (fun t0 => [OwnL eU a7 5 1 c7 t0]) (fun t0 => (0 < t0.length → Has a7) ∧ s.length = t0.length) (fun i0 t0 => JaT ((s.length : Int).toNat - i0) i0 t0 = some s0) (fun t0 => t0 = s0) (fun i0 => (s.length : Int).toNat - i0) 0 _ aM (And.intro qe (And.intro ?_ ?_))
 clear aM
 rintro i0 ac ⟨aN, aO⟩ aM j0
 conv at aM => whnf
 refine qaf rfl ?_
 refine qah ?_ ?_ <;> intro w0
 rw [ltn w0, JaT.eq_2] at aM
 refine qal rfl ?_
 obtain ⟨aR, aV, aT, aM⟩ := ixb aM
 refine RStep.ofN (qac rfl rfl (qdh aN aT) aV (qaw aO aV aT) (ro (qc2 (i := ((i0 : Int)).toNat) (o := 0) r0 rfl aT rfl rfl ?_)))
 refine qam rfl ?_
 refine qah ?_ ?_ <;> intro aL
 refine ct aL (ct aL (qaf rfl ?_))
 refine qah ?_ ?_ <;> intro aX
 replace aM := ift (qb8 aL aX) aM
 refine qoa (x := aR) (y := (32 : UInt8)) rfl rfl ?_
 obtain ⟨aY, aW, aQ, aM⟩ := ixb aM
 refine RStep.ofN (qac rfl rfl (qdh aN aQ) aW (qaw aO aW aQ) ?_)
 refine qgm (o := 0) (y := (aR + (32 : UInt8))) aY r0 rfl aQ rfl (by (conv => whnf); exact ⟨rfl, rfl, (nl rfl), rfl, rfl, rfl⟩) ?_
 refine qat (qq3 w0 aS) ?_
 exact rd (i0 + 1, (ac.set (((i0 : Int)).toNat) (aR + (32 : UInt8)))) ⟨rfl, trivial⟩ rfl (pf rfl) lr (qyh w0) ⟨⟨(by first | simpa using aN | exact fun _ => ⟨_, _, rfl⟩), ((aO).trans List.length_set.symm)⟩, aM⟩
 replace aM := qbs (qcw aL aX) aM
 refine qat (qq3 w0 aS) ?_
 exact eR aM (_, _)
 refine cf aL (cf aL (qaf rfl (cF ?_)))
 replace aM := qbs (qa1 aL) aM
 refine qat (qq3 w0 aS) ?_
 exact eR aM (_, _)
 rw [lto w0, JaT.eq_1] at aM
 refine cT ?_
 exact eM aM _
 rintro t0 ⟨aU, aP⟩ rfl j0
 refine ro (qib aP r0 rfl rfl rfl ?_)
 exact eE hm

def Jbc : List UInt8 → Nat → Int → Option (Fl (Int) (Int))
  | [], _, ac => some (Fl.go ac)
  | e0 :: aL, i0, ac =>
    (if decide ((e0.toNat : Int) < 48) then some true else some (decide ((e0.toNat : Int) > 57))).bind fun aM =>
    if aM then
    some (Fl.ret 0)
    else
    (chk (InI (10 * ac))).bind fun _ =>
    (chk (InI ((10 * ac) + ((e0 - (48 : UInt8)).toNat : Int)))).bind fun _ =>
    Jbc aL (i0 + 1) ((10 * ac) + ((e0 - (48 : UInt8)).toNat : Int))
def Jb1 (s : Str) : Option (Int) :=
  if (decide ((s.length : Int) < 1) || decide ((s.length : Int) > 15)) then
  some 0
  else
  (chk (s.length ≤ qau)).bind fun _ =>
  (Jbc s 0 0).bind fun s0 => s0.el some fun t0 =>
  some t0
theorem Jdo {s : Str} {K : Hp} {r : Int}
    (hm : Jb1 s = some r)  :
    Fn Tryz.prog 108 [str s] K [] (fun v K' H' => v = .int .i64 r ∧ H' = []) := by
 refine Fn.enter Tryz.func108 Tryz.call108 rfl fun F => ?_
 unfold Jb1 at hm
 refine jR (σ := Unit) (rg 5 8) (fun _ => [(12, .bool (decide ((s.length : Int) < 1) || decide ((s.length : Int) > 15)))]) (fun aT => True) ?_ ?_
 refine qam rfl ?_
 refine ro (qa2 rfl ?_)
 refine qah ?_ ?_ <;> intro aN
 refine ct aN (ct aN (ct aN ?_))
 exact eMt () ⟨bq (((qd0 aN)).symm), trivial⟩
 refine cf aN (ro (qa2 rfl (cf aN (cf aN ?_))))
 exact eMt () ⟨bq (qm6 (b := decide ((s.length : Int) > 15)) aN), trivial⟩
 rintro _ _ aV
 refine cs rfl rfl hm ?_ ?_ <;> intro aY hm
 exact eE hm
 refine ro (qa2 rfl ?_)
 obtain ⟨aU, hm⟩ := qa5 hm
 obtain ⟨s0, aM, hm⟩ := bnd hm
 refine lD (σ := (Int)) ([2,3,4] ++ rg 15 22) [0] (fun i0 => [(15, .int .i64 (i0 : Int))]) (fun t0 => [(3, .int .i64 t0)]) (fun _ => []) (fun _ => True) (fun i0 t0 => Jbc (s.drop i0) i0 t0 = some s0) (fun t0 => s0 = Fl.go t0) (fun i0 => s.length - i0) 0 _ aM (And.intro qe (And.intro ?_ ?_))
 clear aM
 rintro i0 ac _ aM j0
 conv at aM => whnf
 refine qaf rfl ?_
 refine qah ?_ ?_ <;> intro w0
 obtain ⟨e0, aP, aW⟩ := ltx w0
 rw [aW, Jbc.eq_2] at aM
 refine qal rfl ?_
 refine qam rfl ?_
 refine qbb rfl (nn _) aP ?_
 obtain ⟨aX, aO, aM⟩ := bnd aM
 refine cS aO (fun aL aO => ?_) fun aL aO => ?_
 refine ct aL (ct aL (ct aL (ct aL (qaf rfl (cT ?_)))))
 replace aM := ift (si aO).symm aM
 exact eE (er aM hm)
 refine cf aL (cf aL (qbb rfl (nn _) aP (cf aL (cf aL (qaf rfl ?_)))))
 refine qah ?_ ?_ <;> intro aQ
 replace aM := ift ((si aO).symm.trans aQ) aM
 exact eE (er aM hm)
 replace aM := qbs ((si aO).symm.trans aQ) aM
 obtain ⟨aR, aM⟩ := qa5 aM
 refine qat aR (qbb rfl (nn _) aP (qub (x := e0) (y := (48 : UInt8)) rfl rfl (qq1 rfl rfl (qz3 (e0 - (48 : UInt8))) ?_)))
 obtain ⟨aS, aM⟩ := qa5 aM
 refine qat aS (qat (qcn aP aU) ?_)
 exact eR aM (_, _)
 rw [lty w0, Jbc.eq_1] at aM
 refine cT ?_
 exact eM aM _
 rintro t0 _ rfl j0
 replace hm := elg hm
 exact eE hm

def JE (name : Str) (x : Jf) (Ar : JH) : Option (Jf × Bool) :=
  if (decide (name = ([112, 97, 114, 116] : Str)) || decide (name = ([116, 101, 120, 116] : Str))) then
  if decide (x.kind ≠ 2) then
  some ((⟨0, 0, ([] : Str), false⟩ : Jf), false)
  else
  if decide (name = ([116, 101, 120, 116] : Str)) then
  (qne x.n).bind fun aZ =>
  (Jat aZ).bind fun a8 =>
  some (a8, true)
  else
  (JbP Ar.Ae).bind fun aP =>
  if (decide (x.n < 0) || decide (x.n ≥ (aP.length : Int))) then
  (Jat ([] : Str)).bind fun aR =>
  some (aR, true)
  else
  (ix aP x.n).bind fun aV =>
  (Jat aV).bind fun ba =>
  some (ba, true)
  else
  if decide (x.kind ≠ 1) then
  some ((⟨0, 0, ([] : Str), false⟩ : Jf), false)
  else
  if decide (name = ([104, 101, 97, 100, 101, 114] : Str)) then
  (Jc6 Ar.Ao x.s).bind fun aQ =>
  (Jat aQ.1).bind fun aS =>
  some (aS, true)
  else
  if decide (name = ([104, 97, 115] : Str)) then
  (Jc6 Ar.Ao x.s).bind fun aW =>
  (Jaj aW.2).bind fun aY =>
  some (aY, true)
  else
  if decide (name = ([97, 114, 103] : Str)) then
  (JcI (⟨([] : Str), ([] : Str), Ar.Af, true⟩ : JbF) x.s).bind fun aX =>
  (Jat aX.1).bind fun aU =>
  some (aU, true)
  else
  if decide (name = ([108, 101, 110] : Str)) then
  (JaX (x.s.length : Int)).bind fun aT =>
  some (aT, true)
  else
  if decide (name = ([108, 111, 119, 101, 114] : Str)) then
  (Jcy x.s).bind fun aM =>
  (Jat aM).bind fun aN =>
  some (aN, true)
  else
  (Jb1 x.s).bind fun aL =>
  (JaX aL).bind fun aO =>
  some (aO, true)
theorem JdI {name : Str} {x : Jf} {Ar : JH} {ao : Option Addr} {aq : Nat} {K : Hp} {r : Jf × Bool}
    (hm : JE name x Ar = some r) (hX : RdC Jg.enc K ao aq 2 Ar.Ao ∧ GG K) :
    Fn Tryz.prog 66 [str name, .agg #[.int .i64 x.kind, .int .i64 x.n, str x.s, .bool x.Au], .agg #[str Ar.Am, str Ar.An, str Ar.Ae, str Ar.Af, .slice ao Ar.Ao.length aq]] K [] (fun v K' H' => v = .tuple #[.agg #[.int .i64 r.1.kind, .int .i64 r.1.n, str r.1.s, .bool r.1.Au], .bool r.2] ∧ H' = []) := by
 obtain ⟨aX, hG⟩ := hX
 refine Fn.enter Tryz.func66 Tryz.call66 rfl fun F => ?_
 unfold JE at hm
 refine qap ?_
 intro b4
 refine qap ?_
 intro b5
 refine qan rfl fun b6 => ?_
 refine jR (σ := Unit) (rg 15 6) (fun _ => [(20, .bool (decide (name = ([112, 97, 114, 116] : Str)) || decide (name = ([116, 101, 120, 116] : Str))))]) (fun bp => True) ?_ ?_
 refine qam rfl ?_
 refine qas ?_
 refine qah ?_ ?_ <;> intro aM
 refine ct aM (ct aM ?_)
 exact eMt () ⟨bq (((qd0 aM)).symm), trivial⟩
 refine cf aM (qas (cf aM ?_))
 exact eMt () ⟨bq (qm6 (b := decide (name = ([116, 101, 120, 116] : Str))) aM), trivial⟩
 rintro _ _ bw
 refine cs rfl rfl hm ?_ ?_ <;> intro bO hm
 refine fa rfl (ro (ld r2 rfl rfl (qbd ?_)))
 refine cs rfl rfl hm ?_ ?_ <;> intro bJ hm
 refine qak rfl rfl ?_
 refine qab r0 rfl ⟨rfl, rfl, (nl rfl), ?_⟩
 exact ro (qag r0 rfl (nl rfl) (eE hm))
 refine qas (cs rfl rfl hm ?_ ?_) <;> intro bN hm
 refine fa rfl (ro (ld r2 rfl rfl ?_))
 refine cb hm fun bR bg hm => cg0 (qvy bg (gg5 hG)) ?_
 refine cb hm fun bM bj hm => cg0 (Jao bj :) ?_
 refine qab r0 rfl ⟨rfl, rfl, (nl rfl), ?_⟩
 exact ro (qag r0 rfl (nl rfl) (eE hm))
 refine fa rfl (ro (ld r1 rfl rfl ?_))
 refine cb hm fun aU bB hm => ckx (JdU bB :) ?_
 rintro _ _ _ ⟨aT, aW, rfl, aN, rfl⟩
 refine jR (σ := Unit) (rg 34 10) (fun _ => [(43, .bool (decide (x.n < 0) || decide (x.n ≥ (aU.length : Int))))]) (fun ba => True) ?_ ?_
 refine qam rfl ?_
 refine fa rfl (ro (ld r3 rfl rfl ?_))
 refine qah ?_ ?_ <;> intro aL
 refine ct aL (ct aL (ct aL (ct aL (ct aL ?_))))
 exact eMt () ⟨bq (((qd0 aL)).symm), trivial⟩
 refine fa rfl (cf aL (ro (ld r3 rfl rfl (cf aL (cf aL (ro (qai rfl (cf aL (cf aL ?_)))))))))
 exact eMt () ⟨bq (qm6 (b := decide (x.n ≥ (aU.length : Int))) aL), trivial⟩
 rintro _ _ bf
 refine cs rfl rfl hm ?_ ?_ <;> intro bG hm
 refine cb hm fun bV bm hm => cg0 (Jao bm :) ?_
 refine qab r1 rfl ⟨rfl, rfl, (nl rfl), ?_⟩
 exact ro (qag r0 rfl (nl rfl) (eE hm))
 refine fa rfl (ro (ld r3 rfl rfl ?_))
 obtain ⟨bX, aV, aR, hm⟩ := ixb hm
 refine RStep.ofN (qac rfl rfl (qdh aN aR) aV (qaw rfl aV aR) (ro (qc2 (i := (x.n).toNat) (o := 0) r0 rfl aR rfl rfl ?_)))
 refine cb hm fun bS bA hm => cg0 (Jao bA :) ?_
 refine qab r1 rfl ⟨rfl, rfl, (nl rfl), ?_⟩
 exact ro (qag r0 rfl (nl rfl) (eE hm))
 refine fa rfl (ro (ld r2 rfl rfl (qbd ?_)))
 refine cs rfl rfl hm ?_ ?_ <;> intro bI hm
 refine qak rfl rfl ?_
 refine qab r0 rfl ⟨rfl, rfl, (nl rfl), ?_⟩
 exact ro (qag r0 rfl (nl rfl) (eE hm))
 refine qal rfl ?_
 refine qas (cs rfl rfl hm ?_ ?_) <;> intro bC hm
 refine fa rfl (ro (ld r1 rfl rfl (fa rfl (ro (ld r2 rfl rfl ?_)))))
 refine cb hm fun bD aY hm => cgx (Jep aY :) ?_
 refine cb hm fun bP aZ hm => cg0 (Jao aZ :) ?_
 refine qab r0 rfl ⟨rfl, rfl, (nl rfl), ?_⟩
 exact ro (qag r0 rfl (nl rfl) (eE hm))
 refine qas (cs rfl rfl hm ?_ ?_) <;> intro bH hm
 refine fa rfl (ro (ld r1 rfl rfl (fa rfl (ro (ld r2 rfl rfl ?_)))))
 refine cb hm fun bQ bn hm => cgx (Jep bn :) ?_
 refine cb hm fun bL bv hm => cg0 (JaA bv :) ?_
 refine qab r0 rfl ⟨rfl, rfl, (nl rfl), ?_⟩
 exact ro (qag r0 rfl (nl rfl) (eE hm))
 refine qas (cs rfl rfl hm ?_ ?_) <;> intro bT hm
 refine fa rfl (ro (ld r1 rfl rfl (qak rfl rfl (cT (cT (fa rfl (ro (ld r2 rfl rfl ?_))))))))
 refine cb hm fun bY a8 hm => cgx (JeU a8 :) ?_
 refine cb hm fun bW bz hm => cg0 (Jao bz :) ?_
 refine qab r0 rfl ⟨rfl, rfl, (nl rfl), ?_⟩
 exact ro (qag r0 rfl (nl rfl) (eE hm))
 refine qas (cs rfl rfl hm ?_ ?_) <;> intro bU hm
 refine fa rfl (ro (ld r2 rfl rfl (ro (qa2 rfl ?_))))
 refine cb hm fun bF bt hm => cg0 (Jbj bt :) ?_
 refine qab r0 rfl ⟨rfl, rfl, (nl rfl), ?_⟩
 exact ro (qag r0 rfl (nl rfl) (eE hm))
 refine qas (cs rfl rfl hm ?_ ?_) <;> intro bK hm
 refine fa rfl (ro (ld r2 rfl rfl ?_))
 refine cb hm fun bb aO hm => cg0 (JeJ aO :) ?_
 refine cb hm fun bh aS hm => cg0 (Jao aS :) ?_
 refine qab r0 rfl ⟨rfl, rfl, (nl rfl), ?_⟩
 exact ro (qag r0 rfl (nl rfl) (eE hm))
 refine fa rfl (ro (ld r2 rfl rfl ?_))
 refine cb hm fun bo aP hm => cg0 (Jdo aP :) ?_
 refine cb hm fun bu aQ hm => cg0 (Jbj aQ :) ?_
 refine qab r0 rfl ⟨rfl, rfl, (nl rfl), ?_⟩
 exact ro (qag r0 rfl (nl rfl) (eE hm))

def JbA (a : Int) (b : Int) : Option (Jf) :=
  if (decide (a = 0) || decide (b = 0)) then
  (JaX 0).bind fun aN =>
  some aN
  else
  (chk (InI (-a))).bind fun _ =>
  (chk (InI (-b))).bind fun _ =>
  (chk ((max b (-b)) ≠ 0 ∧ InI (Int.tdiv 1099511627776 (max b (-b))))).bind fun _ =>
  ((if decide ((max a (-a)) > (Int.tdiv 1099511627776 (max b (-b)))) then
  some (1099511627776, 1)
  else
  some ((max a (-a)), (max b (-b))) : Option (Int × Int))).bind fun aL =>
  if (!((decide (a < 0)) == (decide (b < 0)))) then
  (chk (InI (-aL.1))).bind fun _ =>
  (chk (InI ((-aL.1) * aL.2))).bind fun _ =>
  (JaX ((-aL.1) * aL.2)).bind fun aO =>
  some aO
  else
  (chk (InI (aL.1 * aL.2))).bind fun _ =>
  (JaX (aL.1 * aL.2)).bind fun aM =>
  some aM
theorem Jej {a : Int} {b : Int} {K : Hp} {r : Jf}
    (hm : JbA a b = some r)  :
    Fn Tryz.prog 109 [.int .i64 a, .int .i64 b] K [] (fun v K' H' => v = .agg #[.int .i64 r.kind, .int .i64 r.n, str r.s, .bool r.Au] ∧ H' = []) := by
 refine Fn.enter Tryz.func109 Tryz.call109 rfl fun F => ?_
 unfold JbA at hm
 refine qan rfl fun b4 => ?_
 refine jR (σ := Unit) (rg 8 6) (fun _ => [(13, .bool (decide (a = 0) || decide (b = 0)))]) (fun aS => True) ?_ ?_
 refine qam rfl ?_
 refine qad ?_
 refine qah ?_ ?_ <;> intro aL
 refine ct aL (ct aL ?_)
 exact eMt () ⟨bq (((qd0 aL)).symm), trivial⟩
 refine cf aL (qad (cf aL ?_))
 exact eMt () ⟨bq (qm6 (b := decide (b = 0)) aL), trivial⟩
 rintro _ _ aW
 refine cs rfl rfl hm ?_ ?_ <;> intro ba hm
 refine cb hm fun bf aX hm => cg0 (Jbj aX :) ?_
 refine qab r0 rfl ⟨rfl, rfl, (nl rfl), ?_⟩
 exact ro (qag r0 rfl (nl rfl) (eE hm))
 refine qli rfl ?_
 obtain ⟨aR, hm⟩ := qa5 hm
 refine qn5 aR ?_
 refine ro (qdl ?_)
 obtain ⟨aT, hm⟩ := qa5 hm
 refine qn5 aT ?_
 refine ro (qdl ?_)
 obtain ⟨aP, hm⟩ := qa5 hm
 refine qob aP.1 aP.2 ?_
 obtain ⟨aO, aM, hm⟩ := bnd hm
 refine jD (σ := (Int × Int)) [6,7] [0, 1] (fun aN => [(6, .int .i64 aN.1), (7, .int .i64 aN.2)]) (fun aN => []) (fun aN => aN = aO) (And.intro ?_ ?_)
 refine cs rfl rfl aM ?_ ?_ <;> intro aZ aM
 exact eM aM _
 exact eM aM _
 rintro aN rfl aU
 refine cs rfl rfl hm ?_ ?_ <;> intro bb hm
 obtain ⟨aV, hm⟩ := qa5 hm
 refine qn5 aV ?_
 refine ci hm fun hm => ?_
 refine cb hm fun a8 aY hm => cg0 (Jbj aY :) ?_
 refine qab r0 rfl ⟨rfl, rfl, (nl rfl), ?_⟩
 exact ro (qag r0 rfl (nl rfl) (eE hm))
 refine ci hm fun hm => ?_
 refine cb hm fun bg aQ hm => cg0 (Jbj aQ :) ?_
 refine qab r0 rfl ⟨rfl, rfl, (nl rfl), ?_⟩
 exact ro (qag r0 rfl (nl rfl) (eE hm))

def JaK (s : Str) (suffix : Str) : Option (Bool) :=
  (if decide ((s.length : Int) ≥ (suffix.length : Int)) then (chk (InI ((s.length : Int) - (suffix.length : Int)))).bind fun _ =>
  (chk (0 ≤ ((s.length : Int) - (suffix.length : Int)) ∧ ((s.length : Int) - (suffix.length : Int)) ≤ (s.length : Int) ∧ (s.length : Int) ≤ (s.length : Int))).bind fun _ =>
  some (decide ((subL s ((s.length : Int) - (suffix.length : Int)) (s.length : Int)) = suffix)) else some false).bind fun aL =>
  some aL
theorem Jci {s : Str} {suffix : Str} {K : Hp} {r : Bool}
    (hm : JaK s suffix = some r)  :
    Fn Tryz.prog 147 [str s, str suffix] K [] (fun v K' H' => v = .bool r ∧ H' = []) := by
 refine Fn.enter Tryz.func147 Tryz.call147 rfl fun F => ?_
 unfold JaK at hm
 refine qam rfl ?_
 refine ro (qa2 rfl (ro (qa2 rfl ?_)))
 obtain ⟨aP, aM, hm⟩ := bnd hm
 refine cS aM (fun aL aM => ?_) fun aL aM => ?_
 refine ct aL (ct aL (ro (qa2 rfl (ct aL (ct aL (ro (qa2 rfl (ct aL ?_))))))))
 obtain ⟨aN, aM⟩ := qa5 aM
 refine qat aN (ct aL ?_)
 obtain ⟨aO, aM⟩ := qa5 aM
 refine RStep.ofN (qgn (lo := (some ((s.length : Int) - (suffix.length : Int)))) (hi := none) rfl aO (ct aL (ct aL (qas (ct aL ?_)))))
 exact bE (si aM) (eE hm)
 refine cf aL (cf aL (cf aL (cf aL (cf aL (cf aL (cf aL (cf aL ?_)))))))
 refine cf aL ?_
 exact bE (si aM) (eE hm)

def JbG (s : Str) (suffix : Str) : Option (Bool) :=
  (JaK s suffix).bind fun x7 =>
  some x7
theorem JdE {s : Str} {suffix : Str} {K : Hp} {r : Bool}
    (hm : JbG s suffix = some r)  :
    Fn Tryz.prog 110 [str s, str suffix] K [] (fun v K' H' => v = .bool r ∧ H' = []) := by
 refine Fn.enter Tryz.func110 Tryz.call110 rfl fun F => ?_
 unfold JbG at hm
 refine cb hm fun x7 q7 hm => cg0 (Jci q7 :) ?_
 exact eE hm
