/- Functions of the program: mirrors, and that a call returns what the mirror says. Printed by gen.py. -/
import Derived.Test.YtmpdebfckeahmaaGreatDoorShelf
import Derived.Test.YtmpdebfckeahmaaGreatDoorLS
import Derived.KernelRfl
import Derived.Test.YtmpdebfckeahmaaGreatDoorProg
set_option linter.unusedVariables false
set_option linter.unusedSimpArgs false
open Go Go.SL Go.Proofs
noncomputable section
set_option maxRecDepth 1000000
set_option maxHeartbeats 8000000
def J9 : List Str := [[109, 101, 116, 104, 111, 100], [104, 111, 115, 116], [112, 97, 116, 104], [113, 117, 101, 114, 121]]
def JaV : List Str := [[104, 101, 97, 100, 101, 114], [104, 97, 115], [97, 114, 103], [108, 101, 110], [108, 111, 119, 101, 114], [112, 97, 114, 116], [116, 101, 120, 116], [110, 117, 109, 98, 101, 114]]
def JaW : List Str := [[43], [45], [42], [61, 61], [33, 61], [60], [60, 61], [115, 116, 97, 114, 116, 115], [101, 110, 100, 115], [99, 111, 110, 116, 97, 105, 110, 115]]
def gkw0 : List Str := [[105, 102], [101, 108, 115, 101], [108, 101, 116], [118, 97, 114, 121], [116, 97, 103], [116, 116, 108], [100, 101, 110, 121], [112, 97, 115, 115], [116, 111, 107, 101, 110], [111, 114], [97, 110, 100], [110, 111, 116], [115, 116, 97, 114, 116, 115], [101, 110, 100, 115], [99, 111, 110, 116, 97, 105, 110, 115], [116, 114, 117, 101], [102, 97, 108, 115, 101]]
structure Jb where
  Ab : Int
  Ac : Str
  Aa : (List Jb)
  Ad : Int
inductive Jb.R (K : Hp) : List Value → Jb → Prop
  | mk {cs : List Value} {x : Jb} (a_0 : Option Addr) (c_0 : Nat) (e : cs = [.int .i64 x.Ab, str x.Ac, .slice a_0 x.Aa.length c_0, .int .i64 x.Ad]) (css0 : List (List Value)) (p0 : RdS K a_0 4 css0) (q0 : css0.length = x.Aa.length) (r0 : x.Aa.length ≤ c_0) (z0 : ∀ (i : Nat) (c : List Value) (y : Jb), css0[i]? = some c → x.Aa[i]? = some y → Jb.R K c y) : Jb.R K cs x
theorem Jb.out {K : Hp} {cs : List Value} {x : Jb} (h : Jb.R K cs x) : ∃ a_0 : Option Addr, ∃ c_0 : Nat, cs = [.int .i64 x.Ab, str x.Ac, .slice a_0 x.Aa.length c_0, .int .i64 x.Ad] ∧ LiC Jb.R K a_0 c_0 4 x.Aa := by
  cases h with
  | mk a_0 c_0 e css0 p0 q0 r0 z0 => exact ⟨a_0, c_0, e, ⟨⟨css0, p0, q0, z0⟩, r0⟩⟩
theorem Jb.of {K : Hp} {cs : List Value} {x : Jb} (h : ∃ a_0 : Option Addr, ∃ c_0 : Nat, cs = [.int .i64 x.Ab, str x.Ac, .slice a_0 x.Aa.length c_0, .int .i64 x.Ad] ∧ LiC Jb.R K a_0 c_0 4 x.Aa) : Jb.R K cs x := by
  obtain ⟨a_0, c_0, e, ⟨⟨aM, p0, q0, z0⟩, r0⟩⟩ := h
  exact .mk a_0 c_0 e aM p0 q0 r0 z0
theorem Jb.R_mono {K K' : Hp} (hk : K.Le K') {cs : List Value} {x : Jb} (h : Jb.R K cs x) : Jb.R K' cs x := by
  induction h with
  | mk a_0 c_0 e css0 p0 q0 r0 z0 ih0 => exact .mk a_0 c_0 e css0 (p0.mono hk) q0 r0 (ih0)
theorem Jb.R_ok : RpOK 4 Jb.R := by
  refine ⟨fun hk h => Jb.R_mono hk h, fun h => ?_, fun h v hv => ?_⟩
  · obtain ⟨a_0, c_0, e, aM⟩ := Jb.out h; simp [e]
  · obtain ⟨a_0, c_0, e, aM⟩ := Jb.out h; rw [e] at hv; simp at hv; rcases hv with rfl | rfl | rfl | rfl <;> rfl
instance : RpI 4 Jb.R := ⟨Jb.R_ok⟩
structure Jj where
  Name : Str
  Value : Str
abbrev Jj.enc (x : Jj) : List Go.Value := [str x.Name, str x.Value]
structure Jw where
  Am : Str
  An : Str
  Ae : Str
  Af : Str
  Ao : (List Jj)
def Jw.R : Rp Jw := fun K cs x => ∃ a_0 : Option Addr, ∃ c_0 : Nat, cs = [str x.Am, str x.An, str x.Ae, str x.Af, .slice a_0 x.Ao.length c_0] ∧ RdC Jj.enc K a_0 c_0 2 x.Ao
theorem Jw.R_ok : RpOK 5 Jw.R :=
  ⟨fun hk ⟨a_0, c_0, e, h_0⟩ => ⟨a_0, c_0, e, (h_0.mono hk)⟩, fun ⟨a_0, c_0, e, h_0⟩ => by simp [e], fun ⟨a_0, c_0, e, h_0⟩ v hv => by rw [e] at hv; simp at hv; rcases hv with rfl | rfl | rfl | rfl | rfl <;> rfl⟩
instance : RpI 5 Jw.R := ⟨Jw.R_ok⟩
structure Jh where
  Op : Int
  N : Int
  S : Str
abbrev Jh.enc (x : Jh) : List Go.Value := [.int .i64 x.Op, .int .i64 x.N, str x.S]
structure Jd where
  Name : Str
  Value : Str
abbrev Jd.enc (x : Jd) : List Go.Value := [str x.Name, str x.Value]
structure JE where
  Am : Str
  An : Str
  Ae : Str
  Af : Str
  Ao : (List Jd)
def JE.R : Rp JE := fun K cs x => ∃ a_0 : Option Addr, ∃ c_0 : Nat, cs = [str x.Am, str x.An, str x.Ae, str x.Af, .slice a_0 x.Ao.length c_0] ∧ RdC Jd.enc K a_0 c_0 2 x.Ao
theorem JE.R_ok : RpOK 5 JE.R :=
  ⟨fun hk ⟨a_0, c_0, e, h_0⟩ => ⟨a_0, c_0, e, (h_0.mono hk)⟩, fun ⟨a_0, c_0, e, h_0⟩ => by simp [e], fun ⟨a_0, c_0, e, h_0⟩ v hv => by rw [e] at hv; simp at hv; rcases hv with rfl | rfl | rfl | rfl | rfl <;> rfl⟩
instance : RpI 5 JE.R := ⟨JE.R_ok⟩
structure Jf where
  Ae : Str
  Af : Str
  Ag : (List Jd)
  Vary : (List Str)
  Ah : (List Str)
  TTL : Int
  Ai : Int
  Aj : Int
  Ak : Bool
  Al : Bool
def Jf.R : Rp Jf := fun K cs x => ∃ a_0 : Option Addr, ∃ c_0 : Nat, ∃ a_1 : Option Addr, ∃ c_1 : Nat, ∃ a_2 : Option Addr, ∃ c_2 : Nat, cs = [str x.Ae, str x.Af, .slice a_0 x.Ag.length c_0, .slice a_1 x.Vary.length c_1, .slice a_2 x.Ah.length c_2, .int .i64 x.TTL, .int .i64 x.Ai, .int .i64 x.Aj, .bool x.Ak, .bool x.Al] ∧ RdC Jd.enc K a_0 c_0 2 x.Ag ∧ RdC eS K a_1 c_1 1 x.Vary ∧ RdC eS K a_2 c_2 1 x.Ah
theorem Jf.R_ok : RpOK 10 Jf.R :=
  ⟨fun hk ⟨a_0, c_0, a_1, c_1, a_2, c_2, e, h_0, h_1, h_2⟩ => ⟨a_0, c_0, a_1, c_1, a_2, c_2, e, (h_0.mono hk), (h_1.mono hk), (h_2.mono hk)⟩, fun ⟨a_0, c_0, a_1, c_1, a_2, c_2, e, h_0, h_1, h_2⟩ => by simp [e], fun ⟨a_0, c_0, a_1, c_1, a_2, c_2, e, h_0, h_1, h_2⟩ v hv => by rw [e] at hv; simp at hv; rcases hv with rfl | rfl | rfl | rfl | rfl | rfl | rfl | rfl | rfl | rfl <;> rfl⟩
instance : RpI 10 Jf.R := ⟨Jf.R_ok⟩
structure JaS where
  f0 : Int
  f1 : Int
  f2 : Int
  f3 : Int
  f4 : Int
  f5 : Int
  f6 : Int
  f7 : Int
abbrev JaS.enc (x : JaS) : List Go.Value := [.int .u64 x.f0, .int .u64 x.f1, .int .u64 x.f2, .int .u64 x.f3, .int .u64 x.f4, .int .u64 x.f5, .int .u64 x.f6, .int .u64 x.f7]
structure Jm where
  Av : Bool
  depth : Int
  Au : JaS
abbrev Jm.enc (x : Jm) : List Go.Value := [.bool x.Av, .int .i64 x.depth, .int .u64 x.Au.f0, .int .u64 x.Au.f1, .int .u64 x.Au.f2, .int .u64 x.Au.f3, .int .u64 x.Au.f4, .int .u64 x.Au.f5, .int .u64 x.Au.f6, .int .u64 x.Au.f7]
structure Jc where
  kind : Int
  n : Int
  s : Str
  At : Bool
abbrev Jc.enc (x : Jc) : List Go.Value := [.int .i64 x.kind, .int .i64 x.n, str x.s, .bool x.At]
structure Je where
  Ar : JE
  most : Int
  result : Jf
  stack : (List Jc)
  Ap : (List Jc)
structure JbR where
  An : Str
  Ae : Str
  Af : Str
  HasQuery : Bool
abbrev JbR.enc (x : JbR) : List Go.Value := [str x.An, str x.Ae, str x.Af, .bool x.HasQuery]
structure Ja where
  Ab : Int
  Ac : Str
  Aa : (List Ja)
  Ad : Int
inductive Ja.R (K : Hp) : List Value → Ja → Prop
  | mk {cs : List Value} {x : Ja} (a_0 : Option Addr) (c_0 : Nat) (e : cs = [.int .i64 x.Ab, str x.Ac, .slice a_0 x.Aa.length c_0, .int .i64 x.Ad]) (css0 : List (List Value)) (p0 : RdS K a_0 4 css0) (q0 : css0.length = x.Aa.length) (r0 : x.Aa.length ≤ c_0) (z0 : ∀ (i : Nat) (c : List Value) (y : Ja), css0[i]? = some c → x.Aa[i]? = some y → Ja.R K c y) : Ja.R K cs x
theorem Ja.out {K : Hp} {cs : List Value} {x : Ja} (h : Ja.R K cs x) : ∃ a_0 : Option Addr, ∃ c_0 : Nat, cs = [.int .i64 x.Ab, str x.Ac, .slice a_0 x.Aa.length c_0, .int .i64 x.Ad] ∧ LiC Ja.R K a_0 c_0 4 x.Aa := by
  cases h with
  | mk a_0 c_0 e css0 p0 q0 r0 z0 => exact ⟨a_0, c_0, e, ⟨⟨css0, p0, q0, z0⟩, r0⟩⟩
theorem Ja.of {K : Hp} {cs : List Value} {x : Ja} (h : ∃ a_0 : Option Addr, ∃ c_0 : Nat, cs = [.int .i64 x.Ab, str x.Ac, .slice a_0 x.Aa.length c_0, .int .i64 x.Ad] ∧ LiC Ja.R K a_0 c_0 4 x.Aa) : Ja.R K cs x := by
  obtain ⟨a_0, c_0, e, ⟨⟨aM, p0, q0, z0⟩, r0⟩⟩ := h
  exact .mk a_0 c_0 e aM p0 q0 r0 z0
theorem Ja.R_mono {K K' : Hp} (hk : K.Le K') {cs : List Value} {x : Ja} (h : Ja.R K cs x) : Ja.R K' cs x := by
  induction h with
  | mk a_0 c_0 e css0 p0 q0 r0 z0 ih0 => exact .mk a_0 c_0 e css0 (p0.mono hk) q0 r0 (ih0)
theorem Ja.R_ok : RpOK 4 Ja.R := by
  refine ⟨fun hk h => Ja.R_mono hk h, fun h => ?_, fun h v hv => ?_⟩
  · obtain ⟨a_0, c_0, e, aM⟩ := Ja.out h; simp [e]
  · obtain ⟨a_0, c_0, e, aM⟩ := Ja.out h; rw [e] at hv; simp at hv; rcases hv with rfl | rfl | rfl | rfl <;> rfl
instance : RpI 4 Ja.R := ⟨Ja.R_ok⟩
structure JA where
  Ab : Int
  Ac : Str
  Ad : Int
  Column : Int
abbrev JA.enc (x : JA) : List Go.Value := [.int .i64 x.Ab, str x.Ac, .int .i64 x.Ad, .int .i64 x.Column]
structure Jk where
  line : Int
  err : Err
abbrev Jk.enc (x : Jk) : List Go.Value := [.int .i64 x.line, errV 87 x.err]
structure Ji where
  Name : Str
  As : Int
abbrev Ji.enc (x : Ji) : List Go.Value := [str x.Name, .int .i64 x.As]
structure Jn where
  Ar : JE
  result : Jf
  Aq : Bool
def Jn.R : Rp Jn := fun K cs x => ∃ a_0 : Option Addr, ∃ c_0 : Nat, ∃ a_1 : Option Addr, ∃ c_1 : Nat, ∃ a_2 : Option Addr, ∃ c_2 : Nat, ∃ a_3 : Option Addr, ∃ c_3 : Nat, cs = [str x.Ar.Am, str x.Ar.An, str x.Ar.Ae, str x.Ar.Af, .slice a_0 x.Ar.Ao.length c_0, str x.result.Ae, str x.result.Af, .slice a_1 x.result.Ag.length c_1, .slice a_2 x.result.Vary.length c_2, .slice a_3 x.result.Ah.length c_3, .int .i64 x.result.TTL, .int .i64 x.result.Ai, .int .i64 x.result.Aj, .bool x.result.Ak, .bool x.result.Al, .bool x.Aq] ∧ RdC Jd.enc K a_0 c_0 2 x.Ar.Ao ∧ RdC Jd.enc K a_1 c_1 2 x.result.Ag ∧ RdC eS K a_2 c_2 1 x.result.Vary ∧ RdC eS K a_3 c_3 1 x.result.Ah
theorem Jn.R_ok : RpOK 16 Jn.R :=
  ⟨fun hk ⟨a_0, c_0, a_1, c_1, a_2, c_2, a_3, c_3, e, h_0, h_1, h_2, h_3⟩ => ⟨a_0, c_0, a_1, c_1, a_2, c_2, a_3, c_3, e, (h_0.mono hk), (h_1.mono hk), (h_2.mono hk), (h_3.mono hk)⟩, fun ⟨a_0, c_0, a_1, c_1, a_2, c_2, a_3, c_3, e, h_0, h_1, h_2, h_3⟩ => by simp [e], fun ⟨a_0, c_0, a_1, c_1, a_2, c_2, a_3, c_3, e, h_0, h_1, h_2, h_3⟩ v hv => by rw [e] at hv; simp at hv; rcases hv with rfl | rfl | rfl | rfl | rfl | rfl | rfl | rfl | rfl | rfl | rfl | rfl | rfl | rfl | rfl | rfl <;> rfl⟩
instance : RpI 16 Jn.R := ⟨Jn.R_ok⟩
structure JC where
  name : Str
  value : Jc
abbrev JC.enc (x : JC) : List Go.Value := [str x.name, .int .i64 x.value.kind, .int .i64 x.value.n, str x.value.s, .bool x.value.At]
structure JG where
  Ad : Int
  Code : Int
abbrev JG.enc (x : JG) : List Go.Value := [.int .i64 x.Ad, .int .i64 x.Code]
structure JN where
  Ab : Int
  Ac : Str
  Ad : Int
  Column : Int
abbrev JN.enc (x : JN) : List Go.Value := [.int .i64 x.Ab, str x.Ac, .int .i64 x.Ad, .int .i64 x.Column]
structure JB where
  Name : Str
  As : Int
abbrev JB.enc (x : JB) : List Go.Value := [str x.Name, .int .i64 x.As]
structure Jl where
  Ae : Str
  Af : Str
  Ag : (List Jj)
  Vary : (List Str)
  Ah : (List Str)
  TTL : Int
  Ai : Int
  Aj : Int
  Ak : Bool
  Al : Bool
def Jl.R : Rp Jl := fun K cs x => ∃ a_0 : Option Addr, ∃ c_0 : Nat, ∃ a_1 : Option Addr, ∃ c_1 : Nat, ∃ a_2 : Option Addr, ∃ c_2 : Nat, cs = [str x.Ae, str x.Af, .slice a_0 x.Ag.length c_0, .slice a_1 x.Vary.length c_1, .slice a_2 x.Ah.length c_2, .int .i64 x.TTL, .int .i64 x.Ai, .int .i64 x.Aj, .bool x.Ak, .bool x.Al] ∧ RdC Jj.enc K a_0 c_0 2 x.Ag ∧ RdC eS K a_1 c_1 1 x.Vary ∧ RdC eS K a_2 c_2 1 x.Ah
theorem Jl.R_ok : RpOK 10 Jl.R :=
  ⟨fun hk ⟨a_0, c_0, a_1, c_1, a_2, c_2, e, h_0, h_1, h_2⟩ => ⟨a_0, c_0, a_1, c_1, a_2, c_2, e, (h_0.mono hk), (h_1.mono hk), (h_2.mono hk)⟩, fun ⟨a_0, c_0, a_1, c_1, a_2, c_2, e, h_0, h_1, h_2⟩ => by simp [e], fun ⟨a_0, c_0, a_1, c_1, a_2, c_2, e, h_0, h_1, h_2⟩ v hv => by rw [e] at hv; simp at hv; rcases hv with rfl | rfl | rfl | rfl | rfl | rfl | rfl | rfl | rfl | rfl <;> rfl⟩
instance : RpI 10 Jl.R := ⟨Jl.R_ok⟩
theorem elT38 : ElT Tryz.prog 38 54 3 := ElT.mk' rfl rfl rfl rfl rfl
theorem elT200 : ElT Tryz.prog 200 204 10 := ElT.mk' rfl rfl rfl rfl rfl
theorem elT130 : ElT Tryz.prog 130 5 1 := ElT.mk' rfl rfl rfl rfl rfl
theorem elT93 : ElT Tryz.prog 93 95 4 := ElT.mk' rfl rfl rfl rfl rfl
theorem elT31 : ElT Tryz.prog 31 9 1 := ElT.mk' rfl rfl rfl rfl rfl
theorem elT30 : ElT Tryz.prog 30 77 2 := ElT.mk' rfl rfl rfl rfl rfl
theorem elT66 : ElT Tryz.prog 66 68 4 := ElT.mk' rfl rfl rfl rfl rfl
theorem elT265 : ElT Tryz.prog 265 269 4 := ElT.mk' rfl rfl rfl rfl rfl
theorem elT150 : ElT Tryz.prog 150 3 1 := ElT.mk' rfl rfl rfl rfl rfl
theorem elT195 : ElT Tryz.prog 195 233 2 := ElT.mk' rfl rfl rfl rfl rfl
theorem elT173 : ElT Tryz.prog 173 177 5 := ElT.mk' rfl rfl rfl rfl rfl
theorem elT61 : ElT Tryz.prog 61 63 4 := ElT.mk' rfl rfl rfl rfl rfl
theorem elT293 : ElT Tryz.prog 293 296 4 := ElT.mk' rfl rfl rfl rfl rfl
theorem elT181 : ElT Tryz.prog 181 187 2 := ElT.mk' rfl rfl rfl rfl rfl
theorem elT23 : ElT Tryz.prog 23 90 2 := ElT.mk' rfl rfl rfl rfl rfl
def GG (K : Hp) : Prop := (GlL eS 1 0 J9 K) ∧ (GlL eS 1 1 JaV K) ∧ (GlL eS 1 2 JaW K) ∧ (GlN 3 K) ∧ (GlL eS 1 4 gkw0 K) ∧ (GlA 5 (Go.Lib.pow10Tab.map fun z => Value.int .u64 z) K)
theorem GG.of {K : Hp} (h : (GlL eS 1 0 J9 K) ∧ (GlL eS 1 1 JaV K) ∧ (GlL eS 1 2 JaW K) ∧ (GlN 3 K) ∧ (GlL eS 1 4 gkw0 K) ∧ (GlA 5 (Go.Lib.pow10Tab.map fun z => Value.int .u64 z) K)) : GG K := h
theorem GG.mono {K K' : Hp} (h : GG K) (hk : K.Le K') : GG K' := ⟨h.1.mono hk, h.2.1.mono hk, h.2.2.1.mono hk, h.2.2.2.1.mono hk, h.2.2.2.2.1.mono hk, h.2.2.2.2.2.mono hk⟩
theorem gg0 {K : Hp} (h : GG K) : GlL eS 1 0 J9 K := h.1
theorem gg1 {K : Hp} (h : GG K) : GlL eS 1 1 JaV K := h.2.1
theorem gg2 {K : Hp} (h : GG K) : GlL eS 1 2 JaW K := h.2.2.1
theorem gg3 {K : Hp} (h : GG K) : GlN 3 K := h.2.2.2.1
theorem gg4 {K : Hp} (h : GG K) : GlL eS 1 4 gkw0 K := h.2.2.2.2.1
theorem gg5 {K : Hp} (h : GG K) : GlA 5 (Go.Lib.pow10Tab.map fun z => Value.int .u64 z) K := h.2.2.2.2.2
def JaQ : List UInt8 → Nat → Str → Option (Fl (Str × Err) (Str))
  | [], _, ac => some (Fl.go ac)
  | e0 :: aN, i0, ac =>
    (if decide ((e0.toNat : Int) < 32) then some true else some (decide ((e0.toNat : Int) > 126))).bind fun aM =>
    if aM then
    some (Fl.ret (([] : Str), (some 2)))
    else
    (if decide ((e0.toNat : Int) = 34) then some true else some (decide ((e0.toNat : Int) = 92))).bind fun aO =>
    if aO then
    (chk (ac.length + ([(92 : UInt8)] : Str).length ≤ lim)).bind fun _ =>
    (chk ((ac ++ ([(92 : UInt8)] : Str)).length + ([e0] : Str).length ≤ lim)).bind fun _ =>
    JaQ aN (i0 + 1) ((ac ++ ([(92 : UInt8)] : Str)) ++ ([e0] : Str))
    else
    (chk (ac.length + ([e0] : Str).length ≤ lim)).bind fun _ =>
    JaQ aN (i0 + 1) (ac ++ ([e0] : Str))
def JcE (s : Str) : Option (Str × Err) :=
  (chk (s.length ≤ szMax)).bind fun _ =>
  (JaQ s 0 ([(34 : UInt8)] : Str)).bind fun s0 => s0.el some fun t0 =>
  (chk (t0.length + ([(34 : UInt8)] : Str).length ≤ lim)).bind fun _ =>
  some ((t0 ++ ([(34 : UInt8)] : Str)), none)
theorem JdO {s : Str} {K : Hp} {r : Str × Err}
    (hm : JcE s = some r)  :
    Fn Tryz.prog 173 [str s] K [] (fun v K' H' => v = .tuple #[str r.1, errV 87 r.2] ∧ H' = []) := by
 refine Fn.enter Tryz.func173 Tryz.call173 rfl fun F => ?_
 unfold JcE at hm
 refine bsO (len := 1) (enc := eU) (l := ([(34 : UInt8)] : Str)) (cl := [.int .u8 34]) elT130 rfl rfl (fun _ _ => rfl) rfl rfl rfl ?_ fun b6 => ?_
 · conv => whnf
   refine cT ?_
   first | done | rfl
 refine ro (len_str rfl ?_)
 obtain ⟨aZ, hm⟩ := chkb hm
 obtain ⟨s0, aM, hm⟩ := bnd hm
 refine lD (σ := (Str) × Option Addr × Nat) [2, 3, 4, 5, 9, 10, 11, 12, 13, 14, 15, 16, 17, 18, 19, 20, 21, 22, 23, 24, 25, 26, 27, 28, 29, 30, 31, 32, 33, 34, 35, 36, 37, 38, 39, 40, 41, 42] [1] (fun i0 => [(9, .int .i64 (i0 : Int))]) (fun (t0, aP, aQ) => [(4, .slice aP t0.length aQ)]) (fun (t0, aP, aQ) => [OwnL eU aP 5 1 aQ t0]) (fun (t0, aP, aQ) => (0 < t0.length → Has aP) ∧ True) (fun i0 (t0, aP, aQ) => JaQ (s.drop i0) i0 t0 = some s0) (fun (t0, aP, aQ) => s0 = Fl.go t0) (fun i0 => s.length - i0) 0 (_, _, _) aM (And.intro qe (And.intro ?_ ?_))
 clear aM
 rintro i0 ⟨ac, ba, bd⟩ ⟨bh, _⟩ aM j0
 conv at aM => whnf
 refine cond_go rfl ?_
 refine cond_s ?_ ?_ <;> intro w0
 obtain ⟨e0, aS, bm⟩ := ltx w0
 rw [bm, JaQ.eq_2] at aM
 refine block_go rfl ?_
 obtain ⟨aX, aR, aM⟩ := bnd aM
 refine jR (σ := Bool) [12, 13, 14, 15, 16, 17, 18, 19, 20, 21] (fun aT => [(21, .bool aT)]) (fun aT => aT = aX) ?_ ?_
 replace aR := bsm aR
 refine guard_go rfl ?_
 refine idx_str rfl (nn _) aS ?_
 obtain ⟨a8, aV, aR⟩ := bnd aR
 refine cond_s ?_ ?_ <;> intro aO
 replace aV := ift aO aV
 refine ct aO (ct aO (ct aO (ct aO ?_)))
 exact mt (a8) ⟨(by rw [← ((si aV).symm).symm] <;> rfl), trivial⟩ rfl (pf rfl) lr (si aR)
 replace aV := iff_ aO aV
 refine cf aO (cf aO (idx_str rfl (nn _) aS (cf aO (cf aO ?_))))
 exact mt (a8) ⟨(by rw [← (si aV)] <;> rfl), trivial⟩ rfl (pf rfl) lr (si aR)
 rintro aT rfl bq
 refine cs rfl rfl aM ?_ ?_ <;> intro bB aM
 refine mk_iface rfl ?_
 exact eE (er aM hm)
 refine guard_go rfl ?_
 refine idx_str rfl (nn _) aS (eq_int ?_)
 obtain ⟨bA, aU, aM⟩ := bnd aM
 refine cond_s ?_ ?_ <;> intro aN
 replace aU := ift aN aU
 refine ct aN (ct aN (ct aN (ct aN (cond_go rfl (cT ?_)))))
 replace aM := ift (si aU).symm aM
 refine bsO (len := 1) (enc := eU) (l := ([(92 : UInt8)] : Str)) (cl := [.int .u8 92]) elT130 rfl rfl (fun _ _ => rfl) rfl rfl rfl ?_ fun bn => ?_
 · conv => whnf
   refine cT ?_
   first | done | rfl
 obtain ⟨aY, aM⟩ := chkb aM
 refine apE rfl r1 elT130 (src_own' rfl r0 rfl (fun _ => rfl) (fun _ => rfl)) aY ?_
 intro bt bo bp
 refine idx_str rfl (nn _) aS ?_
 refine bsO (len := 1) (enc := eU) (l := ([e0] : Str)) (cl := [.int .u8 (e0.toNat : Int)]) elT130 rfl rfl (fun _ _ => rfl) rfl rfl rfl ?_ fun bj => ?_
 · conv => whnf
   refine cT ?_
   first | done | rfl
 obtain ⟨aW, aM⟩ := chkb aM
 refine apE rfl r1 elT130 (src_own' rfl r0 rfl (fun _ => rfl) (fun _ => rfl)) aW ?_
 intro bc bg a6
 refine int_in (cntz aS aZ) ?_
 exact eR aM (_, _, _, _)
 replace aU := iff_ aN aU
 refine cf aN (cf aN (idx_str rfl (nn _) aS (cf aN (eq_int (cf aN (cond_go rfl ?_))))))
 refine cond_s ?_ ?_ <;> intro bf
 replace aM := ift ((si aU).symm.trans bf) aM
 refine bsO (len := 1) (enc := eU) (l := ([(92 : UInt8)] : Str)) (cl := [.int .u8 92]) elT130 rfl rfl (fun _ _ => rfl) rfl rfl rfl ?_ fun bn => ?_
 · conv => whnf
   refine cT ?_
   first | done | rfl
 obtain ⟨aY, aM⟩ := chkb aM
 refine apE rfl r1 elT130 (src_own' rfl r0 rfl (fun _ => rfl) (fun _ => rfl)) aY ?_
 intro bt bo bp
 refine idx_str rfl (nn _) aS ?_
 refine bsO (len := 1) (enc := eU) (l := ([e0] : Str)) (cl := [.int .u8 (e0.toNat : Int)]) elT130 rfl rfl (fun _ _ => rfl) rfl rfl rfl ?_ fun bj => ?_
 · conv => whnf
   refine cT ?_
   first | done | rfl
 obtain ⟨aW, aM⟩ := chkb aM
 refine apE rfl r1 elT130 (src_own' rfl r0 rfl (fun _ => rfl) (fun _ => rfl)) aW ?_
 intro bc bg a6
 refine int_in (cntz aS aZ) ?_
 exact eR aM (_, _, _, _)
 replace aM := iff_ ((si aU).symm.trans bf) aM
 refine idx_str rfl (nn _) aS ?_
 refine bsO (len := 1) (enc := eU) (l := ([e0] : Str)) (cl := [.int .u8 (e0.toNat : Int)]) elT130 rfl rfl (fun _ _ => rfl) rfl rfl rfl ?_ fun bj => ?_
 · conv => whnf
   refine cT ?_
   first | done | rfl
 obtain ⟨aW, aM⟩ := chkb aM
 refine apE rfl r1 elT130 (src_own' rfl r0 rfl (fun _ => rfl) (fun _ => rfl)) aW ?_
 intro bc bg a6
 refine int_in (cntz aS aZ) ?_
 exact eR aM (_, _, _, _)
 rw [lty w0, JaQ.eq_1] at aM
 refine cT ?_
 exact eM aM (_, _, _)
 rintro ⟨t0, aP, aQ⟩ ⟨bb, _⟩ rfl j0
 replace hm := elg hm
 refine bsO (len := 1) (enc := eU) (l := ([(34 : UInt8)] : Str)) (cl := [.int .u8 34]) elT130 rfl rfl (fun _ _ => rfl) rfl rfl rfl ?_ fun bC => ?_
 · conv => whnf
   refine cT ?_
   first | done | rfl
 obtain ⟨br, hm⟩ := chkb hm
 refine apE rfl r1 elT130 (src_own' rfl r0 rfl (fun _ => rfl) (fun _ => rfl)) br ?_
 intro bw bu bz
 refine ro (cv_ownE rfl r0 rfl rfl rfl ?_)
 exact eE hm

def Jbz (s : Str) : Option (Bool) :=
  (JcE s).bind fun x7 =>
  some x7.2.isNone
theorem Jb8 {s : Str} {K : Hp} {r : Bool}
    (hm : Jbz s = some r)  :
    Fn Tryz.prog 140 [str s] K [] (fun v K' H' => v = .bool r ∧ H' = []) := by
 refine Fn.enter Tryz.func140 Tryz.call140 rfl fun F => ?_
 unfold Jbz at hm
 refine cb hm fun x7 q7 hm => cg0 (JdO q7 :) ?_
 refine eq_err rfl ?_
 exact eE hm

def JX (v' : Str) : List Str → Nat → Option (Fl (Int) (Unit))
  | [], _ => some (Fl.go ())
  | e0 :: aM, i0 =>
    if decide (v' = e0) then
    some (Fl.ret (i0 : Int))
    else
    JX v' aM (i0 + 1)
def Jbp (s : (List Str)) (v' : Str) : Option (Int) :=
  (chk (s.length ≤ szMax)).bind fun _ =>
  (JX v' s 0).bind fun s0 => s0.el some fun t0 =>
  some (-1)
theorem JdS {s : (List Str)} {v' : Str} {aa : Option Addr} {ab : Nat} {n0 : Nat} {K : Hp} {r : Int}
    (hm : Jbp s v' = some r) (hX : RdC eS K aa ab 1 s ∧ n0 = s.length) :
    Fn Tryz.prog 149 [.slice aa n0 ab, str v'] K [] (fun v K' H' => v = .int .i64 r ∧ H' = []) := by
 obtain ⟨ae, aQ⟩ := hX
 subst aQ
 refine Fn.enter Tryz.func149 Tryz.call149 rfl fun F => ?_
 unfold Jbp at hm
 refine ro (len_slice rfl ?_)
 obtain ⟨aP, hm⟩ := chkb hm
 obtain ⟨s0, aM, hm⟩ := bnd hm
 refine lD (σ := (Unit)) [4, 5, 8, 9, 10, 11, 12, 13, 14, 15, 16, 17, 18] [0] (fun i0 => [(8, .int .i64 (i0 : Int))]) (fun _ => []) (fun _ => []) (fun _ => True) (fun i0 _ => JX v' (s.drop i0) i0 = some s0) (fun t0 => s0 = Fl.go t0) (fun i0 => s.length - i0) 0 () aM (And.intro qe (And.intro ?_ ?_))
 clear aM
 rintro i0 _ _ aM j0
 conv at aM => whnf
 refine cond_go rfl ?_
 refine cond_s ?_ ?_ <;> intro w0
 obtain ⟨e0, aN, aO⟩ := ltx w0
 rw [aO, JX.eq_2] at aM
 refine block_go rfl ?_
 refine RStep.ofN (index_addr rfl rfl (hasK ae.rd aN) (nn _) (lt_ofN aN) (ro (load_rd i0 0 _ _ ae.rd rfl (mp aN) rfl rfl (eq_str ?_))))
 refine cs rfl rfl aM ?_ ?_ <;> intro aR aM
 exact eE (er aM hm)
 refine int_in (cntz aN aP) ?_
 exact eR aM (_, ())
 rw [lty w0, JX.eq_1] at aM
 refine cT ?_
 exact eM aM _
 rintro t0 _ rfl j0
 replace hm := elg hm
 exact eE hm

def JO (s : (List Str)) (v' : Str) : Option (Bool) :=
  (Jbp s v').bind fun x7 =>
  some (decide (x7 ≥ 0))
theorem Jai {s : (List Str)} {v' : Str} {aa : Option Addr} {ab : Nat} {n0 : Nat} {K : Hp} {r : Bool}
    (hm : JO s v' = some r) (hX : RdC eS K aa ab 1 s ∧ n0 = s.length) :
    Fn Tryz.prog 113 [.slice aa n0 ab, str v'] K [] (fun v K' H' => v = .bool r ∧ H' = []) := by
 obtain ⟨ae, aM⟩ := hX
 subst aM
 refine Fn.enter Tryz.func113 Tryz.call113 rfl fun F => ?_
 unfold JO at hm
 refine cb hm fun x7 q7 hm => cgx (JdS q7 :) ?_
 exact eE hm

def Jad (s : Str) (prefixZ : Str) : Option (Bool) :=
  (if decide ((s.length : Int) ≥ (prefixZ.length : Int)) then (chk (0 ≤ (0 : Int) ∧ (0 : Int) ≤ (prefixZ.length : Int) ∧ (prefixZ.length : Int) ≤ (s.length : Int))).bind fun _ =>
  some (decide ((subL s (0 : Int) (prefixZ.length : Int)) = prefixZ)) else some false).bind fun aM =>
  some aM
theorem JbA {s : Str} {prefixZ : Str} {K : Hp} {r : Bool}
    (hm : Jad s prefixZ = some r)  :
    Fn Tryz.prog 112 [str s, str prefixZ] K [] (fun v K' H' => v = .bool r ∧ H' = []) := by
 refine Fn.enter Tryz.func112 Tryz.call112 rfl fun F => ?_
 unfold Jad at hm
 refine guard_go rfl ?_
 refine ro (len_str rfl (ro (len_str rfl ?_)))
 obtain ⟨aP, aN, hm⟩ := bnd hm
 refine cond_s ?_ ?_ <;> intro aM
 replace aN := ift aM aN
 refine ct aM (ct aM (ro (len_str rfl (ct aM ?_))))
 obtain ⟨aO, aN⟩ := chkb aN
 refine RStep.ofN (sl_str (lo := none) (hi := (some (prefixZ.length : Int))) rfl aO (ct aM (ct aM (eq_str (ct aM ?_)))))
 cases hm
 exact en lr ⟨(by rw [← (si aN)] <;> rfl), rfl⟩ (pf rfl)
 replace aN := iff_ aM aN
 refine cf aM (cf aM (cf aM (cf aM (cf aM (cf aM ?_)))))
 cases hm
 exact en lr ⟨(by rw [← ((si aN).symm).symm] <;> rfl), rfl⟩ (pf rfl)

def Ja1 (s : Str) (prefixZ : Str) : Option (Str × Bool) :=
  (Jad s prefixZ).bind fun x8 =>
  if (!x8) then
  some (s, false)
  else
  (chk (0 ≤ (prefixZ.length : Int) ∧ (prefixZ.length : Int) ≤ (s.length : Int) ∧ (s.length : Int) ≤ (s.length : Int))).bind fun _ =>
  some ((subL s (prefixZ.length : Int) (s.length : Int)), true)
theorem JcF {s : Str} {prefixZ : Str} {K : Hp} {r : Str × Bool}
    (hm : Ja1 s prefixZ = some r)  :
    Fn Tryz.prog 200 [str s, str prefixZ] K [] (fun v K' H' => v = .tuple #[str r.1, .bool r.2] ∧ H' = []) := by
 refine Fn.enter Tryz.func200 Tryz.call200 rfl fun F => ?_
 unfold Ja1 at hm
 refine cb hm fun x8 q8 hm => cg0 (JbA q8 :) ?_
 refine un_not ?_
 refine cs rfl rfl hm ?_ ?_ <;> intro w9 hm
 exact eE hm
 refine ro (len_str rfl ?_)
 obtain ⟨aM, hm⟩ := chkb hm
 refine RStep.ofN (sl_str (lo := (some (prefixZ.length : Int))) (hi := none) rfl aM ?_)
 exact eE hm

def Jci (s : Str) (prefixZ : Str) : Option (Str × Bool) :=
  (Ja1 s prefixZ).bind fun x8 =>
  some (x8.1, x8.2)
theorem Jc2 {s : Str} {prefixZ : Str} {K : Hp} {r : Str × Bool}
    (hm : Jci s prefixZ = some r)  :
    Fn Tryz.prog 174 [str s, str prefixZ] K [] (fun v K' H' => v = .tuple #[str r.1, .bool r.2] ∧ H' = []) := by
 refine Fn.enter Tryz.func174 Tryz.call174 rfl fun F => ?_
 unfold Jci at hm
 refine cb hm fun x8 q8 hm => cg0 (JcF q8 :) ?_
 exact eE hm

def JdW (s : Str) : Option (Int × Bool) :=
  if decide (s = ([112, 97, 116, 104] : Str)) then
  some (1, true)
  else
  if decide (s = ([113, 117, 101, 114, 121] : Str)) then
  some (1, true)
  else
  if decide (s = ([116, 97, 103] : Str)) then
  some (1, true)
  else
  if decide (s = ([116, 116, 108] : Str)) then
  some (1, true)
  else
  if decide (s = ([100, 101, 110, 121] : Str)) then
  some (1, true)
  else
  if decide (s = ([112, 97, 115, 115] : Str)) then
  some (0, true)
  else
  if decide (s = ([116, 111, 107, 101, 110] : Str)) then
  some (0, true)
  else
  (Jci s ([104, 101, 97, 100, 101, 114, 58] : Str)).bind fun aM =>
  if aM.2 then
  (Jbz aM.1).bind fun aP =>
  some (1, aP)
  else
  (Jci s ([118, 97, 114, 121, 58] : Str)).bind fun aN =>
  (if aN.2 then (Jbz aN.1).bind fun aQ =>
  some aQ else some false).bind fun aO =>
  some (0, aO)
theorem Je3 {s : Str} {K : Hp} {r : Int × Bool}
    (hm : JdW s = some r)  :
    Fn Tryz.prog 141 [str s] K [] (fun v K' H' => v = .tuple #[.int .i64 r.1, .bool r.2] ∧ H' = []) := by
 refine Fn.enter Tryz.func141 Tryz.call141 rfl fun F => ?_
 unfold JdW at hm
 refine block_go rfl ?_
 refine eq_str (cs rfl rfl hm ?_ ?_) <;> intro w9 hm
 refine cond_go rfl (ct w9 ?_)
 exact eE hm
 refine eq_str (cs rfl rfl hm ?_ ?_) <;> intro w9 hm
 refine cond_go rfl (ct w9 ?_)
 exact eE hm
 refine eq_str (cs rfl rfl hm ?_ ?_) <;> intro w9 hm
 refine cond_go rfl (ct w9 ?_)
 exact eE hm
 refine eq_str (cs rfl rfl hm ?_ ?_) <;> intro w9 hm
 refine cond_go rfl (ct w9 ?_)
 exact eE hm
 refine eq_str (cs rfl rfl hm ?_ ?_) <;> intro w9 hm
 exact eE hm
 refine eq_str (cs rfl rfl hm ?_ ?_) <;> intro aO hm
 refine cond_go rfl (ct aO ?_)
 exact eE hm
 refine eq_str (cs rfl rfl hm ?_ ?_) <;> intro aO hm
 exact eE hm
 refine cb hm fun aW aR hm => cg0 (Jc2 aR :) ?_
 refine cs rfl rfl hm ?_ ?_ <;> intro aV hm
 refine cb hm fun aU aQ hm => cg0 (Jb8 aQ :) ?_
 exact eE hm
 refine cb hm fun aX aS hm => cg0 (Jc2 aS :) ?_
 refine guard_go rfl ?_
 obtain ⟨aT, aN, hm⟩ := bnd hm
 refine cond_s ?_ ?_ <;> intro aM
 replace aN := ift aM aN
 refine ct aM ?_
 refine cb aN fun aY aP aN => cg0 (Jb8 aP :) ?_
 refine ct aM ?_
 cases hm
 exact en lr ⟨(by rw [← (si aN)] <;> rfl), rfl⟩ (pf rfl)
 replace aN := iff_ aM aN
 refine cf aM (cf aM ?_)
 cases hm
 exact en lr ⟨(by rw [← ((si aN).symm).symm] <;> rfl), rfl⟩ (pf rfl)

def Jdp (x : Jh) : Option (Int × Int × Bool) :=
  if decide (x.Op = 1) then
  some (0, 1, ((decide (x.S = ([] : Str)) && decide (x.N ≥ 0)) && decide (x.N ≤ 999999999)))
  else
  if decide (x.Op = 2) then
  (if decide (x.N = 0) then (Jbz x.S).bind fun aO =>
  some aO else some false).bind fun aN =>
  some (0, 1, aN)
  else
  if decide (x.Op = 3) then
  some (0, 1, ((decide (x.S = ([] : Str)) && decide (x.N ≥ 0)) && decide (x.N ≤ 511)))
  else
  if decide (x.Op = 4) then
  some (1, 0, ((decide (x.S = ([] : Str)) && decide (x.N ≥ 0)) && decide (x.N ≤ 511)))
  else
  if decide (x.Op = 5) then
  (if decide (x.N = 0) then (JO J9 x.S).bind fun aS =>
  some aS else some false).bind fun aT =>
  some (0, 1, aT)
  else
  if decide (x.Op = 6) then
  (if decide (x.N = 0) then (JO JaV x.S).bind fun aP =>
  some aP else some false).bind fun aR =>
  some (1, 1, aR)
  else
  if decide (x.Op = 7) then
  (if decide (x.N = 0) then (JO JaW x.S).bind fun aQ =>
  some aQ else some false).bind fun aU =>
  some (2, 1, aU)
  else
  if decide (x.Op = 8) then
  some (1, 1, (decide (x.N = 0) && decide (x.S = ([] : Str))))
  else
  if decide (x.Op = 9) then
  some (0, 0, decide (x.S = ([] : Str)))
  else
  if decide (x.Op = 10) then
  some (1, 0, decide (x.S = ([] : Str)))
  else
  if decide (x.Op = 11) then
  (JdW x.S).bind fun aM =>
  some (aM.1, 0, (decide (x.N = 0) && aM.2))
  else
  if decide (x.Op = 12) then
  some (0, 0, (decide (x.N = 0) && decide (x.S = ([] : Str))))
  else
  some (0, 0, false)
theorem JeF {x : Jh} {K : Hp} {r : Int × Int × Bool}
    (hm : Jdp x = some r) (hG : GG K) :
    Fn Tryz.prog 100 [.agg #[.int .i64 x.Op, .int .i64 x.N, str x.S]] K [] (fun v K' H' => v = .tuple #[.int .i64 r.1, .int .i64 r.2.1, .bool r.2.2] ∧ H' = []) := by
 obtain ⟨bT, bL, br, gn_, bj, bD⟩ := gg0 hG
 subst gn_
 obtain ⟨bP, bK, bw, gn_, ba, bz⟩ := gg1 hG
 subst gn_
 obtain ⟨bJ, bO, bR, gn_, bm, bH⟩ := gg2 hG
 subst gn_
 refine Fn.enter Tryz.func100 Tryz.call100 rfl fun F => ?_
 unfold Jdp at hm
 refine box_rule ?_
 intro b1
 refine fa rfl (ro (ld r0 rfl rfl (eq_int (fa rfl (ro (ld r0 rfl rfl (eq_str ?_)))))))
 refine jR (σ := Unit) [7, 14, 15, 16, 17, 18, 19, 20, 21, 22, 23, 24] (fun _ => [(7, .bool ((decide (x.S = ([] : Str)) && decide (x.N ≥ 0)) && decide (x.N ≤ 511)))]) (fun bf => True) ?_ ?_
 refine guard_go rfl ?_
 refine cond_s ?_ ?_ <;> intro aP
 refine fa rfl (ct aP (ro (ld r0 rfl rfl (ct aP (ct aP ?_)))))
 refine cond_s ?_ ?_ <;> intro aR
 refine fa rfl (ct aR (ro (ld r0 rfl rfl (ct aR (ct aR ?_)))))
 exact mt (()) ⟨(by rw [← (and_e (b := decide (x.N ≤ 511)) (and_t aP aR))] <;> rfl), trivial⟩ rfl (pf rfl) lr trivial
 refine cf aR (cf aR (cf aR ?_))
 exact mt (()) ⟨(by rw [← ((and_f (and_g aP aR))).symm] <;> rfl), trivial⟩ rfl (pf rfl) lr trivial
 refine cf aP (cf aP (cf aP (cF (cF (cF (cF ?_))))))
 exact mt (()) ⟨(by rw [← ((and_f (and_f aP))).symm] <;> rfl), trivial⟩ rfl (pf rfl) lr trivial
 rintro _ _ bg
 refine fa rfl (ro (ld r0 rfl rfl ?_))
 refine block_go rfl ?_
 refine eq_int (cs rfl rfl hm ?_ ?_) <;> intro bB hm
 refine draw_go ⟨⟨[], false⟩, _, [(_, _)], []⟩ (by kernel_rfl) ⟨Hp.Le.refl _, (pf rfl), ci0⟩ ?_
 refine cond_s ?_ ?_ <;> intro aQ
 refine fa rfl (ct aQ (load1_l m0 rfl rfl (ct aQ (ct aQ ?_))))
 refine cond_s ?_ ?_ <;> intro aT
 refine fa rfl (ct aT (load1_l m0 rfl rfl (ct aT (ct aT ?_))))
 cases hm
 exact en lr ⟨(by rw [← (and_e (b := decide (x.N ≤ 999999999)) (and_t aQ aT))] <;> rfl), rfl⟩ (sc [1] rfl)
 refine cf aT (cf aT (cf aT ?_))
 cases hm
 exact en lr ⟨(by rw [← ((and_f (and_g aQ aT))).symm] <;> rfl), rfl⟩ (sc [1] rfl)
 refine cf aQ (cf aQ (cf aQ (cF (cF (cF (cF ?_))))))
 cases hm
 exact en lr ⟨(by rw [← ((and_f (and_f aQ))).symm] <;> rfl), rfl⟩ (sc [1] rfl)
 refine eq_int (cs rfl rfl hm ?_ ?_) <;> intro bW hm
 refine guard_go rfl ?_
 obtain ⟨bF, aZ, hm⟩ := bnd hm
 refine cond_s ?_ ?_ <;> intro aS
 replace aZ := ift aS aZ
 refine fa rfl (ct aS (ro (ld r0 rfl rfl (ct aS ?_))))
 refine cb aZ fun bq bb aZ => cg0 (Jb8 bb :) ?_
 refine ct aS ?_
 cases hm
 exact en lr ⟨(by rw [← (si aZ)] <;> rfl), rfl⟩ (sc [1] rfl)
 replace aZ := iff_ aS aZ
 refine cf aS (cf aS (cf aS ?_))
 cases hm
 exact en lr ⟨(by rw [← ((si aZ).symm).symm] <;> rfl), rfl⟩ (sc [1] rfl)
 refine eq_int (cs rfl rfl hm ?_ ?_) <;> intro bt hm
 exact eE hm
 refine eq_int (cs rfl rfl hm ?_ ?_) <;> intro bS hm
 exact eE hm
 refine eq_int (cs rfl rfl hm ?_ ?_) <;> intro bU hm
 refine guard_go rfl ?_
 obtain ⟨bp, aY, hm⟩ := bnd hm
 refine cond_s ?_ ?_ <;> intro aO
 replace aY := ift aO aY
 refine ro (g_load bj rfl (ct aO (fa rfl (ct aO (ro (ld r0 rfl rfl (ct aO ?_)))))))
 refine cb aY fun bC bo aY => cgx (Jai bo :) ?_
 refine ct aO ?_
 cases hm
 exact en lr ⟨(by rw [← (si aY)] <;> rfl), rfl⟩ (sc [1] rfl)
 replace aY := iff_ aO aY
 refine cf aO (cf aO (cf aO (cf aO ?_)))
 cases hm
 exact en lr ⟨(by rw [← ((si aY).symm).symm] <;> rfl), rfl⟩ (sc [1] rfl)
 refine eq_int (cs rfl rfl hm ?_ ?_) <;> intro bI hm
 refine guard_go rfl ?_
 obtain ⟨bQ, aX, hm⟩ := bnd hm
 refine cond_s ?_ ?_ <;> intro aM
 replace aX := ift aM aX
 refine ro (g_load ba rfl (ct aM (fa rfl (ct aM (ro (ld r0 rfl rfl (ct aM ?_)))))))
 refine cb aX fun bX bn aX => cgx (Jai bn :) ?_
 refine ct aM ?_
 cases hm
 exact en lr ⟨(by rw [← (si aX)] <;> rfl), rfl⟩ (sc [1] rfl)
 replace aX := iff_ aM aX
 refine cf aM (cf aM (cf aM (cf aM ?_)))
 cases hm
 exact en lr ⟨(by rw [← ((si aX).symm).symm] <;> rfl), rfl⟩ (sc [1] rfl)
 refine eq_int (cs rfl rfl hm ?_ ?_) <;> intro bE hm
 refine guard_go rfl ?_
 obtain ⟨bN, a6, hm⟩ := bnd hm
 refine cond_s ?_ ?_ <;> intro aN
 replace a6 := ift aN a6
 refine ro (g_load bm rfl (ct aN (fa rfl (ct aN (ro (ld r0 rfl rfl (ct aN ?_)))))))
 refine cb a6 fun bA a8 a6 => cgx (Jai a8 :) ?_
 refine ct aN ?_
 cases hm
 exact en lr ⟨(by rw [← (si a6)] <;> rfl), rfl⟩ (sc [1] rfl)
 replace a6 := iff_ aN a6
 refine cf aN (cf aN (cf aN (cf aN ?_)))
 cases hm
 exact en lr ⟨(by rw [← ((si a6).symm).symm] <;> rfl), rfl⟩ (sc [1] rfl)
 refine eq_int (cs rfl rfl hm ?_ ?_) <;> intro bV hm
 refine guard_go rfl ?_
 refine cond_s ?_ ?_ <;> intro aW
 refine ct aW ?_
 cases hm
 exact en lr ⟨(by rw [← (and_e (b := decide (x.S = ([] : Str))) aW)] <;> rfl), rfl⟩ (sc [1] rfl)
 refine cf aW ?_
 cases hm
 exact en lr ⟨(by rw [← ((and_f aW)).symm] <;> rfl), rfl⟩ (sc [1] rfl)
 refine eq_int (cs rfl rfl hm ?_ ?_) <;> intro bG hm
 exact eE hm
 refine eq_int (cs rfl rfl hm ?_ ?_) <;> intro bM hm
 exact eE hm
 refine eq_int (cs rfl rfl hm ?_ ?_) <;> intro bu hm
 refine fa rfl (ro (ld r0 rfl rfl ?_))
 refine cb hm fun bc bd hm => cg0 (Je3 bd :) ?_
 refine guard_go rfl ?_
 refine cond_s ?_ ?_ <;> intro aU
 refine ct aU ?_
 cases hm
 exact en lr ⟨(by rw [← (and_e (b := bc.2) aU)] <;> rfl), rfl⟩ (sc [1] rfl)
 refine cf aU ?_
 cases hm
 exact en lr ⟨(by rw [← ((and_f aU)).symm] <;> rfl), rfl⟩ (sc [1] rfl)
 refine eq_int (cs rfl rfl hm ?_ ?_) <;> intro bh hm
 refine guard_go rfl ?_
 refine cond_s ?_ ?_ <;> intro aV
 refine ct aV ?_
 cases hm
 exact en lr ⟨(by rw [← (and_e (b := decide (x.S = ([] : Str))) aV)] <;> rfl), rfl⟩ (sc [1] rfl)
 refine cf aV ?_
 cases hm
 exact en lr ⟨(by rw [← ((and_f aV)).symm] <;> rfl), rfl⟩ (sc [1] rfl)
 exact eE hm

def JcG (s : Jm) (slot : Int) : Option (Bool) :=
  (chk ((64 : Int) ≠ 0 ∧ InI (Int.tdiv slot 64))).bind fun _ =>
  (chk (0 ≤ (Int.tdiv slot 64) ∧ (Int.tdiv slot 64) < 8)).bind fun _ =>
  (chk (0 ≤ (Int.tmod slot 64))).bind fun _ =>
  some (decide ((u64and (u64shr (List.getD [s.Au.f0, s.Au.f1, s.Au.f2, s.Au.f3, s.Au.f4, s.Au.f5, s.Au.f6, s.Au.f7] (Int.toNat (Int.tdiv slot 64)) 0) (Int.tmod slot 64)) 1) = 1))
theorem JdX {s : Jm} {slot : Int} {K : Hp} {r : Bool}
    (hm : JcG s slot = some r)  :
    Fn Tryz.prog 101 [.agg #[.bool s.Av, .int .i64 s.depth, .int .u64 s.Au.f0, .int .u64 s.Au.f1, .int .u64 s.Au.f2, .int .u64 s.Au.f3, .int .u64 s.Au.f4, .int .u64 s.Au.f5, .int .u64 s.Au.f6, .int .u64 s.Au.f7], .int .i64 slot] K [] (fun v K' H' => v = .bool r ∧ H' = []) := by
 refine Fn.enter Tryz.func101 Tryz.call101 rfl fun F => ?_
 unfold JcG at hm
 refine box_rule ?_
 intro b2
 obtain ⟨h6, hm⟩ := chkb hm
 refine quo_t h6.1 h6.2 (fa rfl ?_)
 obtain ⟨h8, hm⟩ := chkb hm
 refine RStep.ofN (arr_addrV (sz := 1) rfl rfl h8.1 h8.2 (ro (ld_arr (L := [s.Au.f0, s.Au.f1, s.Au.f2, s.Au.f3, s.Au.f4, s.Au.f5, s.Au.f6, s.Au.f7]) (pre := [.bool s.Av, .int .i64 s.depth]) (post := []) r0 rfl (by simp) rfl h8.1 h8.2 (rem_t (by decide) ?_))))
 obtain ⟨aM, hm⟩ := chkb hm
 refine u64_shr aM ?_
 refine u64_and ?_
 refine eq_int ?_
 exact eE hm

def JaR (t : Jm) : Nat → Nat → Int → Int → Int → Int → Int → Int → Int → Int → Option (Int × Int × Int × Int × Int × Int × Int × Int)
  | 0, _, ac, aQ, aS, al, aP, aO, aR, aN => some (ac, aQ, aS, al, aP, aO, aR, aN)
  | aT + 1, i0, ac, aQ, aS, al, aP, aO, aR, aN =>
    (chk (0 ≤ (i0 : Int) ∧ (i0 : Int) < 8)).bind fun _ =>
    (chk (0 ≤ (i0 : Int) ∧ (i0 : Int) < 8)).bind fun _ =>
    (chk (0 ≤ (i0 : Int) ∧ (i0 : Int) < 8)).bind fun _ =>
    (some (List.set [ac, aQ, aS, al, aP, aO, aR, aN] (Int.toNat (i0 : Int)) (u64and (List.getD [ac, aQ, aS, al, aP, aO, aR, aN] (Int.toNat (i0 : Int)) 0) (List.getD [t.Au.f0, t.Au.f1, t.Au.f2, t.Au.f3, t.Au.f4, t.Au.f5, t.Au.f6, t.Au.f7] (Int.toNat (i0 : Int)) 0)))).bind fun aM =>
    JaR t aT (i0 + 1) (List.getD aM 0 0) (List.getD aM 1 0) (List.getD aM 2 0) (List.getD aM 3 0) (List.getD aM 4 0) (List.getD aM 5 0) (List.getD aM 6 0) (List.getD aM 7 0)
def Jc6 (s : Jm) (t : Jm) : Option (Bool × Jm) :=
  if (!s.Av) then
  some (true, t)
  else
  (chk (InI (8 : Int))).bind fun _ =>
  (JaR t (8 : Int).toNat 0 s.Au.f0 s.Au.f1 s.Au.f2 s.Au.f3 s.Au.f4 s.Au.f5 s.Au.f6 s.Au.f7).bind fun t0 =>
  some (decide (s.depth = t.depth), (⟨s.Av, s.depth, (⟨t0.1, t0.2.1, t0.2.2.1, t0.2.2.2.1, t0.2.2.2.2.1, t0.2.2.2.2.2.1, t0.2.2.2.2.2.2.1, t0.2.2.2.2.2.2.2⟩ : JaS)⟩ : Jm))
theorem JfC {s : Jm} {t : Jm} {b0 : Nat} {K : Hp} {r : Bool × Jm}
    (hm : Jc6 s t = some r)  :
    Fn Tryz.prog 102 [.pointer (some ⟨b0, 0, none⟩), .agg #[.bool t.Av, .int .i64 t.depth, .int .u64 t.Au.f0, .int .u64 t.Au.f1, .int .u64 t.Au.f2, .int .u64 t.Au.f3, .int .u64 t.Au.f4, .int .u64 t.Au.f5, .int .u64 t.Au.f6, .int .u64 t.Au.f7]] K [Cells b0 204 [.bool s.Av, .int .i64 s.depth, .int .u64 s.Au.f0, .int .u64 s.Au.f1, .int .u64 s.Au.f2, .int .u64 s.Au.f3, .int .u64 s.Au.f4, .int .u64 s.Au.f5, .int .u64 s.Au.f6, .int .u64 s.Au.f7]] (fun v K' H' => v = .bool r.1 ∧ H' = [Cells b0 204 [.bool r.2.Av, .int .i64 r.2.depth, .int .u64 r.2.Au.f0, .int .u64 r.2.Au.f1, .int .u64 r.2.Au.f2, .int .u64 r.2.Au.f3, .int .u64 r.2.Au.f4, .int .u64 r.2.Au.f5, .int .u64 r.2.Au.f6, .int .u64 r.2.Au.f7]]) := by
 refine Fn.enter Tryz.func102 Tryz.call102 rfl fun F => ?_
 unfold Jc6 at hm
 refine box_rule ?_
 intro b3
 refine nil_check (fa rfl (ro (ld r1 rfl rfl (un_not ?_))))
 refine cs rfl rfl hm ?_ ?_ <;> intro a6 hm
 refine ro (loadn_s r0 rfl (nl rfl) (nil_check ?_))
 refine store_rule r1 rfl ⟨rfl, rfl, (nl rfl), ?_⟩
 exact eE hm
 obtain ⟨aZ, hm⟩ := chkb hm
 obtain ⟨s0, aN, hm⟩ := bnd hm
 refine lD (σ := (Int × Int × Int × Int × Int × Int × Int × Int)) [5, 14, 15, 16, 17, 18, 19, 20, 21, 22, 23, 24, 25, 26, 27, 28, 29, 30, 31] [0, 2] (fun i0 => [(14, .int .i64 (i0 : Int))]) (fun _ => []) (fun t0 => [Cells b0 204 [.bool s.Av, .int .i64 s.depth, .int .u64 t0.1, .int .u64 t0.2.1, .int .u64 t0.2.2.1, .int .u64 t0.2.2.2.1, .int .u64 t0.2.2.2.2.1, .int .u64 t0.2.2.2.2.2.1, .int .u64 t0.2.2.2.2.2.2.1, .int .u64 t0.2.2.2.2.2.2.2]]) (fun _ => True) (fun i0 t0 => JaR t ((8 : Int).toNat - i0) i0 t0.1 t0.2.1 t0.2.2.1 t0.2.2.2.1 t0.2.2.2.2.1 t0.2.2.2.2.2.1 t0.2.2.2.2.2.2.1 t0.2.2.2.2.2.2.2 = some s0) (fun t0 => t0 = s0) (fun i0 => (8 : Int).toNat - i0) 0 (_, _, _, _, _, _, _, _) aN (And.intro qe (And.intro ?_ ?_))
 clear aN
 rintro i0 ⟨ac, aV, aT, al, aR, aU, aS, aQ⟩ _ aN j0
 dsimp only at aN ⊢
 refine cond_go rfl ?_
 refine cond_s ?_ ?_ <;> intro w0
 rw [ltn (n := (8 : Int)) w0, JaR.eq_2] at aN
 refine block_go rfl ?_
 refine draw_go_tail ⟨⟨[], false⟩, _, [(_, _), (_, _)], []⟩ 13 rfl (by kernel_rfl) ⟨Hp.Le.refl _, (pf rfl), ci0⟩ ?_
 refine nil_check (fa rfl ?_)
 obtain ⟨aX, aN⟩ := chkb aN
 refine arr_addrV (sz := 1) rfl rfl aX.1 aX.2 ?_
 refine ld_arr_l (L := [ac, aV, aT, al, aR, aU, aS, aQ]) (pre := [.bool s.Av, .int .i64 s.depth]) (post := []) m0 rfl (by simp) rfl aX.1 aX.2 ?_
 refine fa rfl ?_
 obtain ⟨aY, aN⟩ := chkb aN
 refine arr_addrV (sz := 1) rfl rfl aY.1 aY.2 ?_
 refine ld_arr_l (L := [t.Au.f0, t.Au.f1, t.Au.f2, t.Au.f3, t.Au.f4, t.Au.f5, t.Au.f6, t.Au.f7]) (pre := [.bool t.Av, .int .i64 t.depth]) (post := []) m1 rfl (by simp) rfl aY.1 aY.2 ?_
 refine u64_and ?_
 refine nil_check (fa rfl ?_)
 obtain ⟨aW, aN⟩ := chkb aN
 refine arr_addrV (sz := 1) rfl rfl aW.1 aW.2 ?_
 obtain ⟨aM, aO, aN⟩ := bnd aN
 replace aO := Option.some.inj aO
 have aP : aM.length = 8 := by rw [← aO]; simp
 refine st_arr (L := [ac, aV, aT, al, aR, aU, aS, aQ]) (pre := [.bool s.Av, .int .i64 s.depth]) (post := []) (cs' := [.bool s.Av, .int .i64 s.depth, .int .u64 (List.getD aM 0 0), .int .u64 (List.getD aM 1 0), .int .u64 (List.getD aM 2 0), .int .u64 (List.getD aM 3 0), .int .u64 (List.getD aM 4 0), .int .u64 (List.getD aM 5 0), .int .u64 (List.getD aM 6 0), .int .u64 (List.getD aM 7 0)]) r0 rfl (by simp) rfl aW.1 aW.2 aO (by rw [map8 aP]; rfl) ?_
 refine ⟨⟨Hp.emp_le _, (pf rfl), ci0⟩, ?_⟩
 refine int_in (cntn w0 aZ) ?_
 exact eR aN (_, (_, _, _, _, _, _, _, _))
 rw [lto (n := (8 : Int)) w0, JaR.eq_1] at aN
 refine cT ?_
 exact eM aN _
 rintro t0 _ rfl j0
 refine draw_go ⟨⟨[], false⟩, _, [(_, _), (_, _)], []⟩ (by kernel_rfl) ⟨Hp.Le.refl _, (pf rfl), ci0⟩ ?_
 refine nil_check (fa rfl (load1_l m0 rfl rfl (fa rfl (load1_l m1 rfl rfl (eq_int ?_)))))
 exact eE hm

def JaA (s_i : Nat) (t : Jm) : Nat → Nat → (List Jm) → Option ((List Jm))
  | 0, _, ac => some ac
  | aO + 1, i0, ac =>
    (chk (0 ≤ (i0 : Int) ∧ (i0 : Int) < 8)).bind fun _ =>
    (ac[s_i]?).bind fun aM =>
    (chk (0 ≤ (i0 : Int) ∧ (i0 : Int) < 8)).bind fun _ =>
    (chk (0 ≤ (i0 : Int) ∧ (i0 : Int) < 8)).bind fun _ =>
    (some (List.set [aM.Au.f0, aM.Au.f1, aM.Au.f2, aM.Au.f3, aM.Au.f4, aM.Au.f5, aM.Au.f6, aM.Au.f7] (Int.toNat (i0 : Int)) (u64and (List.getD [aM.Au.f0, aM.Au.f1, aM.Au.f2, aM.Au.f3, aM.Au.f4, aM.Au.f5, aM.Au.f6, aM.Au.f7] (Int.toNat (i0 : Int)) 0) (List.getD [t.Au.f0, t.Au.f1, t.Au.f2, t.Au.f3, t.Au.f4, t.Au.f5, t.Au.f6, t.Au.f7] (Int.toNat (i0 : Int)) 0)))).bind fun aN =>
    JaA s_i t aO (i0 + 1) (ac.set s_i (⟨aM.Av, aM.depth, (⟨(List.getD aN 0 0), (List.getD aN 1 0), (List.getD aN 2 0), (List.getD aN 3 0), (List.getD aN 4 0), (List.getD aN 5 0), (List.getD aN 6 0), (List.getD aN 7 0)⟩ : JaS)⟩ : Jm))
def Jbt (s : (List Jm)) (s_i : Nat) (t : Jm) : Option (Bool × (List Jm)) :=
  (s[s_i]?).bind fun aN =>
  if (!aN.Av) then
  some (true, (s.set s_i t))
  else
  (chk (InI (8 : Int))).bind fun _ =>
  (JaA s_i t (8 : Int).toNat 0 s).bind fun t0 =>
  (t0[s_i]?).bind fun aM =>
  some (decide (aM.depth = t.depth), t0)
theorem JaX {s : (List Jm)} {s_i : Nat} {t : Jm} {aI : Option Addr} {aL : Nat} {K : Hp} {r : Bool × (List Jm)}
    (hm : Jbt s s_i t = some r) (aB : 0 < s.length → Has aI) :
    Fn Tryz.prog 102 [(eptr aI (s_i * 10)), .agg #[.bool t.Av, .int .i64 t.depth, .int .u64 t.Au.f0, .int .u64 t.Au.f1, .int .u64 t.Au.f2, .int .u64 t.Au.f3, .int .u64 t.Au.f4, .int .u64 t.Au.f5, .int .u64 t.Au.f6, .int .u64 t.Au.f7]] K [OwnL Jm.enc aI 204 10 aL s] (fun v K' H' => v = .bool r.1 ∧ (0 < r.2.length → Has aI) ∧ s.length = r.2.length ∧ H' = [OwnL Jm.enc aI 204 10 aL r.2]) := by
 refine Fn.enter Tryz.func102 Tryz.call102 rfl fun F => ?_
 unfold Jbt at hm
 obtain ⟨ba, aP, hm⟩ := bnd hm
 refine box_rule ?_
 intro b3
 refine nil_checkE (hasO aB aP) (eptr_field rfl (hasO aB aP) (ro (ld_own (i := s_i) (o := 0) r1 rfl aP rfl rfl (un_not ?_))))
 refine cs rfl rfl hm ?_ ?_ <;> intro bc hm
 refine ro (loadn_s r0 rfl (nl rfl) (nil_checkE (hasO aB aP) ?_))
 refine st_own (o := 0) (y := t) ba r1 rfl aP rfl (by (conv => whnf); exact ⟨rfl, rfl, (nl rfl), rfl, rfl, rfl⟩) ?_
 cases hm
 exact en lr ⟨rfl, (by first | simpa using aB | exact fun _ => ⟨_, _, rfl⟩), ((rfl).trans List.length_set.symm), rfl⟩ (sc [0,1] rfl)
 obtain ⟨a6, hm⟩ := chkb hm
 obtain ⟨s0, aN, hm⟩ := bnd hm
 refine lD (σ := ((List Jm))) [5, 14, 15, 16, 17, 18, 19, 20, 21, 22, 23, 24, 25, 26, 27, 28, 29, 30, 31] [0, 2] (fun i0 => [(14, .int .i64 (i0 : Int))]) (fun _ => []) (fun t0 => [OwnL Jm.enc aI 204 10 aL t0]) (fun t0 => (0 < t0.length → Has aI) ∧ s.length = t0.length) (fun i0 t0 => JaA s_i t ((8 : Int).toNat - i0) i0 t0 = some s0) (fun t0 => t0 = s0) (fun i0 => (8 : Int).toNat - i0) 0 _ aN (And.intro qe (And.intro ?_ ?_))
 clear aN
 rintro i0 ac ⟨aR, aT⟩ aN j0
 conv at aN => whnf
 refine cond_go rfl ?_
 refine cond_s ?_ ?_ <;> intro w0
 rw [ltn (n := (8 : Int)) w0, JaA.eq_2] at aN
 refine block_go rfl ?_
 refine draw_go ⟨⟨[], true⟩, _, [], []⟩ (by kernel_rfl) ⟨Hp.Le.refl _, (pf rfl), ci0⟩ ?_
 refine nil_checkE (hasO aB aP) (eptr_field rfl (hasO aB aP) ?_)
 obtain ⟨aV, aN⟩ := chkb aN
 refine arr_addrE (sz := 1) rfl rfl (hasO aB aP) aV.1 aV.2 ?_
 obtain ⟨aM, aZ, aN⟩ := bnd aN
 refine ld_own (i := s_i) (o := 2 + (Int.toNat (i0 : Int))) r0 rfl aZ (arr_get (L := [aM.Au.f0, aM.Au.f1, aM.Au.f2, aM.Au.f3, aM.Au.f4, aM.Au.f5, aM.Au.f6, aM.Au.f7]) (pre := [.bool aM.Av, .int .i64 aM.depth]) (post := []) rfl aV.1 aV.2) (by omega) ?_
 refine fa rfl ?_
 obtain ⟨aW, aN⟩ := chkb aN
 refine arr_addrV (sz := 1) rfl rfl aW.1 aW.2 ?_
 refine ld_arr (L := [t.Au.f0, t.Au.f1, t.Au.f2, t.Au.f3, t.Au.f4, t.Au.f5, t.Au.f6, t.Au.f7]) (pre := [.bool t.Av, .int .i64 t.depth]) (post := []) r1 rfl (by simp) rfl aW.1 aW.2 ?_
 refine u64_and ?_
 refine nil_checkE (hasO aB aP) (eptr_field rfl (hasO aB aP) ?_)
 obtain ⟨aU, aN⟩ := chkb aN
 refine arr_addrE (sz := 1) rfl rfl (hasO aB aP) aU.1 aU.2 ?_
 obtain ⟨aO, aQ, aN⟩ := bnd aN
 replace aQ := Option.some.inj aQ
 have aS : aO.length = 8 := by rw [← aQ]; simp
 refine st_own (n := 1) (o := 2 + (Int.toNat (i0 : Int))) (y := (⟨aM.Av, aM.depth, (⟨(List.getD aO 0 0), (List.getD aO 1 0), (List.getD aO 2 0), (List.getD aO 3 0), (List.getD aO 4 0), (List.getD aO 5 0), (List.getD aO 6 0), (List.getD aO 7 0)⟩ : JaS)⟩ : Jm)) aM r0 rfl aZ (by omega) (by rw [cellsL_eq]; exact ⟨rfl, rfl, by omega, (arr_splice (L := [aM.Au.f0, aM.Au.f1, aM.Au.f2, aM.Au.f3, aM.Au.f4, aM.Au.f5, aM.Au.f6, aM.Au.f7]) (pre := [.bool aM.Av, .int .i64 aM.depth]) (post := []) aU.1 aU.2).trans (by rw [aQ, map8 aS]; rfl), rfl, rfl⟩) ?_
 refine ⟨⟨lr, (pf rfl), ci0⟩, ?_⟩
 refine int_in (cntn w0 a6) ?_
 exact rd (i0 + 1, (ac.set s_i (⟨aM.Av, aM.depth, (⟨(List.getD aO 0 0), (List.getD aO 1 0), (List.getD aO 2 0), (List.getD aO 3 0), (List.getD aO 4 0), (List.getD aO 5 0), (List.getD aO 6 0), (List.getD aO 7 0)⟩ : JaS)⟩ : Jm))) ⟨rfl, trivial⟩ rfl (pf rfl) lr (ltnm w0) ⟨⟨(by first | simpa using aR | exact fun _ => ⟨_, _, rfl⟩), ((aT).trans List.length_set.symm)⟩, aN⟩
 rw [lto (n := (8 : Int)) w0, JaA.eq_1] at aN
 refine cT ?_
 exact eM aN _
 rintro t0 ⟨aY, aX⟩ rfl j0
 refine draw_go ⟨⟨[], true⟩, _, [], []⟩ (by kernel_rfl) ⟨Hp.Le.refl _, (pf rfl), ci0⟩ ?_
 refine nil_checkE (hasO aB aP) (eptr_field rfl (hasO aB aP) ?_)
 obtain ⟨bb, a8, hm⟩ := bnd hm
 refine ld_own (i := s_i) (o := 1) r0 rfl a8 rfl rfl ?_
 refine fa rfl ?_
 refine ld r1 rfl rfl ?_
 refine eq_int ?_
 exact eE hm

def Jbv (code : (List Jh)) : List Jh → Nat → Int → (List Jm) → Option (Fl (Int × Bool) (Int × (List Jm)))
  | [], _, ac, aQ => some (Fl.go (ac, aQ))
  | e0 :: aV, i0, ac, aQ =>
    (ix aQ (i0 : Int)).bind fun aM =>
    (Jdp e0).bind fun aO =>
    (chk (InI ((code.length : Int) - 1))).bind fun _ =>
    if ((((!aO.2.2) || (!aM.Av)) || decide (aM.depth < aO.1)) || (!((decide (e0.Op = 12)) == (decide ((i0 : Int) = ((code.length : Int) - 1)))))) then
    some (Fl.ret (0, false))
    else
    (if decide (e0.Op = 3) then (JcG aM e0.N).bind fun aX =>
    some (!aX) else some false).bind fun aY =>
    if aY then
    some (Fl.ret (0, false))
    else
    (chk (InI (aO.2.1 - aO.1))).bind fun _ =>
    (chk (InI (aM.depth + (aO.2.1 - aO.1)))).bind fun _ =>
    ((if decide (e0.Op = 4) then
    (chk ((64 : Int) ≠ 0 ∧ InI (Int.tdiv e0.N 64))).bind fun _ =>
    (chk (0 ≤ (Int.tdiv e0.N 64) ∧ (Int.tdiv e0.N 64) < 8)).bind fun _ =>
    (chk (0 ≤ (Int.tmod e0.N 64))).bind fun _ =>
    (chk (0 ≤ (Int.tdiv e0.N 64) ∧ (Int.tdiv e0.N 64) < 8)).bind fun _ =>
    (some (List.set [aM.Au.f0, aM.Au.f1, aM.Au.f2, aM.Au.f3, aM.Au.f4, aM.Au.f5, aM.Au.f6, aM.Au.f7] (Int.toNat (Int.tdiv e0.N 64)) (u64or (List.getD [aM.Au.f0, aM.Au.f1, aM.Au.f2, aM.Au.f3, aM.Au.f4, aM.Au.f5, aM.Au.f6, aM.Au.f7] (Int.toNat (Int.tdiv e0.N 64)) 0) (u64shl 1 (Int.tmod e0.N 64))))).bind fun aP =>
    some ((List.getD aP 0 0), (List.getD aP 1 0), (List.getD aP 2 0), (List.getD aP 3 0), (List.getD aP 4 0), (List.getD aP 5 0), (List.getD aP 6 0), (List.getD aP 7 0))
    else
    some (aM.Au.f0, aM.Au.f1, aM.Au.f2, aM.Au.f3, aM.Au.f4, aM.Au.f5, aM.Au.f6, aM.Au.f7) : Option (Int × Int × Int × Int × Int × Int × Int × Int))).bind fun aN =>
    ((if (decide (e0.Op = 9) || decide (e0.Op = 10)) then
    if (decide (e0.N ≤ (i0 : Int)) || decide (e0.N ≥ (code.length : Int))) then
    some (Fl.ret (0, false))
    else
    (ix aQ e0.N).bind fun aZ =>
    (Jbt aQ ((e0.N).toNat) (⟨aM.Av, (aM.depth + (aO.2.1 - aO.1)), (⟨aN.1, aN.2.1, aN.2.2.1, aN.2.2.2.1, aN.2.2.2.2.1, aN.2.2.2.2.2.1, aN.2.2.2.2.2.2.1, aN.2.2.2.2.2.2.2⟩ : JaS)⟩ : Jm)).bind fun aT =>
    if (!aT.1) then
    some (Fl.ret (0, false))
    else
    some (Fl.go aT.2)
    else
    some (Fl.go aQ) : Option (Fl (Int × Bool) ((List Jm))))).bind fun aU => aU.el (fun r => some (Fl.ret r)) fun aR =>
    if decide ((i0 : Int) = ((code.length : Int) - 1)) then
    some (Fl.ret ((max (max ac aM.depth) (aM.depth + (aO.2.1 - aO.1))), decide ((aM.depth + (aO.2.1 - aO.1)) = 0)))
    else
    if decide (e0.Op ≠ 9) then
    (ix aR ((i0 : Int) + 1)).bind fun aW =>
    (Jbt aR ((((i0 : Int) + 1)).toNat) (⟨aM.Av, (aM.depth + (aO.2.1 - aO.1)), (⟨aN.1, aN.2.1, aN.2.2.1, aN.2.2.2.1, aN.2.2.2.2.1, aN.2.2.2.2.2.1, aN.2.2.2.2.2.2.1, aN.2.2.2.2.2.2.2⟩ : JaS)⟩ : Jm)).bind fun aS =>
    if (!aS.1) then
    some (Fl.ret (0, false))
    else
    Jbv code aV (i0 + 1) (max (max ac aM.depth) (aM.depth + (aO.2.1 - aO.1))) aS.2
    else
    Jbv code aV (i0 + 1) (max (max ac aM.depth) (aM.depth + (aO.2.1 - aO.1))) aR
def JdG (code : (List Jh)) : Option (Int × Bool) :=
  if (decide ((code.length : Int) < 1) || decide ((code.length : Int) > 2048)) then
  some (0, false)
  else
  (chk ((0 : Int) ≤ (code.length : Int) ∧ (code.length : Int) ≤ (lim : Int))).bind fun _ =>
  (ix (List.replicate (Int.toNat (code.length : Int)) ((⟨false, 0, (⟨0, 0, 0, 0, 0, 0, 0, 0⟩ : JaS)⟩ : Jm) : Jm)) 0).bind fun aM =>
  (chk (code.length ≤ szMax)).bind fun _ =>
  (Jbv code code 0 0 ((List.replicate (Int.toNat (code.length : Int)) ((⟨false, 0, (⟨0, 0, 0, 0, 0, 0, 0, 0⟩ : JaS)⟩ : Jm) : Jm)).set ((0 : Int).toNat) (⟨true, aM.depth, aM.Au⟩ : Jm))).bind fun s0 => s0.el some fun t0 =>
  some (0, false)
theorem JeX {code : (List Jh)} {aa : Option Addr} {ab : Nat} {n0 : Nat} {K : Hp} {r : Int × Bool}
    (hm : JdG code = some r) (hX : RdC Jh.enc K aa ab 3 code ∧ n0 = code.length ∧ GG K) :
    Fn Tryz.prog 60 [.slice aa n0 ab] K [] (fun v K' H' => v = .tuple #[.int .i64 r.1, .bool r.2] ∧ H' = []) := by
 obtain ⟨ae, cB, hG⟩ := hX
 subst cB
 refine Fn.enter Tryz.func60 Tryz.call60 rfl fun F => ?_
 unfold JdG at hm
 refine jR (σ := Unit) [13, 14, 15, 16, 17, 18, 19, 20] (fun _ => [(20, .bool (decide ((code.length : Int) < 1) || decide ((code.length : Int) > 2048)))]) (fun cD => True) ?_ ?_
 refine guard_go rfl ?_
 refine ro (len_slice rfl ?_)
 refine cond_s ?_ ?_ <;> intro a8
 refine ct a8 (ct a8 (ct a8 ?_))
 exact mt (()) ⟨(by rw [← ((or_t a8)).symm] <;> rfl), trivial⟩ rfl (pf rfl) lr trivial
 refine cf a8 (ro (len_slice rfl (cf a8 (cf a8 ?_))))
 exact mt (()) ⟨(by rw [← (or_e (b := decide ((code.length : Int) > 2048)) a8)] <;> rfl), trivial⟩ rfl (pf rfl) lr trivial
 rintro _ _ cP
 refine cs rfl rfl hm ?_ ?_ <;> intro cX hm
 exact eE hm
 refine ro (len_slice rfl ?_)
 obtain ⟨cJ, hm⟩ := chkb hm
 refine mk_slice (enc := Jm.enc) ((⟨false, 0, (⟨0, 0, 0, 0, 0, 0, 0, 0⟩ : JaS)⟩ : Jm) : Jm) elT200 rfl rfl rfl cJ fun bS => ?_
 obtain ⟨bT, cq, bU, hm⟩ := ixb hm
 refine RStep.ofN (index_addr rfl rfl (hasO (fun _ => ⟨_, _, rfl⟩) bU) cq (lt_ofE List.length_replicate.symm cq bU) (eptr_field rfl (hasO (fun _ => ⟨_, _, rfl⟩) bU) ?_))
 refine st_own (o := 0) (y := (⟨true, bT.depth, bT.Au⟩ : Jm)) bT r0 rfl bU rfl (by (conv => whnf); exact ⟨rfl, rfl, (nl rfl), rfl, rfl, rfl⟩) ?_
 refine ro (len_slice rfl ?_)
 obtain ⟨bR, hm⟩ := chkb hm
 obtain ⟨s0, aP, hm⟩ := bnd hm
 refine lD (σ := (Int × (List Jm))) [2, 3, 5, 6, 7, 8, 9, 10, 11, 12, 29, 30, 31, 32, 33, 34, 35, 36, 37, 38, 39, 40, 41, 42, 43, 44, 45, 46, 47, 48, 49, 50, 51, 52, 53, 54, 55, 56, 57, 58, 59, 60, 61, 62, 63, 64, 65, 66, 67, 68, 69, 70, 71, 72, 73, 74, 75, 76, 77, 78, 79, 80, 81, 82, 83, 84, 85, 86, 87, 88, 89, 90, 91, 92, 93, 94, 95, 96, 97, 98, 99, 100, 101, 102, 103, 104, 105, 106, 107, 108, 109, 110, 111, 112, 113, 114, 115, 116, 117, 118, 119, 120, 121, 122, 123, 124, 125, 126, 127, 128, 129, 130, 131, 132, 133, 134, 135, 136, 137, 138, 139, 140, 141, 142, 143, 144, 145, 146, 147, 148, 149, 150, 151, 152, 153, 154, 155, 156, 157] [1] (fun i0 => [(29, .int .i64 (i0 : Int))]) (fun t0 => [(5, .int .i64 t0.1)]) (fun t0 => [OwnL Jm.enc (some ⟨bS, 0, none⟩) 204 10 (Int.toNat (code.length : Int)) t0.2]) (fun t0 => (0 < t0.2.length → Has (some ⟨bS, 0, none⟩)) ∧ (Int.toNat (code.length : Int)) = t0.2.length) (fun i0 t0 => Jbv code (code.drop i0) i0 t0.1 t0.2 = some s0) (fun t0 => s0 = Fl.go t0) (fun i0 => code.length - i0) 0 (0, ((List.replicate (Int.toNat (code.length : Int)) ((⟨false, 0, (⟨0, 0, 0, 0, 0, 0, 0, 0⟩ : JaS)⟩ : Jm) : Jm)).set ((0 : Int).toNat) (⟨true, bT.depth, bT.Au⟩ : Jm))) aP (And.intro ⟨⟨(by first | simpa using (fun _ => ⟨_, _, rfl⟩) | exact fun _ => ⟨_, _, rfl⟩), ((List.length_replicate.symm).trans List.length_set.symm)⟩, ⟨rfl, rfl, trivial⟩, _, (sp rfl)⟩ (And.intro ?_ ?_))
 clear aP
 rintro i0 ⟨ac, cM⟩ ⟨bC, bj⟩ aP j0
 dsimp only at aP ⊢
 refine cond_go rfl ?_
 refine cond_s ?_ ?_ <;> intro w0
 obtain ⟨e0, bD, cA⟩ := ltx w0
 rw [cA, Jbv.eq_2] at aP
 refine block_go rfl ?_
 refine RStep.ofN (index_addr rfl rfl (hasK ae.rd bD) (nn _) (lt_ofN bD) (ro (load_rd_agg i0 _ ae.rd rfl (mp bD) rfl ?_)))
 refine alloc_rule rfl fun b7 => ?_
 refine store_rule r0 rfl ⟨rfl, rfl, (nl rfl), ?_⟩
 obtain ⟨aV, cr, cj, aP⟩ := ixb aP
 refine RStep.ofN (index_addr rfl rfl (hasO bC cj) cr (lt_ofE bj cr cj) (ro (ldn_own (i := ((i0 : Int)).toNat) r1 rfl cj rfl rfl ?_)))
 refine alloc_rule rfl fun b8 => ?_
 refine store_rule r0 rfl ⟨rfl, rfl, (nl rfl), ?_⟩
 refine ro (loadn_s r1 rfl (nl rfl) ?_)
 refine cb aP fun bc cO aP => cgx (JeF cO :) ?_
 refine ro (len_slice rfl ?_)
 obtain ⟨cS, aP⟩ := chkb aP
 refine int_in cS (eq_int ?_)
 refine guard_go rfl ?_
 refine un_not ?_
 refine cond_s ?_ ?_ <;> intro aY
 refine ct aY (ct aY (ct aY (cT (cT (cT (cT (cT ?_)))))))
 refine cT (cT (cT (cT (cT (cT ?_)))))
 replace aP := ift (or_t (or_t (or_t (not_t (ni_t aY))))) aP
 refine cT (cT (cT (cT (cT (cT (cond_go rfl (cT ?_)))))))
 exact eE (er aP hm)
 refine fa rfl (cf aY (ro (ld r0 rfl rfl (cf aY (un_not (cf aY ?_))))))
 refine cond_s ?_ ?_ <;> intro aX
 refine ct aX (ct aX (ct aX (ct aX (cT (cT (cT (cT ?_)))))))
 refine cT (cT ?_)
 replace aP := ift (or_t (or_t (or_u (not_f (ni_f aY)) (not_t (ni_t aX))))) aP
 refine cT (cT (cT (cT (cT (cT (cond_go rfl (cT ?_)))))))
 exact eE (er aP hm)
 refine fa rfl (cf aX (ro (ld r0 rfl rfl (cf aX (cf aX (cf aX ?_))))))
 refine cond_s ?_ ?_ <;> intro aU
 refine ct aU (ct aU (ct aU (ct aU (ct aU ?_))))
 replace aP := ift (or_t (or_u (or_f (not_f (ni_f aY)) (not_f (ni_f aX))) aU)) aP
 refine cT (cT (cT (cT (cT (cT (cond_go rfl (cT ?_)))))))
 exact eE (er aP hm)
 refine fa rfl (cf aU (ro (ld r1 rfl rfl (cf aU (eq_int (cf aU (cf aU (neq_bool rfl ?_))))))))
 refine cf aU ?_
 refine cond_s ?_ ?_ <;> intro aS
 replace aP := ift (or_u (or_f (or_f (not_f (ni_f aY)) (not_f (ni_f aX))) aU) aS) aP
 refine ct aS (ct aS (ct aS (ct aS (ct aS (cond_go rfl (cT ?_))))))
 exact eE (er aP hm)
 replace aP := iff_ (or_f (or_f (or_f (not_f (ni_f aY)) (not_f (ni_f aX))) aU) aS) aP
 refine fa rfl (cf aS (ro (ld r1 rfl rfl (cf aS (eq_int (cf aS ?_))))))
 obtain ⟨cW, bI, aP⟩ := bnd aP
 refine cond_s ?_ ?_ <;> intro aW
 replace bI := ift aW bI
 refine ro (loadn_s r0 rfl (nl rfl) (ct aW (fa rfl (ct aW (ro (ld r1 rfl rfl (ct aW ?_)))))))
 refine cb bI fun cV cH bI => cg0 (JdX cH :) ?_
 refine ct aW (un_not (cf aS (ct aW (cf aS (cond_go rfl ?_)))))
 refine cond_s ?_ ?_ <;> intro cp
 replace aP := ift ((si bI).symm.trans (not_t (ni_t cp))) aP
 exact eE (er aP hm)
 replace aP := iff_ ((si bI).symm.trans (not_f (ni_f cp))) aP
 refine fa rfl (ro (ld r0 rfl rfl (ro (max_int (fa rfl (ro (ld r0 rfl rfl ?_)))))))
 refine ci aP fun aP => ?_
 obtain ⟨bY, aP⟩ := chkb aP
 refine int_in bY (fa rfl ?_)
 refine store_rule r0 rfl ⟨rfl, rfl, (nl rfl), ?_⟩
 refine fa rfl (ro (ld r0 rfl rfl (ro (max_int (fa rfl (ro (ld r1 rfl rfl (eq_int ?_))))))))
 obtain ⟨ce, aZ, aP⟩ := bnd aP
 refine jD (σ := (Int × Int × Int × Int × Int × Int × Int × Int)) [99, 100, 101, 102, 103, 104, 105, 106, 107, 108, 109, 110, 111] [1, 2, 3] (fun ba => []) (fun ba => [Cells b8 204 [.bool aV.Av, .int .i64 (aV.depth + (bc.2.1 - bc.1)), .int .u64 ba.1, .int .u64 ba.2.1, .int .u64 ba.2.2.1, .int .u64 ba.2.2.2.1, .int .u64 ba.2.2.2.2.1, .int .u64 ba.2.2.2.2.2.1, .int .u64 ba.2.2.2.2.2.2.1, .int .u64 ba.2.2.2.2.2.2.2]]) (fun ba => ba = ce) (And.intro ?_ ?_)
 refine cs rfl rfl aZ ?_ ?_ <;> intro cL aZ
 refine draw_go_tail ⟨⟨[], false⟩, _, [(_, _), (_, _)], []⟩ 12 rfl (by kernel_rfl) ⟨Hp.Le.refl _, (sc [1,0] rfl), ci0⟩ ?_
 refine fa rfl (load1_l m0 rfl rfl ?_)
 obtain ⟨bE, aZ⟩ := chkb aZ
 refine quo_t bE.1 bE.2 (fa rfl ?_)
 obtain ⟨bf, aZ⟩ := chkb aZ
 refine arr_addrV (sz := 1) rfl rfl bf.1 bf.2 ?_
 refine ld_arr_l (L := [aV.Au.f0, aV.Au.f1, aV.Au.f2, aV.Au.f3, aV.Au.f4, aV.Au.f5, aV.Au.f6, aV.Au.f7]) (pre := [.bool aV.Av, .int .i64 (aV.depth + (bc.2.1 - bc.1))]) (post := []) m1 rfl (by simp) rfl bf.1 bf.2 ?_
 refine fa rfl (load1_l m0 rfl rfl (rem_t (by decide) ?_))
 obtain ⟨bM, aZ⟩ := chkb aZ
 refine u64_shl bM ?_
 refine u64_or ?_
 refine fa rfl ?_
 obtain ⟨bg, aZ⟩ := chkb aZ
 refine arr_addrV (sz := 1) rfl rfl bg.1 bg.2 ?_
 obtain ⟨bh, bz, aZ⟩ := bnd aZ
 replace bz := Option.some.inj bz
 have bK : bh.length = 8 := by rw [← bz]; simp
 refine st_arr (L := [aV.Au.f0, aV.Au.f1, aV.Au.f2, aV.Au.f3, aV.Au.f4, aV.Au.f5, aV.Au.f6, aV.Au.f7]) (pre := [.bool aV.Av, .int .i64 (aV.depth + (bc.2.1 - bc.1))]) (post := []) (cs' := [.bool aV.Av, .int .i64 (aV.depth + (bc.2.1 - bc.1)), .int .u64 (List.getD bh 0 0), .int .u64 (List.getD bh 1 0), .int .u64 (List.getD bh 2 0), .int .u64 (List.getD bh 3 0), .int .u64 (List.getD bh 4 0), .int .u64 (List.getD bh 5 0), .int .u64 (List.getD bh 6 0), .int .u64 (List.getD bh 7 0)]) r0 rfl (by simp) rfl bg.1 bg.2 bz (by rw [map8 bK]; rfl) ?_
 refine ⟨⟨Hp.emp_le _, (pf rfl), ci0⟩, ?_⟩
 exact eM aZ _
 exact eM aZ _
 rintro ba rfl cQ
 refine jR (σ := Unit) [112, 113, 114, 115, 116, 117, 118, 119] (fun _ => [(119, .bool (decide (e0.Op = 9) || decide (e0.Op = 10)))]) (fun cK => True) ?_ ?_
 refine guard_go rfl ?_
 refine fa rfl (ro (ld r1 rfl rfl (eq_int ?_)))
 refine cond_s ?_ ?_ <;> intro aQ
 refine ct aQ (ct aQ (ct aQ ?_))
 exact mt (()) ⟨(by rw [← ((or_t aQ)).symm] <;> rfl), trivial⟩ rfl (pf rfl) lr trivial
 refine fa rfl (cf aQ (ro (ld r1 rfl rfl (cf aQ (eq_int (cf aQ ?_))))))
 exact mt (()) ⟨(by rw [← (or_e (b := decide (e0.Op = 10)) aQ)] <;> rfl), trivial⟩ rfl (pf rfl) lr trivial
 rintro _ _ cU
 obtain ⟨bX, aR, aP⟩ := bnd aP
 refine jD (σ := ((List Jm))) [2, 3, 120, 121, 122, 123, 124, 125, 126, 127, 128, 129, 130, 131, 132, 133, 134, 135, 136, 137, 138, 139] [0, 1, 3] (fun bo => []) (fun bo => [OwnL Jm.enc (some ⟨bS, 0, none⟩) 204 10 (Int.toNat (code.length : Int)) bo]) (fun bo => (0 < bo.length → Has (some ⟨bS, 0, none⟩)) ∧ (Int.toNat (code.length : Int)) = bo.length ∧ bX = Fl.go bo) (And.intro ?_ ?_)
 refine cs rfl rfl aR ?_ ?_ <;> intro ca aR
 refine draw_go ⟨⟨[], false⟩, _, [(_, _), (_, _)], []⟩ (by kernel_rfl) ⟨Hp.Le.refl _, (sc [1,0] rfl), ci0⟩ ?_
 refine fa rfl (load1_l m0 rfl rfl ?_)
 refine cond_s ?_ ?_ <;> intro aO
 refine ct aO (ct aO (ct aO (ct aO (ct aO ?_))))
 replace aR := ift (or_t aO) aR
 refine cT (cT (cT (cT (cT (cT (cT (cT ?_)))))))
 refine cond_go rfl (cT ?_)
 exact eE (er (er aR aP :) hm)
 refine fa rfl (cf aO (load1_l m0 rfl rfl (cf aO (cf aO (len_sliceN rfl (cf aO (cf aO ?_)))))))
 refine cond_s ?_ ?_ <;> intro aN
 replace aR := ift (or_u aO aN) aR
 refine ct aN (ct aN (ct aN (ct aN (ct aN (ct aN (ct aN (cond_go rfl ?_)))))))
 refine cT ?_
 exact eE (er (er aR aP :) hm)
 replace aR := iff_ (or_f aO aN) aR
 refine cf aN (fa rfl (cf aN (load1_l m0 rfl rfl (cf aN ?_))))
 obtain ⟨cn, bB, bA, aR⟩ := ixb aR
 refine index_addr rfl rfl (hasO bC bA) bB (lt_ofE bj bB bA) (cf aN (loadn_l m1 rfl (nl rfl) (cf aN ?_)))
 refine cb aR fun bN bP aR => ckx (JaX bP :) ?_
 rintro _ _ _ ⟨rfl, bm, bn, rfl⟩
 refine ⟨⟨lr, (sc [2,1] rfl), ci0⟩, ?_⟩
 refine cf aN (un_not (cf aN ?_))
 refine cs rfl rfl aR ?_ ?_ <;> intro bZ aR
 exact eE (er (er aR aP :) hm)
 exact mt (bN.2) trivial rfl (pf rfl) lr ⟨bm, ((bj).trans bn), (si aR).symm⟩
 exact eM aR _
 rintro bo ⟨bH, bt, rfl⟩ cG
 replace aP := elg aP
 refine cs rfl rfl aP ?_ ?_ <;> intro bW aP
 refine draw_go ⟨⟨[], false⟩, _, [(_, _)], []⟩ (by kernel_rfl) ⟨Hp.Le.refl _, (sc [1] rfl), ci0⟩ ?_
 refine fa rfl (load1_l m0 rfl rfl (eq_int ?_))
 exact eE (er aP hm)
 refine draw_go ⟨⟨[], false⟩, _, [(_, _), (_, _)], []⟩ (by kernel_rfl) ⟨Hp.Le.refl _, (sc [2,1] rfl), ci0⟩ ?_
 refine fa rfl (load1_l m0 rfl rfl (neq_int ?_))
 refine cond_s ?_ ?_ <;> intro aM
 replace aP := ift aM aP
 refine ct aM (ct aM (int_in (cntz bD bR) (ct aM ?_)))
 obtain ⟨co, bF, bG, aP⟩ := ixb aP
 refine index_addr rfl rfl (hasO bH bG) bF (lt_ofE bt bF bG) (ct aM (loadn_l m1 rfl (nl rfl) (ct aM ?_)))
 refine cb aP fun bO bQ aP => ckx (JaX bQ :) ?_
 rintro _ _ _ ⟨rfl, br, bq, rfl⟩
 refine ⟨⟨lr, (sc [2,1] rfl), ci0⟩, ?_⟩
 refine ct aM (un_not (ct aM ?_))
 refine cs rfl rfl aP ?_ ?_ <;> intro cm aP
 exact eE (er aP hm)
 refine int_in (cntz bD bR) ?_
 exact rd (i0 + 1, ((max (max ac aV.depth) (aV.depth + (bc.2.1 - bc.1))), bO.2)) ⟨rfl, rfl, trivial⟩ rfl (sc [0,2] rfl) lr (ltm bD) ⟨⟨br, ((bt).trans bq)⟩, aP⟩
 replace aP := iff_ aM aP
 refine cf aM (cf aM (cf aM (cf aM (cf aM (cf aM (cf aM (cond_go rfl ?_)))))))
 refine cF (int_in (cntz bD bR) ?_)
 exact eR aP (_, (_, _))
 replace bI := iff_ aW bI
 refine cf aW (cf aW (cf aW (cf aW (cf aS (cf aW (cf aS (cond_go rfl ?_)))))))
 refine cF ?_
 replace aP := iff_ (si bI).symm aP
 refine fa rfl (ro (ld r0 rfl rfl (ro (max_int (fa rfl (ro (ld r0 rfl rfl ?_)))))))
 refine ci aP fun aP => ?_
 obtain ⟨bY, aP⟩ := chkb aP
 refine int_in bY (fa rfl ?_)
 refine store_rule r0 rfl ⟨rfl, rfl, (nl rfl), ?_⟩
 refine fa rfl (ro (ld r0 rfl rfl (ro (max_int (fa rfl (ro (ld r1 rfl rfl (eq_int ?_))))))))
 obtain ⟨bV, a6, aP⟩ := bnd aP
 refine jD (σ := (Int × Int × Int × Int × Int × Int × Int × Int)) [99, 100, 101, 102, 103, 104, 105, 106, 107, 108, 109, 110, 111] [1, 2, 3] (fun bb => []) (fun bb => [Cells b8 204 [.bool aV.Av, .int .i64 (aV.depth + (bc.2.1 - bc.1)), .int .u64 bb.1, .int .u64 bb.2.1, .int .u64 bb.2.2.1, .int .u64 bb.2.2.2.1, .int .u64 bb.2.2.2.2.1, .int .u64 bb.2.2.2.2.2.1, .int .u64 bb.2.2.2.2.2.2.1, .int .u64 bb.2.2.2.2.2.2.2]]) (fun bb => bb = bV) (And.intro ?_ ?_)
 refine cs rfl rfl a6 ?_ ?_ <;> intro cL a6
 refine draw_go_tail ⟨⟨[], false⟩, _, [(_, _), (_, _)], []⟩ 12 rfl (by kernel_rfl) ⟨Hp.Le.refl _, (sc [1,0] rfl), ci0⟩ ?_
 refine fa rfl (load1_l m0 rfl rfl ?_)
 obtain ⟨bE, a6⟩ := chkb a6
 refine quo_t bE.1 bE.2 (fa rfl ?_)
 obtain ⟨bf, a6⟩ := chkb a6
 refine arr_addrV (sz := 1) rfl rfl bf.1 bf.2 ?_
 refine ld_arr_l (L := [aV.Au.f0, aV.Au.f1, aV.Au.f2, aV.Au.f3, aV.Au.f4, aV.Au.f5, aV.Au.f6, aV.Au.f7]) (pre := [.bool aV.Av, .int .i64 (aV.depth + (bc.2.1 - bc.1))]) (post := []) m1 rfl (by simp) rfl bf.1 bf.2 ?_
 refine fa rfl (load1_l m0 rfl rfl (rem_t (by decide) ?_))
 obtain ⟨bM, a6⟩ := chkb a6
 refine u64_shl bM ?_
 refine u64_or ?_
 refine fa rfl ?_
 obtain ⟨bg, a6⟩ := chkb a6
 refine arr_addrV (sz := 1) rfl rfl bg.1 bg.2 ?_
 obtain ⟨bd, bu, a6⟩ := bnd a6
 replace bu := Option.some.inj bu
 have bL : bd.length = 8 := by rw [← bu]; simp
 refine st_arr (L := [aV.Au.f0, aV.Au.f1, aV.Au.f2, aV.Au.f3, aV.Au.f4, aV.Au.f5, aV.Au.f6, aV.Au.f7]) (pre := [.bool aV.Av, .int .i64 (aV.depth + (bc.2.1 - bc.1))]) (post := []) (cs' := [.bool aV.Av, .int .i64 (aV.depth + (bc.2.1 - bc.1)), .int .u64 (List.getD bd 0 0), .int .u64 (List.getD bd 1 0), .int .u64 (List.getD bd 2 0), .int .u64 (List.getD bd 3 0), .int .u64 (List.getD bd 4 0), .int .u64 (List.getD bd 5 0), .int .u64 (List.getD bd 6 0), .int .u64 (List.getD bd 7 0)]) r0 rfl (by simp) rfl bg.1 bg.2 bu (by rw [map8 bL]; rfl) ?_
 refine ⟨⟨Hp.emp_le _, (pf rfl), ci0⟩, ?_⟩
 exact eM a6 _
 exact eM a6 _
 rintro bb rfl cR
 refine jR (σ := Unit) [112, 113, 114, 115, 116, 117, 118, 119] (fun _ => [(119, .bool (decide (e0.Op = 9) || decide (e0.Op = 10)))]) (fun cI => True) ?_ ?_
 refine guard_go rfl ?_
 refine fa rfl (ro (ld r1 rfl rfl (eq_int ?_)))
 refine cond_s ?_ ?_ <;> intro aQ
 refine ct aQ (ct aQ (ct aQ ?_))
 exact mt (()) ⟨(by rw [← ((or_t aQ)).symm] <;> rfl), trivial⟩ rfl (pf rfl) lr trivial
 refine fa rfl (cf aQ (ro (ld r1 rfl rfl (cf aQ (eq_int (cf aQ ?_))))))
 exact mt (()) ⟨(by rw [← (or_e (b := decide (e0.Op = 10)) aQ)] <;> rfl), trivial⟩ rfl (pf rfl) lr trivial
 rintro _ _ cE
 obtain ⟨cd, aT, aP⟩ := bnd aP
 refine jD (σ := ((List Jm))) [2, 3, 120, 121, 122, 123, 124, 125, 126, 127, 128, 129, 130, 131, 132, 133, 134, 135, 136, 137, 138, 139] [0, 1, 3] (fun bp => []) (fun bp => [OwnL Jm.enc (some ⟨bS, 0, none⟩) 204 10 (Int.toNat (code.length : Int)) bp]) (fun bp => (0 < bp.length → Has (some ⟨bS, 0, none⟩)) ∧ (Int.toNat (code.length : Int)) = bp.length ∧ cd = Fl.go bp) (And.intro ?_ ?_)
 refine cs rfl rfl aT ?_ ?_ <;> intro ca aT
 refine draw_go ⟨⟨[], false⟩, _, [(_, _), (_, _)], []⟩ (by kernel_rfl) ⟨Hp.Le.refl _, (sc [1,0] rfl), ci0⟩ ?_
 refine fa rfl (load1_l m0 rfl rfl ?_)
 refine cond_s ?_ ?_ <;> intro aO
 refine ct aO (ct aO (ct aO (ct aO (ct aO ?_))))
 replace aT := ift (or_t aO) aT
 refine cT (cT (cT (cT (cT (cT (cT (cT ?_)))))))
 refine cond_go rfl (cT ?_)
 exact eE (er (er aT aP :) hm)
 refine fa rfl (cf aO (load1_l m0 rfl rfl (cf aO (cf aO (len_sliceN rfl (cf aO (cf aO ?_)))))))
 refine cond_s ?_ ?_ <;> intro aN
 replace aT := ift (or_u aO aN) aT
 refine ct aN (ct aN (ct aN (ct aN (ct aN (ct aN (ct aN (cond_go rfl ?_)))))))
 refine cT ?_
 exact eE (er (er aT aP :) hm)
 replace aT := iff_ (or_f aO aN) aT
 refine cf aN (fa rfl (cf aN (load1_l m0 rfl rfl (cf aN ?_))))
 obtain ⟨cn, bB, bA, aT⟩ := ixb aT
 refine index_addr rfl rfl (hasO bC bA) bB (lt_ofE bj bB bA) (cf aN (loadn_l m1 rfl (nl rfl) (cf aN ?_)))
 refine cb aT fun bN bP aT => ckx (JaX bP :) ?_
 rintro _ _ _ ⟨rfl, bm, bn, rfl⟩
 refine ⟨⟨lr, (sc [2,1] rfl), ci0⟩, ?_⟩
 refine cf aN (un_not (cf aN ?_))
 refine cs rfl rfl aT ?_ ?_ <;> intro bZ aT
 exact eE (er (er aT aP :) hm)
 exact mt (bN.2) trivial rfl (pf rfl) lr ⟨bm, ((bj).trans bn), (si aT).symm⟩
 exact eM aT _
 rintro bp ⟨bJ, bw, rfl⟩ cC
 replace aP := elg aP
 refine cs rfl rfl aP ?_ ?_ <;> intro bW aP
 refine draw_go ⟨⟨[], false⟩, _, [(_, _)], []⟩ (by kernel_rfl) ⟨Hp.Le.refl _, (sc [1] rfl), ci0⟩ ?_
 refine fa rfl (load1_l m0 rfl rfl (eq_int ?_))
 exact eE (er aP hm)
 refine draw_go ⟨⟨[], false⟩, _, [(_, _), (_, _)], []⟩ (by kernel_rfl) ⟨Hp.Le.refl _, (sc [2,1] rfl), ci0⟩ ?_
 refine fa rfl (load1_l m0 rfl rfl (neq_int ?_))
 refine cond_s ?_ ?_ <;> intro aM
 replace aP := ift aM aP
 refine ct aM (ct aM (int_in (cntz bD bR) (ct aM ?_)))
 obtain ⟨co, bF, bG, aP⟩ := ixb aP
 refine index_addr rfl rfl (hasO bJ bG) bF (lt_ofE bw bF bG) (ct aM (loadn_l m1 rfl (nl rfl) (ct aM ?_)))
 refine cb aP fun bO bQ aP => ckx (JaX bQ :) ?_
 rintro _ _ _ ⟨rfl, br, bq, rfl⟩
 refine ⟨⟨lr, (sc [2,1] rfl), ci0⟩, ?_⟩
 refine ct aM (un_not (ct aM ?_))
 refine cs rfl rfl aP ?_ ?_ <;> intro cm aP
 exact eE (er aP hm)
 refine int_in (cntz bD bR) ?_
 exact rd (i0 + 1, ((max (max ac aV.depth) (aV.depth + (bc.2.1 - bc.1))), bO.2)) ⟨rfl, rfl, trivial⟩ rfl (sc [0,2] rfl) lr (ltm bD) ⟨⟨br, ((bw).trans bq)⟩, aP⟩
 replace aP := iff_ aM aP
 refine cf aM (cf aM (cf aM (cf aM (cf aM (cf aM (cf aM (cond_go rfl ?_)))))))
 refine cF (int_in (cntz bD bR) ?_)
 exact eR aP (_, (_, _))
 rw [lty w0, Jbv.eq_1] at aP
 refine cT ?_
 exact eM aP _
 rintro t0 ⟨cw, cz⟩ rfl j0
 replace hm := elg hm
 exact eE hm

def Jdq (code : (List Jh)) : Option (Err) :=
  (JdG code).bind fun x7 =>
  if (!x7.2) then
  some (some 2)
  else
  some none
theorem JeG {code : (List Jh)} {aa : Option Addr} {ab : Nat} {n0 : Nat} {K : Hp} {r : Err}
    (hm : Jdq code = some r) (hX : RdC Jh.enc K aa ab 3 code ∧ n0 = code.length ∧ GG K) :
    Fn Tryz.prog 32 [.slice aa n0 ab] K [] (fun v K' H' => v = errV 87 r ∧ H' = []) := by
 obtain ⟨ae, aM, hG⟩ := hX
 subst aM
 refine Fn.enter Tryz.func32 Tryz.call32 rfl fun F => ?_
 unfold Jdq at hm
 refine cb hm fun x7 q7 hm => cgx (JeX q7 :) ?_
 refine un_not ?_
 refine cs rfl rfl hm ?_ ?_ <;> intro aN hm
 refine mk_iface rfl ?_
 exact eE hm
 exact eE hm

def Jbw (n' : Int) : Option (Jc) :=
  some (⟨2, (max (-1099511627776) (min n' 1099511627776)), ([] : Str), false⟩ : Jc)
theorem Jbd {n' : Int} {K : Hp} {r : Jc}
    (hm : Jbw n' = some r)  :
    Fn Tryz.prog 62 [.int .i64 n'] K [] (fun v K' H' => v = .agg #[.int .i64 r.kind, .int .i64 r.n, str r.s, .bool r.At] ∧ H' = []) := by
 refine Fn.enter Tryz.func62 Tryz.call62 rfl fun F => ?_
 unfold Jbw at hm
 refine alloc_rule rfl fun b2 => ?_
 refine ro (min_int (ro (max_int (build_struct rfl rfl (cT (cT ?_))))))
 refine store_rule r0 rfl ⟨rfl, rfl, (nl rfl), ?_⟩
 exact ro (loadn_s r0 rfl (nl rfl) (eE hm))

def Jaf (m : Je) (x : Jc) (operation : Bool) : Option (Err × Je) :=
  if decide ((x.s.length : Int) > 2048) then
  some ((some 5), m)
  else
  ((if (operation && decide (x.kind = 1)) then
  (chk ((64 : Int) ≠ 0 ∧ InI (Int.tdiv (x.s.length : Int) 64))).bind fun _ =>
  (chk (InI (m.result.Aj + (Int.tdiv (x.s.length : Int) 64)))).bind fun _ =>
  if decide ((m.result.Aj + (Int.tdiv (x.s.length : Int) 64)) > m.most) then
  some (Fl.ret ((some 13), (⟨m.Ar, m.most, (⟨m.result.Ae, m.result.Af, m.result.Ag, m.result.Vary, m.result.Ah, m.result.TTL, m.result.Ai, (m.result.Aj + (Int.tdiv (x.s.length : Int) 64)), m.result.Ak, m.result.Al⟩ : Jf), m.stack, m.Ap⟩ : Je)))
  else
  some (Fl.go (⟨m.Ar, m.most, (⟨m.result.Ae, m.result.Af, m.result.Ag, m.result.Vary, m.result.Ah, m.result.TTL, m.result.Ai, (m.result.Aj + (Int.tdiv (x.s.length : Int) 64)), m.result.Ak, m.result.Al⟩ : Jf), m.stack, m.Ap⟩ : Je))
  else
  some (Fl.go m) : Option (Fl (Err × Je) (Je)))).bind fun aN => aN.el some fun aM =>
  (chk (aM.stack.length + [x].length ≤ lim)).bind fun _ =>
  some (none, (⟨m.Ar, aM.most, aM.result, (aM.stack ++ [x]), aM.Ap⟩ : Je))
theorem Jak {m : Je} {x : Jc} {operation : Bool} {b0 : Nat} {aa : Option Addr} {ab : Nat} {aj : Option Addr} {am : Nat} {ak : Option Addr} {an : Nat} {ao : Option Addr} {au : Nat} {av : Option Addr} {ay : Nat} {K : Hp} {r : Err × Je}
    (hm : Jaf m x operation = some r) (hX : RdC Jd.enc K aa ab 2 m.Ar.Ao ∧ (0 < m.result.Ag.length → Has aj) ∧ (0 < m.result.Vary.length → Has ak) ∧ (0 < m.result.Ah.length → Has ao) ∧ (0 < m.stack.length → Has av) ∧ m.Ap.length = 512) :
    Fn Tryz.prog 61 [.pointer (some ⟨b0, 0, none⟩), .agg #[.int .i64 x.kind, .int .i64 x.n, str x.s, .bool x.At], .bool operation] K [Cells b0 98 ((str m.Ar.Am) :: (str m.Ar.An) :: (str m.Ar.Ae) :: (str m.Ar.Af) :: (.slice aa m.Ar.Ao.length ab) :: (.int .i64 m.most) :: (str m.result.Ae) :: (str m.result.Af) :: (.slice aj m.result.Ag.length am) :: (.slice ak m.result.Vary.length an) :: (.slice ao m.result.Ah.length au) :: (.int .i64 m.result.TTL) :: (.int .i64 m.result.Ai) :: (.int .i64 m.result.Aj) :: (.bool m.result.Ak) :: (.bool m.result.Al) :: (.slice av m.stack.length ay) :: (m.Ap.map Jc.enc).flatten), OwnL Jd.enc aj 77 2 am m.result.Ag, OwnL eS ak 9 1 an m.result.Vary, OwnL eS ao 9 1 au m.result.Ah, OwnL Jc.enc av 95 4 ay m.stack] (fun v K' H' => ∃ ar_0 : Option Addr, ∃ cr_0 : Nat, ∃ ar_1 : Option Addr, ∃ cr_1 : Nat, ∃ ar_2 : Option Addr, ∃ cr_2 : Nat, ∃ ar_3 : Option Addr, ∃ cr_3 : Nat, v = errV 87 r.1 ∧ (0 < r.2.result.Ag.length → Has ar_0) ∧ (0 < r.2.result.Vary.length → Has ar_1) ∧ (0 < r.2.result.Ah.length → Has ar_2) ∧ (0 < r.2.stack.length → Has ar_3) ∧ r.2.Ap.length = 512 ∧ H' = [Cells b0 98 ((str m.Ar.Am) :: (str m.Ar.An) :: (str m.Ar.Ae) :: (str m.Ar.Af) :: (.slice aa m.Ar.Ao.length ab) :: (.int .i64 r.2.most) :: (str r.2.result.Ae) :: (str r.2.result.Af) :: (.slice ar_0 r.2.result.Ag.length cr_0) :: (.slice ar_1 r.2.result.Vary.length cr_1) :: (.slice ar_2 r.2.result.Ah.length cr_2) :: (.int .i64 r.2.result.TTL) :: (.int .i64 r.2.result.Ai) :: (.int .i64 r.2.result.Aj) :: (.bool r.2.result.Ak) :: (.bool r.2.result.Al) :: (.slice ar_3 r.2.stack.length cr_3) :: (r.2.Ap.map Jc.enc).flatten), OwnL Jd.enc ar_0 77 2 cr_0 r.2.result.Ag, OwnL eS ar_1 9 1 cr_1 r.2.result.Vary, OwnL eS ar_2 9 1 cr_2 r.2.result.Ah, OwnL Jc.enc ar_3 95 4 cr_3 r.2.stack]) := by
 obtain ⟨ae, bf, bb, bc, bg, bd⟩ := hX
 refine Fn.enter Tryz.func61 Tryz.call61 rfl fun F => ?_
 unfold Jaf at hm
 refine box_rule ?_
 intro b4
 refine fa rfl (ro (ld r0 rfl rfl (ro (len_str rfl ?_))))
 refine cs rfl rfl hm ?_ ?_ <;> intro bw hm
 refine mk_iface rfl ?_
 exact eE hm
 refine jR (σ := Unit) [12, 13, 14, 15, 16, 17] (fun _ => [(17, .bool (operation && decide (x.kind = 1)))]) (fun bq => True) ?_ ?_
 refine guard_go rfl ?_
 refine cond_s ?_ ?_ <;> intro aW
 refine fa rfl (ct aW (ro (ld r0 rfl rfl (ct aW (eq_int (ct aW ?_))))))
 exact mt (()) ⟨(by rw [← (and_e (b := decide (x.kind = 1)) aW)] <;> rfl), trivial⟩ rfl (pf rfl) lr trivial
 refine cf aW (cf aW (cf aW ?_))
 exact mt (()) ⟨(by rw [← ((and_f aW)).symm] <;> rfl), trivial⟩ rfl (pf rfl) lr trivial
 rintro _ _ bj
 obtain ⟨ba, aV, hm⟩ := bnd hm
 refine jD (σ := (Je) × Option Addr × Nat × Option Addr × Nat × Option Addr × Nat × Option Addr × Nat) [6, 18, 19, 20, 21, 22, 23, 24, 25, 26, 27, 28, 29, 30, 31, 32, 33, 34, 35, 36, 37, 38, 39, 40, 41] [0, 6] (fun (aM, aP, aT, aN, aR, aO, aQ, aS, aU) => []) (fun (aM, aP, aT, aN, aR, aO, aQ, aS, aU) => [Cells b0 98 ((str m.Ar.Am) :: (str m.Ar.An) :: (str m.Ar.Ae) :: (str m.Ar.Af) :: (.slice aa m.Ar.Ao.length ab) :: (.int .i64 aM.most) :: (str aM.result.Ae) :: (str aM.result.Af) :: (.slice aP aM.result.Ag.length aT) :: (.slice aN aM.result.Vary.length aR) :: (.slice aO aM.result.Ah.length aQ) :: (.int .i64 aM.result.TTL) :: (.int .i64 aM.result.Ai) :: (.int .i64 aM.result.Aj) :: (.bool aM.result.Ak) :: (.bool aM.result.Al) :: (.slice aS aM.stack.length aU) :: (aM.Ap.map Jc.enc).flatten), OwnL Jd.enc aP 77 2 aT aM.result.Ag, OwnL eS aN 9 1 aR aM.result.Vary, OwnL eS aO 9 1 aQ aM.result.Ah, OwnL Jc.enc aS 95 4 aU aM.stack]) (fun (aM, aP, aT, aN, aR, aO, aQ, aS, aU) => (0 < aM.result.Ag.length → Has aP) ∧ (0 < aM.result.Vary.length → Has aN) ∧ (0 < aM.result.Ah.length → Has aO) ∧ (0 < aM.stack.length → Has aS) ∧ aM.Ap.length = 512 ∧ ba = Fl.go aM) (And.intro ?_ ?_)
 refine cs rfl rfl aV ?_ ?_ <;> intro bt aV
 refine draw_go_tail ⟨⟨[], false⟩, _, [(_, _), (_, _)], []⟩ 9 rfl (by kernel_rfl) ⟨Hp.Le.refl _, (sc [1,0] rfl), ci0⟩ ?_
 refine nil_check (fa rfl (fa rfl (load1_l m0 rfl rfl (fa rfl (load1_l m1 rfl rfl (len_strN rfl ?_))))))
 obtain ⟨bh, aV⟩ := chkb aV
 refine quo_t bh.1 bh.2 ?_
 obtain ⟨bn, aV⟩ := chkb aV
 refine int_in bn (nil_check (fa rfl (fa rfl ?_)))
 refine st_tl (cs' := (str m.Ar.Am) :: (str m.Ar.An) :: (str m.Ar.Ae) :: (str m.Ar.Af) :: (.slice aa m.Ar.Ao.length ab) :: (.int .i64 m.most) :: (str m.result.Ae) :: (str m.result.Af) :: (.slice aj m.result.Ag.length am) :: (.slice ak m.result.Vary.length an) :: (.slice ao m.result.Ah.length au) :: (.int .i64 m.result.TTL) :: (.int .i64 m.result.Ai) :: (.int .i64 (m.result.Aj + (Int.tdiv (x.s.length : Int) 64))) :: (.bool m.result.Ak) :: (.bool m.result.Al) :: (.slice av m.stack.length ay) :: (m.Ap.map Jc.enc).flatten) r1 rfl rfl (by exact rfl) (by exact nl rfl) (by exact rfl) ?_
 refine ⟨⟨Hp.emp_le _, (pf rfl), ci0⟩, ?_⟩
 refine draw_go ⟨⟨[], false⟩, _, [(_, _)], []⟩ (by kernel_rfl) ⟨Hp.Le.refl _, (pf rfl), ci0⟩ ?_
 refine nil_check (fa rfl (fa rfl (load1_l m0 rfl rfl (nil_check (fa rfl (load1_l m0 rfl rfl ?_))))))
 refine cs rfl rfl aV ?_ ?_ <;> intro bA aV
 refine mk_iface rfl ?_
 exact eE (er aV hm)
 exact eM aV (_, _, _, _, _, _, _, _, _)
 exact eM aV (_, _, _, _, _, _, _, _, _)
 rintro ⟨aM, aP, aT, aN, aR, aO, aQ, aS, aU⟩ ⟨aZ, aY, aX, a8, a6, rfl⟩ bm
 replace hm := elg hm
 refine draw_go_tail ⟨⟨[], false⟩, _, [(_, _), (_, _)], []⟩ 8 rfl (by kernel_rfl) ⟨Hp.Le.refl _, (sc [0,4] rfl), ci0⟩ ?_
 refine nil_check (fa rfl (load1_l m0 rfl rfl (loadn_l m1 rfl (nl rfl) ?_)))
 refine bsO (len := 1) (enc := Jc.enc) (l := [x]) (cl := [.int .i64 x.kind, .int .i64 x.n, str x.s, .bool x.At]) elT93 rfl rfl (fun _ _ => rfl) rfl rfl rfl ?_ fun bu => ?_
 · conv => whnf
   refine cT ?_
   first | done | rfl
 refine ⟨⟨lr, (sc [1,5] rfl), ci0⟩, ?_⟩
 obtain ⟨bo, hm⟩ := chkb hm
 refine apE rfl r5 elT93 (src_own' rfl r0 rfl (fun _ => rfl) (fun _ => rfl)) bo ?_
 intro bp br bz
 refine ⟨⟨lr, (sc [2,5] rfl), ci0⟩, ?_⟩
 refine nil_check (fa rfl ?_)
 refine st_tl (cs' := (str m.Ar.Am) :: (str m.Ar.An) :: (str m.Ar.Ae) :: (str m.Ar.Af) :: (.slice aa m.Ar.Ao.length ab) :: (.int .i64 aM.most) :: (str aM.result.Ae) :: (str aM.result.Af) :: (.slice aP aM.result.Ag.length aT) :: (.slice aN aM.result.Vary.length aR) :: (.slice aO aM.result.Ah.length aQ) :: (.int .i64 aM.result.TTL) :: (.int .i64 aM.result.Ai) :: (.int .i64 aM.result.Aj) :: (.bool aM.result.Ak) :: (.bool aM.result.Al) :: (.slice bp ((aM.stack ++ [x]).length) br) :: (aM.Ap.map Jc.enc).flatten) r2 rfl rfl (by exact rfl) (by exact nl rfl) (by exact rfl) ?_
 refine ⟨⟨Hp.emp_le _, (pf rfl), ci0⟩, ?_⟩
 exact eE hm

def Jaw (s : Str) : Option (Jc) :=
  some (⟨1, 0, s, false⟩ : Jc)
theorem Jaj {s : Str} {K : Hp} {r : Jc}
    (hm : Jaw s = some r)  :
    Fn Tryz.prog 63 [str s] K [] (fun v K' H' => v = .agg #[.int .i64 r.kind, .int .i64 r.n, str r.s, .bool r.At] ∧ H' = []) := by
 refine Fn.enter Tryz.func63 Tryz.call63 rfl fun F => ?_
 unfold Jaw at hm
 refine alloc_rule rfl fun b2 => ?_
 refine build_struct rfl rfl (cT (cT ?_))
 refine store_rule r0 rfl ⟨rfl, rfl, (nl rfl), ?_⟩
 exact ro (loadn_s r0 rfl (nl rfl) (eE hm))

def Jal (name : Str) (Ar : JE) : Option (Jc) :=
  if decide (name = ([109, 101, 116, 104, 111, 100] : Str)) then
  (Jaw Ar.Am).bind fun aN =>
  some aN
  else
  if decide (name = ([104, 111, 115, 116] : Str)) then
  (Jaw Ar.An).bind fun aP =>
  some aP
  else
  if decide (name = ([112, 97, 116, 104] : Str)) then
  (Jaw Ar.Ae).bind fun aO =>
  some aO
  else
  (Jaw Ar.Af).bind fun aM =>
  some aM
theorem JcX {name : Str} {Ar : JE} {ag : Option Addr} {ah : Nat} {K : Hp} {r : Jc}
    (hm : Jal name Ar = some r) (af : RdC Jd.enc K ag ah 2 Ar.Ao) :
    Fn Tryz.prog 64 [str name, .agg #[str Ar.Am, str Ar.An, str Ar.Ae, str Ar.Af, .slice ag Ar.Ao.length ah]] K [] (fun v K' H' => v = .agg #[.int .i64 r.kind, .int .i64 r.n, str r.s, .bool r.At] ∧ H' = []) := by
 refine Fn.enter Tryz.func64 Tryz.call64 rfl fun F => ?_
 unfold Jal at hm
 refine box_rule ?_
 intro b3
 refine alloc_rule rfl fun b4 => ?_
 refine block_go rfl ?_
 refine eq_str (cs rfl rfl hm ?_ ?_) <;> intro w6 hm
 refine fa rfl (ro (ld r1 rfl rfl ?_))
 refine cb hm fun aT aP hm => cg0 (Jaj aP :) ?_
 refine store_rule r0 rfl ⟨rfl, rfl, (nl rfl), ?_⟩
 exact ro (loadn_s r0 rfl (nl rfl) (eE hm))
 refine eq_str (cs rfl rfl hm ?_ ?_) <;> intro aR hm
 refine fa rfl (ro (ld r1 rfl rfl ?_))
 refine cb hm fun aV aM hm => cg0 (Jaj aM :) ?_
 refine store_rule r0 rfl ⟨rfl, rfl, (nl rfl), ?_⟩
 exact ro (loadn_s r0 rfl (nl rfl) (eE hm))
 refine eq_str (cs rfl rfl hm ?_ ?_) <;> intro aS hm
 refine fa rfl (ro (ld r1 rfl rfl ?_))
 refine cb hm fun aU aO hm => cg0 (Jaj aO :) ?_
 refine store_rule r0 rfl ⟨rfl, rfl, (nl rfl), ?_⟩
 exact ro (loadn_s r0 rfl (nl rfl) (eE hm))
 refine fa rfl (ro (ld r1 rfl rfl ?_))
 refine cb hm fun aQ aN hm => cg0 (Jaj aN :) ?_
 refine store_rule r0 rfl ⟨rfl, rfl, (nl rfl), ?_⟩
 exact ro (loadn_s r0 rfl (nl rfl) (eE hm))

def Jam (m : Je) : Option (Jc × Je) :=
  (chk (InI ((m.stack.length : Int) - 1))).bind fun _ =>
  (ix m.stack ((m.stack.length : Int) - 1)).bind fun aM =>
  (chk (InI ((m.stack.length : Int) - 1))).bind fun _ =>
  (chk (0 ≤ (0 : Int) ∧ (0 : Int) ≤ ((m.stack.length : Int) - 1) ∧ ((m.stack.length : Int) - 1) ≤ (m.stack.length : Int))).bind fun _ =>
  some (aM, (⟨m.Ar, m.most, m.result, (subL m.stack (0 : Int) ((m.stack.length : Int) - 1)), m.Ap⟩ : Je))
theorem Jao {m : Je} {b0 : Nat} {aa : Option Addr} {ab : Nat} {aj : Option Addr} {am : Nat} {ak : Option Addr} {an : Nat} {ao : Option Addr} {au : Nat} {av : Option Addr} {ay : Nat} {K : Hp} {r : Jc × Je}
    (hm : Jam m = some r) (hX : RdC Jd.enc K aa ab 2 m.Ar.Ao ∧ (0 < m.result.Ag.length → Has aj) ∧ (0 < m.result.Vary.length → Has ak) ∧ (0 < m.result.Ah.length → Has ao) ∧ (0 < m.stack.length → Has av) ∧ m.Ap.length = 512) :
    Fn Tryz.prog 65 [.pointer (some ⟨b0, 0, none⟩)] K [Cells b0 98 ((str m.Ar.Am) :: (str m.Ar.An) :: (str m.Ar.Ae) :: (str m.Ar.Af) :: (.slice aa m.Ar.Ao.length ab) :: (.int .i64 m.most) :: (str m.result.Ae) :: (str m.result.Af) :: (.slice aj m.result.Ag.length am) :: (.slice ak m.result.Vary.length an) :: (.slice ao m.result.Ah.length au) :: (.int .i64 m.result.TTL) :: (.int .i64 m.result.Ai) :: (.int .i64 m.result.Aj) :: (.bool m.result.Ak) :: (.bool m.result.Al) :: (.slice av m.stack.length ay) :: (m.Ap.map Jc.enc).flatten), OwnL Jd.enc aj 77 2 am m.result.Ag, OwnL eS ak 9 1 an m.result.Vary, OwnL eS ao 9 1 au m.result.Ah, OwnL Jc.enc av 95 4 ay m.stack] (fun v K' H' => ∃ ar_0 : Option Addr, ∃ cr_0 : Nat, ∃ ar_1 : Option Addr, ∃ cr_1 : Nat, ∃ ar_2 : Option Addr, ∃ cr_2 : Nat, ∃ ar_3 : Option Addr, ∃ cr_3 : Nat, v = .agg #[.int .i64 r.1.kind, .int .i64 r.1.n, str r.1.s, .bool r.1.At] ∧ (0 < r.2.result.Ag.length → Has ar_0) ∧ (0 < r.2.result.Vary.length → Has ar_1) ∧ (0 < r.2.result.Ah.length → Has ar_2) ∧ (0 < r.2.stack.length → Has ar_3) ∧ r.2.Ap.length = 512 ∧ H' = [Cells b0 98 ((str m.Ar.Am) :: (str m.Ar.An) :: (str m.Ar.Ae) :: (str m.Ar.Af) :: (.slice aa m.Ar.Ao.length ab) :: (.int .i64 r.2.most) :: (str r.2.result.Ae) :: (str r.2.result.Af) :: (.slice ar_0 r.2.result.Ag.length cr_0) :: (.slice ar_1 r.2.result.Vary.length cr_1) :: (.slice ar_2 r.2.result.Ah.length cr_2) :: (.int .i64 r.2.result.TTL) :: (.int .i64 r.2.result.Ai) :: (.int .i64 r.2.result.Aj) :: (.bool r.2.result.Ak) :: (.bool r.2.result.Al) :: (.slice ar_3 r.2.stack.length cr_3) :: (r.2.Ap.map Jc.enc).flatten), OwnL Jd.enc ar_0 77 2 cr_0 r.2.result.Ag, OwnL eS ar_1 9 1 cr_1 r.2.result.Vary, OwnL eS ar_2 9 1 cr_2 r.2.result.Ah, OwnL Jc.enc ar_3 95 4 cr_3 r.2.stack]) := by
 obtain ⟨ae, aQ, aN, aO, aM, aP⟩ := hX
 refine Fn.enter Tryz.func65 Tryz.call65 rfl fun F => ?_
 unfold Jam at hm
 refine alloc_rule rfl fun b2 => ?_
 refine draw_go_F ⟨⟨[], true⟩, _, [], []⟩ 14 rfl (by kernel_rfl) ⟨Hp.Le.refl _, (pf rfl), ci0⟩ ?_
 refine nil_check (fa rfl ?_)
 refine ld r1 rfl rfl ?_
 refine nil_check (fa rfl ?_)
 refine ld r1 rfl rfl ?_
 refine len_sliceN rfl ?_
 refine ci hm fun hm => ?_
 obtain ⟨aW, aT, aR, hm⟩ := ixb hm
 refine index_addr rfl rfl (hasO aM aR) aT (lt_ofE rfl aT aR) ?_
 refine ldn_own (i := (((m.stack.length : Int) - 1)).toNat) r5 rfl aR rfl rfl ?_
 refine allocA rfl ?_
 intro b3
 intro aU
 refine store_rule r0 rfl ⟨rfl, rfl, (nl rfl), ?_⟩
 refine ⟨⟨lr, (pf rfl), ci0⟩, ?_⟩
 refine ⟨_, .cons r8 .nil, ⟨lr, (pf rfl), ci0⟩, ?_⟩
 refine DStep.ownLe r3 fun aZ => ?_
 refine DStep.ownLe r4 fun aX => ?_
 refine DStep.ownLe r5 fun aY => ?_
 refine DStep.ownLe r6 fun aV => ?_
 refine draw_go_tail ⟨⟨[], false⟩, _, [(_, _)], []⟩ 12 rfl (by kernel_rfl) ⟨Hp.Le.refl _, (sc [2] rfl), ci0⟩ ?_
 refine nil_check (fa rfl (load1_l m0 rfl rfl (nil_check (fa rfl (load1_l m0 rfl rfl (len_sliceN rfl ?_))))))
 refine ci hm fun hm => ?_
 obtain ⟨aS, hm⟩ := chkb hm
 refine sl_head (l := m.stack) (hi := (some ((m.stack.length : Int) - 1))) rfl rfl rfl aV aS ?_
 refine nil_check (fa rfl ?_)
 refine tkW ((m.stack.length : Int) - 1) r6 ?_
 refine st_tl (cs' := (str m.Ar.Am) :: (str m.Ar.An) :: (str m.Ar.Ae) :: (str m.Ar.Af) :: (.slice aa m.Ar.Ao.length ab) :: (.int .i64 m.most) :: (str m.result.Ae) :: (str m.result.Af) :: (.slice aj m.result.Ag.length am) :: (.slice ak m.result.Vary.length an) :: (.slice ao m.result.Ah.length au) :: (.int .i64 m.result.TTL) :: (.int .i64 m.result.Ai) :: (.int .i64 m.result.Aj) :: (.bool m.result.Ak) :: (.bool m.result.Al) :: (.slice av ((subL m.stack (0 : Int) ((m.stack.length : Int) - 1)).length) ay) :: (m.Ap.map Jc.enc).flatten) r3 rfl rfl (by exact rfl) (by exact nl rfl) (by exact rfl) ?_
 refine ⟨⟨Hp.emp_le _, (pf rfl), ci0⟩, ?_⟩
 refine ro (loadn_s r2 rfl (nl rfl) ?_)
 refine store_rule r3 rfl ⟨rfl, rfl, (nl rfl), ?_⟩
 obtain rfl := si hm
 exact ro (loadn_s r0 rfl (nl rfl) (en lr ⟨aj, am, ak, an, ao, au, av, ay, rfl, aQ, aN, aO, (fun h => aM (pos_sub aS h)), aP, rfl⟩ (sc [1,3,3,3,1,2] rfl)))

def Jb3 (path : Str) : Option ((List Str)) :=
  (cutM path ([47] : Str)).bind fun x8 =>
  if (!x8.2.2) then
  some []
  else
  (splitM x8.2.1 ([47] : Str)).bind fun aM =>
  some aM
theorem Jeq {path : Str} {K : Hp} {r : (List Str)}
    (hm : Jb3 path = some r) (hG : GG K) :
    Fn Tryz.prog 104 [str path] K [] (fun v K' H' => ∃ ar_0 : Option Addr, ∃ cr_0 : Nat, v = .slice ar_0 r.length cr_0 ∧ (0 < r.length → Has ar_0) ∧ H' = [OwnL eS ar_0 9 1 cr_0 r]) := by
 refine Fn.enter Tryz.func104 Tryz.call104 rfl fun F => ?_
 unfold Jb3 at hm
 refine cb hm fun x8 q8 hm => cg0 (cut_ok q8 (gg3 hG)) ?_
 refine un_not ?_
 refine cs rfl rfl hm ?_ ?_ <;> intro aQ hm
 refine nilE eS 9 1 ?_
 exact eE hm
 refine cb hm fun aR aP hm => ck0 (split_ok aP (gg3 hG)) ?_
 rintro _ _ _ ⟨aO, aM, rfl, aN, rfl⟩
 exact eE hm

def JaY : Nat → Nat → Str → Option (Str)
  | 0, _, ac => some ac
  | aN + 1, i0, ac =>
    (ix ac (i0 : Int)).bind fun aM =>
    if (decide ((aM.toNat : Int) ≥ 65) && decide ((aM.toNat : Int) ≤ 90)) then
    (ix ac (i0 : Int)).bind fun aO =>
    JaY aN (i0 + 1) (ac.set (((i0 : Int)).toNat) (aM + (32 : UInt8)))
    else
    JaY aN (i0 + 1) ac
def JbX (s : Str) : Option (Str) :=
  (chk (s.length ≤ lim)).bind fun _ =>
  (chk (InI (s.length : Int))).bind fun _ =>
  (JaY (s.length : Int).toNat 0 s).bind fun t0 =>
  some t0
theorem Jcp {s : Str} {K : Hp} {r : Str}
    (hm : JbX s = some r)  :
    Fn Tryz.prog 178 [str s] K [] (fun v K' H' => v = str r ∧ H' = []) := by
 refine Fn.enter Tryz.func178 Tryz.call178 rfl fun F => ?_
 unfold JbX at hm
 obtain ⟨h7, hm⟩ := chkb hm
 refine cv_bytes rfl rfl rfl h7 ?_
 intro a7 c7 o7
 refine ro (len_slice rfl ?_)
 obtain ⟨aR, hm⟩ := chkb hm
 obtain ⟨s0, aN, hm⟩ := bnd hm
 refine lD (σ := (Str)) [4, 5, 10, 11, 12, 13, 14, 15, 16, 17, 18, 19, 20, 21, 22, 23, 24, 25, 26] [1] (fun i0 => [(10, .int .i64 (i0 : Int))]) (fun _ => []) (fun t0 => [OwnL eU a7 5 1 c7 t0]) (fun t0 => (0 < t0.length → Has a7) ∧ s.length = t0.length) (fun i0 t0 => JaY ((s.length : Int).toNat - i0) i0 t0 = some s0) (fun t0 => t0 = s0) (fun i0 => (s.length : Int).toNat - i0) 0 _ aN (And.intro qe (And.intro ?_ ?_))
 clear aN
 rintro i0 ac ⟨aO, aP⟩ aN j0
 conv at aN => whnf
 refine cond_go rfl ?_
 refine cond_s ?_ ?_ <;> intro w0
 rw [ltn w0, JaY.eq_2] at aN
 refine block_go rfl ?_
 obtain ⟨aT, aW, aS, aN⟩ := ixb aN
 refine RStep.ofN (index_addr rfl rfl (hasO aO aS) aW (lt_ofE aP aW aS) (ro (ld_own (i := ((i0 : Int)).toNat) (o := 0) r0 rfl aS rfl rfl ?_)))
 refine guard_go rfl ?_
 refine cond_s ?_ ?_ <;> intro aM
 refine ct aM (ct aM (cond_go rfl ?_))
 refine cond_s ?_ ?_ <;> intro aX
 replace aN := ift (and_t aM aX) aN
 refine u8_addS (x := aT) (y := (32 : UInt8)) rfl rfl ?_
 obtain ⟨aZ, aV, aU, aN⟩ := ixb aN
 refine RStep.ofN (index_addr rfl rfl (hasO aO aU) aV (lt_ofE aP aV aU) ?_)
 refine st_own (o := 0) (y := (aT + (32 : UInt8))) aZ r0 rfl aU rfl (by (conv => whnf); exact ⟨rfl, rfl, (nl rfl), rfl, rfl, rfl⟩) ?_
 refine int_in (cntn w0 aR) ?_
 exact rd (i0 + 1, (ac.set (((i0 : Int)).toNat) (aT + (32 : UInt8)))) ⟨rfl, trivial⟩ rfl (pf rfl) lr (ltnm w0) ⟨⟨(by first | simpa using aO | exact fun _ => ⟨_, _, rfl⟩), ((aP).trans List.length_set.symm)⟩, aN⟩
 replace aN := iff_ (and_g aM aX) aN
 refine int_in (cntn w0 aR) ?_
 exact eR aN (_, _)
 refine cf aM (cf aM (cond_go rfl (cF ?_)))
 replace aN := iff_ (and_f aM) aN
 refine int_in (cntn w0 aR) ?_
 exact eR aN (_, _)
 rw [lto w0, JaY.eq_1] at aN
 refine cT ?_
 exact eM aN _
 rintro t0 ⟨aY, aQ⟩ rfl j0
 refine ro (cv_ownE aQ r0 rfl rfl rfl ?_)
 exact eE hm

def Jbh (x9 : Str) : List Jd → Nat → (List Str) → Option ((List Str))
  | [], _, ac => some ac
  | e0 :: aM, i0, ac =>
    (JbX e0.Name).bind fun aN =>
    if decide (aN = x9) then
    (chk (ac.length + [e0.Value].length ≤ lim)).bind fun _ =>
    Jbh x9 aM (i0 + 1) (ac ++ [e0.Value])
    else
    Jbh x9 aM (i0 + 1) ac
def JdY (f : (List Jd)) (name : Str) : Option ((List Str)) :=
  (JbX name).bind fun x9 =>
  (chk (f.length ≤ szMax)).bind fun _ =>
  (Jbh x9 f 0 []).bind fun t0 =>
  some t0
theorem JfD {f : (List Jd)} {name : Str} {aa : Option Addr} {ab : Nat} {n0 : Nat} {K : Hp} {r : (List Str)}
    (hm : JdY f name = some r) (hX : RdC Jd.enc K aa ab 2 f ∧ n0 = f.length) :
    Fn Tryz.prog 145 [.slice aa n0 ab, str name] K [] (fun v K' H' => ∃ ar_0 : Option Addr, ∃ cr_0 : Nat, v = .slice ar_0 r.length cr_0 ∧ (0 < r.length → Has ar_0) ∧ H' = [OwnL eS ar_0 9 1 cr_0 r]) := by
 obtain ⟨ae, aW⟩ := hX
 subst aW
 refine Fn.enter Tryz.func145 Tryz.call145 rfl fun F => ?_
 unfold JdY at hm
 refine cb hm fun x9 q9 hm => cg0 (Jcp q9 :) ?_
 refine ro (len_slice rfl ?_)
 obtain ⟨aT, hm⟩ := chkb hm
 obtain ⟨s0, aO, hm⟩ := bnd hm
 refine nilC eS 9 1 ?_
 refine lD (σ := ((List Str)) × Option Addr × Nat) [5, 7, 12, 13, 14, 15, 16, 17, 18, 19, 20, 21, 22, 23, 24, 25, 26] [1] (fun i0 => [(12, .int .i64 (i0 : Int))]) (fun (t0, aM, aN) => [(5, .slice aM t0.length aN)]) (fun (t0, aM, aN) => [OwnL eS aM 9 1 aN t0]) (fun (t0, aM, aN) => (0 < t0.length → Has aM) ∧ True) (fun i0 (t0, aM, aN) => Jbh x9 (f.drop i0) i0 t0 = some s0) (fun (t0, aM, aN) => t0 = s0) (fun i0 => f.length - i0) 0 (_, _, _) aO (And.intro qe (And.intro ?_ ?_))
 clear aO
 rintro i0 ⟨ac, aQ, aS⟩ ⟨aU, _⟩ aO j0
 conv at aO => whnf
 refine cond_go rfl ?_
 refine cond_s ?_ ?_ <;> intro w0
 obtain ⟨e0, aP, aV⟩ := ltx w0
 rw [aV, Jbh.eq_2] at aO
 refine block_go rfl ?_
 refine RStep.ofN (index_addr rfl rfl (hasK ae.rd aP) (nn _) (lt_ofN aP) (ro (load_rd_agg i0 _ ae.rd rfl (mp aP) rfl ?_)))
 refine alloc_rule rfl fun b7 => ?_
 refine store_rule r0 rfl ⟨rfl, rfl, (nl rfl), ?_⟩
 refine fa rfl (ro (ld r0 rfl rfl ?_))
 refine cb aO fun bc aX aO => cg0 (Jcp aX :) ?_
 refine eq_str (cs rfl rfl aO ?_ ?_) <;> intro bb aO
 refine fa rfl (ro (ld r0 rfl rfl ?_))
 refine bsO (len := 1) (enc := eS) (l := [e0.Value]) (cl := [str e0.Value]) elT31 rfl rfl (fun _ _ => rfl) rfl rfl rfl ?_ fun a8 => ?_
 · conv => whnf
   refine cT ?_
   first | done | rfl
 obtain ⟨aY, aO⟩ := chkb aO
 refine apE rfl r2 elT31 (src_own' rfl r0 rfl (fun _ => rfl) (fun _ => rfl)) aY ?_
 intro a6 ba aZ
 refine int_in (cntz aP aT) ?_
 exact eR aO (_, _, _, _)
 refine int_in (cntz aP aT) ?_
 exact eR aO (_, _, _, _)
 rw [lty w0, Jbh.eq_1] at aO
 refine cT ?_
 exact eM aO (_, _, _)
 rintro ⟨t0, aM, aN⟩ ⟨aR, _⟩ rfl j0
 exact eE hm

def Jdw (f : (List Jd)) (name : Str) : Option (Str × Bool) :=
  (JdY f name).bind fun x9 =>
  (joinM x9 ([44, 32] : Str)).bind fun aM =>
  some (aM, decide ((x9.length : Int) > 0))
theorem JeP {f : (List Jd)} {name : Str} {aa : Option Addr} {ab : Nat} {n0 : Nat} {K : Hp} {r : Str × Bool}
    (hm : Jdw f name = some r) (hX : RdC Jd.enc K aa ab 2 f ∧ n0 = f.length) :
    Fn Tryz.prog 105 [.slice aa n0 ab, str name] K [] (fun v K' H' => v = .tuple #[str r.1, .bool r.2] ∧ H' = []) := by
 obtain ⟨ae, aR⟩ := hX
 subst aR
 refine Fn.enter Tryz.func105 Tryz.call105 rfl fun F => ?_
 unfold Jdw at hm
 refine cb hm fun x9 q9 hm => ckx (JfD q9 :) ?_
 rintro _ _ _ ⟨aP, aS, rfl, aT, rfl⟩
 refine cb hm fun aU aQ hm => ck0 (Fn.lend Tryz.call146 (fun aO aN aM => (join_ok aQ aM rfl)) (by exact fun _ _ _ _ h => h)) ?_
 rintro _ _ _ ⟨_, rfl, rfl, rfl⟩
 refine ro (len_slice rfl ?_)
 exact eE hm

def Jay (At : Bool) : Option (Jc) :=
  some (⟨3, 0, ([] : Str), At⟩ : Jc)
theorem Jap {At : Bool} {K : Hp} {r : Jc}
    (hm : Jay At = some r)  :
    Fn Tryz.prog 68 [.bool At] K [] (fun v K' H' => v = .agg #[.int .i64 r.kind, .int .i64 r.n, str r.s, .bool r.At] ∧ H' = []) := by
 refine Fn.enter Tryz.func68 Tryz.call68 rfl fun F => ?_
 unfold Jay at hm
 refine alloc_rule rfl fun b2 => ?_
 refine build_struct rfl rfl (cT (cT ?_))
 refine store_rule r0 rfl ⟨rfl, rfl, (nl rfl), ?_⟩
 exact ro (loadn_s r0 rfl (nl rfl) (eE hm))

def J1 (s : Str) (prefixZ : Str) : Option (Bool) :=
  (Jad s prefixZ).bind fun x7 =>
  some x7
theorem Jbc {s : Str} {prefixZ : Str} {K : Hp} {r : Bool}
    (hm : J1 s prefixZ = some r)  :
    Fn Tryz.prog 69 [str s, str prefixZ] K [] (fun v K' H' => v = .bool r ∧ H' = []) := by
 refine Fn.enter Tryz.func69 Tryz.call69 rfl fun F => ?_
 unfold J1 at hm
 refine cb hm fun x7 q7 hm => cg0 (JbA q7 :) ?_
 exact eE hm

def JbI (name : Str) : List Str → Nat → Option (Fl (Str × Bool) (Unit))
  | [], _ => some (Fl.go ())
  | e0 :: aN, i0 =>
    (chk (name.length + ([61] : Str).length ≤ lim)).bind fun _ =>
    (J1 e0 (name ++ ([61] : Str))).bind fun aM =>
    if aM then
    (chk (InI ((name.length : Int) + 1))).bind fun _ =>
    (chk (0 ≤ ((name.length : Int) + 1) ∧ ((name.length : Int) + 1) ≤ (e0.length : Int) ∧ (e0.length : Int) ≤ (e0.length : Int))).bind fun _ =>
    some (Fl.ret ((subL e0 ((name.length : Int) + 1) (e0.length : Int)), true))
    else
    JbI name aN (i0 + 1)
def Jc7 (a : JbR) (name : Str) : Option (Str × Bool) :=
  if (!a.HasQuery) then
  some (([] : Str), false)
  else
  (splitM a.Af ([38] : Str)).bind fun aM =>
  (chk (aM.length ≤ szMax)).bind fun _ =>
  (JbI name aM 0).bind fun s0 => s0.el some fun t0 =>
  some (([] : Str), false)
theorem Jff {a : JbR} {name : Str} {K : Hp} {r : Str × Bool}
    (hm : Jc7 a name = some r) (hG : GG K) :
    Fn Tryz.prog 106 [.agg #[str a.An, str a.Ae, str a.Af, .bool a.HasQuery], str name] K [] (fun v K' H' => v = .tuple #[str r.1, .bool r.2] ∧ H' = []) := by
 refine Fn.enter Tryz.func106 Tryz.call106 rfl fun F => ?_
 unfold Jc7 at hm
 refine box_rule ?_
 intro b2
 refine fa rfl (ro (ld r0 rfl rfl (un_not ?_)))
 refine cs rfl rfl hm ?_ ?_ <;> intro aZ hm
 exact eE hm
 refine fa rfl (ro (ld r0 rfl rfl ?_))
 refine cb hm fun aR aS hm => ck0 (split_ok aS (gg3 hG)) ?_
 rintro _ _ _ ⟨aP, aQ, rfl, aN, rfl⟩
 refine ro (len_slice rfl ?_)
 obtain ⟨aU, hm⟩ := chkb hm
 obtain ⟨s0, aM, hm⟩ := bnd hm
 refine lD (σ := (Unit)) [4, 5, 7, 15, 16, 17, 18, 19, 20, 21, 22, 23, 24, 25, 26, 27, 28] [0, 1, 2] (fun i0 => [(15, .int .i64 (i0 : Int))]) (fun _ => []) (fun _ => []) (fun _ => True) (fun i0 _ => JbI name (aR.drop i0) i0 = some s0) (fun t0 => s0 = Fl.go t0) (fun i0 => aR.length - i0) 0 () aM (And.intro qe (And.intro ?_ ?_))
 clear aM
 rintro i0 _ _ aM j0
 conv at aM => whnf
 refine cond_go rfl ?_
 refine cond_s ?_ ?_ <;> intro w0
 obtain ⟨e0, aO, aT⟩ := ltx w0
 rw [aT, JbI.eq_2] at aM
 refine block_go rfl ?_
 refine RStep.ofN (index_addr rfl rfl (hasO aN aO) (nn _) (lt_ofNE rfl aO) (ro (ld_own (i := i0) (o := 0) r0 rfl aO rfl rfl ?_)))
 obtain ⟨aW, aM⟩ := chkb aM
 refine cat_str aW ?_
 refine cb aM fun a8 aV aM => cg0 (Jbc aV :) ?_
 refine CStep.ownLe r0 fun aY => ?_
 refine cs rfl rfl aM ?_ ?_ <;> intro a6 aM
 refine ro (len_str rfl ?_)
 refine ci aM fun aM => ?_
 obtain ⟨aX, aM⟩ := chkb aM
 refine RStep.ofN (sl_str (lo := (some ((name.length : Int) + 1))) (hi := none) rfl aX ?_)
 exact eE (er aM hm)
 refine int_in (cntz aO aU) ?_
 exact eR aM (_, ())
 rw [lty w0, JbI.eq_1] at aM
 refine cT ?_
 exact eM aM _
 rintro t0 _ rfl j0
 replace hm := elg hm
 exact eE hm

def JaK : Nat → Nat → Str → Option (Str)
  | 0, _, ac => some ac
  | aN + 1, i0, ac =>
    (ix ac (i0 : Int)).bind fun aM =>
    if (decide ((aM.toNat : Int) ≥ 65) && decide ((aM.toNat : Int) ≤ 90)) then
    (ix ac (i0 : Int)).bind fun aO =>
    JaK aN (i0 + 1) (ac.set (((i0 : Int)).toNat) (aM + (32 : UInt8)))
    else
    JaK aN (i0 + 1) ac
def JcY (s : Str) : Option (Str) :=
  (chk (s.length ≤ lim)).bind fun _ =>
  (chk (InI (s.length : Int))).bind fun _ =>
  (JaK (s.length : Int).toNat 0 s).bind fun t0 =>
  some t0
theorem Je4 {s : Str} {K : Hp} {r : Str}
    (hm : JcY s = some r)  :
    Fn Tryz.prog 107 [str s] K [] (fun v K' H' => v = str r ∧ H' = []) := by
 refine Fn.enter Tryz.func107 Tryz.call107 rfl fun F => ?_
 unfold JcY at hm
 obtain ⟨h7, hm⟩ := chkb hm
 refine cv_bytes rfl rfl rfl h7 ?_
 intro a7 c7 o7
 refine ro (len_slice rfl ?_)
 obtain ⟨aR, hm⟩ := chkb hm
 obtain ⟨s0, aN, hm⟩ := bnd hm
 refine lD (σ := (Str)) [4, 5, 10, 11, 12, 13, 14, 15, 16, 17, 18, 19, 20, 21, 22, 23, 24, 25, 26] [1] (fun i0 => [(10, .int .i64 (i0 : Int))]) (fun _ => []) (fun t0 => [OwnL eU a7 5 1 c7 t0]) (fun t0 => (0 < t0.length → Has a7) ∧ s.length = t0.length) (fun i0 t0 => JaK ((s.length : Int).toNat - i0) i0 t0 = some s0) (fun t0 => t0 = s0) (fun i0 => (s.length : Int).toNat - i0) 0 _ aN (And.intro qe (And.intro ?_ ?_))
 clear aN
 rintro i0 ac ⟨aO, aP⟩ aN j0
 conv at aN => whnf
 refine cond_go rfl ?_
 refine cond_s ?_ ?_ <;> intro w0
 rw [ltn w0, JaK.eq_2] at aN
 refine block_go rfl ?_
 obtain ⟨aT, aW, aS, aN⟩ := ixb aN
 refine RStep.ofN (index_addr rfl rfl (hasO aO aS) aW (lt_ofE aP aW aS) (ro (ld_own (i := ((i0 : Int)).toNat) (o := 0) r0 rfl aS rfl rfl ?_)))
 refine guard_go rfl ?_
 refine cond_s ?_ ?_ <;> intro aM
 refine ct aM (ct aM (cond_go rfl ?_))
 refine cond_s ?_ ?_ <;> intro aX
 replace aN := ift (and_t aM aX) aN
 refine u8_addS (x := aT) (y := (32 : UInt8)) rfl rfl ?_
 obtain ⟨aZ, aV, aU, aN⟩ := ixb aN
 refine RStep.ofN (index_addr rfl rfl (hasO aO aU) aV (lt_ofE aP aV aU) ?_)
 refine st_own (o := 0) (y := (aT + (32 : UInt8))) aZ r0 rfl aU rfl (by (conv => whnf); exact ⟨rfl, rfl, (nl rfl), rfl, rfl, rfl⟩) ?_
 refine int_in (cntn w0 aR) ?_
 exact rd (i0 + 1, (ac.set (((i0 : Int)).toNat) (aT + (32 : UInt8)))) ⟨rfl, trivial⟩ rfl (pf rfl) lr (ltnm w0) ⟨⟨(by first | simpa using aO | exact fun _ => ⟨_, _, rfl⟩), ((aP).trans List.length_set.symm)⟩, aN⟩
 replace aN := iff_ (and_g aM aX) aN
 refine int_in (cntn w0 aR) ?_
 exact eR aN (_, _)
 refine cf aM (cf aM (cond_go rfl (cF ?_)))
 replace aN := iff_ (and_f aM) aN
 refine int_in (cntn w0 aR) ?_
 exact eR aN (_, _)
 rw [lto w0, JaK.eq_1] at aN
 refine cT ?_
 exact eM aN _
 rintro t0 ⟨aY, aQ⟩ rfl j0
 refine ro (cv_ownE aQ r0 rfl rfl rfl ?_)
 exact eE hm

def Ja7 : List UInt8 → Nat → Int → Option (Fl (Int) (Int))
  | [], _, ac => some (Fl.go ac)
  | e0 :: aN, i0, ac =>
    (if decide ((e0.toNat : Int) < 48) then some true else some (decide ((e0.toNat : Int) > 57))).bind fun aM =>
    if aM then
    some (Fl.ret 0)
    else
    (chk (InI (10 * ac))).bind fun _ =>
    (chk (InI ((10 * ac) + ((e0 - (48 : UInt8)).toNat : Int)))).bind fun _ =>
    Ja7 aN (i0 + 1) ((10 * ac) + ((e0 - (48 : UInt8)).toNat : Int))
def Jcj (s : Str) : Option (Int) :=
  if (decide ((s.length : Int) < 1) || decide ((s.length : Int) > 15)) then
  some 0
  else
  (chk (s.length ≤ szMax)).bind fun _ =>
  (Ja7 s 0 0).bind fun s0 => s0.el some fun t0 =>
  some t0
theorem JdP {s : Str} {K : Hp} {r : Int}
    (hm : Jcj s = some r)  :
    Fn Tryz.prog 108 [str s] K [] (fun v K' H' => v = .int .i64 r ∧ H' = []) := by
 refine Fn.enter Tryz.func108 Tryz.call108 rfl fun F => ?_
 unfold Jcj at hm
 refine jR (σ := Unit) [5, 6, 7, 8, 9, 10, 11, 12] (fun _ => [(12, .bool (decide ((s.length : Int) < 1) || decide ((s.length : Int) > 15)))]) (fun aW => True) ?_ ?_
 refine guard_go rfl ?_
 refine ro (len_str rfl ?_)
 refine cond_s ?_ ?_ <;> intro aO
 refine ct aO (ct aO (ct aO ?_))
 exact mt (()) ⟨(by rw [← ((or_t aO)).symm] <;> rfl), trivial⟩ rfl (pf rfl) lr trivial
 refine cf aO (ro (len_str rfl (cf aO (cf aO ?_))))
 exact mt (()) ⟨(by rw [← (or_e (b := decide ((s.length : Int) > 15)) aO)] <;> rfl), trivial⟩ rfl (pf rfl) lr trivial
 rintro _ _ aX
 refine cs rfl rfl hm ?_ ?_ <;> intro aY hm
 exact eE hm
 refine ro (len_str rfl ?_)
 obtain ⟨aU, hm⟩ := chkb hm
 obtain ⟨s0, aN, hm⟩ := bnd hm
 refine lD (σ := (Int)) [2, 3, 4, 15, 16, 17, 18, 19, 20, 21, 22, 23, 24, 25, 26, 27, 28, 29, 30, 31, 32, 33, 34, 35, 36] [0] (fun i0 => [(15, .int .i64 (i0 : Int))]) (fun t0 => [(3, .int .i64 t0)]) (fun _ => []) (fun _ => True) (fun i0 t0 => Ja7 (s.drop i0) i0 t0 = some s0) (fun t0 => s0 = Fl.go t0) (fun i0 => s.length - i0) 0 _ aN (And.intro qe (And.intro ?_ ?_))
 clear aN
 rintro i0 ac _ aN j0
 conv at aN => whnf
 refine cond_go rfl ?_
 refine cond_s ?_ ?_ <;> intro w0
 obtain ⟨e0, aQ, aT⟩ := ltx w0
 rw [aT, Ja7.eq_2] at aN
 refine block_go rfl ?_
 refine guard_go rfl ?_
 refine idx_str rfl (nn _) aQ ?_
 obtain ⟨aZ, aP, aN⟩ := bnd aN
 refine cond_s ?_ ?_ <;> intro aM
 replace aP := ift aM aP
 refine ct aM (ct aM (ct aM (ct aM (cond_go rfl (cT ?_)))))
 replace aN := ift (si aP).symm aN
 exact eE (er aN hm)
 replace aP := iff_ aM aP
 refine cf aM (cf aM (idx_str rfl (nn _) aQ (cf aM (cf aM (cond_go rfl ?_)))))
 refine cond_s ?_ ?_ <;> intro aR
 replace aN := ift ((si aP).symm.trans aR) aN
 exact eE (er aN hm)
 replace aN := iff_ ((si aP).symm.trans aR) aN
 obtain ⟨aS, aN⟩ := chkb aN
 refine int_in aS (idx_str rfl (nn _) aQ (u8_subS (x := e0) (y := (48 : UInt8)) rfl rfl (conv_int rfl rfl (u8in (e0 - (48 : UInt8))) ?_)))
 obtain ⟨aV, aN⟩ := chkb aN
 refine int_in aV (int_in (cntz aQ aU) ?_)
 exact eR aN (_, _)
 rw [lty w0, Ja7.eq_1] at aN
 refine cT ?_
 exact eM aN _
 rintro t0 _ rfl j0
 replace hm := elg hm
 exact eE hm

def JK (name : Str) (x : Jc) (Ar : JE) : Option (Jc × Bool) :=
  if (decide (name = ([112, 97, 114, 116] : Str)) || decide (name = ([116, 101, 120, 116] : Str))) then
  if decide (x.kind ≠ 2) then
  some ((⟨0, 0, ([] : Str), false⟩ : Jc), false)
  else
  if decide (name = ([116, 101, 120, 116] : Str)) then
  (itoaM x.n).bind fun aZ =>
  (Jaw aZ).bind fun ba =>
  some (ba, true)
  else
  (Jb3 Ar.Ae).bind fun aQ =>
  if (decide (x.n < 0) || decide (x.n ≥ (aQ.length : Int))) then
  (Jaw ([] : Str)).bind fun a8 =>
  some (a8, true)
  else
  (ix aQ x.n).bind fun aX =>
  (Jaw aX).bind fun aW =>
  some (aW, true)
  else
  if decide (x.kind ≠ 1) then
  some ((⟨0, 0, ([] : Str), false⟩ : Jc), false)
  else
  if decide (name = ([104, 101, 97, 100, 101, 114] : Str)) then
  (Jdw Ar.Ao x.s).bind fun aY =>
  (Jaw aY.1).bind fun aS =>
  some (aS, true)
  else
  if decide (name = ([104, 97, 115] : Str)) then
  (Jdw Ar.Ao x.s).bind fun a6 =>
  (Jay a6.2).bind fun aR =>
  some (aR, true)
  else
  if decide (name = ([97, 114, 103] : Str)) then
  (Jc7 (⟨([] : Str), ([] : Str), Ar.Af, true⟩ : JbR) x.s).bind fun aU =>
  (Jaw aU.1).bind fun aT =>
  some (aT, true)
  else
  if decide (name = ([108, 101, 110] : Str)) then
  (Jbw (x.s.length : Int)).bind fun aV =>
  some (aV, true)
  else
  if decide (name = ([108, 111, 119, 101, 114] : Str)) then
  (JcY x.s).bind fun aO =>
  (Jaw aO).bind fun aN =>
  some (aN, true)
  else
  (Jcj x.s).bind fun aM =>
  (Jbw aM).bind fun aP =>
  some (aP, true)
theorem Jef {name : Str} {x : Jc} {Ar : JE} {aq : Option Addr} {ar : Nat} {K : Hp} {r : Jc × Bool}
    (hm : JK name x Ar = some r) (hX : RdC Jd.enc K aq ar 2 Ar.Ao ∧ GG K) :
    Fn Tryz.prog 66 [str name, .agg #[.int .i64 x.kind, .int .i64 x.n, str x.s, .bool x.At], .agg #[str Ar.Am, str Ar.An, str Ar.Ae, str Ar.Af, .slice aq Ar.Ao.length ar]] K [] (fun v K' H' => v = .tuple #[.agg #[.int .i64 r.1.kind, .int .i64 r.1.n, str r.1.s, .bool r.1.At], .bool r.2] ∧ H' = []) := by
 obtain ⟨aU, hG⟩ := hX
 refine Fn.enter Tryz.func66 Tryz.call66 rfl fun F => ?_
 unfold JK at hm
 refine box_rule ?_
 intro b4
 refine box_rule ?_
 intro b5
 refine alloc_rule rfl fun b6 => ?_
 refine jR (σ := Unit) [15, 16, 17, 18, 19, 20] (fun _ => [(20, .bool (decide (name = ([112, 97, 114, 116] : Str)) || decide (name = ([116, 101, 120, 116] : Str))))]) (fun bh => True) ?_ ?_
 refine guard_go rfl ?_
 refine eq_str ?_
 refine cond_s ?_ ?_ <;> intro aN
 refine ct aN (ct aN ?_)
 exact mt (()) ⟨(by rw [← ((or_t aN)).symm] <;> rfl), trivial⟩ rfl (pf rfl) lr trivial
 refine cf aN (eq_str (cf aN ?_))
 exact mt (()) ⟨(by rw [← (or_e (b := decide (name = ([116, 101, 120, 116] : Str))) aN)] <;> rfl), trivial⟩ rfl (pf rfl) lr trivial
 rintro _ _ bj
 refine cs rfl rfl hm ?_ ?_ <;> intro bN hm
 refine fa rfl (ro (ld r2 rfl rfl (neq_int ?_)))
 refine cs rfl rfl hm ?_ ?_ <;> intro bL hm
 refine build_struct rfl rfl ?_
 refine store_rule r0 rfl ⟨rfl, rfl, (nl rfl), ?_⟩
 exact ro (loadn_s r0 rfl (nl rfl) (eE hm))
 refine eq_str (cs rfl rfl hm ?_ ?_) <;> intro bE hm
 refine fa rfl (ro (ld r2 rfl rfl ?_))
 refine cb hm fun bP bt hm => cg0 (itoa_ok bt (gg5 hG)) ?_
 refine cb hm fun bD bd hm => cg0 (Jaj bd :) ?_
 refine store_rule r0 rfl ⟨rfl, rfl, (nl rfl), ?_⟩
 exact ro (loadn_s r0 rfl (nl rfl) (eE hm))
 refine fa rfl (ro (ld r1 rfl rfl ?_))
 refine cb hm fun aV bc hm => ckx (Jeq bc :) ?_
 rintro _ _ _ ⟨aY, aX, rfl, aO, rfl⟩
 refine jR (σ := Unit) [34, 35, 36, 37, 38, 39, 40, 41, 42, 43] (fun _ => [(43, .bool (decide (x.n < 0) || decide (x.n ≥ (aV.length : Int))))]) (fun bf => True) ?_ ?_
 refine guard_go rfl ?_
 refine fa rfl (ro (ld r3 rfl rfl ?_))
 refine cond_s ?_ ?_ <;> intro aM
 refine ct aM (ct aM (ct aM (ct aM (ct aM ?_))))
 exact mt (()) ⟨(by rw [← ((or_t aM)).symm] <;> rfl), trivial⟩ rfl (pf rfl) lr trivial
 refine fa rfl (cf aM (ro (ld r3 rfl rfl (cf aM (cf aM (ro (len_slice rfl (cf aM (cf aM ?_)))))))))
 exact mt (()) ⟨(by rw [← (or_e (b := decide (x.n ≥ (aV.length : Int))) aM)] <;> rfl), trivial⟩ rfl (pf rfl) lr trivial
 rintro _ _ bp
 refine cs rfl rfl hm ?_ ?_ <;> intro bO hm
 refine cb hm fun bG ba hm => cg0 (Jaj ba :) ?_
 refine store_rule r1 rfl ⟨rfl, rfl, (nl rfl), ?_⟩
 exact ro (loadn_s r0 rfl (nl rfl) (eE hm))
 refine fa rfl (ro (ld r3 rfl rfl ?_))
 obtain ⟨bM, aW, aS, hm⟩ := ixb hm
 refine RStep.ofN (index_addr rfl rfl (hasO aO aS) aW (lt_ofE rfl aW aS) (ro (ld_own (i := (x.n).toNat) (o := 0) r0 rfl aS rfl rfl ?_)))
 refine cb hm fun bT bw hm => cg0 (Jaj bw :) ?_
 refine store_rule r1 rfl ⟨rfl, rfl, (nl rfl), ?_⟩
 exact ro (loadn_s r0 rfl (nl rfl) (eE hm))
 refine fa rfl (ro (ld r2 rfl rfl (neq_int ?_)))
 refine cs rfl rfl hm ?_ ?_ <;> intro bz hm
 refine build_struct rfl rfl ?_
 refine store_rule r0 rfl ⟨rfl, rfl, (nl rfl), ?_⟩
 exact ro (loadn_s r0 rfl (nl rfl) (eE hm))
 refine block_go rfl ?_
 refine eq_str (cs rfl rfl hm ?_ ?_) <;> intro bH hm
 refine fa rfl (ro (ld r1 rfl rfl (fa rfl (ro (ld r2 rfl rfl ?_)))))
 refine cb hm fun bU a8 hm => cgx (JeP a8 :) ?_
 refine cb hm fun bA bm hm => cg0 (Jaj bm :) ?_
 refine store_rule r0 rfl ⟨rfl, rfl, (nl rfl), ?_⟩
 exact ro (loadn_s r0 rfl (nl rfl) (eE hm))
 refine eq_str (cs rfl rfl hm ?_ ?_) <;> intro bS hm
 refine fa rfl (ro (ld r1 rfl rfl (fa rfl (ro (ld r2 rfl rfl ?_)))))
 refine cb hm fun bQ bo hm => cgx (JeP bo :) ?_
 refine cb hm fun bI aZ hm => cg0 (Jap aZ :) ?_
 refine store_rule r0 rfl ⟨rfl, rfl, (nl rfl), ?_⟩
 exact ro (loadn_s r0 rfl (nl rfl) (eE hm))
 refine eq_str (cs rfl rfl hm ?_ ?_) <;> intro bB hm
 refine fa rfl (ro (ld r1 rfl rfl (build_struct rfl rfl (cT (cT (fa rfl (ro (ld r2 rfl rfl ?_))))))))
 refine cb hm fun bJ bb hm => cgx (Jff bb :) ?_
 refine cb hm fun bR bu hm => cg0 (Jaj bu :) ?_
 refine store_rule r0 rfl ⟨rfl, rfl, (nl rfl), ?_⟩
 exact ro (loadn_s r0 rfl (nl rfl) (eE hm))
 refine eq_str (cs rfl rfl hm ?_ ?_) <;> intro bF hm
 refine fa rfl (ro (ld r2 rfl rfl (ro (len_str rfl ?_))))
 refine cb hm fun bC bg hm => cg0 (Jbd bg :) ?_
 refine store_rule r0 rfl ⟨rfl, rfl, (nl rfl), ?_⟩
 exact ro (loadn_s r0 rfl (nl rfl) (eE hm))
 refine eq_str (cs rfl rfl hm ?_ ?_) <;> intro bK hm
 refine fa rfl (ro (ld r2 rfl rfl ?_))
 refine cb hm fun bn aR hm => cg0 (Je4 aR :) ?_
 refine cb hm fun bq aQ hm => cg0 (Jaj aQ :) ?_
 refine store_rule r0 rfl ⟨rfl, rfl, (nl rfl), ?_⟩
 exact ro (loadn_s r0 rfl (nl rfl) (eE hm))
 refine fa rfl (ro (ld r2 rfl rfl ?_))
 refine cb hm fun a6 aP hm => cg0 (JdP aP :) ?_
 refine cb hm fun br aT hm => cg0 (Jbd aT :) ?_
 refine store_rule r0 rfl ⟨rfl, rfl, (nl rfl), ?_⟩
 exact ro (loadn_s r0 rfl (nl rfl) (eE hm))
