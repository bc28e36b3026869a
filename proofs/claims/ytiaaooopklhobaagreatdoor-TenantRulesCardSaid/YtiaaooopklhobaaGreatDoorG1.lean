/- Functions of the program: mirrors, and that a call returns what the mirror says. Printed by gen.py. -/
import Derived.Test.YtiaaooopklhobaaGreatDoorShelf
import Derived.Test.YtiaaooopklhobaaGreatDoorLT
import Derived.KernelRfl
import Derived.Test.YtiaaooopklhobaaGreatDoorProg
set_option linter.unusedVariables false
set_option linter.unusedSimpArgs false
open Go Go.SL Go.Proofs
noncomputable section
set_option maxRecDepth 1000000
set_option maxHeartbeats 8000000
def JaR : List Str := [[109, 101, 116, 104, 111, 100], [104, 111, 115, 116], [112, 97, 116, 104], [113, 117, 101, 114, 121]]
def Jbo : List Str := [[104, 101, 97, 100, 101, 114], [104, 97, 115], [97, 114, 103], [108, 101, 110], [108, 111, 119, 101, 114], [112, 97, 114, 116], [116, 101, 120, 116], [110, 117, 109, 98, 101, 114]]
def Jbp : List Str := [[43], [45], [42], [61, 61], [33, 61], [60], [60, 61], [115, 116, 97, 114, 116, 115], [101, 110, 100, 115], [99, 111, 110, 116, 97, 105, 110, 115]]
def gkw0 : List Str := [[105, 102], [101, 108, 115, 101], [108, 101, 116], [118, 97, 114, 121], [116, 97, 103], [116, 116, 108], [100, 101, 110, 121], [112, 97, 115, 115], [116, 111, 107, 101, 110], [111, 114], [97, 110, 100], [110, 111, 116], [115, 116, 97, 114, 116, 115], [101, 110, 100, 115], [99, 111, 110, 116, 97, 105, 110, 115], [116, 114, 117, 101], [102, 97, 108, 115, 101]]
structure JJ where
  An : Str
  Tenant : Int
  Program : Str
abbrev JJ.enc (x : JJ) : List Go.Value := [str x.An, .int .i64 x.Tenant, str x.Program]
structure Jg where
  Op : Int
  N : Int
  S : Str
abbrev Jg.enc (x : Jg) : List Go.Value := [.int .i64 x.Op, .int .i64 x.N, str x.S]
structure Jw where
  tenant : Int
  code : (List Jg)
def Jw.R : Rp Jw := fun K cs x => ∃ a_0 : Option Addr, ∃ c_0 : Nat, cs = [.int .i64 x.tenant, .slice a_0 x.code.length c_0] ∧ RdC Jg.enc K a_0 c_0 3 x.code
theorem Jw.R_ok : qf1 2 Jw.R :=
  ⟨fun hk ⟨a_0, c_0, e, h_0⟩ => ⟨a_0, c_0, e, (h_0.mono hk)⟩, fun ⟨a_0, c_0, e, h_0⟩ => by simp [e], fun ⟨a_0, c_0, e, h_0⟩ v hv => by rw [e] at hv; simp at hv; rcases hv with rfl | rfl <;> rfl⟩
instance : RpI 2 Jw.R := ⟨Jw.R_ok⟩
structure JI where
  sites : (List (Str × Jw))
structure Ja where
  Ab : Int
  Ac : Str
  Aa : (List Ja)
  Ad : Int
inductive Ja.R (K : Hp) : List Value → Ja → Prop
  | mk {cs : List Value} {x : Ja} (a_0 : Option Addr) (c_0 : Nat) (e : cs = [.int .i64 x.Ab, str x.Ac, .slice a_0 x.Aa.length c_0, .int .i64 x.Ad]) (css0 : List (List Value)) (p0 : RdS K a_0 4 css0) (q0 : css0.length = x.Aa.length) (r0 : x.Aa.length ≤ c_0) (z0 : ∀ (i : Nat) (c : List Value) (y : Ja), css0[i]? = some c → x.Aa[i]? = some y → Ja.R K c y) : Ja.R K cs x
theorem Ja.out {K : Hp} {cs : List Value} {x : Ja} (h : Ja.R K cs x) : ∃ a_0 : Option Addr, ∃ c_0 : Nat, cs = [.int .i64 x.Ab, str x.Ac, .slice a_0 x.Aa.length c_0, .int .i64 x.Ad] ∧ LiC Ja.R K a_0 c_0 4 x.Aa := by
  cases h with
  | mk a_0 c_0 e css0 p0 q0 r0 z0 => exact ⟨a_0, c_0, e, ⟨⟨css0, p0, q0, z0⟩, r0⟩⟩
theorem Ja.of {K : Hp} {cs : List Value} {x : Ja} (h : ∃ a_0 : Option Addr, ∃ c_0 : Nat, cs = [.int .i64 x.Ab, str x.Ac, .slice a_0 x.Aa.length c_0, .int .i64 x.Ad] ∧ LiC Ja.R K a_0 c_0 4 x.Aa) : Ja.R K cs x := by
  obtain ⟨a_0, c_0, e, ⟨⟨aT, p0, q0, z0⟩, r0⟩⟩ := h
  exact .mk a_0 c_0 e aT p0 q0 r0 z0
theorem Ja.R_mono {K K' : Hp} (hk : K.Le K') {cs : List Value} {x : Ja} (h : Ja.R K cs x) : Ja.R K' cs x := by
  induction h with
  | mk a_0 c_0 e css0 p0 q0 r0 z0 ih0 => exact .mk a_0 c_0 e css0 (p0.mono hk) q0 r0 (ih0)
theorem Ja.R_ok : qf1 4 Ja.R := by
  refine ⟨fun hk h => Ja.R_mono hk h, fun h => ?_, fun h v hv => ?_⟩
  · obtain ⟨a_0, c_0, e, aT⟩ := Ja.out h; simp [e]
  · obtain ⟨a_0, c_0, e, aT⟩ := Ja.out h; rw [e] at hv; simp at hv; rcases hv with rfl | rfl | rfl | rfl <;> rfl
instance : RpI 4 Ja.R := ⟨Ja.R_ok⟩
structure Jf where
  Ab : Int
  Ac : Str
  Ad : Int
  Column : Int
abbrev Jf.enc (x : Jf) : List Go.Value := [.int .i64 x.Ab, str x.Ac, .int .i64 x.Ad, .int .i64 x.Column]
structure Jb where
  list : (List Jf)
  atZ : Int
  line : Int
def Jb.R : Rp Jb := fun K cs x => ∃ a_0 : Option Addr, ∃ c_0 : Nat, cs = [.slice a_0 x.list.length c_0, .int .i64 x.atZ, .int .i64 x.line] ∧ RdC Jf.enc K a_0 c_0 4 x.list
theorem Jb.R_ok : qf1 3 Jb.R :=
  ⟨fun hk ⟨a_0, c_0, e, h_0⟩ => ⟨a_0, c_0, e, (h_0.mono hk)⟩, fun ⟨a_0, c_0, e, h_0⟩ => by simp [e], fun ⟨a_0, c_0, e, h_0⟩ v hv => by rw [e] at hv; simp at hv; rcases hv with rfl | rfl | rfl <;> rfl⟩
instance : RpI 3 Jb.R := ⟨Jb.R_ok⟩
structure Jm where
  line : Int
  err : Err
abbrev Jm.enc (x : Jm) : List Go.Value := [.int .i64 x.line, qc5 48 x.err]
structure Jl where
  Name : Str
  Ar : Int
abbrev Jl.enc (x : Jl) : List Go.Value := [str x.Name, .int .i64 x.Ar]
structure Jr where
  name : Str
  slot : Int
abbrev Jr.enc (x : Jr) : List Go.Value := [str x.name, .int .i64 x.slot]
structure Jd where
  code : (List Jg)
  names : (List Jr)
  Ap : Int
def Jd.R : Rp Jd := fun K cs x => ∃ a_0 : Option Addr, ∃ c_0 : Nat, ∃ a_1 : Option Addr, ∃ c_1 : Nat, cs = [.slice a_0 x.code.length c_0, .slice a_1 x.names.length c_1, .int .i64 x.Ap] ∧ RdC Jg.enc K a_0 c_0 3 x.code ∧ RdC Jr.enc K a_1 c_1 2 x.names
theorem Jd.R_ok : qf1 3 Jd.R :=
  ⟨fun hk ⟨a_0, c_0, a_1, c_1, e, h_0, h_1⟩ => ⟨a_0, c_0, a_1, c_1, e, (h_0.mono hk), (h_1.mono hk)⟩, fun ⟨a_0, c_0, a_1, c_1, e, h_0, h_1⟩ => by simp [e], fun ⟨a_0, c_0, a_1, c_1, e, h_0, h_1⟩ v hv => by rw [e] at hv; simp at hv; rcases hv with rfl | rfl | rfl <;> rfl⟩
instance : RpI 3 Jd.R := ⟨Jd.R_ok⟩
structure Jc where
  Name : Str
  Value : Str
abbrev Jc.enc (x : Jc) : List Go.Value := [str x.Name, str x.Value]
structure Jaa where
  Am : Str
  Target : Str
  Ao : (List Jc)
def Jaa.R : Rp Jaa := fun K cs x => ∃ a_0 : Option Addr, ∃ c_0 : Nat, cs = [str x.Am, str x.Target, .slice a_0 x.Ao.length c_0] ∧ RdC Jc.enc K a_0 c_0 2 x.Ao
theorem Jaa.R_ok : qf1 3 Jaa.R :=
  ⟨fun hk ⟨a_0, c_0, e, h_0⟩ => ⟨a_0, c_0, e, (h_0.mono hk)⟩, fun ⟨a_0, c_0, e, h_0⟩ => by simp [e], fun ⟨a_0, c_0, e, h_0⟩ v hv => by rw [e] at hv; simp at hv; rcases hv with rfl | rfl | rfl <;> rfl⟩
instance : RpI 3 Jaa.R := ⟨Jaa.R_ok⟩
structure Je where
  An : Str
  Ae : Str
  Af : Str
  HasQuery : Bool
abbrev Je.enc (x : Je) : List Go.Value := [str x.An, str x.Ae, str x.Af, .bool x.HasQuery]
structure Js where
  Tenant : Int
  TTL : Int
  Ai : Int
  Asked : Je
  Cache : Je
  Ao : (List Jc)
  Vary : (List Str)
  Ah : (List Str)
  Ak : Bool
  Al : Bool
def Js.R : Rp Js := fun K cs x => ∃ a_0 : Option Addr, ∃ c_0 : Nat, ∃ a_1 : Option Addr, ∃ c_1 : Nat, ∃ a_2 : Option Addr, ∃ c_2 : Nat, cs = [.int .i64 x.Tenant, .int .i64 x.TTL, .int .i64 x.Ai, str x.Asked.An, str x.Asked.Ae, str x.Asked.Af, .bool x.Asked.HasQuery, str x.Cache.An, str x.Cache.Ae, str x.Cache.Af, .bool x.Cache.HasQuery, .slice a_0 x.Ao.length c_0, .slice a_1 x.Vary.length c_1, .slice a_2 x.Ah.length c_2, .bool x.Ak, .bool x.Al] ∧ RdC Jc.enc K a_0 c_0 2 x.Ao ∧ RdC eS K a_1 c_1 1 x.Vary ∧ RdC eS K a_2 c_2 1 x.Ah
theorem Js.R_ok : qf1 16 Js.R :=
  ⟨fun hk ⟨a_0, c_0, a_1, c_1, a_2, c_2, e, h_0, h_1, h_2⟩ => ⟨a_0, c_0, a_1, c_1, a_2, c_2, e, (h_0.mono hk), (h_1.mono hk), (h_2.mono hk)⟩, fun ⟨a_0, c_0, a_1, c_1, a_2, c_2, e, h_0, h_1, h_2⟩ => by simp [e], fun ⟨a_0, c_0, a_1, c_1, a_2, c_2, e, h_0, h_1, h_2⟩ v hv => by rw [e] at hv; simp at hv; rcases hv with rfl | rfl | rfl | rfl | rfl | rfl | rfl | rfl | rfl | rfl | rfl | rfl | rfl | rfl | rfl | rfl <;> rfl⟩
instance : RpI 16 Js.R := ⟨Js.R_ok⟩
structure JX where
  Am : Str
  An : Str
  Ae : Str
  Af : Str
  Ao : (List Jc)
def JX.R : Rp JX := fun K cs x => ∃ a_0 : Option Addr, ∃ c_0 : Nat, cs = [str x.Am, str x.An, str x.Ae, str x.Af, .slice a_0 x.Ao.length c_0] ∧ RdC Jc.enc K a_0 c_0 2 x.Ao
theorem JX.R_ok : qf1 5 JX.R :=
  ⟨fun hk ⟨a_0, c_0, e, h_0⟩ => ⟨a_0, c_0, e, (h_0.mono hk)⟩, fun ⟨a_0, c_0, e, h_0⟩ => by simp [e], fun ⟨a_0, c_0, e, h_0⟩ v hv => by rw [e] at hv; simp at hv; rcases hv with rfl | rfl | rfl | rfl | rfl <;> rfl⟩
instance : RpI 5 JX.R := ⟨JX.R_ok⟩
structure Jp where
  Ae : Str
  Af : Str
  Ag : (List Jc)
  Vary : (List Str)
  Ah : (List Str)
  TTL : Int
  Ai : Int
  Aj : Int
  Ak : Bool
  Al : Bool
def Jp.R : Rp Jp := fun K cs x => ∃ a_0 : Option Addr, ∃ c_0 : Nat, ∃ a_1 : Option Addr, ∃ c_1 : Nat, ∃ a_2 : Option Addr, ∃ c_2 : Nat, cs = [str x.Ae, str x.Af, .slice a_0 x.Ag.length c_0, .slice a_1 x.Vary.length c_1, .slice a_2 x.Ah.length c_2, .int .i64 x.TTL, .int .i64 x.Ai, .int .i64 x.Aj, .bool x.Ak, .bool x.Al] ∧ RdC Jc.enc K a_0 c_0 2 x.Ag ∧ RdC eS K a_1 c_1 1 x.Vary ∧ RdC eS K a_2 c_2 1 x.Ah
theorem Jp.R_ok : qf1 10 Jp.R :=
  ⟨fun hk ⟨a_0, c_0, a_1, c_1, a_2, c_2, e, h_0, h_1, h_2⟩ => ⟨a_0, c_0, a_1, c_1, a_2, c_2, e, (h_0.mono hk), (h_1.mono hk), (h_2.mono hk)⟩, fun ⟨a_0, c_0, a_1, c_1, a_2, c_2, e, h_0, h_1, h_2⟩ => by simp [e], fun ⟨a_0, c_0, a_1, c_1, a_2, c_2, e, h_0, h_1, h_2⟩ v hv => by rw [e] at hv; simp at hv; rcases hv with rfl | rfl | rfl | rfl | rfl | rfl | rfl | rfl | rfl | rfl <;> rfl⟩
instance : RpI 10 Jp.R := ⟨Jp.R_ok⟩
structure JaS where
  f0 : Int
  f1 : Int
  f2 : Int
  f3 : Int
  f4 : Int
  f5 : Int
  f6 : Int
  f7 : Int
abbrev JaS.enc (x : JaS) : List Go.Value := [.int .u64 x.f0, .int .u64 x.f1, .int .u64 x.f2, .int .u64 x.f3, .int .u64 x.f4, .int .u64 x.f5, .int .u64 x.f6, .int .u64 x.f7]
structure Jo where
  Au : Bool
  depth : Int
  At : JaS
abbrev Jo.enc (x : Jo) : List Go.Value := [.bool x.Au, .int .i64 x.depth, .int .u64 x.At.f0, .int .u64 x.At.f1, .int .u64 x.At.f2, .int .u64 x.At.f3, .int .u64 x.At.f4, .int .u64 x.At.f5, .int .u64 x.At.f6, .int .u64 x.At.f7]
structure Jk where
  kind : Int
  n : Int
  s : Str
  As : Bool
abbrev Jk.enc (x : Jk) : List Go.Value := [.int .i64 x.kind, .int .i64 x.n, str x.s, .bool x.As]
structure Jh where
  Aq : JX
  most : Int
  result : Jp
  stack : (List Jk)
  Ap : (List Jk)
theorem qq2 : ElT Tryz.prog 31 30 3 := ElT.mk' rfl rfl rfl rfl rfl
theorem qck : ElT Tryz.prog 52 5 1 := ElT.mk' rfl rfl rfl rfl rfl
theorem qbp : ElT Tryz.prog 23 9 1 := ElT.mk' rfl rfl rfl rfl rfl
theorem qkn : ElT Tryz.prog 158 166 4 := ElT.mk' rfl rfl rfl rfl rfl
theorem qbz : ElT Tryz.prog 115 117 4 := ElT.mk' rfl rfl rfl rfl rfl
theorem qko : ElT Tryz.prog 284 3 1 := ElT.mk' rfl rfl rfl rfl rfl
theorem qkp : ElT Tryz.prog 259 288 2 := ElT.mk' rfl rfl rfl rfl rfl
theorem qq3 : ElT Tryz.prog 80 135 3 := ElT.mk' rfl rfl rfl rfl rfl
theorem qkq : ElT Tryz.prog 207 290 2 := ElT.mk' rfl rfl rfl rfl rfl
theorem qdr : ElT Tryz.prog 35 41 2 := ElT.mk' rfl rfl rfl rfl rfl
theorem qq4 : ElT Tryz.prog 225 228 10 := ElT.mk' rfl rfl rfl rfl rfl
theorem qoy : ElT Tryz.prog 126 128 4 := ElT.mk' rfl rfl rfl rfl rfl
def GG (K : Hp) : Prop := (GlN 0 K) ∧ (GlL eS 1 1 JaR K) ∧ (GlL eS 1 2 Jbo K) ∧ (GlL eS 1 3 Jbp K) ∧ (GlA 4 (Go.Lib.pow10Tab.map fun z => Value.int .u64 z) K) ∧ (GlL eS 1 5 gkw0 K)
theorem GG.of {K : Hp} (h : (GlN 0 K) ∧ (GlL eS 1 1 JaR K) ∧ (GlL eS 1 2 Jbo K) ∧ (GlL eS 1 3 Jbp K) ∧ (GlA 4 (Go.Lib.pow10Tab.map fun z => Value.int .u64 z) K) ∧ (GlL eS 1 5 gkw0 K)) : GG K := h
theorem GG.mono {K K' : Hp} (h : GG K) (hk : K.Le K') : GG K' := ⟨h.1.mono hk, h.2.1.mono hk, h.2.2.1.mono hk, h.2.2.2.1.mono hk, h.2.2.2.2.1.mono hk, h.2.2.2.2.2.mono hk⟩
theorem gg0 {K : Hp} (h : GG K) : GlN 0 K := h.1
theorem gg1 {K : Hp} (h : GG K) : GlL eS 1 1 JaR K := h.2.1
theorem gg2 {K : Hp} (h : GG K) : GlL eS 1 2 Jbo K := h.2.2.1
theorem gg3 {K : Hp} (h : GG K) : GlL eS 1 3 Jbp K := h.2.2.2.1
theorem gg4 {K : Hp} (h : GG K) : GlA 4 (Go.Lib.pow10Tab.map fun z => Value.int .u64 z) K := h.2.2.2.2.1
theorem gg5 {K : Hp} (h : GG K) : GlL eS 1 5 gkw0 K := h.2.2.2.2.2
def JcF (c : UInt8) : Option (Bool) :=
  if (decide ((c.toNat : Int) ≥ 48) && decide ((c.toNat : Int) ≤ 57)) then
  some true
  else
  if (decide ((c.toNat : Int) ≥ 97) && decide ((c.toNat : Int) ≤ 122)) then
  some true
  else
  some (decide ((c.toNat : Int) ≥ 65) && decide ((c.toNat : Int) ≤ 90))
theorem JdE {c : UInt8} {K : Hp} {r : Bool}
    (hm : JcF c = some r)  :
    Fn Tryz.prog 77 [.int .u8 (c.toNat : Int)] K [] (fun v K' H' => v = .bool r ∧ H' = []) := by
 refine Fn.enter Tryz.func77 Tryz.call77 rfl fun F => ?_
 unfold JcF at hm
 refine qaf rfl ?_
 refine qah ?_ ?_ <;> intro aX
 refine ct aX (ct aX ?_)
 refine qah ?_ ?_ <;> intro aW
 replace hm := ift (qcx aX aW) hm
 refine ct aW (ct aW (ct aW (ct aW (cT (cT (cT (cT ?_)))))))
 refine cT ?_
 exact eE hm
 replace hm := qbb (qcy aX aW) hm
 refine cf aW (cf aW ?_)
 refine qah ?_ ?_ <;> intro aV
 refine ct aV (cf aW (ct aV (cf aW ?_)))
 refine qah ?_ ?_ <;> intro aU
 replace hm := ift (qcx aV aU) hm
 refine ct aU (ct aU (ct aU (ct aU ?_)))
 exact eE hm
 replace hm := qbb (qcy aV aU) hm
 refine cf aU (cf aU ?_)
 refine qah ?_ ?_ <;> intro aT
 refine ct aT (cf aU (ct aT (cf aU ?_)))
 exact bE (qcz (b := decide ((c.toNat : Int) ≤ 90)) aT) (eE hm)
 refine cf aT (cf aU (cf aT (cf aU ?_)))
 exact bE (((qbe aT)).symm) (eE hm)
 refine cf aV (cf aW (cf aV (cf aW ?_)))
 replace hm := qbb (qbe aV) hm
 refine cF (cF (cF ?_))
 refine qah ?_ ?_ <;> intro aT
 refine ct aT (cF (ct aT (cF ?_)))
 exact bE (qcz (b := decide ((c.toNat : Int) ≤ 90)) aT) (eE hm)
 refine cf aT (cF (cf aT (cF ?_)))
 exact bE (((qbe aT)).symm) (eE hm)
 refine cf aX (cf aX ?_)
 replace hm := qbb (qbe aX) hm
 refine cF (cF (cF ?_))
 refine qah ?_ ?_ <;> intro aV
 refine ct aV (cF (ct aV (cF ?_)))
 refine qah ?_ ?_ <;> intro aU
 replace hm := ift (qcx aV aU) hm
 refine ct aU (ct aU (ct aU (ct aU ?_)))
 exact eE hm
 replace hm := qbb (qcy aV aU) hm
 refine cf aU (cf aU ?_)
 refine qah ?_ ?_ <;> intro aT
 refine ct aT (cf aU (ct aT (cf aU ?_)))
 exact bE (qcz (b := decide ((c.toNat : Int) ≤ 90)) aT) (eE hm)
 refine cf aT (cf aU (cf aT (cf aU ?_)))
 exact bE (((qbe aT)).symm) (eE hm)
 refine cf aV (cF (cf aV (cF ?_)))
 replace hm := qbb (qbe aV) hm
 refine cF (cF (cF ?_))
 refine qah ?_ ?_ <;> intro aT
 refine ct aT (cF (ct aT (cF ?_)))
 exact bE (qcz (b := decide ((c.toNat : Int) ≤ 90)) aT) (eE hm)
 refine cf aT (cF (cf aT (cF ?_)))
 exact bE (((qbe aT)).symm) (eE hm)

def Jce : List UInt8 → Nat → Option (Fl (Str × Err) (Unit))
  | [], _ => some (Fl.go ())
  | e2 :: aV, i2 =>
    (JcF e2).bind fun aT =>
    (if (!aT) then some (decide ((e2.toNat : Int) ≠ 45)) else some false).bind fun aU =>
    if aU then
    some (Fl.ret (([] : Str), (some 8)))
    else
    Jce aV (i2 + 1)
def Jcf : List Str → Nat → Option (Fl (Str × Err) (Unit))
  | [], _ => some (Fl.go ())
  | e0 :: aV, i0 =>
    (((if (decide ((e0.length : Int) < 1) || decide ((e0.length : Int) > 63)) then some true else (ix e0 0).bind fun aW =>
    some (decide ((aW.toNat : Int) = 45))).bind fun aX =>
    (if aX then some true else (chk (InI ((e0.length : Int) - 1))).bind fun _ =>
    (ix e0 ((e0.length : Int) - 1)).bind fun aU =>
    some (decide ((aU.toNat : Int) = 45))).bind fun aY =>
    some aY) : Option (Bool)).bind fun aT =>
    if aT then
    some (Fl.ret (([] : Str), (some 8)))
    else
    (chk (e0.length ≤ qa7)).bind fun _ =>
    (Jce e0 0).bind fun s2 => s2.el (fun r => some (Fl.ret r)) fun t2 =>
    Jcf aV (i0 + 1)
def JbM : Nat → Nat → Str → Option (Str)
  | 0, _, aT => some aT
  | aV + 1, i4, aT =>
    (ix aT (i4 : Int)).bind fun aU =>
    if (decide ((aU.toNat : Int) ≥ 65) && decide ((aU.toNat : Int) ≤ 90)) then
    (ix aT (i4 : Int)).bind fun aW =>
    JbM aV (i4 + 1) (aT.set (((i4 : Int)).toNat) (aU + (32 : UInt8)))
    else
    JbM aV (i4 + 1) aT
def JcB (s : Str) : Option (Str × Err) :=
  if decide ((s.length : Int) > 100) then
  some (([] : Str), (some 8))
  else
  (qd9 s ([46] : Str)).bind fun aT =>
  (chk (aT.length ≤ qa7)).bind fun _ =>
  (Jcf aT 0).bind fun s0 => s0.el some fun t0 =>
  (chk (s.length ≤ lim)).bind fun _ =>
  (chk (InI (s.length : Int))).bind fun _ =>
  (JbM (s.length : Int).toNat 0 s).bind fun t4 =>
  some (t4, none)
theorem JdM {s : Str} {K : Hp} {r : Str × Err}
    (hm : JcB s = some r) (hG : GG K) :
    Fn Tryz.prog 44 [str s] K [] (fun v K' H' => v = .tuple #[str r.1, qc5 48 r.2] ∧ H' = []) := by
 refine Fn.enter Tryz.func44 Tryz.call44 rfl fun F => ?_
 unfold JcB at hm
 refine ro (qa3 rfl ?_)
 refine cs rfl rfl hm ?_ ?_ <;> intro ca hm
 refine qat rfl ?_
 exact eE hm
 refine cb hm fun bH bS hm => ck0 (qge bS (gg0 hG)) ?_
 rintro _ _ _ ⟨bD, bv, rfl, bh, rfl⟩
 refine ro (qal rfl ?_)
 obtain ⟨bW, hm⟩ := qaw hm
 obtain ⟨s0, aZ, hm⟩ := bnd hm
 refine lD (σ := (Unit)) ([2,3,5,6,7] ++ rg 18 43) [0, 1] (fun i0 => [(18, .int .i64 (i0 : Int))]) (fun _ => []) (fun _ => []) (fun _ => True) (fun i0 _ => Jcf (bH.drop i0) i0 = some s0) (fun t0 => s0 = Fl.go t0) (fun i0 => bH.length - i0) 0 () aZ (And.intro qe (And.intro ?_ ?_))
 clear aZ
 rintro i0 _ _ aZ j0
 conv at aZ => whnf
 refine qac rfl ?_
 refine qah ?_ ?_ <;> intro w0
 obtain ⟨e0, bm, bR⟩ := ltx w0
 rw [bR, Jcf.eq_2] at aZ
 refine qam rfl ?_
 refine RStep.ofN (qae rfl rfl (qcv bh bm) (nn _) (qfq rfl bm) (ro (qb1 (i := i0) (o := 0) r0 rfl bm rfl rfl (ro (qa3 rfl ?_)))))
 obtain ⟨bu, aT, aZ⟩ := bnd aZ
 refine jR (σ := Bool) (rg 24 18) (fun bf => [(41, .bool bf)]) (fun bf => bf = bu) ?_ ?_
 refine qaf rfl ?_
 refine qah ?_ ?_ <;> intro aY
 refine ct aY (ct aY ?_)
 obtain ⟨bK, bb, aT⟩ := bnd aT
 replace bb := ift (qbv aY) bb
 refine cT (cT (cT (cT ?_)))
 obtain ⟨bF, ba, aT⟩ := bnd aT
 replace ba := ift (si bb).symm ba
 refine cT (cT (cT (cT (cT (cT ?_)))))
 exact eMq aT _ ⟨bq (si ba), trivial⟩
 refine cf aY (cf aY ?_)
 obtain ⟨bK, bb, aT⟩ := bnd aT
 refine qah ?_ ?_ <;> intro aX
 replace bb := ift (qf2 aY aX) bb
 refine ct aX (ct aX (ct aX ?_))
 obtain ⟨bF, ba, aT⟩ := bnd aT
 replace ba := ift (si bb).symm ba
 refine cT (cT (cT (cT (cT (cT ?_)))))
 exact eMq aT _ ⟨bq (si ba), trivial⟩
 replace bb := qbb (qc4 aY aX) bb
 refine cf aX ?_
 obtain ⟨cj, bV, bX, bb⟩ := ixb bb
 refine qa0 rfl bV bX (cf aX (qag (cf aX ?_)))
 obtain ⟨bF, ba, aT⟩ := bnd aT
 refine qah ?_ ?_ <;> intro aV
 replace ba := ift ((si bb).symm.trans aV) ba
 refine ct aV (ct aV (ct aV (ct aV (ct aV ?_))))
 exact eMq aT _ ⟨bq (si ba), trivial⟩
 replace ba := qbb ((si bb).symm.trans aV) ba
 refine cf aV (cf aV ?_)
 obtain ⟨bT, ba⟩ := qaw ba
 refine qan bT (cf aV ?_)
 obtain ⟨ce, bM, bQ, ba⟩ := ixb ba
 refine qa0 rfl bM bQ (cf aV (qag (cf aV ?_)))
 exact eMq aT _ ⟨bq (si ba), trivial⟩
 rintro bf rfl bN
 refine cs rfl rfl aZ ?_ ?_ <;> intro cm aZ
 refine qat rfl ?_
 exact eE (er aZ hm)
 obtain ⟨bA, aZ⟩ := qaw aZ
 obtain ⟨s2, a6, aZ⟩ := bnd aZ
 refine lD (σ := (Unit)) ([2,3,7] ++ rg 44 16) [0, 1] (fun i2 => [(44, .int .i64 (i2 : Int))]) (fun _ => []) (fun _ => []) (fun _ => True) (fun i2 _ => Jce (e0.drop i2) i2 = some s2) (fun t2 => s2 = Fl.go t2) (fun i2 => e0.length - i2) 0 () a6 (And.intro qe (And.intro ?_ ?_))
 clear a6
 rintro i2 _ _ a6 j2
 conv at a6 => whnf
 refine qac rfl ?_
 refine qah ?_ ?_ <;> intro w2
 obtain ⟨e2, bl, bJ⟩ := ltx w2
 rw [bJ, Jce.eq_2] at a6
 refine qam rfl ?_
 refine qaf rfl ?_
 refine qa0 rfl (nn _) bl ?_
 refine cb a6 fun cd bU a6 => cg0 (JdE bU :) ?_
 refine qax ?_
 obtain ⟨bY, bg, a6⟩ := bnd a6
 refine cS bg (fun aU bg => ?_) fun aU bg => ?_
 refine ct aU (ct aU (qa0 rfl (nn _) bl (ct aU (qa8 (ct aU (qac rfl ?_))))))
 refine qah ?_ ?_ <;> intro bC
 replace a6 := ift ((si bg).symm.trans bC) a6
 refine qat rfl ?_
 exact eE (er (er a6 aZ :) hm)
 replace a6 := qbb ((si bg).symm.trans bC) a6
 refine qan (qbu bl bA) ?_
 exact eR a6 (_, ())
 refine cf aU (cf aU (cf aU (cf aU (qac rfl (cF ?_)))))
 replace a6 := qbb (si bg).symm a6
 refine qan (qbu bl bA) ?_
 exact eR a6 (_, ())
 rw [lty w2, Jce.eq_1] at a6
 refine cT ?_
 exact eM a6 _
 rintro t2 _ rfl j2
 replace aZ := elg aZ
 refine qan (qbu bm bW) ?_
 exact eR aZ (_, ())
 rw [lty w0, Jcf.eq_1] at aZ
 refine cT ?_
 exact eM aZ _
 rintro t0 _ rfl j0
 replace hm := elg hm
 obtain ⟨bO, hm⟩ := qaw hm
 refine qga rfl rfl rfl bO ?_
 intro bw bL bZ
 refine ro (qal rfl ?_)
 obtain ⟨bt, hm⟩ := qaw hm
 obtain ⟨s4, a8, hm⟩ := bnd hm
 refine lD (σ := (Str)) ([9,10] ++ rg 65 17) [1, 2] (fun i4 => [(65, .int .i64 (i4 : Int))]) (fun _ => []) (fun t4 => [qau eU bw 5 1 bL t4]) (fun t4 => (0 < t4.length → Has bw) ∧ s.length = t4.length) (fun i4 t4 => JbM ((s.length : Int).toNat - i4) i4 t4 = some s4) (fun t4 => t4 = s4) (fun i4 => (s.length : Int).toNat - i4) 0 _ a8 (And.intro qe (And.intro ?_ ?_))
 clear a8
 rintro i4 bn ⟨bd, bc⟩ a8 j4
 conv at a8 => whnf
 refine qac rfl ?_
 refine qah ?_ ?_ <;> intro w4
 rw [ltn w4, JbM.eq_2] at a8
 refine qam rfl ?_
 obtain ⟨br, bz, bo, a8⟩ := ixb a8
 refine RStep.ofN (qae rfl rfl (qcv bd bo) bz (qaz bc bz bo) (ro (qb1 (i := ((i4 : Int)).toNat) (o := 0) r0 rfl bo rfl rfl ?_)))
 refine qaf rfl ?_
 refine qah ?_ ?_ <;> intro aW
 refine ct aW (ct aW (qac rfl ?_))
 refine qah ?_ ?_ <;> intro bB
 replace a8 := ift (qcx aW bB) a8
 refine qh8 (x := br) (y := (32 : UInt8)) rfl rfl ?_
 obtain ⟨bP, bI, bp, a8⟩ := ixb a8
 refine RStep.ofN (qae rfl rfl (qcv bd bp) bI (qaz bc bI bp) ?_)
 refine qe7 (o := 0) (y := (br + (32 : UInt8))) bP r0 rfl bp rfl (by (conv => whnf); exact ⟨rfl, rfl, (nl rfl), rfl, rfl, rfl⟩) ?_
 refine qan (qjm w4 bt) ?_
 exact rd (i4 + 1, (bn.set (((i4 : Int)).toNat) (br + (32 : UInt8)))) ⟨rfl, trivial⟩ rfl (pf rfl) lr (qq1 w4) ⟨⟨(by first | simpa using bd | exact fun _ => ⟨_, _, rfl⟩), ((bc).trans List.length_set.symm)⟩, a8⟩
 replace a8 := qbb (qcy aW bB) a8
 refine qan (qjm w4 bt) ?_
 exact eR a8 (_, _)
 refine cf aW (cf aW (qac rfl (cF ?_)))
 replace a8 := qbb (qbe aW) a8
 refine qan (qjm w4 bt) ?_
 exact eR a8 (_, _)
 rw [lto w4, JbM.eq_1] at a8
 refine cT ?_
 exact eM a8 _
 rintro t4 ⟨bG, bj⟩ rfl j4
 refine ro (qd7 bj r0 rfl rfl rfl ?_)
 exact eE hm

def Ja9 (c : UInt8) : Option (Bool) :=
  some ((decide ((c.toNat : Int) ≥ 97) && decide ((c.toNat : Int) ≤ 122)) || decide ((c.toNat : Int) = 95))
theorem Jdt {c : UInt8} {K : Hp} {r : Bool}
    (hm : Ja9 c = some r)  :
    Fn Tryz.prog 203 [.int .u8 (c.toNat : Int)] K [] (fun v K' H' => v = .bool r ∧ H' = []) := by
 refine Fn.enter Tryz.func203 Tryz.call203 rfl fun F => ?_
 unfold Ja9 at hm
 refine qaf rfl ?_
 refine qah ?_ ?_ <;> intro aT
 refine ct aT (ct aT ?_)
 refine qah ?_ ?_ <;> intro aU
 refine ct aU (ct aU ?_)
 exact bE (((qbv (qcx aT aU))).symm) (eE hm)
 refine cf aU (qag (cf aU ?_))
 exact bE (qhb (b := decide ((c.toNat : Int) = 95)) (qcy aT aU)) (eE hm)
 refine cf aT (cf aT (cF (cF (qag (cF ?_)))))
 exact bE (qhb (b := decide ((c.toNat : Int) = 95)) (qbe aT)) (eE hm)

def Jba (c : UInt8) : Option (Bool) :=
  some (decide ((c.toNat : Int) ≥ 48) && decide ((c.toNat : Int) ≤ 57))
theorem Jc6 {c : UInt8} {K : Hp} {r : Bool}
    (hm : Jba c = some r)  :
    Fn Tryz.prog 204 [.int .u8 (c.toNat : Int)] K [] (fun v K' H' => v = .bool r ∧ H' = []) := by
 refine Fn.enter Tryz.func204 Tryz.call204 rfl fun F => ?_
 unfold Jba at hm
 refine qaf rfl ?_
 refine qah ?_ ?_ <;> intro aT
 refine ct aT (ct aT ?_)
 exact bE (qcz (b := decide ((c.toNat : Int) ≤ 57)) aT) (eE hm)
 refine cf aT (cf aT ?_)
 exact bE (((qbe aT)).symm) (eE hm)

def JaB (s : Str) : Nat → Str → Int → Option (Fl (Int × Str) (Str × Int))
  | 0, _, _ => none
  | aV + 1, ac, aT =>
    if decide (aT < (s.length : Int)) then
    (ix s aT).bind fun aU =>
    if decide ((aU.toNat : Int) = 34) then
    (chk (InI (aT + 1))).bind fun _ =>
    some (Fl.ret ((aT + 1), ac))
    else
    if decide ((aU.toNat : Int) = 92) then
    (chk (InI (aT + 1))).bind fun _ =>
    if decide ((aT + 1) = (s.length : Int)) then
    some (Fl.ret (0, ([] : Str)))
    else
    (ix s (aT + 1)).bind fun aZ =>
    (if decide ((aZ.toNat : Int) ≠ 34) then (ix s (aT + 1)).bind fun aY =>
    some (decide ((aY.toNat : Int) ≠ 92)) else some false).bind fun aX =>
    if aX then
    some (Fl.ret (0, ([] : Str)))
    else
    (ix s (aT + 1)).bind fun aW =>
    (chk (ac.length + ([aW] : Str).length ≤ lim)).bind fun _ =>
    (chk (InI ((aT + 1) + 1))).bind fun _ =>
    JaB s aV (ac ++ ([aW] : Str)) ((aT + 1) + 1)
    else
    if (decide ((aU.toNat : Int) < 32) || decide ((aU.toNat : Int) > 126)) then
    some (Fl.ret (0, ([] : Str)))
    else
    (chk (ac.length + ([aU] : Str).length ≤ lim)).bind fun _ =>
    (chk (InI (aT + 1))).bind fun _ =>
    JaB s aV (ac ++ ([aU] : Str)) (aT + 1)
    else
    some (Fl.go (ac, aT))
def Jc0 (n : Nat) (s : Str) : Option (Int × Str) :=
  (JaB s n [] 1).bind fun s0 => s0.el some fun t0 =>
  some (0, ([] : Str))
theorem Jd4 {n : Nat} {s : Str} {K : Hp} {r : Int × Str}
    (hm : Jc0 n s = some r)  :
    Fn Tryz.prog 205 [str s] K [] (fun v K' H' => v = .tuple #[.int .i64 r.1, str r.2] ∧ H' = []) := by
 refine Fn.enter Tryz.func205 Tryz.call205 rfl fun F => ?_
 unfold Jc0 at hm
 obtain ⟨s0, aT, hm⟩ := bnd hm
 refine qhp eU 5 1 ?_
 refine lD (σ := (Str × Int) × Option Addr × Nat) (rg 2 56) [1] (fun _ => []) (fun (t0, aX, aY) => [(4, .slice aX t0.1.length aY), (5, .int .i64 t0.2)]) (fun (t0, aX, aY) => [qau eU aX 5 1 aY t0.1]) (fun (t0, aX, aY) => (0 < t0.1.length → Has aX) ∧ True) (fun i0 (t0, aX, aY) => JaB s i0 t0.1 t0.2 = some s0) (fun (t0, aX, aY) => s0 = Fl.go t0) (fun i0 => i0) n ((_, _), _, _) aT (And.intro qe (And.intro ?_ ?_))
 clear aT
 rintro i0 ⟨⟨ac, bt⟩, bo, bl⟩ ⟨bc, _⟩ aT j0
 dsimp only at aT ⊢
 cases i0 with
 | zero => rw [JaB.eq_1] at aT; cases aT
 | succ i0 =>
  rw [JaB.eq_2] at aT
  refine ro (qa3 rfl ?_)
  refine cs rfl rfl aT ?_ ?_ <;> intro bH aT
  refine qam rfl ?_
  obtain ⟨bd, br, bu, aT⟩ := ixb aT
  refine qa0 rfl br bu ?_
  refine qam rfl ?_
  refine qag (cs rfl rfl aT ?_ ?_) <;> intro bC aT
  refine qa4 ⟨⟨[], false⟩, _, [], []⟩ (by kernel_rfl) ⟨Hp.Le.refl _, (pf rfl), ci0⟩ ?_
  refine ci aT fun aT => ?_
  refine qd7 rfl r0 rfl rfl rfl ?_
  exact eE (er aT hm)
  refine qag (cs rfl rfl aT ?_ ?_) <;> intro bD aT
  refine ci aT fun aT => ?_
  refine qaf rfl ?_
  refine ro (qa3 rfl (qag ?_))
  refine cS aT (fun aU aT => ?_) fun aU aT => ?_
  refine ct aU (ct aU (ct aU (ct aU (ct aU (ct aU (qac rfl (cT ?_)))))))
  exact eE (er aT hm)
  refine cf aU (cf aU ?_)
  obtain ⟨bF, bA, bv, aT⟩ := ixb aT
  refine qa0 rfl bA bv (cf aU (qa8 (cf aU ?_)))
  obtain ⟨bB, aZ, aT⟩ := bnd aT
  refine cS aZ (fun aV aZ => ?_) fun aV aZ => ?_
  refine ct aV (ct aV ?_)
  obtain ⟨bG, bz, bw, aZ⟩ := ixb aZ
  refine qa0 rfl bz bw (ct aV (qa8 (cf aU (ct aV (cf aU (qac rfl ?_))))))
  refine qah ?_ ?_ <;> intro bf
  replace aT := ift ((si aZ).symm.trans bf) aT
  exact eE (er aT hm)
  replace aT := qbb ((si aZ).symm.trans bf) aT
  obtain ⟨a8, bb, ba, aT⟩ := ixb aT
  refine qa0 rfl bb ba ?_
  refine bsO (len := 1) (enc := eU) (l := ([a8] : Str)) (cl := [.int .u8 (a8.toNat : Int)]) qck rfl rfl (fun _ _ => rfl) rfl rfl rfl ?_ fun bn => ?_
  · conv => whnf
    refine cT ?_
    first | done | rfl
  obtain ⟨a6, aT⟩ := qaw aT
  refine apE rfl r1 qck (qay rfl r0 rfl (fun _ => rfl) (fun _ => rfl)) a6 ?_
  intro bm bj bh
  refine ci aT fun aT => ?_
  exact eR aT (_, (_, _), _, _)
  refine cf aV (cf aV (cf aV (cf aU (cf aV (cf aU (qac rfl (cF ?_)))))))
  replace aT := qbb (si aZ).symm aT
  obtain ⟨a8, bb, ba, aT⟩ := ixb aT
  refine qa0 rfl bb ba ?_
  refine bsO (len := 1) (enc := eU) (l := ([a8] : Str)) (cl := [.int .u8 (a8.toNat : Int)]) qck rfl rfl (fun _ _ => rfl) rfl rfl rfl ?_ fun bn => ?_
  · conv => whnf
    refine cT ?_
    first | done | rfl
  obtain ⟨a6, aT⟩ := qaw aT
  refine apE rfl r1 qck (qay rfl r0 rfl (fun _ => rfl) (fun _ => rfl)) a6 ?_
  intro bm bj bh
  refine ci aT fun aT => ?_
  exact eR aT (_, (_, _), _, _)
  refine qaf rfl ?_
  refine qah ?_ ?_ <;> intro aW
  refine ct aW (ct aW (qac rfl (cT ?_)))
  replace aT := ift (qbv aW) aT
  exact eE (er aT hm)
  refine cf aW (cf aW (qac rfl ?_))
  refine qah ?_ ?_ <;> intro bp
  replace aT := ift (qf2 aW bp) aT
  exact eE (er aT hm)
  replace aT := qbb (qc4 aW bp) aT
  refine bsO (len := 1) (enc := eU) (l := ([bd] : Str)) (cl := [.int .u8 (bd.toNat : Int)]) qck rfl rfl (fun _ _ => rfl) rfl rfl rfl ?_ fun bn => ?_
  · conv => whnf
    refine cT ?_
    first | done | rfl
  obtain ⟨a6, aT⟩ := qaw aT
  refine apE rfl r1 qck (qay rfl r0 rfl (fun _ => rfl) (fun _ => rfl)) a6 ?_
  intro bm bj bh
  refine ci aT fun aT => ?_
  exact eR aT (_, (_, _), _, _)
  refine cT ?_
  exact eM aT (_, _, _)
 rintro ⟨t0, aX, aY⟩ ⟨bg, _⟩ rfl j0
 replace hm := elg hm
 exact eE hm

def JV (s : Str) (prefixZ : Str) : Option (Bool) :=
  (if decide ((s.length : Int) ≥ (prefixZ.length : Int)) then (chk (0 ≤ (0 : Int) ∧ (0 : Int) ≤ (prefixZ.length : Int) ∧ (prefixZ.length : Int) ≤ (s.length : Int))).bind fun _ =>
  some (decide ((subL s (0 : Int) (prefixZ.length : Int)) = prefixZ)) else some false).bind fun aT =>
  some aT
theorem Jby {s : Str} {prefixZ : Str} {K : Hp} {r : Bool}
    (hm : JV s prefixZ = some r)  :
    Fn Tryz.prog 128 [str s, str prefixZ] K [] (fun v K' H' => v = .bool r ∧ H' = []) := by
 refine Fn.enter Tryz.func128 Tryz.call128 rfl fun F => ?_
 unfold JV at hm
 refine qaf rfl ?_
 refine ro (qa3 rfl (ro (qa3 rfl ?_)))
 obtain ⟨aW, aU, hm⟩ := bnd hm
 refine cS aU (fun aT aU => ?_) fun aT aU => ?_
 refine ct aT (ct aT (ro (qa3 rfl (ct aT ?_))))
 obtain ⟨aV, aU⟩ := qaw aU
 refine RStep.ofN (qdx (lo := none) (hi := (some (prefixZ.length : Int))) rfl aV (ct aT (ct aT (qaq (ct aT ?_)))))
 exact bE (si aU) (eE hm)
 refine cf aT (cf aT (cf aT (cf aT (cf aT (cf aT ?_)))))
 exact bE (si aU) (eE hm)

def JA (s : Str) (prefixZ : Str) : Option (Bool) :=
  (JV s prefixZ).bind fun x7 =>
  some x7
theorem Ja2 {s : Str} {prefixZ : Str} {K : Hp} {r : Bool}
    (hm : JA s prefixZ = some r)  :
    Fn Tryz.prog 75 [str s, str prefixZ] K [] (fun v K' H' => v = .bool r ∧ H' = []) := by
 refine Fn.enter Tryz.func75 Tryz.call75 rfl fun F => ?_
 unfold JA at hm
 refine cb hm fun x7 q7 hm => cg0 (Jby q7 :) ?_
 exact eE hm

def Jbk (s : Str) : Nat → Int → Option (Int)
  | 0, _ => none
  | aV + 1, aT =>
    if decide (aT < (s.length : Int)) then
    (ix s aT).bind fun aU =>
    (Ja9 aU).bind fun aW =>
    (if aW then some true else (ix s aT).bind fun aZ =>
    (Jba aZ).bind fun aX =>
    some aX).bind fun aY =>
    if aY then
    (chk (InI (aT + 1))).bind fun _ =>
    Jbk s aV (aT + 1)
    else
    some aT
    else
    some aT
def Jb1 (s : Str) : Nat → Int → Option (Int)
  | 0, _ => none
  | aU + 1, aT =>
    (if decide (aT < (s.length : Int)) then (ix s aT).bind fun aX =>
    (Jba aX).bind fun aW =>
    some aW else some false).bind fun aV =>
    if aV then
    (chk (InI (aT + 1))).bind fun _ =>
    Jb1 s aU (aT + 1)
    else
    some aT
def J0 (s : Str) : Nat → Nat → Option (Fl (Int × Int × Str) (Unit))
  | 0, _ => some (Fl.go ())
  | aU + 1, i5 =>
    (ix ([([61, 61] : Str), ([33, 61] : Str), ([60, 61] : Str), ([60] : Str), ([43] : Str), ([45] : Str), ([42] : Str), ([40] : Str), ([41] : Str), ([123] : Str), ([125] : Str), ([44] : Str), ([59] : Str), ([61] : Str)]) (i5 : Int)).bind fun aT =>
    (JA s aT).bind fun aV =>
    if aV then
    some (Fl.ret (4, (aT.length : Int), aT))
    else
    J0 s aU (i5 + 1)
def Jap (n : Nat) (s : Str) : Option (Int × Int × Str) :=
  (ix s 0).bind fun al =>
  (Ja9 al).bind fun aU =>
  if aU then
  (Jbk s n 1).bind fun t1 =>
  (chk (0 ≤ (0 : Int) ∧ (0 : Int) ≤ t1 ∧ t1 ≤ (s.length : Int))).bind fun _ =>
  some (1, t1, (subL s (0 : Int) t1))
  else
  (Jba al).bind fun aV =>
  if aV then
  (Jb1 s n 1).bind fun t3 =>
  if decide (t3 > 9) then
  some (0, 0, ([] : Str))
  else
  (chk (0 ≤ (0 : Int) ∧ (0 : Int) ≤ t3 ∧ t3 ≤ (s.length : Int))).bind fun _ =>
  some (2, t3, (subL s (0 : Int) t3))
  else
  if decide ((al.toNat : Int) = 34) then
  (Jc0 n s).bind fun aT =>
  some (3, aT.1, aT.2)
  else
  (chk (InI (14 : Int))).bind fun _ =>
  (J0 s (14 : Int).toNat 0).bind fun s5 => s5.el some fun t5 =>
  some (0, 0, ([] : Str))
theorem Jej {n : Nat} {s : Str} {K : Hp} {r : Int × Int × Str}
    (hm : Jap n s = some r)  :
    Fn Tryz.prog 148 [str s] K [] (fun v K' H' => v = .tuple #[.int .i64 r.1, .int .i64 r.2.1, str r.2.2] ∧ H' = []) := by
 refine Fn.enter Tryz.func148 Tryz.call148 rfl fun F => ?_
 unfold Jap at hm
 obtain ⟨al, bg, bv, hm⟩ := ixb hm
 refine qa0 rfl bg bv ?_
 refine qam rfl ?_
 refine cb hm fun bH bj hm => cg0 (Jdt bj :) ?_
 refine cs rfl rfl hm ?_ ?_ <;> intro bM hm
 obtain ⟨s1, aU, hm⟩ := bnd hm
 refine lD (σ := (Int)) ([5] ++ rg 16 18) [0] (fun _ => []) (fun t1 => [(5, .int .i64 t1)]) (fun _ => []) (fun _ => True) (fun i1 t1 => Jbk s i1 t1 = some s1) (fun t1 => t1 = s1) (fun i1 => i1) n _ aU (And.intro qe (And.intro ?_ ?_))
 clear aU
 rintro i1 bn _ aU j1
 conv at aU => whnf
 cases i1 with
 | zero => rw [Jbk.eq_1] at aU; cases aU
 | succ i1 =>
  rw [Jbk.eq_2] at aU
  refine qaf rfl ?_
  refine ro (qa3 rfl ?_)
  refine cS aU (fun aT aU => ?_) fun aT aU => ?_
  refine ct aT (ct aT ?_)
  obtain ⟨bF, br, bw, aU⟩ := ixb aU
  refine qa0 rfl br bw (ct aT ?_)
  refine cb aU fun bW bm aU => cg0 (Jdt bm :) ?_
  refine ct aT ?_
  obtain ⟨bJ, aZ, aU⟩ := bnd aU
  refine cS aZ (fun aV aZ => ?_) fun aV aZ => ?_
  refine ct aV (ct aV (ct aV (ct aT (ct aV (ct aT (qac rfl (cT ?_)))))))
  replace aU := ift (si aZ).symm aU
  refine qam rfl ?_
  refine ci aU fun aU => ?_
  exact eR aU (_, _)
  refine cf aV (cf aV ?_)
  obtain ⟨bL, bD, bd, aZ⟩ := ixb aZ
  refine qa0 rfl bD bd (cf aV ?_)
  refine cb aZ fun bN bo aZ => cg0 (Jc6 bo :) ?_
  refine ct aT (cf aV (ct aT (qac rfl ?_)))
  refine qah ?_ ?_ <;> intro bb
  replace aU := ift ((si aZ).symm.trans bb) aU
  refine qam rfl ?_
  refine ci aU fun aU => ?_
  exact eR aU (_, _)
  replace aU := qbb ((si aZ).symm.trans bb) aU
  refine cT ?_
  exact eM aU _
  refine cf aT (cf aT (cf aT (cf aT (cf aT (cf aT (qac rfl (cF ?_)))))))
  refine cT ?_
  exact eM aU _
 rintro t1 _ rfl j1
 refine qa4 ⟨⟨[], false⟩, _, [], []⟩ (by kernel_rfl) ⟨Hp.Le.refl _, (pf rfl), ci0⟩ ?_
 obtain ⟨bA, hm⟩ := qaw hm
 refine qdx (lo := none) (hi := (some t1)) rfl bA ?_
 exact eE hm
 refine cb hm fun bO bu hm => cg0 (Jc6 bu :) ?_
 refine cs rfl rfl hm ?_ ?_ <;> intro bI hm
 obtain ⟨s3, aX, hm⟩ := bnd hm
 refine lD (σ := (Int)) ([5] ++ rg 41 12) [0] (fun _ => []) (fun t3 => [(5, .int .i64 t3)]) (fun _ => []) (fun _ => True) (fun i3 t3 => Jb1 s i3 t3 = some s3) (fun t3 => t3 = s3) (fun i3 => i3) n _ aX (And.intro qe (And.intro ?_ ?_))
 clear aX
 rintro i3 bt _ aX j3
 conv at aX => whnf
 cases i3 with
 | zero => rw [Jb1.eq_1] at aX; cases aX
 | succ i3 =>
  rw [Jb1.eq_2] at aX
  refine qaf rfl ?_
  refine ro (qa3 rfl ?_)
  obtain ⟨bP, a6, aX⟩ := bnd aX
  refine cS a6 (fun aW a6 => ?_) fun aW a6 => ?_
  refine ct aW (ct aW ?_)
  obtain ⟨bU, bp, bC, a6⟩ := ixb a6
  refine qa0 rfl bp bC (ct aW ?_)
  refine cb a6 fun bS bh a6 => cg0 (Jc6 bh :) ?_
  refine ct aW (qac rfl ?_)
  refine qah ?_ ?_ <;> intro bc
  replace aX := ift ((si a6).symm.trans bc) aX
  refine qam rfl ?_
  refine ci aX fun aX => ?_
  exact eR aX (_, _)
  replace aX := qbb ((si a6).symm.trans bc) aX
  refine cT ?_
  exact eM aX _
  refine cf aW (cf aW (cf aW (cf aW (qac rfl (cF ?_)))))
  replace aX := qbb (si a6).symm aX
  refine cT ?_
  exact eM aX _
 rintro t3 _ rfl j3
 refine cs rfl rfl hm ?_ ?_ <;> intro bQ hm
 exact eE hm
 refine qa4 ⟨⟨[], false⟩, _, [], []⟩ (by kernel_rfl) ⟨Hp.Le.refl _, (pf rfl), ci0⟩ ?_
 obtain ⟨bz, hm⟩ := qaw hm
 refine qdx (lo := none) (hi := (some t3)) rfl bz ?_
 exact eE hm
 refine qag (cs rfl rfl hm ?_ ?_) <;> intro bR hm
 refine cb hm fun bG bf hm => cg0 (Jd4 bf :) ?_
 exact eE hm
 refine bsO (len := 14) (enc := eS) (l := [([61, 61] : Str), ([33, 61] : Str), ([60, 61] : Str), ([60] : Str), ([43] : Str), ([45] : Str), ([42] : Str), ([40] : Str), ([41] : Str), ([123] : Str), ([125] : Str), ([44] : Str), ([59] : Str), ([61] : Str)]) (cl := [str ([61, 61] : Str), str ([33, 61] : Str), str ([60, 61] : Str), str ([60] : Str), str ([43] : Str), str ([45] : Str), str ([42] : Str), str ([40] : Str), str ([41] : Str), str ([123] : Str), str ([125] : Str), str ([44] : Str), str ([59] : Str), str ([61] : Str)]) qbp rfl rfl (fun _ _ => rfl) rfl rfl rfl ?_ fun bT => ?_
 · conv => whnf
   refine cT (cT (cT (cT (cT (cT (cT (cT ?_)))))))
   refine cT (cT (cT (cT (cT (cT ?_)))))
   first | done | rfl
 refine ro (qal rfl ?_)
 obtain ⟨bl, hm⟩ := qaw hm
 obtain ⟨s5, aY, hm⟩ := bnd hm
 refine lD (σ := (Unit)) ([2,3,4,10] ++ rg 71 11) [0, 1] (fun i5 => [(71, .int .i64 (i5 : Int))]) (fun _ => []) (fun _ => []) (fun _ => True) (fun i5 _ => J0 s ((14 : Int).toNat - i5) i5 = some s5) (fun t5 => s5 = Fl.go t5) (fun i5 => (14 : Int).toNat - i5) 0 () aY (And.intro qe (And.intro ?_ ?_))
 clear aY
 rintro i5 _ _ aY j5
 conv at aY => whnf
 refine qac rfl ?_
 refine qah ?_ ?_ <;> intro w5
 rw [ltn (n := (14 : Int)) w5, J0.eq_2] at aY
 refine qam rfl ?_
 obtain ⟨bK, ba, a8, aY⟩ := ixb aY
 refine RStep.ofN (qae rfl rfl (qcv (fun _ => ⟨_, _, rfl⟩) a8) ba (qaz rfl ba a8) (ro (qb1 (i := ((i5 : Int)).toNat) (o := 0) r0 rfl a8 rfl rfl ?_)))
 refine cb aY fun bV bB aY => cg0 (Ja2 bB :) ?_
 refine cs rfl rfl aY ?_ ?_ <;> intro bX aY
 refine ro (qa3 rfl ?_)
 exact eE (er aY hm)
 refine qan (qjm w5 bl) ?_
 exact eR aY (_, ())
 rw [lto (n := (14 : Int)) w5, J0.eq_1] at aY
 refine cT ?_
 exact eM aY _
 rintro t5 _ rfl j5
 replace hm := elg hm
 exact eE hm

def Jb2 (text : Str) : Nat → Int → Option (Int)
  | 0, _ => none
  | aU + 1, aT =>
    (if decide (aT < (text.length : Int)) then (ix text aT).bind fun aV =>
    some (decide ((aV.toNat : Int) ≠ 10)) else some false).bind fun aW =>
    if aW then
    (chk (InI (aT + 1))).bind fun _ =>
    Jb2 text aU (aT + 1)
    else
    some aT
def JH (text : Str) (n : Nat) : Nat → (List Jf) → Int → Int → Int → Option (Fl ((List Jf) × Err) ((List Jf) × Int × Int × Int))
  | 0, _, _, _, _ => none
  | aX + 1, ac, aV, aU, aT =>
    if decide (aT < (text.length : Int)) then
    (ix text aT).bind fun aY =>
    if decide ((aY.toNat : Int) = 10) then
    (chk (InI (aT + 1))).bind fun _ =>
    (chk (InI (aV + 1))).bind fun _ =>
    JH text n aX ac (aV + 1) (aT + 1) (aT + 1)
    else
    if decide ((aY.toNat : Int) = 32) then
    (chk (InI (aT + 1))).bind fun _ =>
    JH text n aX ac aV aU (aT + 1)
    else
    if decide ((aY.toNat : Int) = 9) then
    (chk (InI (aT + 1))).bind fun _ =>
    JH text n aX ac aV aU (aT + 1)
    else
    if decide ((aY.toNat : Int) = 13) then
    (chk (InI (aT + 1))).bind fun _ =>
    JH text n aX ac aV aU (aT + 1)
    else
    if decide ((aY.toNat : Int) = 35) then
    (Jb2 text n aT).bind fun t3 =>
    JH text n aX ac aV aU t3
    else
    (chk (0 ≤ aT ∧ aT ≤ (text.length : Int) ∧ (text.length : Int) ≤ (text.length : Int))).bind fun _ =>
    (Jap n (subL text aT (text.length : Int))).bind fun aW =>
    if decide (aW.2.1 = 0) then
    some (Fl.ret ([], (some 2)))
    else
    (chk (InI (aT - aU))).bind fun _ =>
    (chk (InI ((aT - aU) + 1))).bind fun _ =>
    (chk (ac.length + [(⟨aW.1, aW.2.2, aV, ((aT - aU) + 1)⟩ : Jf)].length ≤ lim)).bind fun _ =>
    (chk (InI (aT + aW.2.1))).bind fun _ =>
    JH text n aX (ac ++ [(⟨aW.1, aW.2.2, aV, ((aT - aU) + 1)⟩ : Jf)]) aV aU (aT + aW.2.1)
    else
    some (Fl.go (ac, aV, aU, aT))
def JaI (n : Nat) (text : Str) : Option ((List Jf) × Err) :=
  if decide ((text.length : Int) > 4096) then
  some ([], (some 5))
  else
  (JH text n n [] 1 0 0).bind fun s0 => s0.el some fun t0 =>
  (chk (InI ((text.length : Int) - t0.2.2.1))).bind fun _ =>
  (chk (InI (((text.length : Int) - t0.2.2.1) + 1))).bind fun _ =>
  (chk (t0.1.length + ([(⟨5, ([] : Str), t0.2.1, (((text.length : Int) - t0.2.2.1) + 1)⟩ : Jf)]).length ≤ lim)).bind fun _ =>
  some ((t0.1 ++ [(⟨5, ([] : Str), t0.2.1, (((text.length : Int) - t0.2.2.1) + 1)⟩ : Jf)]), none)
theorem JdF {n : Nat} {text : Str} {K : Hp} {r : (List Jf) × Err}
    (hm : JaI n text = some r)  :
    Fn Tryz.prog 96 [str text] K [] (fun v K' H' => ∃ ar_0 : Option Addr, ∃ cr_0 : Nat, v = .tuple #[.slice ar_0 r.1.length cr_0, qc5 48 r.2] ∧ (0 < r.1.length → Has ar_0) ∧ H' = [qau Jf.enc ar_0 166 4 cr_0 r.1]) := by
 refine Fn.enter Tryz.func96 Tryz.call96 rfl fun F => ?_
 unfold JaI at hm
 refine ro (qa3 rfl ?_)
 refine cs rfl rfl hm ?_ ?_ <;> intro bI hm
 refine qat rfl ?_
 refine qci Jf.enc 166 4 ?_
 exact eE hm
 obtain ⟨s0, aT, hm⟩ := bnd hm
 refine qhp Jf.enc 166 4 ?_
 refine lD (σ := ((List Jf) × Int × Int × Int) × Option Addr × Nat) (rg 2 9 ++ rg 15 59) [1] (fun _ => []) (fun (t0, aV, aW) => [(4, .slice aV t0.1.length aW), (5, .int .i64 t0.2.1), (6, .int .i64 t0.2.2.1), (7, .int .i64 t0.2.2.2)]) (fun (t0, aV, aW) => [qau Jf.enc aV 166 4 aW t0.1]) (fun (t0, aV, aW) => (0 < t0.1.length → Has aV) ∧ True) (fun i0 (t0, aV, aW) => JH text n i0 t0.1 t0.2.1 t0.2.2.1 t0.2.2.2 = some s0) (fun (t0, aV, aW) => s0 = Fl.go t0) (fun i0 => i0) n ((_, _, _, _), _, _) aT (And.intro qe (And.intro ?_ ?_))
 clear aT
 rintro i0 ⟨⟨ac, a6, a8, aZ⟩, bj, bh⟩ ⟨bd, _⟩ aT j0
 dsimp only at aT ⊢
 cases i0 with
 | zero => rw [JH.eq_1] at aT; cases aT
 | succ i0 =>
  rw [JH.eq_2] at aT
  refine ro (qa3 rfl ?_)
  refine cs rfl rfl aT ?_ ?_ <;> intro bQ aT
  refine qam rfl ?_
  obtain ⟨bH, br, bw, aT⟩ := ixb aT
  refine qa0 rfl br bw ?_
  refine qam rfl ?_
  refine qag (cs rfl rfl aT ?_ ?_) <;> intro bO aT
  refine ci aT fun aT => ?_
  obtain ⟨bo, aT⟩ := qaw aT
  refine qan bo (cF (cT ?_))
  exact eR aT (_, (_, _, _, _), _, _)
  refine qag (cs rfl rfl aT ?_ ?_) <;> intro bb aT
  refine qac rfl (ct bb ?_)
  obtain ⟨ba, aT⟩ := qaw aT
  refine qan ba (cF (cT ?_))
  exact eR aT (_, (_, _, _, _), _, _)
  refine qag (cs rfl rfl aT ?_ ?_) <;> intro bb aT
  refine qac rfl (ct bb ?_)
  obtain ⟨ba, aT⟩ := qaw aT
  refine qan ba (cF (cT ?_))
  exact eR aT (_, (_, _, _, _), _, _)
  refine qag (cs rfl rfl aT ?_ ?_) <;> intro bb aT
  obtain ⟨ba, aT⟩ := qaw aT
  refine qan ba (cF (cT ?_))
  exact eR aT (_, (_, _, _, _), _, _)
  refine qag (cs rfl rfl aT ?_ ?_) <;> intro bR aT
  obtain ⟨s3, aX, aT⟩ := bnd aT
  refine lD (σ := (Int)) ([7] ++ rg 37 12) [0, 1] (fun _ => []) (fun t3 => [(7, .int .i64 t3)]) (fun _ => []) (fun _ => True) (fun i3 t3 => Jb2 text i3 t3 = some s3) (fun t3 => t3 = s3) (fun i3 => i3) n _ aX (And.intro qe (And.intro ?_ ?_))
  clear aX
  rintro i3 bv _ aX j3
  conv at aX => whnf
  cases i3 with
  | zero => rw [Jb2.eq_1] at aX; cases aX
  | succ i3 =>
   rw [Jb2.eq_2] at aX
   refine qaf rfl ?_
   refine ro (qa3 rfl ?_)
   obtain ⟨bC, aY, aX⟩ := bnd aX
   refine cS aY (fun aU aY => ?_) fun aU aY => ?_
   refine ct aU (ct aU ?_)
   obtain ⟨bL, bt, bz, aY⟩ := ixb aY
   refine qa0 rfl bt bz (ct aU (qa8 (ct aU (qac rfl ?_))))
   refine qah ?_ ?_ <;> intro bg
   replace aX := ift ((si aY).symm.trans bg) aX
   refine qam rfl ?_
   refine ci aX fun aX => ?_
   exact eR aX (_, _)
   replace aX := qbb ((si aY).symm.trans bg) aX
   refine cT ?_
   exact eM aX _
   refine cf aU (cf aU (cf aU (cf aU (qac rfl (cF ?_)))))
   replace aX := qbb (si aY).symm aX
   refine cT ?_
   exact eM aX _
  rintro t3 _ rfl j3
  refine cF (cT ?_)
  exact eR aT (_, (_, _, _, _), _, _)
  obtain ⟨bA, aT⟩ := qaw aT
  refine RStep.ofN (qdx (lo := (some aZ)) (hi := none) rfl bA ?_)
  refine cb aT fun bc bm aT => cg0 (Jej bm :) ?_
  refine qag (cs rfl rfl aT ?_ ?_) <;> intro bG aT
  refine qat rfl ?_
  refine qci Jf.enc 166 4 ?_
  exact eE (er aT hm)
  refine ci aT fun aT => ?_
  obtain ⟨bp, aT⟩ := qaw aT
  refine qan bp (qad rfl rfl (cT (cT (cT (cT ?_)))))
  refine bsO (len := 1) (enc := Jf.enc) (l := [(⟨bc.1, bc.2.2, a6, ((aZ - a8) + 1)⟩ : Jf)]) (cl := [.int .i64 bc.1, str bc.2.2, .int .i64 a6, .int .i64 ((aZ - a8) + 1)]) qkn rfl rfl (fun _ _ => rfl) rfl rfl rfl ?_ fun bN => ?_
  · conv => whnf
    refine cT ?_
    first | done | rfl
  obtain ⟨bl, aT⟩ := qaw aT
  refine apE rfl r1 qkn (qay rfl r0 rfl (fun _ => rfl) (fun _ => rfl)) bl ?_
  intro bF bM bD
  refine ci aT fun aT => ?_
  exact eR aT (_, (_, _, _, _), _, _)
  refine cT ?_
  exact eM aT (_, _, _)
 rintro ⟨t0, aV, aW⟩ ⟨bf, _⟩ rfl j0
 replace hm := elg hm
 refine ro (qa3 rfl ?_)
 refine ci hm fun hm => ?_
 obtain ⟨bn, hm⟩ := qaw hm
 refine qan bn (qad rfl rfl (cT (cT (cT (cT ?_)))))
 refine bsO (len := 1) (enc := Jf.enc) (l := [(⟨5, ([] : Str), t0.2.1, (((text.length : Int) - t0.2.2.1) + 1)⟩ : Jf)]) (cl := [.int .i64 5, str ([] : Str), .int .i64 t0.2.1, .int .i64 (((text.length : Int) - t0.2.2.1) + 1)]) qkn rfl rfl (fun _ _ => rfl) rfl rfl rfl ?_ fun bP => ?_
 · conv => whnf
   refine cT ?_
   first | done | rfl
 obtain ⟨bu, hm⟩ := qaw hm
 refine apE rfl r1 qkn (qay rfl r0 rfl (fun _ => rfl) (fun _ => rfl)) bu ?_
 intro bK bJ bB
 exact eE hm

def Ju (p : Jb) : Option (Bool) :=
  some (decide (p.line = 0))
theorem Jt {p : Jb} {b0 : Nat} {aa : Option Addr} {ab : Nat} {K : Hp} {r : Bool}
    (hm : Ju p = some r) (ae : (0 < p.list.length → Has aa)) :
    Fn Tryz.prog 98 [.pointer (some ⟨b0, 0, none⟩)] K [Cells b0 163 [.slice aa p.list.length ab, .int .i64 p.atZ, .int .i64 p.line], qau Jf.enc aa 166 4 ab p.list] (fun v K' H' => v = .bool r ∧ H' = [Cells b0 163 [.slice aa p.list.length ab, .int .i64 p.atZ, .int .i64 p.line], qau Jf.enc aa 166 4 ab p.list]) := by
 refine Fn.enter Tryz.func98 Tryz.call98 rfl fun F => ?_
 unfold Ju at hm
 refine qaj (fa rfl (ro (ld r0 rfl rfl (qag ?_))))
 exact eE hm

def JQ (p : Jb) : Option (Jf) :=
  (ix p.list p.atZ).bind fun aT =>
  some aT
theorem JP {p : Jb} {b0 : Nat} {aa : Option Addr} {ab : Nat} {K : Hp} {r : Jf}
    (hm : JQ p = some r) (ae : (0 < p.list.length → Has aa)) :
    Fn Tryz.prog 99 [.pointer (some ⟨b0, 0, none⟩)] K [Cells b0 163 [.slice aa p.list.length ab, .int .i64 p.atZ, .int .i64 p.line], qau Jf.enc aa 166 4 ab p.list] (fun v K' H' => v = .agg #[.int .i64 r.Ab, str r.Ac, .int .i64 r.Ad, .int .i64 r.Column] ∧ H' = [Cells b0 163 [.slice aa p.list.length ab, .int .i64 p.atZ, .int .i64 p.line], qau Jf.enc aa 166 4 ab p.list]) := by
 refine Fn.enter Tryz.func99 Tryz.call99 rfl fun F => ?_
 unfold JQ at hm
 refine qai rfl fun b2 => ?_
 refine qa4 ⟨⟨[], true⟩, _, [], []⟩ (by kernel_rfl) ⟨Hp.Le.refl _, (pf rfl), ci0⟩ ?_
 refine qaj (fa rfl ?_)
 refine ld r1 rfl rfl ?_
 refine qaj (fa rfl ?_)
 refine ld r1 rfl rfl ?_
 obtain ⟨aV, aU, aT, hm⟩ := ixb hm
 refine qae rfl rfl (qcv ae aT) aU (qaz rfl aU aT) ?_
 refine qia (i := (p.atZ).toNat) r2 rfl aT rfl rfl ?_
 refine qaa r0 rfl ⟨rfl, rfl, (nl rfl), ?_⟩
 refine qk (pf rfl) ?_
 exact ro (qab r0 rfl (nl rfl) (eE hm))

def JB (p : Jb) (kind : Int) (text : Str) : Option (Bool) :=
  (JQ p).bind fun x9 =>
  some (decide (x9.Ab = kind) && decide (x9.Ac = text))
theorem Jx {p : Jb} {kind : Int} {text : Str} {b0 : Nat} {aa : Option Addr} {ab : Nat} {K : Hp} {r : Bool}
    (hm : JB p kind text = some r) (ae : (0 < p.list.length → Has aa)) :
    Fn Tryz.prog 149 [.pointer (some ⟨b0, 0, none⟩), .int .i64 kind, str text] K [Cells b0 163 [.slice aa p.list.length ab, .int .i64 p.atZ, .int .i64 p.line], qau Jf.enc aa 166 4 ab p.list] (fun v K' H' => v = .bool r ∧ H' = [Cells b0 163 [.slice aa p.list.length ab, .int .i64 p.atZ, .int .i64 p.line], qau Jf.enc aa 166 4 ab p.list]) := by
 refine Fn.enter Tryz.func149 Tryz.call149 rfl fun F => ?_
 unfold JB at hm
 refine cb hm fun x9 q9 hm => cgx (JP q9 :) ?_
 refine qai rfl fun b7 => ?_
 refine qaa r0 rfl ⟨rfl, rfl, (nl rfl), ?_⟩
 refine qaf rfl ?_
 refine fa rfl (ro (ld r0 rfl rfl (qag ?_)))
 refine qah ?_ ?_ <;> intro aT
 refine fa rfl (ct aT (ro (ld r0 rfl rfl (ct aT (ct aT (qaq (ct aT ?_)))))))
 exact bE (qcz (b := decide (x9.Ac = text)) aT) (eE hm)
 refine cf aT (cf aT (cf aT (cf aT ?_)))
 exact bE (((qbe aT)).symm) (eE hm)

def Jaj (p : Jb) : Option (Jb) :=
  if decide (p.line = 0) then
  (JQ p).bind fun x9 =>
  some (⟨p.list, p.atZ, x9.Ad⟩ : Jb)
  else
  some p
theorem Jaq {p : Jb} {b0 : Nat} {aa : Option Addr} {ab : Nat} {K : Hp} {r : Jb}
    (hm : Jaj p = some r) (ae : (0 < p.list.length → Has aa)) :
    Fn Tryz.prog 100 [.pointer (some ⟨b0, 0, none⟩)] K [Cells b0 163 [.slice aa p.list.length ab, .int .i64 p.atZ, .int .i64 p.line], qau Jf.enc aa 166 4 ab p.list] (fun v K' H' => ∃ ar_0 : Option Addr, ∃ cr_0 : Nat, v = .tuple #[] ∧ (0 < r.list.length → Has ar_0) ∧ H' = [Cells b0 163 [.slice ar_0 r.list.length cr_0, .int .i64 r.atZ, .int .i64 r.line], qau Jf.enc ar_0 166 4 cr_0 r.list]) := by
 refine Fn.enter Tryz.func100 Tryz.call100 rfl fun F => ?_
 unfold Jaj at hm
 refine qaj (fa rfl (ro (ld r0 rfl rfl (qag ?_))))
 refine cs rfl rfl hm ?_ ?_ <;> intro w6 hm
 refine cb hm fun x9 q9 hm => cgx (JP q9 :) ?_
 refine Jdu rfl rfl rfl rfl ?_
 refine qaj (fa rfl ?_)
 refine qaa r0 rfl ⟨rfl, rfl, (nl rfl), ?_⟩
 exact eE hm
 exact eE hm

def Jq (p : Jb) : Option (Jf × Jb) :=
  (JQ p).bind fun x5 =>
  (chk (InI ((p.list.length : Int) - 1))).bind fun _ =>
  if decide (p.atZ < ((p.list.length : Int) - 1)) then
  (chk (InI (p.atZ + 1))).bind fun _ =>
  some (x5, (⟨p.list, (p.atZ + 1), p.line⟩ : Jb))
  else
  some (x5, p)
theorem Jn {p : Jb} {b0 : Nat} {aa : Option Addr} {ab : Nat} {K : Hp} {r : Jf × Jb}
    (hm : Jq p = some r) (ae : (0 < p.list.length → Has aa)) :
    Fn Tryz.prog 206 [.pointer (some ⟨b0, 0, none⟩)] K [Cells b0 163 [.slice aa p.list.length ab, .int .i64 p.atZ, .int .i64 p.line], qau Jf.enc aa 166 4 ab p.list] (fun v K' H' => ∃ ar_0 : Option Addr, ∃ cr_0 : Nat, v = .agg #[.int .i64 r.1.Ab, str r.1.Ac, .int .i64 r.1.Ad, .int .i64 r.1.Column] ∧ (0 < r.2.list.length → Has ar_0) ∧ H' = [Cells b0 163 [.slice ar_0 r.2.list.length cr_0, .int .i64 r.2.atZ, .int .i64 r.2.line], qau Jf.enc ar_0 166 4 cr_0 r.2.list]) := by
 refine Fn.enter Tryz.func206 Tryz.call206 rfl fun F => ?_
 unfold Jq at hm
 refine qai rfl fun b2 => ?_
 refine cb hm fun x5 q5 hm => cgx (JP q5 :) ?_
 refine qai rfl fun b3 => ?_
 refine qaa r0 rfl ⟨rfl, rfl, (nl rfl), ?_⟩
 refine qa4 ⟨⟨[], false⟩, _, [(_, _)], []⟩ (by kernel_rfl) ⟨Hp.Le.refl _, (sc [1] rfl), ci0⟩ ?_
 refine qaj (fa rfl (qap m0 rfl rfl (qaj (fa rfl (qap m0 rfl rfl (qce rfl ?_))))))
 refine ci hm fun hm => ?_
 refine cs rfl rfl hm ?_ ?_ <;> intro aU hm
 refine qaj (fa rfl (ro (ld r1 rfl rfl ?_)))
 obtain ⟨aT, hm⟩ := qaw hm
 refine qan aT (qaj (fa rfl ?_))
 refine qaa r1 rfl ⟨rfl, rfl, (nl rfl), ?_⟩
 refine ro (qab r1 rfl (nl rfl) ?_)
 refine qaa r3 rfl ⟨rfl, rfl, (nl rfl), ?_⟩
 exact ro (qab r0 rfl (nl rfl) (eE hm))
 refine ro (qab r0 rfl (nl rfl) ?_)
 refine qaa r3 rfl ⟨rfl, rfl, (nl rfl), ?_⟩
 exact ro (qab r0 rfl (nl rfl) (eE hm))

def Jaf (v' : Str) : List Str → Nat → Option (Fl (Int) (Unit))
  | [], _ => some (Fl.go ())
  | e0 :: aT, i0 =>
    if decide (v' = e0) then
    some (Fl.ret (i0 : Int))
    else
    Jaf v' aT (i0 + 1)
def JbU (s : (List Str)) (v' : Str) : Option (Int) :=
  (chk (s.length ≤ qa7)).bind fun _ =>
  (Jaf v' s 0).bind fun s0 => s0.el some fun t0 =>
  some (-1)
theorem JdI {s : (List Str)} {v' : Str} {aa : Option Addr} {ab : Nat} {n0 : Nat} {K : Hp} {r : Int}
    (hm : JbU s v' = some r) (hX : RdC eS K aa ab 1 s ∧ n0 = s.length) :
    Fn Tryz.prog 88 [.slice aa n0 ab, str v'] K [] (fun v K' H' => v = .int .i64 r ∧ H' = []) := by
 obtain ⟨ae, aV⟩ := hX
 subst aV
 refine Fn.enter Tryz.func88 Tryz.call88 rfl fun F => ?_
 unfold JbU at hm
 refine ro (qal rfl ?_)
 obtain ⟨aW, hm⟩ := qaw hm
 obtain ⟨s0, aT, hm⟩ := bnd hm
 refine lD (σ := (Unit)) ([4,5] ++ rg 8 11) [0] (fun i0 => [(8, .int .i64 (i0 : Int))]) (fun _ => []) (fun _ => []) (fun _ => True) (fun i0 _ => Jaf v' (s.drop i0) i0 = some s0) (fun t0 => s0 = Fl.go t0) (fun i0 => s.length - i0) 0 () aT (And.intro qe (And.intro ?_ ?_))
 clear aT
 rintro i0 _ _ aT j0
 conv at aT => whnf
 refine qac rfl ?_
 refine qah ?_ ?_ <;> intro w0
 obtain ⟨e0, aU, aX⟩ := ltx w0
 rw [aX, Jaf.eq_2] at aT
 refine qam rfl ?_
 refine RStep.ofN (qae rfl rfl (qf3 ae.rd aU) (nn _) (qbs aU) (ro (qcw i0 0 _ _ ae.rd rfl (mp aU) rfl rfl (qaq ?_))))
 refine cs rfl rfl aT ?_ ?_ <;> intro aY aT
 exact eE (er aT hm)
 refine qan (qbu aU aW) ?_
 exact eR aT (_, ())
 rw [lty w0, Jaf.eq_1] at aT
 refine cT ?_
 exact eM aT _
 rintro t0 _ rfl j0
 replace hm := elg hm
 exact eE hm

def JD (s : (List Str)) (v' : Str) : Option (Bool) :=
  (JbU s v').bind fun x7 =>
  some (decide (x7 ≥ 0))
theorem JT {s : (List Str)} {v' : Str} {aa : Option Addr} {ab : Nat} {n0 : Nat} {K : Hp} {r : Bool}
    (hm : JD s v' = some r) (hX : RdC eS K aa ab 1 s ∧ n0 = s.length) :
    Fn Tryz.prog 53 [.slice aa n0 ab, str v'] K [] (fun v K' H' => v = .bool r ∧ H' = []) := by
 obtain ⟨ae, aT⟩ := hX
 subst aT
 refine Fn.enter Tryz.func53 Tryz.call53 rfl fun F => ?_
 unfold JD at hm
 refine cb hm fun x7 q7 hm => cgx (JdI q7 :) ?_
 exact eE hm

def Jcg (s : Str) : Option (Bool) :=
  (JD gkw0 s).bind fun x5 =>
  some x5
theorem JcG {s : Str} {K : Hp} {r : Bool}
    (hm : Jcg s = some r) (hG : GG K) :
    Fn Tryz.prog 208 [str s] K [] (fun v K' H' => v = .bool r ∧ H' = []) := by
 obtain ⟨aW, aX, aU, gn_, aT, aV⟩ := gg5 hG
 subst gn_
 refine Fn.enter Tryz.func208 Tryz.call208 rfl fun F => ?_
 unfold Jcg at hm
 refine ro (qkz aT rfl ?_)
 refine cb hm fun x5 q5 hm => cgx (JT q5 :) ?_
 exact eE hm

def JM (p : Jb) (text : Str) : Option (Jb) :=
  (JB p 4 text).bind fun x6 =>
  if (!x6) then
  (Jaj p).bind fun x9 =>
  some x9
  else
  (Jq p).bind fun aT =>
  some aT.2
theorem JK {p : Jb} {text : Str} {b0 : Nat} {aa : Option Addr} {ab : Nat} {K : Hp} {r : Jb}
    (hm : JM p text = some r) (ae : (0 < p.list.length → Has aa)) :
    Fn Tryz.prog 211 [.pointer (some ⟨b0, 0, none⟩), str text] K [Cells b0 163 [.slice aa p.list.length ab, .int .i64 p.atZ, .int .i64 p.line], qau Jf.enc aa 166 4 ab p.list] (fun v K' H' => ∃ ar_0 : Option Addr, ∃ cr_0 : Nat, v = .tuple #[] ∧ (0 < r.list.length → Has ar_0) ∧ H' = [Cells b0 163 [.slice ar_0 r.list.length cr_0, .int .i64 r.atZ, .int .i64 r.line], qau Jf.enc ar_0 166 4 cr_0 r.list]) := by
 refine Fn.enter Tryz.func211 Tryz.call211 rfl fun F => ?_
 unfold JM at hm
 refine cb hm fun x6 q6 hm => cgx (Jx q6 :) ?_
 refine qax ?_
 refine cs rfl rfl hm ?_ ?_ <;> intro w7 hm
 refine cb hm fun x9 q9 hm => ckx (Jaq q9 :) ?_
 rintro _ _ _ ⟨aY, aW, rfl, aZ, rfl⟩
 exact eE hm
 refine cb hm fun a6 aX hm => ckx (Jn aX :) ?_
 rintro _ _ _ ⟨aT, aV, rfl, aU, rfl⟩
 exact eE hm

def Jbf (kind : Int) (text : Str) (a : Ja) (b : Ja) : Option (Ja) :=
  some (⟨kind, text, [a, b], a.Ad⟩ : Ja)
theorem Jbj {kind : Int} {text : Str} {a : Ja} {b : Ja} {aq : Option Addr} {ar : Nat} {aD : Option Addr} {aE : Nat} {K : Hp} {r : Ja}
    (hm : Jbf kind text a b = some r) (hX : LiC Ja.R K aq ar 4 a.Aa ∧ LiC Ja.R K aD aE 4 b.Aa) :
    Fn Tryz.prog 254 [.int .i64 kind, str text, .agg #[.int .i64 a.Ab, str a.Ac, .slice aq a.Aa.length ar, .int .i64 a.Ad], .agg #[.int .i64 b.Ab, str b.Ac, .slice aD b.Aa.length aE, .int .i64 b.Ad]] K [] (fun v K' H' => ∃ ar_0 : Option Addr, ∃ cr_0 : Nat, ∃ sr_0 : List (List Value), v = .agg #[.int .i64 r.Ab, str r.Ac, .slice ar_0 r.Aa.length cr_0, .int .i64 r.Ad] ∧ (0 < r.Aa.length → Has ar_0) ∧ LR Ja.R K' sr_0 r.Aa ∧ H' = [OwnA ar_0 117 4 cr_0 sr_0]) := by
 obtain ⟨aU, aT⟩ := hX
 refine Fn.enter Tryz.func254 Tryz.call254 rfl fun F => ?_
 unfold Jbf at hm
 refine qas ?_
 intro b6
 refine qas ?_
 intro b7
 refine qai rfl fun b8 => ?_
 refine fa rfl (ro (ld r2 rfl rfl (ro (qab r2 rfl (nl rfl) (ro (qab r1 rfl (nl rfl) ?_))))))
 refine qj2 (R := Ja.R) (len := 2) (l := [a, b]) (css := [[.int .i64 a.Ab, str a.Ac, .slice aq a.Aa.length ar, .int .i64 a.Ad], [.int .i64 b.Ab, str b.Ac, .slice aD b.Aa.length aE, .int .i64 b.Ad]]) (cl := [.int .i64 a.Ab, str a.Ac, .slice aq a.Aa.length ar, .int .i64 a.Ad, .int .i64 b.Ab, str b.Ac, .slice aD b.Aa.length aE, .int .i64 b.Ad]) Ja.R_ok qbz rfl rfl (LR.snoc (LR.snoc LR.nil (Ja.of (x := a) ⟨aq, ar, rfl, aU⟩)) (Ja.of (x := b) ⟨aD, aE, rfl, aT⟩)) rfl rfl rfl ?_ fun aV => ?_
 · conv => whnf
   refine cT (cT ?_)
   first | done | rfl
 refine qad rfl rfl (cT (cT (cT (cT ?_))))
 refine qaa r1 rfl ⟨rfl, rfl, (nl rfl), ?_⟩
 obtain rfl := si hm
 exact ro (qab r0 rfl (nl rfl) (en lr ⟨(some ⟨aV, 0, none⟩), 2, ([[.int .i64 a.Ab, str a.Ac, .slice aq a.Aa.length ar, .int .i64 a.Ad], [.int .i64 b.Ab, str b.Ac, .slice aD b.Aa.length aE, .int .i64 b.Ad]]), rfl, (fun _ => ⟨_, _, rfl⟩), (show LR Ja.R _ [[.int .i64 a.Ab, str a.Ac, .slice aq a.Aa.length ar, .int .i64 a.Ad], [.int .i64 b.Ab, str b.Ac, .slice aD b.Aa.length aE, .int .i64 b.Ad]] [a, b] from (LR.snoc (LR.snoc LR.nil (Ja.of (x := a) ⟨aq, ar, rfl, aU⟩)) (Ja.of (x := b) ⟨aD, aE, rfl, aT⟩))), rfl⟩ (sc [1,3] rfl)))

def JbN (kind : Int) (text : Str) : Option (Bool) :=
  if decide (text = ([61, 61] : Str)) then
  some (decide (kind = 4))
  else
  if decide (text = ([33, 61] : Str)) then
  some (decide (kind = 4))
  else
  if decide (text = ([60] : Str)) then
  some (decide (kind = 4))
  else
  if decide (text = ([60, 61] : Str)) then
  some (decide (kind = 4))
  else
  if decide (text = ([115, 116, 97, 114, 116, 115] : Str)) then
  some (decide (kind = 1))
  else
  if decide (text = ([101, 110, 100, 115] : Str)) then
  some (decide (kind = 1))
  else
  if decide (text = ([99, 111, 110, 116, 97, 105, 110, 115] : Str)) then
  some (decide (kind = 1))
  else
  some false
theorem Jcq {kind : Int} {text : Str} {K : Hp} {r : Bool}
    (hm : JbN kind text = some r)  :
    Fn Tryz.prog 257 [.int .i64 kind, str text] K [] (fun v K' H' => v = .bool r ∧ H' = []) := by
 refine Fn.enter Tryz.func257 Tryz.call257 rfl fun F => ?_
 unfold JbN at hm
 refine qam rfl ?_
 refine qaq (cs rfl rfl hm ?_ ?_) <;> intro w6 hm
 refine qac rfl (ct w6 (qag ?_))
 exact eE hm
 refine qaq (cs rfl rfl hm ?_ ?_) <;> intro w6 hm
 refine qac rfl (ct w6 (qag ?_))
 exact eE hm
 refine qaq (cs rfl rfl hm ?_ ?_) <;> intro w6 hm
 refine qac rfl (ct w6 (qag ?_))
 exact eE hm
 refine qaq (cs rfl rfl hm ?_ ?_) <;> intro w6 hm
 refine qag ?_
 exact eE hm
 refine qaq (cs rfl rfl hm ?_ ?_) <;> intro aT hm
 refine qac rfl (ct aT (qag ?_))
 exact eE hm
 refine qaq (cs rfl rfl hm ?_ ?_) <;> intro aT hm
 refine qac rfl (ct aT (qag ?_))
 exact eE hm
 refine qaq (cs rfl rfl hm ?_ ?_) <;> intro aT hm
 refine qag ?_
 exact eE hm
 exact eE hm

def Jav (aj : (Jb → Option (Ja × Jb))) : Nat → (List Ja) → Jb → Option ((List Ja) × Jb)
  | 0, _, _ => none
  | aV + 1, ac, aT =>
    (Ju aT).bind fun x9 =>
    if x9 then
    (aj aT).bind fun al =>
    (chk (ac.length + [al.1].length ≤ lim)).bind fun _ =>
    (Ju al.2).bind fun aX =>
    if (!aX) then
    some ((ac ++ [al.1]), al.2)
    else
    (JB al.2 4 ([44] : Str)).bind fun aW =>
    if aW then
    (Jq al.2).bind fun aY =>
    Jav aj aV (ac ++ [al.1]) aY.2
    else
    (JM al.2 ([41] : Str)).bind fun aU =>
    some ((ac ++ [al.1]), aU)
    else
    some (ac, aT)
def JbE (aj : (Jb → Option (Ja × Jb))) (n : Nat) (p : Jb) : Option ((List Ja) × Jb) :=
  (JB p 4 ([41] : Str)).bind fun x5 =>
  if x5 then
  (Jq p).bind fun x7 =>
  some ([], x7.2)
  else
  (Jav aj n [] p).bind fun t0 =>
  some (t0.1, t0.2)
theorem Jde {aj : (Jb → Option (Ja × Jb))} (ihrec0_0 : ∀ {p : Jb} {b0 : Nat} {aa : Option Addr} {ab : Nat} {K : Hp} {r : Ja × Jb} (hm : aj p = some r) (hX : (0 < p.list.length → Has aa) ∧ GG K), Fn Tryz.prog 236 [.pointer (some ⟨b0, 0, none⟩)] K [Cells b0 163 [.slice aa p.list.length ab, .int .i64 p.atZ, .int .i64 p.line], qau Jf.enc aa 166 4 ab p.list] (fun v K' H' => ∃ ar_0 : Option Addr, ∃ cr_0 : Nat, ∃ sr_0 : List (List Value), ∃ ar_1 : Option Addr, ∃ cr_1 : Nat, v = .agg #[.int .i64 r.1.Ab, str r.1.Ac, .slice ar_0 r.1.Aa.length cr_0, .int .i64 r.1.Ad] ∧ (0 < r.1.Aa.length → Has ar_0) ∧ LR Ja.R K' sr_0 r.1.Aa ∧ (0 < r.2.list.length → Has ar_1) ∧ H' = [OwnA ar_0 117 4 cr_0 sr_0, Cells b0 163 [.slice ar_1 r.2.list.length cr_1, .int .i64 r.2.atZ, .int .i64 r.2.line], qau Jf.enc ar_1 166 4 cr_1 r.2.list])) {n : Nat} {p : Jb} {b0 : Nat} {aa : Option Addr} {ab : Nat} {K : Hp} {r : (List Ja) × Jb}
    (hm : JbE aj n p = some r) (hX : (0 < p.list.length → Has aa) ∧ GG K) :
    Fn Tryz.prog 276 [.pointer (some ⟨b0, 0, none⟩)] K [Cells b0 163 [.slice aa p.list.length ab, .int .i64 p.atZ, .int .i64 p.line], qau Jf.enc aa 166 4 ab p.list] (fun v K' H' => ∃ ar_0 : Option Addr, ∃ cr_0 : Nat, ∃ sr_0 : List (List Value), ∃ ar_1 : Option Addr, ∃ cr_1 : Nat, v = .slice ar_0 r.1.length cr_0 ∧ (0 < r.1.length → Has ar_0) ∧ LR Ja.R K' sr_0 r.1 ∧ (0 < r.2.list.length → Has ar_1) ∧ H' = [OwnA ar_0 117 4 cr_0 sr_0, Cells b0 163 [.slice ar_1 r.2.list.length cr_1, .int .i64 r.2.atZ, .int .i64 r.2.line], qau Jf.enc ar_1 166 4 cr_1 r.2.list]) := by
 obtain ⟨ae, hG⟩ := hX
 refine Fn.enter Tryz.func276 Tryz.call276 rfl fun F => ?_
 unfold JbE at hm
 refine cb hm fun x5 q5 hm => cgx (Jx q5 :) ?_
 refine cs rfl rfl hm ?_ ?_ <;> intro w5 hm
 refine cb hm fun x7 q7 hm => ckx (Jn q7 :) ?_
 rintro _ _ _ ⟨bR, bM, rfl, bQ, rfl⟩
 refine qci (fun _ : Ja => []) 117 4 ?_
 exact eE hm
 obtain ⟨s0, aV, hm⟩ := bnd hm
 refine qhp (fun _ : Ja => []) 117 4 ?_
 refine lC (σ := ((List Ja) × Jb) × Option Addr × Nat × List (List Value) × Option Addr × Nat) ([3] ++ rg 8 16) [3] (fun _ => []) (fun (t0, aW, a8, aX, aT, aU) => [(3, .slice aW t0.1.length a8)]) (fun (t0, aW, a8, aX, aT, aU) => [OwnA aW 117 4 a8 aX, Cells b0 163 [.slice aT t0.2.list.length aU, .int .i64 t0.2.atZ, .int .i64 t0.2.line], qau Jf.enc aT 166 4 aU t0.2.list]) (fun zz K1 => match zz with | (t0, aW, a8, aX, aT, aU) => LR Ja.R K1 aX t0.1 ∧ (0 < t0.1.length → Has aW) ∧ (0 < t0.2.list.length → Has aT)) (fun i0 (t0, aW, a8, aX, aT, aU) => Jav aj i0 t0.1 t0.2 = some s0) (fun (t0, aW, a8, aX, aT, aU) => t0 = s0) (fun i0 => i0) n ((_, _), _, _, _, _, _) aV (And.intro qe (And.intro ?_ ?_))
 clear aV
 rintro i0 ⟨⟨ac, bI⟩, bu, bp, bD, bh, bj⟩ bX cn ⟨bb, bl, bf⟩ aV j0
 dsimp only at aV ⊢
 cases i0 with
 | zero => rw [Jav.eq_1] at aV; cases aV
 | succ i0 =>
  rw [Jav.eq_2] at aV
  refine cb aV fun x9 q9 aV => cgx (Jt q9 :) ?_
  refine cs rfl rfl aV ?_ ?_ <;> intro w9 aV
  refine qam rfl ?_
  refine cb aV fun al bJ aV => cfx (ihrec0_0 bJ :) ?_
  rintro _ bT _ bP ⟨aZ, aY, bB, bm, br, rfl, bn, bc, bG, rfl⟩
  refine qlh Ja.R_ok r0 bc fun bd ba a6 => ?_
  refine qj2 (R := Ja.R) (len := 1) (l := [al.1]) (css := [[.int .i64 al.1.Ab, str al.1.Ac, .slice aZ al.1.Aa.length aY, .int .i64 al.1.Ad]]) (cl := [.int .i64 al.1.Ab, str al.1.Ac, .slice aZ al.1.Aa.length aY, .int .i64 al.1.Ad]) Ja.R_ok qbz rfl rfl (LR.snoc LR.nil (Ja.of (x := al.1) ⟨aZ, aY, rfl, a6⟩)) rfl rfl rfl ?_ fun bU => ?_
  · conv => whnf
    refine cT ?_
    first | done | rfl
  obtain ⟨bH, aV⟩ := qaw aV
  refine qp5 r3 (LR.mono Ja.R_ok (bP.trans ba) bb) rfl qbz (qdd rfl r0 rfl Ja.R_ok (show LR Ja.R _ [[.int .i64 al.1.Ab, str al.1.Ac, .slice aZ al.1.Aa.length aY, .int .i64 al.1.Ad]] [al.1] from (LR.snoc LR.nil (Ja.of (x := al.1) ⟨aZ, aY, rfl, a6⟩)))) (show LR Ja.R _ [[.int .i64 al.1.Ab, str al.1.Ac, .slice aZ al.1.Aa.length aY, .int .i64 al.1.Ad]] [al.1] from (LR.snoc LR.nil (Ja.of (x := al.1) ⟨aZ, aY, rfl, a6⟩))) bH ?_
  intro bW bV cm r_14 ce
  refine cb aV fun co bO aV => cgx (Jt bO :) ?_
  refine qax ?_
  refine cs rfl rfl aV ?_ ?_ <;> intro cj aV
  refine cF (cT ?_)
  exact eM aV (_, _, _, _, _, _)
  refine cb aV fun cd bK aV => cgx (Jx bK :) ?_
  refine cs rfl rfl aV ?_ ?_ <;> intro cp aV
  refine cb aV fun bY bL aV => ckx (Jn bL :) ?_
  rintro _ _ _ ⟨bA, bF, rfl, bv, rfl⟩
  refine cT ?_
  exact eR aV (_, (_, _), _, _, _, _, _)
  refine cb aV fun bZ bN aV => ckx (JK bN :) ?_
  rintro _ _ _ ⟨bt, bo, rfl, bC, rfl⟩
  refine cF (cT ?_)
  exact eM aV (_, _, _, _, _, _)
  refine cT ?_
  exact eM aV (_, _, _, _, _, _)
 rintro ⟨t0, aW, a8, aX, aT, aU⟩ ca bS ⟨bz, bw, bg⟩ rfl j0
 exact eE hm

def JbJ (aj : (Jb → Option (Ja × Jb))) (n : Nat) (p : Jb) : Option (Ja × Jb) :=
  (JQ p).bind fun x6 =>
  if decide (x6.Ab = 2) then
  (Jq p).bind fun a6 =>
  some ((⟨20, x6.Ac, [], x6.Ad⟩ : Ja), a6.2)
  else
  if decide (x6.Ab = 3) then
  (Jq p).bind fun bf =>
  some ((⟨21, x6.Ac, [], x6.Ad⟩ : Ja), bf.2)
  else
  (JB p 1 ([116, 114, 117, 101] : Str)).bind fun bb =>
  if bb then
  (Jq p).bind fun aV =>
  some ((⟨22, x6.Ac, [], x6.Ad⟩ : Ja), aV.2)
  else
  (JB p 1 ([102, 97, 108, 115, 101] : Str)).bind fun ba =>
  if ba then
  (Jq p).bind fun aV =>
  some ((⟨22, x6.Ac, [], x6.Ad⟩ : Ja), aV.2)
  else
  (if decide (x6.Ab = 1) then (Jcg x6.Ac).bind fun bj =>
  some (!bj) else some false).bind fun aW =>
  if aW then
  (Jq p).bind fun aU =>
  (JB aU.2 4 ([40] : Str)).bind fun bc =>
  if bc then
  (Jq aU.2).bind fun aZ =>
  (JbE aj n aZ.2).bind fun aX =>
  some ((⟨24, x6.Ac, aX.1, x6.Ad⟩ : Ja), aX.2)
  else
  some ((⟨23, x6.Ac, [], x6.Ad⟩ : Ja), aU.2)
  else
  (JB p 4 ([40] : Str)).bind fun bd =>
  if bd then
  (Jq p).bind fun bg =>
  (aj bg.2).bind fun aT =>
  (Ju aT.2).bind fun aY =>
  if aY then
  (JM aT.2 ([41] : Str)).bind fun a8 =>
  some (aT.1, a8)
  else
  some (aT.1, aT.2)
  else
  (Jaj p).bind fun bh =>
  some ((⟨0, x6.Ac, [], x6.Ad⟩ : Ja), bh)
theorem JcH {aj : (Jb → Option (Ja × Jb))} (ihrec0_0 : ∀ {p : Jb} {b0 : Nat} {aa : Option Addr} {ab : Nat} {K : Hp} {r : Ja × Jb} (hm : aj p = some r) (hX : (0 < p.list.length → Has aa) ∧ GG K), Fn Tryz.prog 236 [.pointer (some ⟨b0, 0, none⟩)] K [Cells b0 163 [.slice aa p.list.length ab, .int .i64 p.atZ, .int .i64 p.line], qau Jf.enc aa 166 4 ab p.list] (fun v K' H' => ∃ ar_0 : Option Addr, ∃ cr_0 : Nat, ∃ sr_0 : List (List Value), ∃ ar_1 : Option Addr, ∃ cr_1 : Nat, v = .agg #[.int .i64 r.1.Ab, str r.1.Ac, .slice ar_0 r.1.Aa.length cr_0, .int .i64 r.1.Ad] ∧ (0 < r.1.Aa.length → Has ar_0) ∧ LR Ja.R K' sr_0 r.1.Aa ∧ (0 < r.2.list.length → Has ar_1) ∧ H' = [OwnA ar_0 117 4 cr_0 sr_0, Cells b0 163 [.slice ar_1 r.2.list.length cr_1, .int .i64 r.2.atZ, .int .i64 r.2.line], qau Jf.enc ar_1 166 4 cr_1 r.2.list])) {n : Nat} {p : Jb} {b0 : Nat} {aa : Option Addr} {ab : Nat} {K : Hp} {r : Ja × Jb}
    (hm : JbJ aj n p = some r) (hX : (0 < p.list.length → Has aa) ∧ GG K) :
    Fn Tryz.prog 275 [.pointer (some ⟨b0, 0, none⟩)] K [Cells b0 163 [.slice aa p.list.length ab, .int .i64 p.atZ, .int .i64 p.line], qau Jf.enc aa 166 4 ab p.list] (fun v K' H' => ∃ ar_0 : Option Addr, ∃ cr_0 : Nat, ∃ sr_0 : List (List Value), ∃ ar_1 : Option Addr, ∃ cr_1 : Nat, v = .agg #[.int .i64 r.1.Ab, str r.1.Ac, .slice ar_0 r.1.Aa.length cr_0, .int .i64 r.1.Ad] ∧ (0 < r.1.Aa.length → Has ar_0) ∧ LR Ja.R K' sr_0 r.1.Aa ∧ (0 < r.2.list.length → Has ar_1) ∧ H' = [OwnA ar_0 117 4 cr_0 sr_0, Cells b0 163 [.slice ar_1 r.2.list.length cr_1, .int .i64 r.2.atZ, .int .i64 r.2.line], qau Jf.enc ar_1 166 4 cr_1 r.2.list]) := by
 obtain ⟨ae, hG⟩ := hX
 refine Fn.enter Tryz.func275 Tryz.call275 rfl fun F => ?_
 unfold JbJ at hm
 refine qai rfl fun b2 => ?_
 refine cb hm fun x6 q6 hm => cgx (JP q6 :) ?_
 refine qai rfl fun b3 => ?_
 refine qaa r0 rfl ⟨rfl, rfl, (nl rfl), ?_⟩
 refine fa rfl (ro (ld r0 rfl rfl (fa rfl (ro (ld r0 rfl rfl (qad rfl rfl (cT (cT ?_))))))))
 refine qai rfl fun b4 => ?_
 refine qaa r0 rfl ⟨rfl, rfl, (nl rfl), ?_⟩
 refine qam rfl ?_
 refine fa rfl (ro (ld r1 rfl rfl (qag ?_)))
 refine cs rfl rfl hm ?_ ?_ <;> intro cB hm
 refine fa rfl ?_
 refine qaa r0 rfl ⟨rfl, rfl, (nl rfl), ?_⟩
 refine cb hm fun cK bW hm => ckx (Jn bW :) ?_
 rintro _ _ _ ⟨bv, bH, rfl, bM, rfl⟩
 refine ro (qab r2 rfl (nl rfl) ?_)
 refine qaa r4 rfl ⟨rfl, rfl, (nl rfl), ?_⟩
 refine ro (qab r0 rfl (nl rfl) ?_)
 refine qci (fun _ : Ja => []) 117 4 ?_
 exact eE hm
 refine fa rfl (ro (ld r1 rfl rfl (qag ?_)))
 refine cs rfl rfl hm ?_ ?_ <;> intro cA hm
 refine fa rfl ?_
 refine qaa r0 rfl ⟨rfl, rfl, (nl rfl), ?_⟩
 refine cb hm fun cE cq hm => ckx (Jn cq :) ?_
 rintro _ _ _ ⟨bn, bp, rfl, bK, rfl⟩
 refine ro (qab r2 rfl (nl rfl) ?_)
 refine qaa r4 rfl ⟨rfl, rfl, (nl rfl), ?_⟩
 refine ro (qab r0 rfl (nl rfl) ?_)
 refine qci (fun _ : Ja => []) 117 4 ?_
 exact eE hm
 refine cb hm fun cN ca hm => cgx (Jx ca :) ?_
 refine cs rfl rfl hm ?_ ?_ <;> intro bu hm
 refine qac rfl (ct bu (fa rfl ?_))
 refine qaa r2 rfl ⟨rfl, rfl, (nl rfl), ?_⟩
 refine cb hm fun cd a6 hm => ckx (Jn a6 :) ?_
 rintro _ _ _ ⟨aZ, aY, rfl, aX, rfl⟩
 refine ro (qab r2 rfl (nl rfl) ?_)
 refine qaa r4 rfl ⟨rfl, rfl, (nl rfl), ?_⟩
 refine ro (qab r0 rfl (nl rfl) ?_)
 refine qci (fun _ : Ja => []) 117 4 ?_
 exact eE hm
 refine cb hm fun cV cm hm => cgx (Jx cm :) ?_
 refine cs rfl rfl hm ?_ ?_ <;> intro bu hm
 refine fa rfl ?_
 refine qaa r2 rfl ⟨rfl, rfl, (nl rfl), ?_⟩
 refine cb hm fun cd a6 hm => ckx (Jn a6 :) ?_
 rintro _ _ _ ⟨aZ, aY, rfl, aX, rfl⟩
 refine ro (qab r2 rfl (nl rfl) ?_)
 refine qaa r4 rfl ⟨rfl, rfl, (nl rfl), ?_⟩
 refine ro (qab r0 rfl (nl rfl) ?_)
 refine qci (fun _ : Ja => []) 117 4 ?_
 exact eE hm
 obtain ⟨a8, aU, hm⟩ := bnd hm
 refine jR (σ := Bool) (rg 36 10) (fun aV => [(36, .bool aV)]) (fun aV => aV = a8) ?_ ?_
 replace aU := bsm aU
 refine qaf rfl ?_
 refine fa rfl (ro (ld r3 rfl rfl (qag ?_)))
 obtain ⟨cI, aW, aU⟩ := bnd aU
 refine cS aW (fun aT aW => ?_) fun aT aW => ?_
 refine fa rfl (ct aT (ro (ld r3 rfl rfl (ct aT ?_))))
 refine cb aW fun cW co aW => cgx (JcG co :) ?_
 refine ct aT (qax (ct aT ?_))
 exact eMq aU _ ⟨bq (si aW), trivial⟩
 refine cf aT (cf aT (cf aT (cf aT ?_)))
 exact eMq aU _ ⟨bq (si aW), trivial⟩
 rintro aV rfl bZ
 refine cs rfl rfl hm ?_ ?_ <;> intro cR hm
 refine fa rfl ?_
 refine qaa r2 rfl ⟨rfl, rfl, (nl rfl), ?_⟩
 refine cb hm fun cY cp hm => ckx (Jn cp :) ?_
 rintro _ _ _ ⟨bB, bj, rfl, bf, rfl⟩
 refine cb hm fun cD ce hm => cgx (Jx ce :) ?_
 refine cs rfl rfl hm ?_ ?_ <;> intro cH hm
 refine cb hm fun cJ cu hm => ckx (Jn cu :) ?_
 rintro _ _ _ ⟨bc, bd, rfl, bz, rfl⟩
 refine fa rfl ?_
 refine qaa r2 rfl ⟨rfl, rfl, (nl rfl), ?_⟩
 refine cb hm fun cO bX hm => cfx (Jde ihrec0_0 bX :) ?_
 rintro _ cG _ cz ⟨bL, bh, bb, bA, bF, rfl, bG, bI, bw, rfl⟩
 refine fa rfl ?_
 refine qaa r3 rfl ⟨rfl, rfl, (nl rfl), ?_⟩
 refine ro (qab r0 rfl (nl rfl) ?_)
 refine qaa r5 rfl ⟨rfl, rfl, (nl rfl), ?_⟩
 exact ro (qab r0 rfl (nl rfl) (eE hm))
 refine ro (qab r2 rfl (nl rfl) ?_)
 refine qaa r4 rfl ⟨rfl, rfl, (nl rfl), ?_⟩
 refine ro (qab r0 rfl (nl rfl) ?_)
 refine qci (fun _ : Ja => []) 117 4 ?_
 exact eE hm
 refine cb hm fun cy bV hm => cgx (Jx bV :) ?_
 refine cs rfl rfl hm ?_ ?_ <;> intro cL hm
 refine cb hm fun cP cr hm => ckx (Jn cr :) ?_
 rintro _ _ _ ⟨br, bg, rfl, bm, rfl⟩
 refine cb hm fun cw cn hm => cfx (ihrec0_0 cn :) ?_
 rintro _ cZ _ cX ⟨bt, ba, bT, bN, bC, rfl, bo, bl, bQ, rfl⟩
 refine qaa r3 rfl ⟨rfl, rfl, (nl rfl), ?_⟩
 refine cb hm fun cQ cj hm => cgx (Jt cj :) ?_
 refine cs rfl rfl hm ?_ ?_ <;> intro cM hm
 refine cb hm fun cU bU hm => ckx (JK bU :) ?_
 rintro _ _ _ ⟨bO, bJ, rfl, bD, rfl⟩
 refine ro (qab r2 rfl (nl rfl) ?_)
 refine qaa r5 rfl ⟨rfl, rfl, (nl rfl), ?_⟩
 exact ro (qab r0 rfl (nl rfl) (eE hm))
 refine ro (qab r2 rfl (nl rfl) ?_)
 refine qaa r5 rfl ⟨rfl, rfl, (nl rfl), ?_⟩
 exact ro (qab r0 rfl (nl rfl) (eE hm))
 refine cb hm fun cC bY hm => ckx (Jaq bY :) ?_
 rintro _ _ _ ⟨bS, bR, rfl, bP, rfl⟩
 refine ro (qab r2 rfl (nl rfl) ?_)
 refine qaa r4 rfl ⟨rfl, rfl, (nl rfl), ?_⟩
 refine ro (qab r0 rfl (nl rfl) ?_)
 refine qci (fun _ : Ja => []) 117 4 ?_
 exact eE hm

def JaT (aj : (Jb → Option (Ja × Jb))) (n : Nat) : Nat → Ja → Jb → Option (Ja × Jb)
  | 0, _, _ => none
  | aW + 1, ac, aT =>
    (Ju aT).bind fun x7 =>
    (if x7 then (JB aT 4 ([42] : Str)).bind fun aV =>
    some aV else some false).bind fun aX =>
    if aX then
    (Jq aT).bind fun aZ =>
    (JbJ aj n aZ.2).bind fun aU =>
    (Jbf 19 ([] : Str) ac aU.1).bind fun aY =>
    JaT aj n aW aY aU.2
    else
    some (ac, aT)
def Jbm (aj : (Jb → Option (Ja × Jb))) (n : Nat) (p : Jb) : Option (Ja × Jb) :=
  (JbJ aj n p).bind fun x5 =>
  (JaT aj n n x5.1 x5.2).bind fun t0 =>
  some (t0.1, t0.2)
theorem JbV {aj : (Jb → Option (Ja × Jb))} (ihrec0_0 : ∀ {p : Jb} {b0 : Nat} {aa : Option Addr} {ab : Nat} {K : Hp} {r : Ja × Jb} (hm : aj p = some r) (hX : (0 < p.list.length → Has aa) ∧ GG K), Fn Tryz.prog 236 [.pointer (some ⟨b0, 0, none⟩)] K [Cells b0 163 [.slice aa p.list.length ab, .int .i64 p.atZ, .int .i64 p.line], qau Jf.enc aa 166 4 ab p.list] (fun v K' H' => ∃ ar_0 : Option Addr, ∃ cr_0 : Nat, ∃ sr_0 : List (List Value), ∃ ar_1 : Option Addr, ∃ cr_1 : Nat, v = .agg #[.int .i64 r.1.Ab, str r.1.Ac, .slice ar_0 r.1.Aa.length cr_0, .int .i64 r.1.Ad] ∧ (0 < r.1.Aa.length → Has ar_0) ∧ LR Ja.R K' sr_0 r.1.Aa ∧ (0 < r.2.list.length → Has ar_1) ∧ H' = [OwnA ar_0 117 4 cr_0 sr_0, Cells b0 163 [.slice ar_1 r.2.list.length cr_1, .int .i64 r.2.atZ, .int .i64 r.2.line], qau Jf.enc ar_1 166 4 cr_1 r.2.list])) {n : Nat} {p : Jb} {b0 : Nat} {aa : Option Addr} {ab : Nat} {K : Hp} {r : Ja × Jb}
    (hm : Jbm aj n p = some r) (hX : (0 < p.list.length → Has aa) ∧ GG K) :
    Fn Tryz.prog 274 [.pointer (some ⟨b0, 0, none⟩)] K [Cells b0 163 [.slice aa p.list.length ab, .int .i64 p.atZ, .int .i64 p.line], qau Jf.enc aa 166 4 ab p.list] (fun v K' H' => ∃ ar_0 : Option Addr, ∃ cr_0 : Nat, ∃ sr_0 : List (List Value), ∃ ar_1 : Option Addr, ∃ cr_1 : Nat, v = .agg #[.int .i64 r.1.Ab, str r.1.Ac, .slice ar_0 r.1.Aa.length cr_0, .int .i64 r.1.Ad] ∧ (0 < r.1.Aa.length → Has ar_0) ∧ LR Ja.R K' sr_0 r.1.Aa ∧ (0 < r.2.list.length → Has ar_1) ∧ H' = [OwnA ar_0 117 4 cr_0 sr_0, Cells b0 163 [.slice ar_1 r.2.list.length cr_1, .int .i64 r.2.atZ, .int .i64 r.2.line], qau Jf.enc ar_1 166 4 cr_1 r.2.list]) := by
 obtain ⟨ae, hG⟩ := hX
 refine Fn.enter Tryz.func274 Tryz.call274 rfl fun F => ?_
 unfold Jbm at hm
 refine qai rfl fun b2 => ?_
 refine cb hm fun x5 q5 hm => cfx (JcH ihrec0_0 q5 :) ?_
 rintro _ K5 _ l5 ⟨bV, bZ, bQ, bX, cd, rfl, ca, bU, bT, rfl⟩
 refine qai rfl fun b3 => ?_
 refine qaa r0 rfl ⟨rfl, rfl, (nl rfl), ?_⟩
 obtain ⟨s0, aY, hm⟩ := bnd hm
 refine lC (σ := (Ja × Jb) × Option Addr × Nat × List (List Value) × Option Addr × Nat) (rg 6 12) [4, 5] (fun _ => []) (fun _ => []) (fun (t0, aU, aV, aW, aT, aX) => [Cells b3 117 [.int .i64 t0.1.Ab, str t0.1.Ac, .slice aU t0.1.Aa.length aV, .int .i64 t0.1.Ad], OwnA aU 117 4 aV aW, Cells b0 163 [.slice aT t0.2.list.length aX, .int .i64 t0.2.atZ, .int .i64 t0.2.line], qau Jf.enc aT 166 4 aX t0.2.list]) (fun zz K1 => match zz with | (t0, aU, aV, aW, aT, aX) => (0 < t0.1.Aa.length → Has aU) ∧ LR Ja.R K1 aW t0.1.Aa ∧ (0 < t0.2.list.length → Has aT)) (fun i0 (t0, aU, aV, aW, aT, aX) => JaT aj n i0 t0.1 t0.2 = some s0) (fun (t0, aU, aV, aW, aT, aX) => t0 = s0) (fun i0 => i0) n ((_, _), _, _, _, _, _) aY (And.intro qe (And.intro ?_ ?_))
 clear aY
 rintro i0 ⟨⟨ac, bP⟩, bo, bm, br, bn, bp⟩ cm cz ⟨bu, a8, bj⟩ aY j0
 dsimp only at aY ⊢
 cases i0 with
 | zero => rw [JaT.eq_1] at aY; cases aY
 | succ i0 =>
  rw [JaT.eq_2] at aY
  refine qaf rfl ?_
  refine cb aY fun x7 q7 aY => cgx (Jt q7 :) ?_
  obtain ⟨cu, ba, aY⟩ := bnd aY
  refine cS ba (fun a6 ba => ?_) fun a6 ba => ?_
  refine ct a6 ?_
  refine cb ba fun cy ce ba => cgx (Jx ce :) ?_
  refine ct a6 (qac rfl ?_)
  refine qah ?_ ?_ <;> intro bw
  replace aY := ift ((si ba).symm.trans bw) aY
  refine qam rfl ?_
  refine cb aY fun co bR aY => ckx (Jn bR :) ?_
  rintro _ _ _ ⟨bO, bN, rfl, bK, rfl⟩
  refine qa2 ⟨⟨[], false⟩, _, [(_, _)], []⟩ 3 rfl (by kernel_rfl) ⟨Hp.Le.refl _, (sc [2] rfl), ci0⟩ ?_
  refine qcc m0 rfl (nl rfl) ?_
  refine cb aY fun cA bS aY => cfx (JcH ihrec0_0 bS :) ?_
  rintro _ cn _ bW ⟨bH, bz, bB, bA, bJ, rfl, bG, bb, bC, rfl⟩
  refine qk (sc [3] rfl) ?_
  refine qj1 Tryz.call254 Ja.R_ok r4 (LR.mono Ja.R_ok bW a8) fun bh aZ bg => ?_
  refine qj1 Tryz.call254 Ja.R_ok r0 (LR.mono Ja.R_ok aZ bb) fun bf bd bc => ?_
  refine cb aY fun cq bY aY => cfx (Jbj bY :) ?_
  rintro _ cw _ cp ⟨bD, bM, bF, rfl, bL, bI, rfl⟩
  refine ⟨⟨Hp.emp_le _, (pf rfl), ci0⟩, ?_⟩
  refine qaa r3 rfl ⟨rfl, rfl, (nl rfl), ?_⟩
  refine ⟨⟨Hp.emp_le _, (pf rfl), ci0⟩, ?_⟩
  exact eR aY (_, (_, _), _, _, _, _, _)
  replace aY := qbb ((si ba).symm.trans bw) aY
  refine cT ?_
  exact eM aY (_, _, _, _, _, _)
  refine cf a6 (cf a6 (qac rfl (cF ?_)))
  replace aY := qbb (si ba).symm aY
  refine cT ?_
  exact eM aY (_, _, _, _, _, _)
 rintro ⟨t0, aU, aV, aW, aT, aX⟩ cr cj ⟨bv, bt, bl⟩ rfl j0
 refine ro (qab r0 rfl (nl rfl) ?_)
 refine qaa r4 rfl ⟨rfl, rfl, (nl rfl), ?_⟩
 exact ro (qab r0 rfl (nl rfl) (eE hm))

def JaD (aj : (Jb → Option (Ja × Jb))) (n : Nat) : Nat → Ja → Jb → Option (Fl (Ja × Jb) (Ja × Jb))
  | 0, _, _ => none
  | aW + 1, ac, aT =>
    (Ju aT).bind fun x7 =>
    if x7 then
    (JB aT 4 ([43] : Str)).bind fun a6 =>
    if a6 then
    (Jq aT).bind fun ba =>
    (Jbm aj n ba.2).bind fun aV =>
    (Jbf 17 ([] : Str) ac aV.1).bind fun a8 =>
    JaD aj n aW a8 aV.2
    else
    (JB aT 4 ([45] : Str)).bind fun aX =>
    if aX then
    (Jq aT).bind fun aZ =>
    (Jbm aj n aZ.2).bind fun aU =>
    (Jbf 18 ([] : Str) ac aU.1).bind fun aY =>
    JaD aj n aW aY aU.2
    else
    some (Fl.ret (ac, aT))
    else
    some (Fl.go (ac, aT))
def JbW (aj : (Jb → Option (Ja × Jb))) (n : Nat) (p : Jb) : Option (Ja × Jb) :=
  (Jbm aj n p).bind fun x5 =>
  (JaD aj n n x5.1 x5.2).bind fun s0 => s0.el some fun t0 =>
  some (t0.1, t0.2)
theorem JcQ {aj : (Jb → Option (Ja × Jb))} (ihrec0_0 : ∀ {p : Jb} {b0 : Nat} {aa : Option Addr} {ab : Nat} {K : Hp} {r : Ja × Jb} (hm : aj p = some r) (hX : (0 < p.list.length → Has aa) ∧ GG K), Fn Tryz.prog 236 [.pointer (some ⟨b0, 0, none⟩)] K [Cells b0 163 [.slice aa p.list.length ab, .int .i64 p.atZ, .int .i64 p.line], qau Jf.enc aa 166 4 ab p.list] (fun v K' H' => ∃ ar_0 : Option Addr, ∃ cr_0 : Nat, ∃ sr_0 : List (List Value), ∃ ar_1 : Option Addr, ∃ cr_1 : Nat, v = .agg #[.int .i64 r.1.Ab, str r.1.Ac, .slice ar_0 r.1.Aa.length cr_0, .int .i64 r.1.Ad] ∧ (0 < r.1.Aa.length → Has ar_0) ∧ LR Ja.R K' sr_0 r.1.Aa ∧ (0 < r.2.list.length → Has ar_1) ∧ H' = [OwnA ar_0 117 4 cr_0 sr_0, Cells b0 163 [.slice ar_1 r.2.list.length cr_1, .int .i64 r.2.atZ, .int .i64 r.2.line], qau Jf.enc ar_1 166 4 cr_1 r.2.list])) {n : Nat} {p : Jb} {b0 : Nat} {aa : Option Addr} {ab : Nat} {K : Hp} {r : Ja × Jb}
    (hm : JbW aj n p = some r) (hX : (0 < p.list.length → Has aa) ∧ GG K) :
    Fn Tryz.prog 271 [.pointer (some ⟨b0, 0, none⟩)] K [Cells b0 163 [.slice aa p.list.length ab, .int .i64 p.atZ, .int .i64 p.line], qau Jf.enc aa 166 4 ab p.list] (fun v K' H' => ∃ ar_0 : Option Addr, ∃ cr_0 : Nat, ∃ sr_0 : List (List Value), ∃ ar_1 : Option Addr, ∃ cr_1 : Nat, v = .agg #[.int .i64 r.1.Ab, str r.1.Ac, .slice ar_0 r.1.Aa.length cr_0, .int .i64 r.1.Ad] ∧ (0 < r.1.Aa.length → Has ar_0) ∧ LR Ja.R K' sr_0 r.1.Aa ∧ (0 < r.2.list.length → Has ar_1) ∧ H' = [OwnA ar_0 117 4 cr_0 sr_0, Cells b0 163 [.slice ar_1 r.2.list.length cr_1, .int .i64 r.2.atZ, .int .i64 r.2.line], qau Jf.enc ar_1 166 4 cr_1 r.2.list]) := by
 obtain ⟨ae, hG⟩ := hX
 refine Fn.enter Tryz.func271 Tryz.call271 rfl fun F => ?_
 unfold JbW at hm
 refine qai rfl fun b2 => ?_
 refine cb hm fun x5 q5 hm => cfx (JbV ihrec0_0 q5 :) ?_
 rintro _ K5 _ l5 ⟨cC, cJ, cr, cG, cL, rfl, cK, cA, cz, rfl⟩
 refine qai rfl fun b3 => ?_
 refine qaa r0 rfl ⟨rfl, rfl, (nl rfl), ?_⟩
 obtain ⟨s0, aV, hm⟩ := bnd hm
 refine lC (σ := (Ja × Jb) × Option Addr × Nat × List (List Value) × Option Addr × Nat) (rg 6 21) [4, 5] (fun _ => []) (fun _ => []) (fun (t0, aU, aW, aX, aT, aY) => [Cells b3 117 [.int .i64 t0.1.Ab, str t0.1.Ac, .slice aU t0.1.Aa.length aW, .int .i64 t0.1.Ad], OwnA aU 117 4 aW aX, Cells b0 163 [.slice aT t0.2.list.length aY, .int .i64 t0.2.atZ, .int .i64 t0.2.line], qau Jf.enc aT 166 4 aY t0.2.list]) (fun zz K1 => match zz with | (t0, aU, aW, aX, aT, aY) => (0 < t0.1.Aa.length → Has aU) ∧ LR Ja.R K1 aX t0.1.Aa ∧ (0 < t0.2.list.length → Has aT)) (fun i0 (t0, aU, aW, aX, aT, aY) => JaD aj n i0 t0.1 t0.2 = some s0) (fun (t0, aU, aW, aX, aT, aY) => s0 = Fl.go t0) (fun i0 => i0) n ((_, _), _, _, _, _, _) aV (And.intro qe (And.intro ?_ ?_))
 clear aV
 rintro i0 ⟨⟨ac, cq⟩, bv, bt, bz, bu, bw⟩ cQ de ⟨bB, aZ, bp⟩ aV j0
 dsimp only at aV ⊢
 cases i0 with
 | zero => rw [JaD.eq_1] at aV; cases aV
 | succ i0 =>
  rw [JaD.eq_2] at aV
  refine cb aV fun x7 q7 aV => cgx (Jt q7 :) ?_
  refine cs rfl rfl aV ?_ ?_ <;> intro w7 aV
  refine qam rfl ?_
  refine qam rfl ?_
  refine cb aV fun c5 cI aV => cgx (Jx cI :) ?_
  refine cs rfl rfl aV ?_ ?_ <;> intro w9 aV
  refine cb aV fun cW cw aV => ckx (Jn cw :) ?_
  rintro _ _ _ ⟨cp, co, rfl, cj, rfl⟩
  refine qa2 ⟨⟨[], false⟩, _, [(_, _)], []⟩ 3 rfl (by kernel_rfl) ⟨Hp.Le.refl _, (sc [2] rfl), ci0⟩ ?_
  refine qcc m0 rfl (nl rfl) ?_
  refine cb aV fun df cy aV => cfx (JbV ihrec0_0 cy :) ?_
  rintro _ cV _ cD ⟨bW, bG, bK, bI, ca, rfl, bS, bb, bO, rfl⟩
  refine qk (sc [3] rfl) ?_
  refine qj1 Tryz.call254 Ja.R_ok r4 (LR.mono Ja.R_ok cD aZ) fun bo a6 bn => ?_
  refine qj1 Tryz.call254 Ja.R_ok r0 (LR.mono Ja.R_ok a6 bb) fun bj bg bf => ?_
  refine cb aV fun cY cH aV => cfx (Jbj cH :) ?_
  rintro _ dc _ cX ⟨bP, cn, bR, rfl, cm, bY, rfl⟩
  refine ⟨⟨Hp.emp_le _, (pf rfl), ci0⟩, ?_⟩
  refine qaa r3 rfl ⟨rfl, rfl, (nl rfl), ?_⟩
  refine ⟨⟨Hp.emp_le _, (pf rfl), ci0⟩, ?_⟩
  exact eR aV (_, (_, _), _, _, _, _, _)
  refine cb aV fun c6 cu aV => cgx (Jx cu :) ?_
  refine cs rfl rfl aV ?_ ?_ <;> intro dg aV
  refine cb aV fun c9 cB aV => ckx (Jn cB :) ?_
  rintro _ _ _ ⟨cd, bH, rfl, bQ, rfl⟩
  refine qa2 ⟨⟨[], false⟩, _, [(_, _)], []⟩ 3 rfl (by kernel_rfl) ⟨Hp.Le.refl _, (sc [2] rfl), ci0⟩ ?_
  refine qcc m0 rfl (nl rfl) ?_
  refine cb aV fun c8 cN aV => cfx (JbV ihrec0_0 cN :) ?_
  rintro _ cR _ cM ⟨bV, bT, bL, bD, bJ, rfl, bX, bd, bZ, rfl⟩
  refine qk (sc [3] rfl) ?_
  refine qj1 Tryz.call254 Ja.R_ok r4 (LR.mono Ja.R_ok cM aZ) fun bm a8 ba => ?_
  refine qj1 Tryz.call254 Ja.R_ok r0 (LR.mono Ja.R_ok a8 bd) fun bl bh bc => ?_
  refine cb aV fun cU cE aV => cfx (Jbj cE :) ?_
  rintro _ cP _ cZ ⟨bU, bN, bM, rfl, ce, bF, rfl⟩
  refine ⟨⟨Hp.emp_le _, (pf rfl), ci0⟩, ?_⟩
  refine qaa r3 rfl ⟨rfl, rfl, (nl rfl), ?_⟩
  refine ⟨⟨Hp.emp_le _, (pf rfl), ci0⟩, ?_⟩
  exact eR aV (_, (_, _), _, _, _, _, _)
  refine ro (qab r2 rfl (nl rfl) ?_)
  refine qaa r4 rfl ⟨rfl, rfl, (nl rfl), ?_⟩
  exact ro (qab r0 rfl (nl rfl) (eE (er aV hm)))
  refine cT ?_
  exact eM aV (_, _, _, _, _, _)
 rintro ⟨t0, aU, aW, aX, aT, aY⟩ c4 cO ⟨bC, bA, br⟩ rfl j0
 replace hm := elg hm
 refine ro (qab r0 rfl (nl rfl) ?_)
 refine qaa r4 rfl ⟨rfl, rfl, (nl rfl), ?_⟩
 exact ro (qab r0 rfl (nl rfl) (eE hm))

def Jcr (aj : (Jb → Option (Ja × Jb))) (n : Nat) (p : Jb) : Option (Ja × Jb) :=
  (JbW aj n p).bind fun x6 =>
  (JQ x6.2).bind fun x8 =>
  (Ju x6.2).bind fun aU =>
  (if aU then (JbN x8.Ab x8.Ac).bind fun aX =>
  some aX else some false).bind fun aY =>
  if aY then
  (Jq x6.2).bind fun aW =>
  (JbW aj n aW.2).bind fun aT =>
  (Jbf 16 x8.Ac x6.1 aT.1).bind fun aV =>
  some (aV, aT.2)
  else
  some (x6.1, x6.2)
theorem Jdy {aj : (Jb → Option (Ja × Jb))} (ihrec0_0 : ∀ {p : Jb} {b0 : Nat} {aa : Option Addr} {ab : Nat} {K : Hp} {r : Ja × Jb} (hm : aj p = some r) (hX : (0 < p.list.length → Has aa) ∧ GG K), Fn Tryz.prog 236 [.pointer (some ⟨b0, 0, none⟩)] K [Cells b0 163 [.slice aa p.list.length ab, .int .i64 p.atZ, .int .i64 p.line], qau Jf.enc aa 166 4 ab p.list] (fun v K' H' => ∃ ar_0 : Option Addr, ∃ cr_0 : Nat, ∃ sr_0 : List (List Value), ∃ ar_1 : Option Addr, ∃ cr_1 : Nat, v = .agg #[.int .i64 r.1.Ab, str r.1.Ac, .slice ar_0 r.1.Aa.length cr_0, .int .i64 r.1.Ad] ∧ (0 < r.1.Aa.length → Has ar_0) ∧ LR Ja.R K' sr_0 r.1.Aa ∧ (0 < r.2.list.length → Has ar_1) ∧ H' = [OwnA ar_0 117 4 cr_0 sr_0, Cells b0 163 [.slice ar_1 r.2.list.length cr_1, .int .i64 r.2.atZ, .int .i64 r.2.line], qau Jf.enc ar_1 166 4 cr_1 r.2.list])) {n : Nat} {p : Jb} {b0 : Nat} {aa : Option Addr} {ab : Nat} {K : Hp} {r : Ja × Jb}
    (hm : Jcr aj n p = some r) (hX : (0 < p.list.length → Has aa) ∧ GG K) :
    Fn Tryz.prog 267 [.pointer (some ⟨b0, 0, none⟩)] K [Cells b0 163 [.slice aa p.list.length ab, .int .i64 p.atZ, .int .i64 p.line], qau Jf.enc aa 166 4 ab p.list] (fun v K' H' => ∃ ar_0 : Option Addr, ∃ cr_0 : Nat, ∃ sr_0 : List (List Value), ∃ ar_1 : Option Addr, ∃ cr_1 : Nat, v = .agg #[.int .i64 r.1.Ab, str r.1.Ac, .slice ar_0 r.1.Aa.length cr_0, .int .i64 r.1.Ad] ∧ (0 < r.1.Aa.length → Has ar_0) ∧ LR Ja.R K' sr_0 r.1.Aa ∧ (0 < r.2.list.length → Has ar_1) ∧ H' = [OwnA ar_0 117 4 cr_0 sr_0, Cells b0 163 [.slice ar_1 r.2.list.length cr_1, .int .i64 r.2.atZ, .int .i64 r.2.line], qau Jf.enc ar_1 166 4 cr_1 r.2.list]) := by
 obtain ⟨ae, hG⟩ := hX
 refine Fn.enter Tryz.func267 Tryz.call267 rfl fun F => ?_
 unfold Jcr at hm
 refine qai rfl fun b2 => ?_
 refine cb hm fun x6 q6 hm => cfx (JcQ ihrec0_0 q6 :) ?_
 rintro _ K6 _ l6 ⟨bI, bB, bC, bD, bH, rfl, bA, bb, bG, rfl⟩
 refine qai rfl fun b3 => ?_
 refine qaa r0 rfl ⟨rfl, rfl, (nl rfl), ?_⟩
 refine cb hm fun x8 q8 hm => cgx (JP q8 :) ?_
 refine qai rfl fun b4 => ?_
 refine qaa r0 rfl ⟨rfl, rfl, (nl rfl), ?_⟩
 refine qaf rfl ?_
 refine cb hm fun bR bM hm => cgx (Jt bM :) ?_
 obtain ⟨bT, aW, hm⟩ := bnd hm
 refine cS aW (fun aT aW => ?_) fun aT aW => ?_
 refine fa rfl (ct aT (ro (ld r2 rfl rfl (ct aT (fa rfl (ct aT (ro (ld r2 rfl rfl (ct aT ?_)))))))))
 refine cb aW fun bS bL aW => cg0 (Jcq bL :) ?_
 refine ct aT (qac rfl ?_)
 refine qah ?_ ?_ <;> intro bn
 replace hm := ift ((si aW).symm.trans bn) hm
 refine cb hm fun bN bJ hm => ckx (Jn bJ :) ?_
 rintro _ _ _ ⟨bc, bv, rfl, bl, rfl⟩
 refine qa4 ⟨⟨[], false⟩, _, [(_, _), (_, _)], []⟩ (by kernel_rfl) ⟨Hp.Le.refl _, (sc [2,2] rfl), ci0⟩ ?_
 refine fa rfl (qap m0 rfl rfl (qcc m1 rfl (nl rfl) ?_))
 refine cb hm fun bU bF hm => cfx (JcQ ihrec0_0 bF :) ?_
 rintro _ bQ _ ba ⟨bh, bm, bo, bp, bf, rfl, bu, a8, bg, rfl⟩
 refine qk (sc [3,3] rfl) ?_
 refine qj1 Tryz.call254 Ja.R_ok r5 (LR.mono Ja.R_ok ba bb) fun aZ aU aX => ?_
 refine qj1 Tryz.call254 Ja.R_ok r0 (LR.mono Ja.R_ok aU a8) fun a6 aV aY => ?_
 refine cb hm fun bP bK hm => cfx (Jbj bK :) ?_
 rintro _ bO _ bw ⟨bd, bz, br, rfl, bt, bj, rfl⟩
 refine ⟨⟨(((ba.trans aU).trans aV).trans bw), (sc [3,3] rfl), ci0⟩, ?_⟩
 refine qaa r5 rfl ⟨rfl, rfl, (nl rfl), ?_⟩
 refine ⟨⟨(((ba.trans aU).trans aV).trans bw), (sc [4,4] rfl), ci0⟩, ?_⟩
 exact ro (qab r0 rfl (nl rfl) (eE hm))
 replace hm := qbb ((si aW).symm.trans bn) hm
 refine ro (qab r3 rfl (nl rfl) ?_)
 refine qaa r5 rfl ⟨rfl, rfl, (nl rfl), ?_⟩
 exact ro (qab r0 rfl (nl rfl) (eE hm))
 refine cf aT (cf aT (cf aT (cf aT (cf aT (qac rfl (cF ?_))))))
 replace hm := qbb (si aW).symm hm
 refine ro (qab r3 rfl (nl rfl) ?_)
 refine qaa r5 rfl ⟨rfl, rfl, (nl rfl), ?_⟩
 exact ro (qab r0 rfl (nl rfl) (eE hm))

def Ja6 (aj : (Jb → Option (Ja × Jb))) : Nat → Jb → Option (Ja × Jb)
  | 0, _ => none
  | n + 1, p =>
    (JB p 1 ([110, 111, 116] : Str)).bind fun x5 =>
    if x5 then
    (Jq p).bind fun x7 =>
    ((Ja6 aj n) x7.2).bind fun aT =>
    some ((⟨15, ([] : Str), [aT.1], x7.1.Ad⟩ : Ja), aT.2)
    else
    (Jcr aj n p).bind fun aU =>
    some (aU.1, aU.2)
theorem JcR {aj : (Jb → Option (Ja × Jb))} (ihrec0_0 : ∀ {p : Jb} {b0 : Nat} {aa : Option Addr} {ab : Nat} {K : Hp} {r : Ja × Jb} (hm : aj p = some r) (hX : (0 < p.list.length → Has aa) ∧ GG K), Fn Tryz.prog 236 [.pointer (some ⟨b0, 0, none⟩)] K [Cells b0 163 [.slice aa p.list.length ab, .int .i64 p.atZ, .int .i64 p.line], qau Jf.enc aa 166 4 ab p.list] (fun v K' H' => ∃ ar_0 : Option Addr, ∃ cr_0 : Nat, ∃ sr_0 : List (List Value), ∃ ar_1 : Option Addr, ∃ cr_1 : Nat, v = .agg #[.int .i64 r.1.Ab, str r.1.Ac, .slice ar_0 r.1.Aa.length cr_0, .int .i64 r.1.Ad] ∧ (0 < r.1.Aa.length → Has ar_0) ∧ LR Ja.R K' sr_0 r.1.Aa ∧ (0 < r.2.list.length → Has ar_1) ∧ H' = [OwnA ar_0 117 4 cr_0 sr_0, Cells b0 163 [.slice ar_1 r.2.list.length cr_1, .int .i64 r.2.atZ, .int .i64 r.2.line], qau Jf.enc ar_1 166 4 cr_1 r.2.list])) : ∀ {n : Nat} {p : Jb} {b0 : Nat} {aa : Option Addr} {ab : Nat} {K : Hp} {r : Ja × Jb}
    (hm : Ja6 aj n p = some r) (hX : (0 < p.list.length → Has aa) ∧ GG K),
    Fn Tryz.prog 261 [.pointer (some ⟨b0, 0, none⟩)] K [Cells b0 163 [.slice aa p.list.length ab, .int .i64 p.atZ, .int .i64 p.line], qau Jf.enc aa 166 4 ab p.list] (fun v K' H' => ∃ ar_0 : Option Addr, ∃ cr_0 : Nat, ∃ sr_0 : List (List Value), ∃ ar_1 : Option Addr, ∃ cr_1 : Nat, v = .agg #[.int .i64 r.1.Ab, str r.1.Ac, .slice ar_0 r.1.Aa.length cr_0, .int .i64 r.1.Ad] ∧ (0 < r.1.Aa.length → Has ar_0) ∧ LR Ja.R K' sr_0 r.1.Aa ∧ (0 < r.2.list.length → Has ar_1) ∧ H' = [OwnA ar_0 117 4 cr_0 sr_0, Cells b0 163 [.slice ar_1 r.2.list.length cr_1, .int .i64 r.2.atZ, .int .i64 r.2.line], qau Jf.enc ar_1 166 4 cr_1 r.2.list]) := by
 intro n
 induction n with
 | zero =>
   intro p b0 aa ab K r hm hX
   rw [Ja6.eq_1] at hm; cases hm
 | succ n ih =>
   intro p b0 aa ab K r hm hX
   obtain ⟨ae, hG⟩ := hX
   refine Fn.enter Tryz.func261 Tryz.call261 rfl fun F => ?_
   rw [Ja6.eq_2] at hm
   refine qai rfl fun b2 => ?_
   refine cb hm fun x5 q5 hm => cgx (Jx q5 :) ?_
   refine cs rfl rfl hm ?_ ?_ <;> intro w5 hm
   refine cb hm fun x7 q7 hm => ckx (Jn q7 :) ?_
   rintro _ _ _ ⟨bu, bv, rfl, br, rfl⟩
   refine qai rfl fun b3 => ?_
   refine qaa r0 rfl ⟨rfl, rfl, (nl rfl), ?_⟩
   refine qa4 ⟨⟨[], false⟩, _, [(_, _)], []⟩ (by kernel_rfl) ⟨Hp.Le.refl _, (pf rfl), ci0⟩ ?_
   refine fa rfl (qap m0 rfl rfl ?_)
   refine cb hm fun aU bt hm => cfx (ih bt :) ?_
   rintro _ bC _ bb ⟨aV, aW, bl, a6, aZ, rfl, bm, aY, ba, rfl⟩
   refine qk (sc [3] rfl) ?_
   refine qlh Ja.R_ok r0 aY fun a8 aT aX => ?_
   refine qj2 (R := Ja.R) (len := 1) (l := [aU.1]) (css := [[.int .i64 aU.1.Ab, str aU.1.Ac, .slice aV aU.1.Aa.length aW, .int .i64 aU.1.Ad]]) (cl := [.int .i64 aU.1.Ab, str aU.1.Ac, .slice aV aU.1.Aa.length aW, .int .i64 aU.1.Ad]) Ja.R_ok qbz rfl rfl (LR.snoc LR.nil (Ja.of (x := aU.1) ⟨aV, aW, rfl, aX⟩)) rfl rfl rfl ?_ fun bw => ?_
   · conv => whnf
     refine cT ?_
     first | done | rfl
   refine ⟨⟨(bb.trans aT), (sc [3] rfl), ci0⟩, ?_⟩
   refine qad rfl rfl (cT (cT (cT ?_)))
   refine qaa r4 rfl ⟨rfl, rfl, (nl rfl), ?_⟩
   refine ⟨⟨(bb.trans aT), (sc [4] rfl), ci0⟩, ?_⟩
   obtain rfl := si hm
   exact ro (qab r0 rfl (nl rfl) (en (bb.trans aT) ⟨(some ⟨bw, 0, none⟩), 1, ([[.int .i64 aU.1.Ab, str aU.1.Ac, .slice aV aU.1.Aa.length aW, .int .i64 aU.1.Ad]]), a6, aZ, rfl, (fun _ => ⟨_, _, rfl⟩), (show LR Ja.R _ [[.int .i64 aU.1.Ab, str aU.1.Ac, .slice aV aU.1.Aa.length aW, .int .i64 aU.1.Ad]] [aU.1] from (LR.snoc LR.nil (Ja.of (x := aU.1) ⟨aV, aW, rfl, aX⟩))), ba, rfl⟩ (sc [1,1,1,2] rfl)))
   refine cb hm fun bB bp hm => cfx (Jdy ihrec0_0 bp :) ?_
   rintro _ bz _ bA ⟨bj, bc, bh, bf, bg, rfl, bn, bd, bo, rfl⟩
   refine qaa r3 rfl ⟨rfl, rfl, (nl rfl), ?_⟩
   exact ro (qab r0 rfl (nl rfl) (eE hm))

def JaU (aj : (Jb → Option (Ja × Jb))) (n : Nat) : Nat → Ja → Jb → Option (Ja × Jb)
  | 0, _, _ => none
  | aW + 1, ac, aT =>
    (Ju aT).bind fun x7 =>
    (if x7 then (JB aT 1 ([97, 110, 100] : Str)).bind fun aV =>
    some aV else some false).bind fun aX =>
    if aX then
    (Jq aT).bind fun aZ =>
    (Ja6 aj n aZ.2).bind fun aU =>
    (Jbf 14 ([] : Str) ac aU.1).bind fun aY =>
    JaU aj n aW aY aU.2
    else
    some (ac, aT)
def JbK (aj : (Jb → Option (Ja × Jb))) (n : Nat) (p : Jb) : Option (Ja × Jb) :=
  (Ja6 aj n p).bind fun x5 =>
  (JaU aj n n x5.1 x5.2).bind fun t0 =>
  some (t0.1, t0.2)
theorem JcI {aj : (Jb → Option (Ja × Jb))} (ihrec0_0 : ∀ {p : Jb} {b0 : Nat} {aa : Option Addr} {ab : Nat} {K : Hp} {r : Ja × Jb} (hm : aj p = some r) (hX : (0 < p.list.length → Has aa) ∧ GG K), Fn Tryz.prog 236 [.pointer (some ⟨b0, 0, none⟩)] K [Cells b0 163 [.slice aa p.list.length ab, .int .i64 p.atZ, .int .i64 p.line], qau Jf.enc aa 166 4 ab p.list] (fun v K' H' => ∃ ar_0 : Option Addr, ∃ cr_0 : Nat, ∃ sr_0 : List (List Value), ∃ ar_1 : Option Addr, ∃ cr_1 : Nat, v = .agg #[.int .i64 r.1.Ab, str r.1.Ac, .slice ar_0 r.1.Aa.length cr_0, .int .i64 r.1.Ad] ∧ (0 < r.1.Aa.length → Has ar_0) ∧ LR Ja.R K' sr_0 r.1.Aa ∧ (0 < r.2.list.length → Has ar_1) ∧ H' = [OwnA ar_0 117 4 cr_0 sr_0, Cells b0 163 [.slice ar_1 r.2.list.length cr_1, .int .i64 r.2.atZ, .int .i64 r.2.line], qau Jf.enc ar_1 166 4 cr_1 r.2.list])) {n : Nat} {p : Jb} {b0 : Nat} {aa : Option Addr} {ab : Nat} {K : Hp} {r : Ja × Jb}
    (hm : JbK aj n p = some r) (hX : (0 < p.list.length → Has aa) ∧ GG K) :
    Fn Tryz.prog 253 [.pointer (some ⟨b0, 0, none⟩)] K [Cells b0 163 [.slice aa p.list.length ab, .int .i64 p.atZ, .int .i64 p.line], qau Jf.enc aa 166 4 ab p.list] (fun v K' H' => ∃ ar_0 : Option Addr, ∃ cr_0 : Nat, ∃ sr_0 : List (List Value), ∃ ar_1 : Option Addr, ∃ cr_1 : Nat, v = .agg #[.int .i64 r.1.Ab, str r.1.Ac, .slice ar_0 r.1.Aa.length cr_0, .int .i64 r.1.Ad] ∧ (0 < r.1.Aa.length → Has ar_0) ∧ LR Ja.R K' sr_0 r.1.Aa ∧ (0 < r.2.list.length → Has ar_1) ∧ H' = [OwnA ar_0 117 4 cr_0 sr_0, Cells b0 163 [.slice ar_1 r.2.list.length cr_1, .int .i64 r.2.atZ, .int .i64 r.2.line], qau Jf.enc ar_1 166 4 cr_1 r.2.list]) := by
 obtain ⟨ae, hG⟩ := hX
 refine Fn.enter Tryz.func253 Tryz.call253 rfl fun F => ?_
 unfold JbK at hm
 refine qai rfl fun b2 => ?_
 refine cb hm fun x5 q5 hm => cfx (JcR ihrec0_0 q5 :) ?_
 rintro _ K5 _ l5 ⟨bV, bZ, bQ, bX, cd, rfl, ca, bU, bT, rfl⟩
 refine qai rfl fun b3 => ?_
 refine qaa r0 rfl ⟨rfl, rfl, (nl rfl), ?_⟩
 obtain ⟨s0, aY, hm⟩ := bnd hm
 refine lC (σ := (Ja × Jb) × Option Addr × Nat × List (List Value) × Option Addr × Nat) (rg 6 12) [4, 5] (fun _ => []) (fun _ => []) (fun (t0, aU, aV, aW, aT, aX) => [Cells b3 117 [.int .i64 t0.1.Ab, str t0.1.Ac, .slice aU t0.1.Aa.length aV, .int .i64 t0.1.Ad], OwnA aU 117 4 aV aW, Cells b0 163 [.slice aT t0.2.list.length aX, .int .i64 t0.2.atZ, .int .i64 t0.2.line], qau Jf.enc aT 166 4 aX t0.2.list]) (fun zz K1 => match zz with | (t0, aU, aV, aW, aT, aX) => (0 < t0.1.Aa.length → Has aU) ∧ LR Ja.R K1 aW t0.1.Aa ∧ (0 < t0.2.list.length → Has aT)) (fun i0 (t0, aU, aV, aW, aT, aX) => JaU aj n i0 t0.1 t0.2 = some s0) (fun (t0, aU, aV, aW, aT, aX) => t0 = s0) (fun i0 => i0) n ((_, _), _, _, _, _, _) aY (And.intro qe (And.intro ?_ ?_))
 clear aY
 rintro i0 ⟨⟨ac, bP⟩, bo, bm, br, bn, bp⟩ cm cz ⟨bu, a8, bj⟩ aY j0
 dsimp only at aY ⊢
 cases i0 with
 | zero => rw [JaU.eq_1] at aY; cases aY
 | succ i0 =>
  rw [JaU.eq_2] at aY
  refine qaf rfl ?_
  refine cb aY fun x7 q7 aY => cgx (Jt q7 :) ?_
  obtain ⟨cu, ba, aY⟩ := bnd aY
  refine cS ba (fun a6 ba => ?_) fun a6 ba => ?_
  refine ct a6 ?_
  refine cb ba fun cy ce ba => cgx (Jx ce :) ?_
  refine ct a6 (qac rfl ?_)
  refine qah ?_ ?_ <;> intro bw
  replace aY := ift ((si ba).symm.trans bw) aY
  refine qam rfl ?_
  refine cb aY fun co bR aY => ckx (Jn bR :) ?_
  rintro _ _ _ ⟨bO, bN, rfl, bK, rfl⟩
  refine qa2 ⟨⟨[], false⟩, _, [(_, _)], []⟩ 3 rfl (by kernel_rfl) ⟨Hp.Le.refl _, (sc [2] rfl), ci0⟩ ?_
  refine qcc m0 rfl (nl rfl) ?_
  refine cb aY fun cA bS aY => cfx (JcR ihrec0_0 bS :) ?_
  rintro _ cn _ bW ⟨bH, bz, bB, bA, bJ, rfl, bG, bb, bC, rfl⟩
  refine qk (sc [3] rfl) ?_
  refine qj1 Tryz.call254 Ja.R_ok r4 (LR.mono Ja.R_ok bW a8) fun bh aZ bg => ?_
  refine qj1 Tryz.call254 Ja.R_ok r0 (LR.mono Ja.R_ok aZ bb) fun bf bd bc => ?_
  refine cb aY fun cq bY aY => cfx (Jbj bY :) ?_
  rintro _ cw _ cp ⟨bD, bM, bF, rfl, bL, bI, rfl⟩
  refine ⟨⟨Hp.emp_le _, (pf rfl), ci0⟩, ?_⟩
  refine qaa r3 rfl ⟨rfl, rfl, (nl rfl), ?_⟩
  refine ⟨⟨Hp.emp_le _, (pf rfl), ci0⟩, ?_⟩
  exact eR aY (_, (_, _), _, _, _, _, _)
  replace aY := qbb ((si ba).symm.trans bw) aY
  refine cT ?_
  exact eM aY (_, _, _, _, _, _)
  refine cf a6 (cf a6 (qac rfl (cF ?_)))
  replace aY := qbb (si ba).symm aY
  refine cT ?_
  exact eM aY (_, _, _, _, _, _)
 rintro ⟨t0, aU, aV, aW, aT, aX⟩ cr cj ⟨bv, bt, bl⟩ rfl j0
 refine ro (qab r0 rfl (nl rfl) ?_)
 refine qaa r4 rfl ⟨rfl, rfl, (nl rfl), ?_⟩
 exact ro (qab r0 rfl (nl rfl) (eE hm))

def JaV (rec_ : (Jb → Option (Ja × Jb))) (n : Nat) : Nat → Ja → Jb → Option (Ja × Jb)
  | 0, _, _ => none
  | aW + 1, ac, aT =>
    (Ju aT).bind fun x7 =>
    (if x7 then (JB aT 1 ([111, 114] : Str)).bind fun aV =>
    some aV else some false).bind fun aX =>
    if aX then
    (Jq aT).bind fun aZ =>
    (JbK rec_ n aZ.2).bind fun aU =>
    (Jbf 13 ([] : Str) ac aU.1).bind fun aY =>
    JaV rec_ n aW aY aU.2
    else
    some (ac, aT)
def Jak : Nat → Jb → Option (Ja × Jb)
  | 0, _ => none
  | n + 1, p =>
    (JbK (Jak n) n p).bind fun x5 =>
    (JaV (Jak n) n n x5.1 x5.2).bind fun t0 =>
    some (t0.1, t0.2)
theorem JbX : ∀ {n : Nat} {p : Jb} {b0 : Nat} {aa : Option Addr} {ab : Nat} {K : Hp} {r : Ja × Jb}
    (hm : Jak n p = some r) (hX : (0 < p.list.length → Has aa) ∧ GG K),
    Fn Tryz.prog 236 [.pointer (some ⟨b0, 0, none⟩)] K [Cells b0 163 [.slice aa p.list.length ab, .int .i64 p.atZ, .int .i64 p.line], qau Jf.enc aa 166 4 ab p.list] (fun v K' H' => ∃ ar_0 : Option Addr, ∃ cr_0 : Nat, ∃ sr_0 : List (List Value), ∃ ar_1 : Option Addr, ∃ cr_1 : Nat, v = .agg #[.int .i64 r.1.Ab, str r.1.Ac, .slice ar_0 r.1.Aa.length cr_0, .int .i64 r.1.Ad] ∧ (0 < r.1.Aa.length → Has ar_0) ∧ LR Ja.R K' sr_0 r.1.Aa ∧ (0 < r.2.list.length → Has ar_1) ∧ H' = [OwnA ar_0 117 4 cr_0 sr_0, Cells b0 163 [.slice ar_1 r.2.list.length cr_1, .int .i64 r.2.atZ, .int .i64 r.2.line], qau Jf.enc ar_1 166 4 cr_1 r.2.list]) := by
 intro n
 induction n with
 | zero =>
   intro p b0 aa ab K r hm hX
   rw [Jak.eq_1] at hm; cases hm
 | succ n ih =>
   intro p b0 aa ab K r hm hX
   obtain ⟨ae, hG⟩ := hX
   refine Fn.enter Tryz.func236 Tryz.call236 rfl fun F => ?_
   rw [Jak.eq_2] at hm
   refine qai rfl fun b2 => ?_
   refine cb hm fun x5 q5 hm => cfx (JcI ih q5 :) ?_
   rintro _ K5 _ l5 ⟨bV, bZ, bQ, bX, cd, rfl, ca, bU, bT, rfl⟩
   refine qai rfl fun b3 => ?_
   refine qaa r0 rfl ⟨rfl, rfl, (nl rfl), ?_⟩
   obtain ⟨s0, aY, hm⟩ := bnd hm
   refine lC (σ := (Ja × Jb) × Option Addr × Nat × List (List Value) × Option Addr × Nat) (rg 6 12) [4, 5] (fun _ => []) (fun _ => []) (fun (t0, aU, aV, aW, aT, aX) => [Cells b3 117 [.int .i64 t0.1.Ab, str t0.1.Ac, .slice aU t0.1.Aa.length aV, .int .i64 t0.1.Ad], OwnA aU 117 4 aV aW, Cells b0 163 [.slice aT t0.2.list.length aX, .int .i64 t0.2.atZ, .int .i64 t0.2.line], qau Jf.enc aT 166 4 aX t0.2.list]) (fun zz K1 => match zz with | (t0, aU, aV, aW, aT, aX) => (0 < t0.1.Aa.length → Has aU) ∧ LR Ja.R K1 aW t0.1.Aa ∧ (0 < t0.2.list.length → Has aT)) (fun i0 (t0, aU, aV, aW, aT, aX) => JaV (Jak n) n i0 t0.1 t0.2 = some s0) (fun (t0, aU, aV, aW, aT, aX) => t0 = s0) (fun i0 => i0) n ((_, _), _, _, _, _, _) aY (And.intro qe (And.intro ?_ ?_))
   clear aY
   rintro i0 ⟨⟨ac, bP⟩, bo, bm, br, bn, bp⟩ cm cz ⟨bu, a8, bj⟩ aY j0
   dsimp only at aY ⊢
   cases i0 with
   | zero => rw [JaV.eq_1] at aY; cases aY
   | succ i0 =>
    rw [JaV.eq_2] at aY
    refine qaf rfl ?_
    refine cb aY fun x7 q7 aY => cgx (Jt q7 :) ?_
    obtain ⟨cr, ba, aY⟩ := bnd aY
    refine cS ba (fun a6 ba => ?_) fun a6 ba => ?_
    refine ct a6 ?_
    refine cb ba fun cy ce ba => cgx (Jx ce :) ?_
    refine ct a6 (qac rfl ?_)
    refine qah ?_ ?_ <;> intro bw
    replace aY := ift ((si ba).symm.trans bw) aY
    refine qam rfl ?_
    refine cb aY fun co bR aY => ckx (Jn bR :) ?_
    rintro _ _ _ ⟨bO, bN, rfl, bK, rfl⟩
    refine qa2 ⟨⟨[], false⟩, _, [(_, _)], []⟩ 3 rfl (by kernel_rfl) ⟨Hp.Le.refl _, (sc [2] rfl), ci0⟩ ?_
    refine qcc m0 rfl (nl rfl) ?_
    refine cb aY fun cA bS aY => cfx (JcI ih bS :) ?_
    rintro _ cn _ bW ⟨bH, bz, bB, bA, bJ, rfl, bG, bb, bC, rfl⟩
    refine qk (sc [3] rfl) ?_
    refine qj1 Tryz.call254 Ja.R_ok r4 (LR.mono Ja.R_ok bW a8) fun bh aZ bg => ?_
    refine qj1 Tryz.call254 Ja.R_ok r0 (LR.mono Ja.R_ok aZ bb) fun bf bd bc => ?_
    refine cb aY fun cq bY aY => cfx (Jbj bY :) ?_
    rintro _ cw _ cp ⟨bD, bM, bF, rfl, bL, bI, rfl⟩
    refine ⟨⟨Hp.emp_le _, (pf rfl), ci0⟩, ?_⟩
    refine qaa r3 rfl ⟨rfl, rfl, (nl rfl), ?_⟩
    refine ⟨⟨Hp.emp_le _, (pf rfl), ci0⟩, ?_⟩
    exact eR aY (_, (_, _), _, _, _, _, _)
    replace aY := qbb ((si ba).symm.trans bw) aY
    refine cT ?_
    exact eM aY (_, _, _, _, _, _)
    refine cf a6 (cf a6 (qac rfl (cF ?_)))
    replace aY := qbb (si ba).symm aY
    refine cT ?_
    exact eM aY (_, _, _, _, _, _)
   rintro ⟨t0, aU, aV, aW, aT, aX⟩ cu cj ⟨bv, bt, bl⟩ rfl j0
   refine ro (qab r0 rfl (nl rfl) ?_)
   refine qaa r4 rfl ⟨rfl, rfl, (nl rfl), ?_⟩
   exact ro (qab r0 rfl (nl rfl) (eE hm))

def Jy (n : Nat) (p : Jb) (sign : Str) : Option ((List Ja) × Jb) :=
  if decide (sign ≠ ([] : Str)) then
  (JM p sign).bind fun aU =>
  (Ju aU).bind fun al =>
  if (!al) then
  some ([], aU)
  else
  (Jak n aU).bind fun aT =>
  (Ju aT.2).bind fun aW =>
  if aW then
  (JM aT.2 ([59] : Str)).bind fun aV =>
  some ([aT.1], aV)
  else
  some ([aT.1], aT.2)
  else
  (Ju p).bind fun al =>
  if (!al) then
  some ([], p)
  else
  (Jak n p).bind fun aT =>
  (Ju aT.2).bind fun aW =>
  if aW then
  (JM aT.2 ([59] : Str)).bind fun aV =>
  some ([aT.1], aV)
  else
  some ([aT.1], aT.2)
theorem Jv {n : Nat} {p : Jb} {sign : Str} {b0 : Nat} {aa : Option Addr} {ab : Nat} {K : Hp} {r : (List Ja) × Jb}
    (hm : Jy n p sign = some r) (hX : (0 < p.list.length → Has aa) ∧ GG K) :
    Fn Tryz.prog 209 [.pointer (some ⟨b0, 0, none⟩), str sign] K [Cells b0 163 [.slice aa p.list.length ab, .int .i64 p.atZ, .int .i64 p.line], qau Jf.enc aa 166 4 ab p.list] (fun v K' H' => ∃ ar_0 : Option Addr, ∃ cr_0 : Nat, ∃ sr_0 : List (List Value), ∃ ar_1 : Option Addr, ∃ cr_1 : Nat, v = .slice ar_0 r.1.length cr_0 ∧ (0 < r.1.length → Has ar_0) ∧ LR Ja.R K' sr_0 r.1 ∧ (0 < r.2.list.length → Has ar_1) ∧ H' = [OwnA ar_0 117 4 cr_0 sr_0, Cells b0 163 [.slice ar_1 r.2.list.length cr_1, .int .i64 r.2.atZ, .int .i64 r.2.line], qau Jf.enc ar_1 166 4 cr_1 r.2.list]) := by
 obtain ⟨ae, hG⟩ := hX
 refine Fn.enter Tryz.func209 Tryz.call209 rfl fun F => ?_
 unfold Jy at hm
 refine qbr (cs rfl rfl hm ?_ ?_) <;> intro w7 hm
 refine cb hm fun bC bw hm => ckx (JK bw :) ?_
 rintro _ _ _ ⟨bt, bp, rfl, br, rfl⟩
 refine cb hm fun al bm hm => cgx (Jt bm :) ?_
 refine qax ?_
 refine cs rfl rfl hm ?_ ?_ <;> intro bA hm
 refine qci (fun _ : Ja => []) 117 4 ?_
 exact eE hm
 refine cb hm fun aT bl hm => cfx (JbX bl :) ?_
 rintro _ bu _ bg ⟨aV, aU, bh, a8, ba, rfl, bj, aZ, bc, rfl⟩
 refine qai rfl fun b5 => ?_
 refine qaa r0 rfl ⟨rfl, rfl, (nl rfl), ?_⟩
 refine cb hm fun bB bn hm => cgx (Jt bn :) ?_
 refine cs rfl rfl hm ?_ ?_ <;> intro bz hm
 refine cb hm fun bv bo hm => ckx (JK bo :) ?_
 rintro _ _ _ ⟨a6, bd, rfl, bb, rfl⟩
 refine ro (qab r2 rfl (nl rfl) ?_)
 refine qlh Ja.R_ok r3 aZ fun aY aX aW => ?_
 refine qj2 (R := Ja.R) (len := 1) (l := [aT.1]) (css := [[.int .i64 aT.1.Ab, str aT.1.Ac, .slice aV aT.1.Aa.length aU, .int .i64 aT.1.Ad]]) (cl := [.int .i64 aT.1.Ab, str aT.1.Ac, .slice aV aT.1.Aa.length aU, .int .i64 aT.1.Ad]) Ja.R_ok qbz rfl rfl (LR.snoc LR.nil (Ja.of (x := aT.1) ⟨aV, aU, rfl, aW⟩)) rfl rfl rfl ?_ fun bf => ?_
 · conv => whnf
   refine cT ?_
   first | done | rfl
 cases hm
 exact en (bg.trans aX) ⟨(some ⟨bf, 0, none⟩), 1, ([[.int .i64 aT.1.Ab, str aT.1.Ac, .slice aV aT.1.Aa.length aU, .int .i64 aT.1.Ad]]), a6, bd, rfl, (fun _ => ⟨_, _, rfl⟩), (show LR Ja.R _ [[.int .i64 aT.1.Ab, str aT.1.Ac, .slice aV aT.1.Aa.length aU, .int .i64 aT.1.Ad]] [aT.1] from (LR.snoc LR.nil (Ja.of (x := aT.1) ⟨aV, aU, rfl, aW⟩))), bb, rfl⟩ (sc [0,0,0,1] rfl)
 refine ro (qab r2 rfl (nl rfl) ?_)
 refine qlh Ja.R_ok r3 aZ fun aY aX aW => ?_
 refine qj2 (R := Ja.R) (len := 1) (l := [aT.1]) (css := [[.int .i64 aT.1.Ab, str aT.1.Ac, .slice aV aT.1.Aa.length aU, .int .i64 aT.1.Ad]]) (cl := [.int .i64 aT.1.Ab, str aT.1.Ac, .slice aV aT.1.Aa.length aU, .int .i64 aT.1.Ad]) Ja.R_ok qbz rfl rfl (LR.snoc LR.nil (Ja.of (x := aT.1) ⟨aV, aU, rfl, aW⟩)) rfl rfl rfl ?_ fun bf => ?_
 · conv => whnf
   refine cT ?_
   first | done | rfl
 cases hm
 exact en (bg.trans aX) ⟨(some ⟨bf, 0, none⟩), 1, ([[.int .i64 aT.1.Ab, str aT.1.Ac, .slice aV aT.1.Aa.length aU, .int .i64 aT.1.Ad]]), a8, ba, rfl, (fun _ => ⟨_, _, rfl⟩), (show LR Ja.R _ [[.int .i64 aT.1.Ab, str aT.1.Ac, .slice aV aT.1.Aa.length aU, .int .i64 aT.1.Ad]] [aT.1] from (LR.snoc LR.nil (Ja.of (x := aT.1) ⟨aV, aU, rfl, aW⟩))), bc, rfl⟩ (sc [0,0,0,1] rfl)
 refine cb hm fun al bm hm => cgx (Jt bm :) ?_
 refine qax ?_
 refine cs rfl rfl hm ?_ ?_ <;> intro bA hm
 refine qci (fun _ : Ja => []) 117 4 ?_
 exact eE hm
 refine cb hm fun aT bl hm => cfx (JbX bl :) ?_
 rintro _ bu _ bg ⟨aV, aU, bh, a8, ba, rfl, bj, aZ, bc, rfl⟩
 refine qai rfl fun b5 => ?_
 refine qaa r0 rfl ⟨rfl, rfl, (nl rfl), ?_⟩
 refine cb hm fun bB bn hm => cgx (Jt bn :) ?_
 refine cs rfl rfl hm ?_ ?_ <;> intro bz hm
 refine cb hm fun bv bo hm => ckx (JK bo :) ?_
 rintro _ _ _ ⟨a6, bd, rfl, bb, rfl⟩
 refine ro (qab r2 rfl (nl rfl) ?_)
 refine qlh Ja.R_ok r3 aZ fun aY aX aW => ?_
 refine qj2 (R := Ja.R) (len := 1) (l := [aT.1]) (css := [[.int .i64 aT.1.Ab, str aT.1.Ac, .slice aV aT.1.Aa.length aU, .int .i64 aT.1.Ad]]) (cl := [.int .i64 aT.1.Ab, str aT.1.Ac, .slice aV aT.1.Aa.length aU, .int .i64 aT.1.Ad]) Ja.R_ok qbz rfl rfl (LR.snoc LR.nil (Ja.of (x := aT.1) ⟨aV, aU, rfl, aW⟩)) rfl rfl rfl ?_ fun bf => ?_
 · conv => whnf
   refine cT ?_
   first | done | rfl
 cases hm
 exact en (bg.trans aX) ⟨(some ⟨bf, 0, none⟩), 1, ([[.int .i64 aT.1.Ab, str aT.1.Ac, .slice aV aT.1.Aa.length aU, .int .i64 aT.1.Ad]]), a6, bd, rfl, (fun _ => ⟨_, _, rfl⟩), (show LR Ja.R _ [[.int .i64 aT.1.Ab, str aT.1.Ac, .slice aV aT.1.Aa.length aU, .int .i64 aT.1.Ad]] [aT.1] from (LR.snoc LR.nil (Ja.of (x := aT.1) ⟨aV, aU, rfl, aW⟩))), bb, rfl⟩ (sc [0,0,0,1] rfl)
 refine ro (qab r2 rfl (nl rfl) ?_)
 refine qlh Ja.R_ok r3 aZ fun aY aX aW => ?_
 refine qj2 (R := Ja.R) (len := 1) (l := [aT.1]) (css := [[.int .i64 aT.1.Ab, str aT.1.Ac, .slice aV aT.1.Aa.length aU, .int .i64 aT.1.Ad]]) (cl := [.int .i64 aT.1.Ab, str aT.1.Ac, .slice aV aT.1.Aa.length aU, .int .i64 aT.1.Ad]) Ja.R_ok qbz rfl rfl (LR.snoc LR.nil (Ja.of (x := aT.1) ⟨aV, aU, rfl, aW⟩)) rfl rfl rfl ?_ fun bf => ?_
 · conv => whnf
   refine cT ?_
   first | done | rfl
 cases hm
 exact en (bg.trans aX) ⟨(some ⟨bf, 0, none⟩), 1, ([[.int .i64 aT.1.Ab, str aT.1.Ac, .slice aV aT.1.Aa.length aU, .int .i64 aT.1.Ad]]), a8, ba, rfl, (fun _ => ⟨_, _, rfl⟩), (show LR Ja.R _ [[.int .i64 aT.1.Ab, str aT.1.Ac, .slice aV aT.1.Aa.length aU, .int .i64 aT.1.Ad]] [aT.1] from (LR.snoc LR.nil (Ja.of (x := aT.1) ⟨aV, aU, rfl, aW⟩))), bc, rfl⟩ (sc [0,0,0,1] rfl)
