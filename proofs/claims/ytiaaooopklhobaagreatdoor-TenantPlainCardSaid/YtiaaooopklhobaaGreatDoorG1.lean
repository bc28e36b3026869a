/- Functions of the program: mirrors, and that a call returns what the mirror says. Printed by gen.py. -/
import Derived.Test.YtiaaooopklhobaaGreatDoorShelf
import Derived.Test.YtiaaooopklhobaaGreatDoorLT
import Derived.KernelRfl
import Derived.Test.YtiaaooopklhobaaGreatDoorProg
set_option linter.unusedVariables false
set_option linter.unusedSimpArgs false
open Go Go.SL Go.Proofs
noncomputable section
set_option maxRecDepth 1000000
set_option maxHeartbeats 8000000
def Jas : List Str := [[109, 101, 116, 104, 111, 100], [104, 111, 115, 116], [112, 97, 116, 104], [113, 117, 101, 114, 121]]
def JaT : List Str := [[104, 101, 97, 100, 101, 114], [104, 97, 115], [97, 114, 103], [108, 101, 110], [108, 111, 119, 101, 114], [112, 97, 114, 116], [116, 101, 120, 116], [110, 117, 109, 98, 101, 114]]
def JaU : List Str := [[43], [45], [42], [61, 61], [33, 61], [60], [60, 61], [115, 116, 97, 114, 116, 115], [101, 110, 100, 115], [99, 111, 110, 116, 97, 105, 110, 115]]
def gkw0 : List Str := [[105, 102], [101, 108, 115, 101], [108, 101, 116], [118, 97, 114, 121], [116, 97, 103], [116, 116, 108], [100, 101, 110, 121], [112, 97, 115, 115], [116, 111, 107, 101, 110], [111, 114], [97, 110, 100], [110, 111, 116], [115, 116, 97, 114, 116, 115], [101, 110, 100, 115], [99, 111, 110, 116, 97, 105, 110, 115], [116, 114, 117, 101], [102, 97, 108, 115, 101]]
structure J3 where
  An : Str
  Tenant : Int
  Program : Str
abbrev J3.enc (x : J3) : List Go.Value := [str x.An, .int .i64 x.Tenant, str x.Program]
structure Jf where
  Op : Int
  N : Int
  S : Str
abbrev Jf.enc (x : Jf) : List Go.Value := [.int .i64 x.Op, .int .i64 x.N, str x.S]
structure Jx where
  tenant : Int
  code : (List Jf)
def Jx.R : Rp Jx := fun K cs x => ∃ a_0 : Option Addr, ∃ c_0 : Nat, cs = [.int .i64 x.tenant, .slice a_0 x.code.length c_0] ∧ RdC Jf.enc K a_0 c_0 3 x.code
theorem Jx.R_ok : qfq 2 Jx.R :=
  ⟨fun hk ⟨a_0, c_0, e, h_0⟩ => ⟨a_0, c_0, e, (h_0.mono hk)⟩, fun ⟨a_0, c_0, e, h_0⟩ => by simp [e], fun ⟨a_0, c_0, e, h_0⟩ v hv => by rw [e] at hv; simp at hv; rcases hv with rfl | rfl <;> rfl⟩
instance : RpI 2 Jx.R := ⟨Jx.R_ok⟩
structure JE where
  sites : (List (Str × Jx))
structure Ja where
  Ab : Int
  Ac : Str
  Aa : (List Ja)
  Ad : Int
inductive Ja.R (K : Hp) : List Value → Ja → Prop
  | mk {cs : List Value} {x : Ja} (a_0 : Option Addr) (c_0 : Nat) (e : cs = [.int .i64 x.Ab, str x.Ac, .slice a_0 x.Aa.length c_0, .int .i64 x.Ad]) (css0 : List (List Value)) (p0 : RdS K a_0 4 css0) (q0 : css0.length = x.Aa.length) (r0 : x.Aa.length ≤ c_0) (z0 : ∀ (i : Nat) (c : List Value) (y : Ja), css0[i]? = some c → x.Aa[i]? = some y → Ja.R K c y) : Ja.R K cs x
theorem Ja.out {K : Hp} {cs : List Value} {x : Ja} (h : Ja.R K cs x) : ∃ a_0 : Option Addr, ∃ c_0 : Nat, cs = [.int .i64 x.Ab, str x.Ac, .slice a_0 x.Aa.length c_0, .int .i64 x.Ad] ∧ LiC Ja.R K a_0 c_0 4 x.Aa := by
  cases h with
  | mk a_0 c_0 e css0 p0 q0 r0 z0 => exact ⟨a_0, c_0, e, ⟨⟨css0, p0, q0, z0⟩, r0⟩⟩
theorem Ja.of {K : Hp} {cs : List Value} {x : Ja} (h : ∃ a_0 : Option Addr, ∃ c_0 : Nat, cs = [.int .i64 x.Ab, str x.Ac, .slice a_0 x.Aa.length c_0, .int .i64 x.Ad] ∧ LiC Ja.R K a_0 c_0 4 x.Aa) : Ja.R K cs x := by
  obtain ⟨a_0, c_0, e, ⟨⟨aS, p0, q0, z0⟩, r0⟩⟩ := h
  exact .mk a_0 c_0 e aS p0 q0 r0 z0
theorem Ja.R_mono {K K' : Hp} (hk : K.Le K') {cs : List Value} {x : Ja} (h : Ja.R K cs x) : Ja.R K' cs x := by
  induction h with
  | mk a_0 c_0 e css0 p0 q0 r0 z0 ih0 => exact .mk a_0 c_0 e css0 (p0.mono hk) q0 r0 (ih0)
theorem Ja.R_ok : qfq 4 Ja.R := by
  refine ⟨fun hk h => Ja.R_mono hk h, fun h => ?_, fun h v hv => ?_⟩
  · obtain ⟨a_0, c_0, e, aS⟩ := Ja.out h; simp [e]
  · obtain ⟨a_0, c_0, e, aS⟩ := Ja.out h; rw [e] at hv; simp at hv; rcases hv with rfl | rfl | rfl | rfl <;> rfl
instance : RpI 4 Ja.R := ⟨Ja.R_ok⟩
structure Je where
  Ab : Int
  Ac : Str
  Ad : Int
  Column : Int
abbrev Je.enc (x : Je) : List Go.Value := [.int .i64 x.Ab, str x.Ac, .int .i64 x.Ad, .int .i64 x.Column]
structure Jb where
  list : (List Je)
  atZ : Int
  line : Int
def Jb.R : Rp Jb := fun K cs x => ∃ a_0 : Option Addr, ∃ c_0 : Nat, cs = [.slice a_0 x.list.length c_0, .int .i64 x.atZ, .int .i64 x.line] ∧ RdC Je.enc K a_0 c_0 4 x.list
theorem Jb.R_ok : qfq 3 Jb.R :=
  ⟨fun hk ⟨a_0, c_0, e, h_0⟩ => ⟨a_0, c_0, e, (h_0.mono hk)⟩, fun ⟨a_0, c_0, e, h_0⟩ => by simp [e], fun ⟨a_0, c_0, e, h_0⟩ v hv => by rw [e] at hv; simp at hv; rcases hv with rfl | rfl | rfl <;> rfl⟩
instance : RpI 3 Jb.R := ⟨Jb.R_ok⟩
structure Jn where
  line : Int
  err : Err
abbrev Jn.enc (x : Jn) : List Go.Value := [.int .i64 x.line, qcs 48 x.err]
structure Jk where
  Name : Str
  Ar : Int
abbrev Jk.enc (x : Jk) : List Go.Value := [str x.Name, .int .i64 x.Ar]
structure Jr where
  name : Str
  slot : Int
abbrev Jr.enc (x : Jr) : List Go.Value := [str x.name, .int .i64 x.slot]
structure Jd where
  code : (List Jf)
  names : (List Jr)
  Ap : Int
def Jd.R : Rp Jd := fun K cs x => ∃ a_0 : Option Addr, ∃ c_0 : Nat, ∃ a_1 : Option Addr, ∃ c_1 : Nat, cs = [.slice a_0 x.code.length c_0, .slice a_1 x.names.length c_1, .int .i64 x.Ap] ∧ RdC Jf.enc K a_0 c_0 3 x.code ∧ RdC Jr.enc K a_1 c_1 2 x.names
theorem Jd.R_ok : qfq 3 Jd.R :=
  ⟨fun hk ⟨a_0, c_0, a_1, c_1, e, h_0, h_1⟩ => ⟨a_0, c_0, a_1, c_1, e, (h_0.mono hk), (h_1.mono hk)⟩, fun ⟨a_0, c_0, a_1, c_1, e, h_0, h_1⟩ => by simp [e], fun ⟨a_0, c_0, a_1, c_1, e, h_0, h_1⟩ v hv => by rw [e] at hv; simp at hv; rcases hv with rfl | rfl | rfl <;> rfl⟩
instance : RpI 3 Jd.R := ⟨Jd.R_ok⟩
structure Jc where
  Name : Str
  Value : Str
abbrev Jc.enc (x : Jc) : List Go.Value := [str x.Name, str x.Value]
structure JU where
  Am : Str
  Target : Str
  Ao : (List Jc)
def JU.R : Rp JU := fun K cs x => ∃ a_0 : Option Addr, ∃ c_0 : Nat, cs = [str x.Am, str x.Target, .slice a_0 x.Ao.length c_0] ∧ RdC Jc.enc K a_0 c_0 2 x.Ao
theorem JU.R_ok : qfq 3 JU.R :=
  ⟨fun hk ⟨a_0, c_0, e, h_0⟩ => ⟨a_0, c_0, e, (h_0.mono hk)⟩, fun ⟨a_0, c_0, e, h_0⟩ => by simp [e], fun ⟨a_0, c_0, e, h_0⟩ v hv => by rw [e] at hv; simp at hv; rcases hv with rfl | rfl | rfl <;> rfl⟩
instance : RpI 3 JU.R := ⟨JU.R_ok⟩
structure Jl where
  An : Str
  Ae : Str
  Af : Str
  HasQuery : Bool
abbrev Jl.enc (x : Jl) : List Go.Value := [str x.An, str x.Ae, str x.Af, .bool x.HasQuery]
structure Jz where
  Tenant : Int
  TTL : Int
  Ai : Int
  Asked : Jl
  Cache : Jl
  Ao : (List Jc)
  Vary : (List Str)
  Ah : (List Str)
  Ak : Bool
  Al : Bool
def Jz.R : Rp Jz := fun K cs x => ∃ a_0 : Option Addr, ∃ c_0 : Nat, ∃ a_1 : Option Addr, ∃ c_1 : Nat, ∃ a_2 : Option Addr, ∃ c_2 : Nat, cs = [.int .i64 x.Tenant, .int .i64 x.TTL, .int .i64 x.Ai, str x.Asked.An, str x.Asked.Ae, str x.Asked.Af, .bool x.Asked.HasQuery, str x.Cache.An, str x.Cache.Ae, str x.Cache.Af, .bool x.Cache.HasQuery, .slice a_0 x.Ao.length c_0, .slice a_1 x.Vary.length c_1, .slice a_2 x.Ah.length c_2, .bool x.Ak, .bool x.Al] ∧ RdC Jc.enc K a_0 c_0 2 x.Ao ∧ RdC eS K a_1 c_1 1 x.Vary ∧ RdC eS K a_2 c_2 1 x.Ah
theorem Jz.R_ok : qfq 16 Jz.R :=
  ⟨fun hk ⟨a_0, c_0, a_1, c_1, a_2, c_2, e, h_0, h_1, h_2⟩ => ⟨a_0, c_0, a_1, c_1, a_2, c_2, e, (h_0.mono hk), (h_1.mono hk), (h_2.mono hk)⟩, fun ⟨a_0, c_0, a_1, c_1, a_2, c_2, e, h_0, h_1, h_2⟩ => by simp [e], fun ⟨a_0, c_0, a_1, c_1, a_2, c_2, e, h_0, h_1, h_2⟩ v hv => by rw [e] at hv; simp at hv; rcases hv with rfl | rfl | rfl | rfl | rfl | rfl | rfl | rfl | rfl | rfl | rfl | rfl | rfl | rfl | rfl | rfl <;> rfl⟩
instance : RpI 16 Jz.R := ⟨Jz.R_ok⟩
structure JV where
  Am : Str
  An : Str
  Ae : Str
  Af : Str
  Ao : (List Jc)
def JV.R : Rp JV := fun K cs x => ∃ a_0 : Option Addr, ∃ c_0 : Nat, cs = [str x.Am, str x.An, str x.Ae, str x.Af, .slice a_0 x.Ao.length c_0] ∧ RdC Jc.enc K a_0 c_0 2 x.Ao
theorem JV.R_ok : qfq 5 JV.R :=
  ⟨fun hk ⟨a_0, c_0, e, h_0⟩ => ⟨a_0, c_0, e, (h_0.mono hk)⟩, fun ⟨a_0, c_0, e, h_0⟩ => by simp [e], fun ⟨a_0, c_0, e, h_0⟩ v hv => by rw [e] at hv; simp at hv; rcases hv with rfl | rfl | rfl | rfl | rfl <;> rfl⟩
instance : RpI 5 JV.R := ⟨JV.R_ok⟩
structure Jp where
  Ae : Str
  Af : Str
  Ag : (List Jc)
  Vary : (List Str)
  Ah : (List Str)
  TTL : Int
  Ai : Int
  Aj : Int
  Ak : Bool
  Al : Bool
def Jp.R : Rp Jp := fun K cs x => ∃ a_0 : Option Addr, ∃ c_0 : Nat, ∃ a_1 : Option Addr, ∃ c_1 : Nat, ∃ a_2 : Option Addr, ∃ c_2 : Nat, cs = [str x.Ae, str x.Af, .slice a_0 x.Ag.length c_0, .slice a_1 x.Vary.length c_1, .slice a_2 x.Ah.length c_2, .int .i64 x.TTL, .int .i64 x.Ai, .int .i64 x.Aj, .bool x.Ak, .bool x.Al] ∧ RdC Jc.enc K a_0 c_0 2 x.Ag ∧ RdC eS K a_1 c_1 1 x.Vary ∧ RdC eS K a_2 c_2 1 x.Ah
theorem Jp.R_ok : qfq 10 Jp.R :=
  ⟨fun hk ⟨a_0, c_0, a_1, c_1, a_2, c_2, e, h_0, h_1, h_2⟩ => ⟨a_0, c_0, a_1, c_1, a_2, c_2, e, (h_0.mono hk), (h_1.mono hk), (h_2.mono hk)⟩, fun ⟨a_0, c_0, a_1, c_1, a_2, c_2, e, h_0, h_1, h_2⟩ => by simp [e], fun ⟨a_0, c_0, a_1, c_1, a_2, c_2, e, h_0, h_1, h_2⟩ v hv => by rw [e] at hv; simp at hv; rcases hv with rfl | rfl | rfl | rfl | rfl | rfl | rfl | rfl | rfl | rfl <;> rfl⟩
instance : RpI 10 Jp.R := ⟨Jp.R_ok⟩
structure JaE where
  f0 : Int
  f1 : Int
  f2 : Int
  f3 : Int
  f4 : Int
  f5 : Int
  f6 : Int
  f7 : Int
abbrev JaE.enc (x : JaE) : List Go.Value := [.int .u64 x.f0, .int .u64 x.f1, .int .u64 x.f2, .int .u64 x.f3, .int .u64 x.f4, .int .u64 x.f5, .int .u64 x.f6, .int .u64 x.f7]
structure Jo where
  Au : Bool
  depth : Int
  At : JaE
abbrev Jo.enc (x : Jo) : List Go.Value := [.bool x.Au, .int .i64 x.depth, .int .u64 x.At.f0, .int .u64 x.At.f1, .int .u64 x.At.f2, .int .u64 x.At.f3, .int .u64 x.At.f4, .int .u64 x.At.f5, .int .u64 x.At.f6, .int .u64 x.At.f7]
structure Ji where
  kind : Int
  n : Int
  s : Str
  As : Bool
abbrev Ji.enc (x : Ji) : List Go.Value := [.int .i64 x.kind, .int .i64 x.n, str x.s, .bool x.As]
structure Jh where
  Aq : JV
  most : Int
  result : Jp
  stack : (List Ji)
  Ap : (List Ji)
theorem qo7 : ElT Tryz.prog 31 30 3 := ElT.mk' rfl rfl rfl rfl rfl
theorem qcl : ElT Tryz.prog 52 5 1 := ElT.mk' rfl rfl rfl rfl rfl
theorem qb1 : ElT Tryz.prog 23 9 1 := ElT.mk' rfl rfl rfl rfl rfl
theorem qjz : ElT Tryz.prog 158 166 4 := ElT.mk' rfl rfl rfl rfl rfl
theorem qbx : ElT Tryz.prog 115 117 4 := ElT.mk' rfl rfl rfl rfl rfl
theorem qj0 : ElT Tryz.prog 284 3 1 := ElT.mk' rfl rfl rfl rfl rfl
theorem qj1 : ElT Tryz.prog 259 288 2 := ElT.mk' rfl rfl rfl rfl rfl
theorem qo8 : ElT Tryz.prog 80 135 3 := ElT.mk' rfl rfl rfl rfl rfl
theorem qj2 : ElT Tryz.prog 207 290 2 := ElT.mk' rfl rfl rfl rfl rfl
theorem qe6 : ElT Tryz.prog 35 41 2 := ElT.mk' rfl rfl rfl rfl rfl
theorem qo9 : ElT Tryz.prog 225 228 10 := ElT.mk' rfl rfl rfl rfl rfl
theorem qni : ElT Tryz.prog 126 128 4 := ElT.mk' rfl rfl rfl rfl rfl
def GG (K : Hp) : Prop := (GlN 0 K) ∧ (GlL eS 1 1 Jas K) ∧ (GlL eS 1 2 JaT K) ∧ (GlL eS 1 3 JaU K) ∧ (GlA 4 (Go.Lib.pow10Tab.map fun z => Value.int .u64 z) K) ∧ (GlL eS 1 5 gkw0 K)
theorem GG.of {K : Hp} (h : (GlN 0 K) ∧ (GlL eS 1 1 Jas K) ∧ (GlL eS 1 2 JaT K) ∧ (GlL eS 1 3 JaU K) ∧ (GlA 4 (Go.Lib.pow10Tab.map fun z => Value.int .u64 z) K) ∧ (GlL eS 1 5 gkw0 K)) : GG K := h
theorem GG.mono {K K' : Hp} (h : GG K) (hk : K.Le K') : GG K' := ⟨h.1.mono hk, h.2.1.mono hk, h.2.2.1.mono hk, h.2.2.2.1.mono hk, h.2.2.2.2.1.mono hk, h.2.2.2.2.2.mono hk⟩
theorem gg0 {K : Hp} (h : GG K) : GlN 0 K := h.1
theorem gg1 {K : Hp} (h : GG K) : GlL eS 1 1 Jas K := h.2.1
theorem gg2 {K : Hp} (h : GG K) : GlL eS 1 2 JaT K := h.2.2.1
theorem gg3 {K : Hp} (h : GG K) : GlL eS 1 3 JaU K := h.2.2.2.1
theorem gg4 {K : Hp} (h : GG K) : GlA 4 (Go.Lib.pow10Tab.map fun z => Value.int .u64 z) K := h.2.2.2.2.1
theorem gg5 {K : Hp} (h : GG K) : GlL eS 1 5 gkw0 K := h.2.2.2.2.2
def Jck (c : UInt8) : Option (Bool) :=
  if (decide ((c.toNat : Int) ≥ 48) && decide ((c.toNat : Int) ≤ 57)) then
  some true
  else
  if (decide ((c.toNat : Int) ≥ 97) && decide ((c.toNat : Int) ≤ 122)) then
  some true
  else
  some (decide ((c.toNat : Int) ≥ 65) && decide ((c.toNat : Int) ≤ 90))
theorem Jdt {c : UInt8} {K : Hp} {r : Bool}
    (hm : Jck c = some r)  :
    Fn Tryz.prog 77 [.int .u8 (c.toNat : Int)] K [] (fun v K' H' => v = .bool r ∧ H' = []) := by
 refine Fn.enter Tryz.func77 Tryz.call77 rfl fun F => ?_
 unfold Jck at hm
 refine qaj rfl ?_
 refine qae ?_ ?_ <;> intro aW
 refine ct aW (ct aW ?_)
 refine qae ?_ ?_ <;> intro aV
 replace hm := ift (qa5 aW aV) hm
 refine ct aV (ct aV (ct aV (ct aV (cT (cT (cT (cT ?_)))))))
 refine cT ?_
 exact eE hm
 replace hm := qba (qbs aW aV) hm
 refine cf aV (cf aV ?_)
 refine qae ?_ ?_ <;> intro aU
 refine ct aU (cf aV (ct aU (cf aV ?_)))
 refine qae ?_ ?_ <;> intro aT
 replace hm := ift (qa5 aU aT) hm
 refine ct aT (ct aT (ct aT (ct aT ?_)))
 exact eE hm
 replace hm := qba (qbs aU aT) hm
 refine cf aT (cf aT ?_)
 refine qae ?_ ?_ <;> intro aS
 refine ct aS (cf aT (ct aS (cf aT ?_)))
 exact bE (qcw (b := decide ((c.toNat : Int) ≤ 90)) aS) (eE hm)
 refine cf aS (cf aT (cf aS (cf aT ?_)))
 exact bE (((qav aS)).symm) (eE hm)
 refine cf aU (cf aV (cf aU (cf aV ?_)))
 replace hm := qba (qav aU) hm
 refine cF (cF (cF ?_))
 refine qae ?_ ?_ <;> intro aS
 refine ct aS (cF (ct aS (cF ?_)))
 exact bE (qcw (b := decide ((c.toNat : Int) ≤ 90)) aS) (eE hm)
 refine cf aS (cF (cf aS (cF ?_)))
 exact bE (((qav aS)).symm) (eE hm)
 refine cf aW (cf aW ?_)
 replace hm := qba (qav aW) hm
 refine cF (cF (cF ?_))
 refine qae ?_ ?_ <;> intro aU
 refine ct aU (cF (ct aU (cF ?_)))
 refine qae ?_ ?_ <;> intro aT
 replace hm := ift (qa5 aU aT) hm
 refine ct aT (ct aT (ct aT (ct aT ?_)))
 exact eE hm
 replace hm := qba (qbs aU aT) hm
 refine cf aT (cf aT ?_)
 refine qae ?_ ?_ <;> intro aS
 refine ct aS (cf aT (ct aS (cf aT ?_)))
 exact bE (qcw (b := decide ((c.toNat : Int) ≤ 90)) aS) (eE hm)
 refine cf aS (cf aT (cf aS (cf aT ?_)))
 exact bE (((qav aS)).symm) (eE hm)
 refine cf aU (cF (cf aU (cF ?_)))
 replace hm := qba (qav aU) hm
 refine cF (cF (cF ?_))
 refine qae ?_ ?_ <;> intro aS
 refine ct aS (cF (ct aS (cF ?_)))
 exact bE (qcw (b := decide ((c.toNat : Int) ≤ 90)) aS) (eE hm)
 refine cf aS (cF (cf aS (cF ?_)))
 exact bE (((qav aS)).symm) (eE hm)

def JbQ : List UInt8 → Nat → Option (Fl (Str × Err) (Unit))
  | [], _ => some (Fl.go ())
  | e2 :: aU, i2 =>
    (Jck e2).bind fun aS =>
    (if (!aS) then some (decide ((e2.toNat : Int) ≠ 45)) else some false).bind fun aT =>
    if aT then
    some (Fl.ret (([] : Str), (some 8)))
    else
    JbQ aU (i2 + 1)
def JbR : List Str → Nat → Option (Fl (Str × Err) (Unit))
  | [], _ => some (Fl.go ())
  | e0 :: aU, i0 =>
    (((if (decide ((e0.length : Int) < 1) || decide ((e0.length : Int) > 63)) then some true else (ix e0 0).bind fun aV =>
    some (decide ((aV.toNat : Int) = 45))).bind fun aW =>
    (if aW then some true else (chk (InI ((e0.length : Int) - 1))).bind fun _ =>
    (ix e0 ((e0.length : Int) - 1)).bind fun aT =>
    some (decide ((aT.toNat : Int) = 45))).bind fun aX =>
    some aX) : Option (Bool)).bind fun aS =>
    if aS then
    some (Fl.ret (([] : Str), (some 8)))
    else
    (chk (e0.length ≤ qbh)).bind fun _ =>
    (JbQ e0 0).bind fun s2 => s2.el (fun r => some (Fl.ret r)) fun t2 =>
    JbR aU (i0 + 1)
def Jbm : Nat → Nat → Str → Option (Str)
  | 0, _, aS => some aS
  | aU + 1, i4, aS =>
    (ix aS (i4 : Int)).bind fun aT =>
    if (decide ((aT.toNat : Int) ≥ 65) && decide ((aT.toNat : Int) ≤ 90)) then
    (ix aS (i4 : Int)).bind fun aV =>
    Jbm aU (i4 + 1) (aS.set (((i4 : Int)).toNat) (aT + (32 : UInt8)))
    else
    Jbm aU (i4 + 1) aS
def Jcg (s : Str) : Option (Str × Err) :=
  if decide ((s.length : Int) > 100) then
  some (([] : Str), (some 8))
  else
  (qe4 s ([46] : Str)).bind fun aS =>
  (chk (aS.length ≤ qbh)).bind fun _ =>
  (JbR aS 0).bind fun s0 => s0.el some fun t0 =>
  (chk (s.length ≤ lim)).bind fun _ =>
  (chk (InI (s.length : Int))).bind fun _ =>
  (Jbm (s.length : Int).toNat 0 s).bind fun t4 =>
  some (t4, none)
theorem JdB {s : Str} {K : Hp} {r : Str × Err}
    (hm : Jcg s = some r) (hG : GG K) :
    Fn Tryz.prog 44 [str s] K [] (fun v K' H' => v = .tuple #[str r.1, qcs 48 r.2] ∧ H' = []) := by
 refine Fn.enter Tryz.func44 Tryz.call44 rfl fun F => ?_
 unfold Jcg at hm
 refine ro (qa3 rfl ?_)
 refine cs rfl rfl hm ?_ ?_ <;> intro bZ hm
 refine qar rfl ?_
 exact eE hm
 refine cb hm fun bG bR hm => ck0 (qf2 bR (gg0 hG)) ?_
 rintro _ _ _ ⟨bC, bu, rfl, bg, rfl⟩
 refine ro (qak rfl ?_)
 obtain ⟨bV, hm⟩ := qaw hm
 obtain ⟨s0, aY, hm⟩ := bnd hm
 refine lD (σ := (Unit)) ([2,3,5,6,7] ++ rg 18 43) [0, 1] (fun i0 => [(18, .int .i64 (i0 : Int))]) (fun _ => []) (fun _ => []) (fun _ => True) (fun i0 _ => JbR (bG.drop i0) i0 = some s0) (fun t0 => s0 = Fl.go t0) (fun i0 => bG.length - i0) 0 () aY (And.intro qe (And.intro ?_ ?_))
 clear aY
 rintro i0 _ _ aY j0
 conv at aY => whnf
 refine qac rfl ?_
 refine qae ?_ ?_ <;> intro w0
 obtain ⟨e0, bl, bQ⟩ := ltx w0
 rw [bQ, JbR.eq_2] at aY
 refine qal rfl ?_
 refine RStep.ofN (qad rfl rfl (qcu bg bl) (nn _) (qff rfl bl) (ro (qbz (i := i0) (o := 0) r0 rfl bl rfl rfl (ro (qa3 rfl ?_)))))
 obtain ⟨bt, aS, aY⟩ := bnd aY
 refine jR (σ := Bool) (rg 24 18) (fun bd => [(41, .bool bd)]) (fun bd => bd = bt) ?_ ?_
 refine qaj rfl ?_
 refine qae ?_ ?_ <;> intro aX
 refine ct aX (ct aX ?_)
 obtain ⟨bJ, ba, aS⟩ := bnd aS
 replace ba := ift (qbq aX) ba
 refine cT (cT (cT (cT ?_)))
 obtain ⟨bD, a8, aS⟩ := bnd aS
 replace a8 := ift (si ba).symm a8
 refine cT (cT (cT (cT (cT (cT ?_)))))
 exact eMq aS _ ⟨bq (si a8), trivial⟩
 refine cf aX (cf aX ?_)
 obtain ⟨bJ, ba, aS⟩ := bnd aS
 refine qae ?_ ?_ <;> intro aW
 replace ba := ift (qfr aX aW) ba
 refine ct aW (ct aW (ct aW ?_))
 obtain ⟨bD, a8, aS⟩ := bnd aS
 replace a8 := ift (si ba).symm a8
 refine cT (cT (cT (cT (cT (cT ?_)))))
 exact eMq aS _ ⟨bq (si a8), trivial⟩
 replace ba := qba (qc0 aX aW) ba
 refine cf aW ?_
 obtain ⟨cj, bU, bW, ba⟩ := ixb ba
 refine qaz rfl bU bW (cf aW (qaf (cf aW ?_)))
 obtain ⟨bD, a8, aS⟩ := bnd aS
 refine qae ?_ ?_ <;> intro aU
 replace a8 := ift ((si ba).symm.trans aU) a8
 refine ct aU (ct aU (ct aU (ct aU (ct aU ?_))))
 exact eMq aS _ ⟨bq (si a8), trivial⟩
 replace a8 := qba ((si ba).symm.trans aU) a8
 refine cf aU (cf aU ?_)
 obtain ⟨bS, a8⟩ := qaw a8
 refine qam bS (cf aU ?_)
 obtain ⟨ce, bL, bP, a8⟩ := ixb a8
 refine qaz rfl bL bP (cf aU (qaf (cf aU ?_)))
 exact eMq aS _ ⟨bq (si a8), trivial⟩
 rintro bd rfl bM
 refine cs rfl rfl aY ?_ ?_ <;> intro cm aY
 refine qar rfl ?_
 exact eE (er aY hm)
 obtain ⟨bz, aY⟩ := qaw aY
 obtain ⟨s2, aZ, aY⟩ := bnd aY
 refine lD (σ := (Unit)) ([2,3,7] ++ rg 44 16) [0, 1] (fun i2 => [(44, .int .i64 (i2 : Int))]) (fun _ => []) (fun _ => []) (fun _ => True) (fun i2 _ => JbQ (e0.drop i2) i2 = some s2) (fun t2 => s2 = Fl.go t2) (fun i2 => e0.length - i2) 0 () aZ (And.intro qe (And.intro ?_ ?_))
 clear aZ
 rintro i2 _ _ aZ j2
 conv at aZ => whnf
 refine qac rfl ?_
 refine qae ?_ ?_ <;> intro w2
 obtain ⟨e2, bj, bI⟩ := ltx w2
 rw [bI, JbQ.eq_2] at aZ
 refine qal rfl ?_
 refine qaj rfl ?_
 refine qaz rfl (nn _) bj ?_
 refine cb aZ fun ca bT aZ => cg0 (Jdt bT :) ?_
 refine qau ?_
 obtain ⟨bX, bf, aZ⟩ := bnd aZ
 refine cS bf (fun aT bf => ?_) fun aT bf => ?_
 refine ct aT (ct aT (qaz rfl (nn _) bj (ct aT (qa8 (ct aT (qac rfl ?_))))))
 refine qae ?_ ?_ <;> intro bB
 replace aZ := ift ((si bf).symm.trans bB) aZ
 refine qar rfl ?_
 exact eE (er (er aZ aY :) hm)
 replace aZ := qba ((si bf).symm.trans bB) aZ
 refine qam (qbu bj bz) ?_
 exact eR aZ (_, ())
 refine cf aT (cf aT (cf aT (cf aT (qac rfl (cF ?_)))))
 replace aZ := qba (si bf).symm aZ
 refine qam (qbu bj bz) ?_
 exact eR aZ (_, ())
 rw [lty w2, JbQ.eq_1] at aZ
 refine cT ?_
 exact eM aZ _
 rintro t2 _ rfl j2
 replace aY := elg aY
 refine qam (qbu bl bV) ?_
 exact eR aY (_, ())
 rw [lty w0, JbR.eq_1] at aY
 refine cT ?_
 exact eM aY _
 rintro t0 _ rfl j0
 replace hm := elg hm
 obtain ⟨bN, hm⟩ := qaw hm
 refine qfy rfl rfl rfl bN ?_
 intro bv bK bY
 refine ro (qak rfl ?_)
 obtain ⟨br, hm⟩ := qaw hm
 obtain ⟨s4, a6, hm⟩ := bnd hm
 refine lD (σ := (Str)) ([9,10] ++ rg 65 17) [1, 2] (fun i4 => [(65, .int .i64 (i4 : Int))]) (fun _ => []) (fun t4 => [qas eU bv 5 1 bK t4]) (fun t4 => (0 < t4.length → Has bv) ∧ s.length = t4.length) (fun i4 t4 => Jbm ((s.length : Int).toNat - i4) i4 t4 = some s4) (fun t4 => t4 = s4) (fun i4 => (s.length : Int).toNat - i4) 0 _ a6 (And.intro qe (And.intro ?_ ?_))
 clear a6
 rintro i4 bm ⟨bc, bb⟩ a6 j4
 conv at a6 => whnf
 refine qac rfl ?_
 refine qae ?_ ?_ <;> intro w4
 rw [ltn w4, Jbm.eq_2] at a6
 refine qal rfl ?_
 obtain ⟨bp, bw, bn, a6⟩ := ixb a6
 refine RStep.ofN (qad rfl rfl (qcu bc bn) bw (qax bb bw bn) (ro (qbz (i := ((i4 : Int)).toNat) (o := 0) r0 rfl bn rfl rfl ?_)))
 refine qaj rfl ?_
 refine qae ?_ ?_ <;> intro aV
 refine ct aV (ct aV (qac rfl ?_))
 refine qae ?_ ?_ <;> intro bA
 replace a6 := ift (qa5 aV bA) a6
 refine qhw (x := bp) (y := (32 : UInt8)) rfl rfl ?_
 obtain ⟨bO, bH, bo, a6⟩ := ixb a6
 refine RStep.ofN (qad rfl rfl (qcu bc bo) bH (qax bb bH bo) ?_)
 refine qex (o := 0) (y := (bp + (32 : UInt8))) bO r0 rfl bo rfl (by (conv => whnf); exact ⟨rfl, rfl, (nl rfl), rfl, rfl, rfl⟩) ?_
 refine qam (qiy w4 br) ?_
 exact rd (i4 + 1, (bm.set (((i4 : Int)).toNat) (bp + (32 : UInt8)))) ⟨rfl, trivial⟩ rfl (pf rfl) lr (qo6 w4) ⟨⟨(by first | simpa using bc | exact fun _ => ⟨_, _, rfl⟩), ((bb).trans List.length_set.symm)⟩, a6⟩
 replace a6 := qba (qbs aV bA) a6
 refine qam (qiy w4 br) ?_
 exact eR a6 (_, _)
 refine cf aV (cf aV (qac rfl (cF ?_)))
 replace a6 := qba (qav aV) a6
 refine qam (qiy w4 br) ?_
 exact eR a6 (_, _)
 rw [lto w4, Jbm.eq_1] at a6
 refine cT ?_
 exact eM a6 _
 rintro t4 ⟨bF, bh⟩ rfl j4
 refine ro (qeg bh r0 rfl rfl rfl ?_)
 exact eE hm

def JcG (c : UInt8) : Option (Bool) :=
  some ((decide ((c.toNat : Int) ≥ 97) && decide ((c.toNat : Int) ≤ 122)) || decide ((c.toNat : Int) = 95))
theorem Jdi {c : UInt8} {K : Hp} {r : Bool}
    (hm : JcG c = some r)  :
    Fn Tryz.prog 203 [.int .u8 (c.toNat : Int)] K [] (fun v K' H' => v = .bool r ∧ H' = []) := by
 refine Fn.enter Tryz.func203 Tryz.call203 rfl fun F => ?_
 unfold JcG at hm
 refine qaj rfl ?_
 refine qae ?_ ?_ <;> intro aS
 refine ct aS (ct aS ?_)
 refine qae ?_ ?_ <;> intro aT
 refine ct aT (ct aT ?_)
 exact bE (((qbq (qa5 aS aT))).symm) (eE hm)
 refine cf aT (qaf (cf aT ?_))
 exact bE (qgx (b := decide ((c.toNat : Int) = 95)) (qbs aS aT)) (eE hm)
 refine cf aS (cf aS (cF (cF (qaf (cF ?_)))))
 exact bE (qgx (b := decide ((c.toNat : Int) = 95)) (qav aS)) (eE hm)

def Jcl (c : UInt8) : Option (Bool) :=
  some (decide ((c.toNat : Int) ≥ 48) && decide ((c.toNat : Int) ≤ 57))
theorem JcL {c : UInt8} {K : Hp} {r : Bool}
    (hm : Jcl c = some r)  :
    Fn Tryz.prog 204 [.int .u8 (c.toNat : Int)] K [] (fun v K' H' => v = .bool r ∧ H' = []) := by
 refine Fn.enter Tryz.func204 Tryz.call204 rfl fun F => ?_
 unfold Jcl at hm
 refine qaj rfl ?_
 refine qae ?_ ?_ <;> intro aS
 refine ct aS (ct aS ?_)
 exact bE (qcw (b := decide ((c.toNat : Int) ≤ 57)) aS) (eE hm)
 refine cf aS (cf aS ?_)
 exact bE (((qav aS)).symm) (eE hm)

def JaV (s : Str) : Nat → Str → Int → Option (Fl (Int × Str) (Str × Int))
  | 0, _, _ => none
  | aU + 1, ac, aS =>
    if decide (aS < (s.length : Int)) then
    (ix s aS).bind fun aT =>
    if decide ((aT.toNat : Int) = 34) then
    (chk (InI (aS + 1))).bind fun _ =>
    some (Fl.ret ((aS + 1), ac))
    else
    if decide ((aT.toNat : Int) = 92) then
    (chk (InI (aS + 1))).bind fun _ =>
    if decide ((aS + 1) = (s.length : Int)) then
    some (Fl.ret (0, ([] : Str)))
    else
    (ix s (aS + 1)).bind fun aY =>
    (if decide ((aY.toNat : Int) ≠ 34) then (ix s (aS + 1)).bind fun aX =>
    some (decide ((aX.toNat : Int) ≠ 92)) else some false).bind fun aW =>
    if aW then
    some (Fl.ret (0, ([] : Str)))
    else
    (ix s (aS + 1)).bind fun aV =>
    (chk (ac.length + ([aV] : Str).length ≤ lim)).bind fun _ =>
    (chk (InI ((aS + 1) + 1))).bind fun _ =>
    JaV s aU (ac ++ ([aV] : Str)) ((aS + 1) + 1)
    else
    if (decide ((aT.toNat : Int) < 32) || decide ((aT.toNat : Int) > 126)) then
    some (Fl.ret (0, ([] : Str)))
    else
    (chk (ac.length + ([aT] : Str).length ≤ lim)).bind fun _ =>
    (chk (InI (aS + 1))).bind fun _ =>
    JaV s aU (ac ++ ([aT] : Str)) (aS + 1)
    else
    some (Fl.go (ac, aS))
def Jc5 (n : Nat) (s : Str) : Option (Int × Str) :=
  (JaV s n [] 1).bind fun s0 => s0.el some fun t0 =>
  some (0, ([] : Str))
theorem Jd1 {n : Nat} {s : Str} {K : Hp} {r : Int × Str}
    (hm : Jc5 n s = some r)  :
    Fn Tryz.prog 205 [str s] K [] (fun v K' H' => v = .tuple #[.int .i64 r.1, str r.2] ∧ H' = []) := by
 refine Fn.enter Tryz.func205 Tryz.call205 rfl fun F => ?_
 unfold Jc5 at hm
 obtain ⟨s0, aS, hm⟩ := bnd hm
 refine qhd eU 5 1 ?_
 refine lD (σ := (Str × Int) × Option Addr × Nat) (rg 2 56) [1] (fun _ => []) (fun (t0, aW, aX) => [(4, .slice aW t0.1.length aX), (5, .int .i64 t0.2)]) (fun (t0, aW, aX) => [qas eU aW 5 1 aX t0.1]) (fun (t0, aW, aX) => (0 < t0.1.length → Has aW) ∧ True) (fun i0 (t0, aW, aX) => JaV s i0 t0.1 t0.2 = some s0) (fun (t0, aW, aX) => s0 = Fl.go t0) (fun i0 => i0) n ((_, _), _, _) aS (And.intro qe (And.intro ?_ ?_))
 clear aS
 rintro i0 ⟨⟨ac, br⟩, bn, bj⟩ ⟨bb, _⟩ aS j0
 dsimp only at aS ⊢
 cases i0 with
 | zero => rw [JaV.eq_1] at aS; cases aS
 | succ i0 =>
  rw [JaV.eq_2] at aS
  refine ro (qa3 rfl ?_)
  refine cs rfl rfl aS ?_ ?_ <;> intro bG aS
  refine qal rfl ?_
  obtain ⟨bc, bp, bt, aS⟩ := ixb aS
  refine qaz rfl bp bt ?_
  refine qal rfl ?_
  refine qaf (cs rfl rfl aS ?_ ?_) <;> intro bB aS
  refine qa4 ⟨⟨[], false⟩, _, [], []⟩ (by kernel_rfl) ⟨Hp.Le.refl _, (pf rfl), ci0⟩ ?_
  refine ci aS fun aS => ?_
  refine qeg rfl r0 rfl rfl rfl ?_
  exact eE (er aS hm)
  refine qaf (cs rfl rfl aS ?_ ?_) <;> intro bC aS
  refine ci aS fun aS => ?_
  refine qaj rfl ?_
  refine ro (qa3 rfl (qaf ?_))
  refine cS aS (fun aT aS => ?_) fun aT aS => ?_
  refine ct aT (ct aT (ct aT (ct aT (ct aT (ct aT (qac rfl (cT ?_)))))))
  exact eE (er aS hm)
  refine cf aT (cf aT ?_)
  obtain ⟨bD, bz, bu, aS⟩ := ixb aS
  refine qaz rfl bz bu (cf aT (qa8 (cf aT ?_)))
  obtain ⟨bA, aY, aS⟩ := bnd aS
  refine cS aY (fun aU aY => ?_) fun aU aY => ?_
  refine ct aU (ct aU ?_)
  obtain ⟨bF, bw, bv, aY⟩ := ixb aY
  refine qaz rfl bw bv (ct aU (qa8 (cf aT (ct aU (cf aT (qac rfl ?_))))))
  refine qae ?_ ?_ <;> intro bd
  replace aS := ift ((si aY).symm.trans bd) aS
  exact eE (er aS hm)
  replace aS := qba ((si aY).symm.trans bd) aS
  obtain ⟨a6, ba, a8, aS⟩ := ixb aS
  refine qaz rfl ba a8 ?_
  refine bsO (len := 1) (enc := eU) (l := ([a6] : Str)) (cl := [.int .u8 (a6.toNat : Int)]) qcl rfl rfl (fun _ _ => rfl) rfl rfl rfl ?_ fun bm => ?_
  · conv => whnf
    refine cT ?_
    first | done | rfl
  obtain ⟨aZ, aS⟩ := qaw aS
  refine apE rfl r1 qcl (qay rfl r0 rfl (fun _ => rfl) (fun _ => rfl)) aZ ?_
  intro bl bh bg
  refine ci aS fun aS => ?_
  exact eR aS (_, (_, _), _, _)
  refine cf aU (cf aU (cf aU (cf aT (cf aU (cf aT (qac rfl (cF ?_)))))))
  replace aS := qba (si aY).symm aS
  obtain ⟨a6, ba, a8, aS⟩ := ixb aS
  refine qaz rfl ba a8 ?_
  refine bsO (len := 1) (enc := eU) (l := ([a6] : Str)) (cl := [.int .u8 (a6.toNat : Int)]) qcl rfl rfl (fun _ _ => rfl) rfl rfl rfl ?_ fun bm => ?_
  · conv => whnf
    refine cT ?_
    first | done | rfl
  obtain ⟨aZ, aS⟩ := qaw aS
  refine apE rfl r1 qcl (qay rfl r0 rfl (fun _ => rfl) (fun _ => rfl)) aZ ?_
  intro bl bh bg
  refine ci aS fun aS => ?_
  exact eR aS (_, (_, _), _, _)
  refine qaj rfl ?_
  refine qae ?_ ?_ <;> intro aV
  refine ct aV (ct aV (qac rfl (cT ?_)))
  replace aS := ift (qbq aV) aS
  exact eE (er aS hm)
  refine cf aV (cf aV (qac rfl ?_))
  refine qae ?_ ?_ <;> intro bo
  replace aS := ift (qfr aV bo) aS
  exact eE (er aS hm)
  replace aS := qba (qc0 aV bo) aS
  refine bsO (len := 1) (enc := eU) (l := ([bc] : Str)) (cl := [.int .u8 (bc.toNat : Int)]) qcl rfl rfl (fun _ _ => rfl) rfl rfl rfl ?_ fun bm => ?_
  · conv => whnf
    refine cT ?_
    first | done | rfl
  obtain ⟨aZ, aS⟩ := qaw aS
  refine apE rfl r1 qcl (qay rfl r0 rfl (fun _ => rfl) (fun _ => rfl)) aZ ?_
  intro bl bh bg
  refine ci aS fun aS => ?_
  exact eR aS (_, (_, _), _, _)
  refine cT ?_
  exact eM aS (_, _, _)
 rintro ⟨t0, aW, aX⟩ ⟨bf, _⟩ rfl j0
 replace hm := elg hm
 exact eE hm

def Jai (s : Str) (prefixZ : Str) : Option (Bool) :=
  (if decide ((s.length : Int) ≥ (prefixZ.length : Int)) then (chk (0 ≤ (0 : Int) ∧ (0 : Int) ≤ (prefixZ.length : Int) ∧ (prefixZ.length : Int) ≤ (s.length : Int))).bind fun _ =>
  some (decide ((subL s (0 : Int) (prefixZ.length : Int)) = prefixZ)) else some false).bind fun aS =>
  some aS
theorem Ja7 {s : Str} {prefixZ : Str} {K : Hp} {r : Bool}
    (hm : Jai s prefixZ = some r)  :
    Fn Tryz.prog 128 [str s, str prefixZ] K [] (fun v K' H' => v = .bool r ∧ H' = []) := by
 refine Fn.enter Tryz.func128 Tryz.call128 rfl fun F => ?_
 unfold Jai at hm
 refine qaj rfl ?_
 refine ro (qa3 rfl (ro (qa3 rfl ?_)))
 obtain ⟨aV, aT, hm⟩ := bnd hm
 refine cS aT (fun aS aT => ?_) fun aS aT => ?_
 refine ct aS (ct aS (ro (qa3 rfl (ct aS ?_))))
 obtain ⟨aU, aT⟩ := qaw aT
 refine RStep.ofN (qdz (lo := none) (hi := (some (prefixZ.length : Int))) rfl aU (ct aS (ct aS (qap (ct aS ?_)))))
 exact bE (si aT) (eE hm)
 refine cf aS (cf aS (cf aS (cf aS (cf aS (cf aS ?_)))))
 exact bE (si aT) (eE hm)

def Jao (s : Str) (prefixZ : Str) : Option (Bool) :=
  (Jai s prefixZ).bind fun x7 =>
  some x7
theorem JaA {s : Str} {prefixZ : Str} {K : Hp} {r : Bool}
    (hm : Jao s prefixZ = some r)  :
    Fn Tryz.prog 75 [str s, str prefixZ] K [] (fun v K' H' => v = .bool r ∧ H' = []) := by
 refine Fn.enter Tryz.func75 Tryz.call75 rfl fun F => ?_
 unfold Jao at hm
 refine cb hm fun x7 q7 hm => cg0 (Ja7 q7 :) ?_
 exact eE hm

def Jbz (s : Str) : Nat → Int → Option (Int)
  | 0, _ => none
  | aU + 1, aS =>
    if decide (aS < (s.length : Int)) then
    (ix s aS).bind fun aT =>
    (JcG aT).bind fun aV =>
    (if aV then some true else (ix s aS).bind fun aY =>
    (Jcl aY).bind fun aW =>
    some aW).bind fun aX =>
    if aX then
    (chk (InI (aS + 1))).bind fun _ =>
    Jbz s aU (aS + 1)
    else
    some aS
    else
    some aS
def JbA (s : Str) : Nat → Int → Option (Int)
  | 0, _ => none
  | aT + 1, aS =>
    (if decide (aS < (s.length : Int)) then (ix s aS).bind fun aW =>
    (Jcl aW).bind fun aV =>
    some aV else some false).bind fun aU =>
    if aU then
    (chk (InI (aS + 1))).bind fun _ =>
    JbA s aT (aS + 1)
    else
    some aS
def JbB (s : Str) : Nat → Nat → Option (Fl (Int × Int × Str) (Unit))
  | 0, _ => some (Fl.go ())
  | aT + 1, i5 =>
    (ix ([([61, 61] : Str), ([33, 61] : Str), ([60, 61] : Str), ([60] : Str), ([43] : Str), ([45] : Str), ([42] : Str), ([40] : Str), ([41] : Str), ([123] : Str), ([125] : Str), ([44] : Str), ([59] : Str), ([61] : Str)]) (i5 : Int)).bind fun aS =>
    (Jao s aS).bind fun aU =>
    if aU then
    some (Fl.ret (4, (aS.length : Int), aS))
    else
    JbB s aT (i5 + 1)
def Jdm (n : Nat) (s : Str) : Option (Int × Int × Str) :=
  (ix s 0).bind fun al =>
  (JcG al).bind fun aT =>
  if aT then
  (Jbz s n 1).bind fun t1 =>
  (chk (0 ≤ (0 : Int) ∧ (0 : Int) ≤ t1 ∧ t1 ≤ (s.length : Int))).bind fun _ =>
  some (1, t1, (subL s (0 : Int) t1))
  else
  (Jcl al).bind fun aU =>
  if aU then
  (JbA s n 1).bind fun t3 =>
  if decide (t3 > 9) then
  some (0, 0, ([] : Str))
  else
  (chk (0 ≤ (0 : Int) ∧ (0 : Int) ≤ t3 ∧ t3 ≤ (s.length : Int))).bind fun _ =>
  some (2, t3, (subL s (0 : Int) t3))
  else
  if decide ((al.toNat : Int) = 34) then
  (Jc5 n s).bind fun aS =>
  some (3, aS.1, aS.2)
  else
  (chk (InI (14 : Int))).bind fun _ =>
  (JbB s (14 : Int).toNat 0).bind fun s5 => s5.el some fun t5 =>
  some (0, 0, ([] : Str))
theorem Jei {n : Nat} {s : Str} {K : Hp} {r : Int × Int × Str}
    (hm : Jdm n s = some r)  :
    Fn Tryz.prog 148 [str s] K [] (fun v K' H' => v = .tuple #[.int .i64 r.1, .int .i64 r.2.1, str r.2.2] ∧ H' = []) := by
 refine Fn.enter Tryz.func148 Tryz.call148 rfl fun F => ?_
 unfold Jdm at hm
 obtain ⟨al, bf, bu, hm⟩ := ixb hm
 refine qaz rfl bf bu ?_
 refine qal rfl ?_
 refine cb hm fun bG bh hm => cg0 (Jdi bh :) ?_
 refine cs rfl rfl hm ?_ ?_ <;> intro bL hm
 obtain ⟨s1, aT, hm⟩ := bnd hm
 refine lD (σ := (Int)) ([5] ++ rg 16 18) [0] (fun _ => []) (fun t1 => [(5, .int .i64 t1)]) (fun _ => []) (fun _ => True) (fun i1 t1 => Jbz s i1 t1 = some s1) (fun t1 => t1 = s1) (fun i1 => i1) n _ aT (And.intro qe (And.intro ?_ ?_))
 clear aT
 rintro i1 bm _ aT j1
 conv at aT => whnf
 cases i1 with
 | zero => rw [Jbz.eq_1] at aT; cases aT
 | succ i1 =>
  rw [Jbz.eq_2] at aT
  refine qaj rfl ?_
  refine ro (qa3 rfl ?_)
  refine cS aT (fun aS aT => ?_) fun aS aT => ?_
  refine ct aS (ct aS ?_)
  obtain ⟨bD, bp, bv, aT⟩ := ixb aT
  refine qaz rfl bp bv (ct aS ?_)
  refine cb aT fun bV bl aT => cg0 (Jdi bl :) ?_
  refine ct aS ?_
  obtain ⟨bI, aY, aT⟩ := bnd aT
  refine cS aY (fun aU aY => ?_) fun aU aY => ?_
  refine ct aU (ct aU (ct aU (ct aS (ct aU (ct aS (qac rfl (cT ?_)))))))
  replace aT := ift (si aY).symm aT
  refine qal rfl ?_
  refine ci aT fun aT => ?_
  exact eR aT (_, _)
  refine cf aU (cf aU ?_)
  obtain ⟨bK, bC, bc, aY⟩ := ixb aY
  refine qaz rfl bC bc (cf aU ?_)
  refine cb aY fun bM bn aY => cg0 (JcL bn :) ?_
  refine ct aS (cf aU (ct aS (qac rfl ?_)))
  refine qae ?_ ?_ <;> intro ba
  replace aT := ift ((si aY).symm.trans ba) aT
  refine qal rfl ?_
  refine ci aT fun aT => ?_
  exact eR aT (_, _)
  replace aT := qba ((si aY).symm.trans ba) aT
  refine cT ?_
  exact eM aT _
  refine cf aS (cf aS (cf aS (cf aS (cf aS (cf aS (qac rfl (cF ?_)))))))
  refine cT ?_
  exact eM aT _
 rintro t1 _ rfl j1
 refine qa4 ⟨⟨[], false⟩, _, [], []⟩ (by kernel_rfl) ⟨Hp.Le.refl _, (pf rfl), ci0⟩ ?_
 obtain ⟨bz, hm⟩ := qaw hm
 refine qdz (lo := none) (hi := (some t1)) rfl bz ?_
 exact eE hm
 refine cb hm fun bN bt hm => cg0 (JcL bt :) ?_
 refine cs rfl rfl hm ?_ ?_ <;> intro bH hm
 obtain ⟨s3, aW, hm⟩ := bnd hm
 refine lD (σ := (Int)) ([5] ++ rg 41 12) [0] (fun _ => []) (fun t3 => [(5, .int .i64 t3)]) (fun _ => []) (fun _ => True) (fun i3 t3 => JbA s i3 t3 = some s3) (fun t3 => t3 = s3) (fun i3 => i3) n _ aW (And.intro qe (And.intro ?_ ?_))
 clear aW
 rintro i3 br _ aW j3
 conv at aW => whnf
 cases i3 with
 | zero => rw [JbA.eq_1] at aW; cases aW
 | succ i3 =>
  rw [JbA.eq_2] at aW
  refine qaj rfl ?_
  refine ro (qa3 rfl ?_)
  obtain ⟨bO, aZ, aW⟩ := bnd aW
  refine cS aZ (fun aV aZ => ?_) fun aV aZ => ?_
  refine ct aV (ct aV ?_)
  obtain ⟨bT, bo, bB, aZ⟩ := ixb aZ
  refine qaz rfl bo bB (ct aV ?_)
  refine cb aZ fun bR bg aZ => cg0 (JcL bg :) ?_
  refine ct aV (qac rfl ?_)
  refine qae ?_ ?_ <;> intro bb
  replace aW := ift ((si aZ).symm.trans bb) aW
  refine qal rfl ?_
  refine ci aW fun aW => ?_
  exact eR aW (_, _)
  replace aW := qba ((si aZ).symm.trans bb) aW
  refine cT ?_
  exact eM aW _
  refine cf aV (cf aV (cf aV (cf aV (qac rfl (cF ?_)))))
  replace aW := qba (si aZ).symm aW
  refine cT ?_
  exact eM aW _
 rintro t3 _ rfl j3
 refine cs rfl rfl hm ?_ ?_ <;> intro bP hm
 exact eE hm
 refine qa4 ⟨⟨[], false⟩, _, [], []⟩ (by kernel_rfl) ⟨Hp.Le.refl _, (pf rfl), ci0⟩ ?_
 obtain ⟨bw, hm⟩ := qaw hm
 refine qdz (lo := none) (hi := (some t3)) rfl bw ?_
 exact eE hm
 refine qaf (cs rfl rfl hm ?_ ?_) <;> intro bQ hm
 refine cb hm fun bF bd hm => cg0 (Jd1 bd :) ?_
 exact eE hm
 refine bsO (len := 14) (enc := eS) (l := [([61, 61] : Str), ([33, 61] : Str), ([60, 61] : Str), ([60] : Str), ([43] : Str), ([45] : Str), ([42] : Str), ([40] : Str), ([41] : Str), ([123] : Str), ([125] : Str), ([44] : Str), ([59] : Str), ([61] : Str)]) (cl := [str ([61, 61] : Str), str ([33, 61] : Str), str ([60, 61] : Str), str ([60] : Str), str ([43] : Str), str ([45] : Str), str ([42] : Str), str ([40] : Str), str ([41] : Str), str ([123] : Str), str ([125] : Str), str ([44] : Str), str ([59] : Str), str ([61] : Str)]) qb1 rfl rfl (fun _ _ => rfl) rfl rfl rfl ?_ fun bS => ?_
 · conv => whnf
   refine cT (cT (cT (cT (cT (cT (cT (cT ?_)))))))
   refine cT (cT (cT (cT (cT (cT ?_)))))
   first | done | rfl
 refine ro (qak rfl ?_)
 obtain ⟨bj, hm⟩ := qaw hm
 obtain ⟨s5, aX, hm⟩ := bnd hm
 refine lD (σ := (Unit)) ([2,3,4,10] ++ rg 71 11) [0, 1] (fun i5 => [(71, .int .i64 (i5 : Int))]) (fun _ => []) (fun _ => []) (fun _ => True) (fun i5 _ => JbB s ((14 : Int).toNat - i5) i5 = some s5) (fun t5 => s5 = Fl.go t5) (fun i5 => (14 : Int).toNat - i5) 0 () aX (And.intro qe (And.intro ?_ ?_))
 clear aX
 rintro i5 _ _ aX j5
 conv at aX => whnf
 refine qac rfl ?_
 refine qae ?_ ?_ <;> intro w5
 rw [ltn (n := (14 : Int)) w5, JbB.eq_2] at aX
 refine qal rfl ?_
 obtain ⟨bJ, a8, a6, aX⟩ := ixb aX
 refine RStep.ofN (qad rfl rfl (qcu (fun _ => ⟨_, _, rfl⟩) a6) a8 (qax rfl a8 a6) (ro (qbz (i := ((i5 : Int)).toNat) (o := 0) r0 rfl a6 rfl rfl ?_)))
 refine cb aX fun bU bA aX => cg0 (JaA bA :) ?_
 refine cs rfl rfl aX ?_ ?_ <;> intro bW aX
 refine ro (qa3 rfl ?_)
 exact eE (er aX hm)
 refine qam (qiy w5 bj) ?_
 exact eR aX (_, ())
 rw [lto (n := (14 : Int)) w5, JbB.eq_1] at aX
 refine cT ?_
 exact eM aX _
 rintro t5 _ rfl j5
 replace hm := elg hm
 exact eE hm

def JbC (text : Str) : Nat → Int → Option (Int)
  | 0, _ => none
  | aT + 1, aS =>
    (if decide (aS < (text.length : Int)) then (ix text aS).bind fun aU =>
    some (decide ((aU.toNat : Int) ≠ 10)) else some false).bind fun aV =>
    if aV then
    (chk (InI (aS + 1))).bind fun _ =>
    JbC text aT (aS + 1)
    else
    some aS
def Jad (text : Str) (n : Nat) : Nat → (List Je) → Int → Int → Int → Option (Fl ((List Je) × Err) ((List Je) × Int × Int × Int))
  | 0, _, _, _, _ => none
  | aW + 1, ac, aU, aT, aS =>
    if decide (aS < (text.length : Int)) then
    (ix text aS).bind fun aX =>
    if decide ((aX.toNat : Int) = 10) then
    (chk (InI (aS + 1))).bind fun _ =>
    (chk (InI (aU + 1))).bind fun _ =>
    Jad text n aW ac (aU + 1) (aS + 1) (aS + 1)
    else
    if decide ((aX.toNat : Int) = 32) then
    (chk (InI (aS + 1))).bind fun _ =>
    Jad text n aW ac aU aT (aS + 1)
    else
    if decide ((aX.toNat : Int) = 9) then
    (chk (InI (aS + 1))).bind fun _ =>
    Jad text n aW ac aU aT (aS + 1)
    else
    if decide ((aX.toNat : Int) = 13) then
    (chk (InI (aS + 1))).bind fun _ =>
    Jad text n aW ac aU aT (aS + 1)
    else
    if decide ((aX.toNat : Int) = 35) then
    (JbC text n aS).bind fun t3 =>
    Jad text n aW ac aU aT t3
    else
    (chk (0 ≤ aS ∧ aS ≤ (text.length : Int) ∧ (text.length : Int) ≤ (text.length : Int))).bind fun _ =>
    (Jdm n (subL text aS (text.length : Int))).bind fun aV =>
    if decide (aV.2.1 = 0) then
    some (Fl.ret ([], (some 2)))
    else
    (chk (InI (aS - aT))).bind fun _ =>
    (chk (InI ((aS - aT) + 1))).bind fun _ =>
    (chk (ac.length + [(⟨aV.1, aV.2.2, aU, ((aS - aT) + 1)⟩ : Je)].length ≤ lim)).bind fun _ =>
    (chk (InI (aS + aV.2.1))).bind fun _ =>
    Jad text n aW (ac ++ [(⟨aV.1, aV.2.2, aU, ((aS - aT) + 1)⟩ : Je)]) aU aT (aS + aV.2.1)
    else
    some (Fl.go (ac, aU, aT, aS))
def JcU (n : Nat) (text : Str) : Option ((List Je) × Err) :=
  if decide ((text.length : Int) > 4096) then
  some ([], (some 5))
  else
  (Jad text n n [] 1 0 0).bind fun s0 => s0.el some fun t0 =>
  (chk (InI ((text.length : Int) - t0.2.2.1))).bind fun _ =>
  (chk (InI (((text.length : Int) - t0.2.2.1) + 1))).bind fun _ =>
  (chk (t0.1.length + ([(⟨5, ([] : Str), t0.2.1, (((text.length : Int) - t0.2.2.1) + 1)⟩ : Je)]).length ≤ lim)).bind fun _ =>
  some ((t0.1 ++ [(⟨5, ([] : Str), t0.2.1, (((text.length : Int) - t0.2.2.1) + 1)⟩ : Je)]), none)
theorem Jdu {n : Nat} {text : Str} {K : Hp} {r : (List Je) × Err}
    (hm : JcU n text = some r)  :
    Fn Tryz.prog 96 [str text] K [] (fun v K' H' => ∃ ar_0 : Option Addr, ∃ cr_0 : Nat, v = .tuple #[.slice ar_0 r.1.length cr_0, qcs 48 r.2] ∧ (0 < r.1.length → Has ar_0) ∧ H' = [qas Je.enc ar_0 166 4 cr_0 r.1]) := by
 refine Fn.enter Tryz.func96 Tryz.call96 rfl fun F => ?_
 unfold JcU at hm
 refine ro (qa3 rfl ?_)
 refine cs rfl rfl hm ?_ ?_ <;> intro bH hm
 refine qar rfl ?_
 refine qcj Je.enc 166 4 ?_
 exact eE hm
 obtain ⟨s0, aS, hm⟩ := bnd hm
 refine qhd Je.enc 166 4 ?_
 refine lD (σ := ((List Je) × Int × Int × Int) × Option Addr × Nat) (rg 2 9 ++ rg 15 59) [1] (fun _ => []) (fun (t0, aU, aV) => [(4, .slice aU t0.1.length aV), (5, .int .i64 t0.2.1), (6, .int .i64 t0.2.2.1), (7, .int .i64 t0.2.2.2)]) (fun (t0, aU, aV) => [qas Je.enc aU 166 4 aV t0.1]) (fun (t0, aU, aV) => (0 < t0.1.length → Has aU) ∧ True) (fun i0 (t0, aU, aV) => Jad text n i0 t0.1 t0.2.1 t0.2.2.1 t0.2.2.2 = some s0) (fun (t0, aU, aV) => s0 = Fl.go t0) (fun i0 => i0) n ((_, _, _, _), _, _) aS (And.intro qe (And.intro ?_ ?_))
 clear aS
 rintro i0 ⟨⟨ac, aZ, a6, aY⟩, bh, bg⟩ ⟨bc, _⟩ aS j0
 dsimp only at aS ⊢
 cases i0 with
 | zero => rw [Jad.eq_1] at aS; cases aS
 | succ i0 =>
  rw [Jad.eq_2] at aS
  refine ro (qa3 rfl ?_)
  refine cs rfl rfl aS ?_ ?_ <;> intro bP aS
  refine qal rfl ?_
  obtain ⟨bG, bp, bv, aS⟩ := ixb aS
  refine qaz rfl bp bv ?_
  refine qal rfl ?_
  refine qaf (cs rfl rfl aS ?_ ?_) <;> intro bN aS
  refine ci aS fun aS => ?_
  obtain ⟨bn, aS⟩ := qaw aS
  refine qam bn (cF (cT ?_))
  exact eR aS (_, (_, _, _, _), _, _)
  refine qaf (cs rfl rfl aS ?_ ?_) <;> intro ba aS
  refine qac rfl (ct ba ?_)
  obtain ⟨a8, aS⟩ := qaw aS
  refine qam a8 (cF (cT ?_))
  exact eR aS (_, (_, _, _, _), _, _)
  refine qaf (cs rfl rfl aS ?_ ?_) <;> intro ba aS
  refine qac rfl (ct ba ?_)
  obtain ⟨a8, aS⟩ := qaw aS
  refine qam a8 (cF (cT ?_))
  exact eR aS (_, (_, _, _, _), _, _)
  refine qaf (cs rfl rfl aS ?_ ?_) <;> intro ba aS
  obtain ⟨a8, aS⟩ := qaw aS
  refine qam a8 (cF (cT ?_))
  exact eR aS (_, (_, _, _, _), _, _)
  refine qaf (cs rfl rfl aS ?_ ?_) <;> intro bQ aS
  obtain ⟨s3, aW, aS⟩ := bnd aS
  refine lD (σ := (Int)) ([7] ++ rg 37 12) [0, 1] (fun _ => []) (fun t3 => [(7, .int .i64 t3)]) (fun _ => []) (fun _ => True) (fun i3 t3 => JbC text i3 t3 = some s3) (fun t3 => t3 = s3) (fun i3 => i3) n _ aW (And.intro qe (And.intro ?_ ?_))
  clear aW
  rintro i3 bu _ aW j3
  conv at aW => whnf
  cases i3 with
  | zero => rw [JbC.eq_1] at aW; cases aW
  | succ i3 =>
   rw [JbC.eq_2] at aW
   refine qaj rfl ?_
   refine ro (qa3 rfl ?_)
   obtain ⟨bB, aX, aW⟩ := bnd aW
   refine cS aX (fun aT aX => ?_) fun aT aX => ?_
   refine ct aT (ct aT ?_)
   obtain ⟨bK, br, bw, aX⟩ := ixb aX
   refine qaz rfl br bw (ct aT (qa8 (ct aT (qac rfl ?_))))
   refine qae ?_ ?_ <;> intro bf
   replace aW := ift ((si aX).symm.trans bf) aW
   refine qal rfl ?_
   refine ci aW fun aW => ?_
   exact eR aW (_, _)
   replace aW := qba ((si aX).symm.trans bf) aW
   refine cT ?_
   exact eM aW _
   refine cf aT (cf aT (cf aT (cf aT (qac rfl (cF ?_)))))
   replace aW := qba (si aX).symm aW
   refine cT ?_
   exact eM aW _
  rintro t3 _ rfl j3
  refine cF (cT ?_)
  exact eR aS (_, (_, _, _, _), _, _)
  obtain ⟨bz, aS⟩ := qaw aS
  refine RStep.ofN (qdz (lo := (some aY)) (hi := none) rfl bz ?_)
  refine cb aS fun bb bl aS => cg0 (Jei bl :) ?_
  refine qaf (cs rfl rfl aS ?_ ?_) <;> intro bF aS
  refine qar rfl ?_
  refine qcj Je.enc 166 4 ?_
  exact eE (er aS hm)
  refine ci aS fun aS => ?_
  obtain ⟨bo, aS⟩ := qaw aS
  refine qam bo (qag rfl rfl (cT (cT (cT (cT ?_)))))
  refine bsO (len := 1) (enc := Je.enc) (l := [(⟨bb.1, bb.2.2, aZ, ((aY - a6) + 1)⟩ : Je)]) (cl := [.int .i64 bb.1, str bb.2.2, .int .i64 aZ, .int .i64 ((aY - a6) + 1)]) qjz rfl rfl (fun _ _ => rfl) rfl rfl rfl ?_ fun bM => ?_
  · conv => whnf
    refine cT ?_
    first | done | rfl
  obtain ⟨bj, aS⟩ := qaw aS
  refine apE rfl r1 qjz (qay rfl r0 rfl (fun _ => rfl) (fun _ => rfl)) bj ?_
  intro bD bL bC
  refine ci aS fun aS => ?_
  exact eR aS (_, (_, _, _, _), _, _)
  refine cT ?_
  exact eM aS (_, _, _)
 rintro ⟨t0, aU, aV⟩ ⟨bd, _⟩ rfl j0
 replace hm := elg hm
 refine ro (qa3 rfl ?_)
 refine ci hm fun hm => ?_
 obtain ⟨bm, hm⟩ := qaw hm
 refine qam bm (qag rfl rfl (cT (cT (cT (cT ?_)))))
 refine bsO (len := 1) (enc := Je.enc) (l := [(⟨5, ([] : Str), t0.2.1, (((text.length : Int) - t0.2.2.1) + 1)⟩ : Je)]) (cl := [.int .i64 5, str ([] : Str), .int .i64 t0.2.1, .int .i64 (((text.length : Int) - t0.2.2.1) + 1)]) qjz rfl rfl (fun _ _ => rfl) rfl rfl rfl ?_ fun bO => ?_
 · conv => whnf
   refine cT ?_
   first | done | rfl
 obtain ⟨bt, hm⟩ := qaw hm
 refine apE rfl r1 qjz (qay rfl r0 rfl (fun _ => rfl) (fun _ => rfl)) bt ?_
 intro bJ bI bA
 exact eE hm

def Jt (p : Jb) : Option (Bool) :=
  some (decide (p.line = 0))
theorem Js {p : Jb} {b0 : Nat} {aa : Option Addr} {ab : Nat} {K : Hp} {r : Bool}
    (hm : Jt p = some r) (ae : (0 < p.list.length → Has aa)) :
    Fn Tryz.prog 98 [.pointer (some ⟨b0, 0, none⟩)] K [Cells b0 163 [.slice aa p.list.length ab, .int .i64 p.atZ, .int .i64 p.line], qas Je.enc aa 166 4 ab p.list] (fun v K' H' => v = .bool r ∧ H' = [Cells b0 163 [.slice aa p.list.length ab, .int .i64 p.atZ, .int .i64 p.line], qas Je.enc aa 166 4 ab p.list]) := by
 refine Fn.enter Tryz.func98 Tryz.call98 rfl fun F => ?_
 unfold Jt at hm
 refine qah (fa rfl (ro (ld r0 rfl rfl (qaf ?_))))
 exact eE hm

def JI (p : Jb) : Option (Je) :=
  (ix p.list p.atZ).bind fun aS =>
  some aS
theorem JH {p : Jb} {b0 : Nat} {aa : Option Addr} {ab : Nat} {K : Hp} {r : Je}
    (hm : JI p = some r) (ae : (0 < p.list.length → Has aa)) :
    Fn Tryz.prog 99 [.pointer (some ⟨b0, 0, none⟩)] K [Cells b0 163 [.slice aa p.list.length ab, .int .i64 p.atZ, .int .i64 p.line], qas Je.enc aa 166 4 ab p.list] (fun v K' H' => v = .agg #[.int .i64 r.Ab, str r.Ac, .int .i64 r.Ad, .int .i64 r.Column] ∧ H' = [Cells b0 163 [.slice aa p.list.length ab, .int .i64 p.atZ, .int .i64 p.line], qas Je.enc aa 166 4 ab p.list]) := by
 refine Fn.enter Tryz.func99 Tryz.call99 rfl fun F => ?_
 unfold JI at hm
 refine qai rfl fun b2 => ?_
 refine qa4 ⟨⟨[], true⟩, _, [], []⟩ (by kernel_rfl) ⟨Hp.Le.refl _, (pf rfl), ci0⟩ ?_
 refine qah (fa rfl ?_)
 refine ld r1 rfl rfl ?_
 refine qah (fa rfl ?_)
 refine ld r1 rfl rfl ?_
 obtain ⟨aU, aT, aS, hm⟩ := ixb hm
 refine qad rfl rfl (qcu ae aS) aT (qax rfl aT aS) ?_
 refine qhy (i := (p.atZ).toNat) r2 rfl aS rfl rfl ?_
 refine qaa r0 rfl ⟨rfl, rfl, (nl rfl), ?_⟩
 refine qk (pf rfl) ?_
 exact ro (qab r0 rfl (nl rfl) (eE hm))

def Jy (p : Jb) (kind : Int) (text : Str) : Option (Bool) :=
  (JI p).bind fun x9 =>
  some (decide (x9.Ab = kind) && decide (x9.Ac = text))
theorem Jv {p : Jb} {kind : Int} {text : Str} {b0 : Nat} {aa : Option Addr} {ab : Nat} {K : Hp} {r : Bool}
    (hm : Jy p kind text = some r) (ae : (0 < p.list.length → Has aa)) :
    Fn Tryz.prog 149 [.pointer (some ⟨b0, 0, none⟩), .int .i64 kind, str text] K [Cells b0 163 [.slice aa p.list.length ab, .int .i64 p.atZ, .int .i64 p.line], qas Je.enc aa 166 4 ab p.list] (fun v K' H' => v = .bool r ∧ H' = [Cells b0 163 [.slice aa p.list.length ab, .int .i64 p.atZ, .int .i64 p.line], qas Je.enc aa 166 4 ab p.list]) := by
 refine Fn.enter Tryz.func149 Tryz.call149 rfl fun F => ?_
 unfold Jy at hm
 refine cb hm fun x9 q9 hm => cgx (JH q9 :) ?_
 refine qai rfl fun b7 => ?_
 refine qaa r0 rfl ⟨rfl, rfl, (nl rfl), ?_⟩
 refine qaj rfl ?_
 refine fa rfl (ro (ld r0 rfl rfl (qaf ?_)))
 refine qae ?_ ?_ <;> intro aS
 refine fa rfl (ct aS (ro (ld r0 rfl rfl (ct aS (ct aS (qap (ct aS ?_)))))))
 exact bE (qcw (b := decide (x9.Ac = text)) aS) (eE hm)
 refine cf aS (cf aS (cf aS (cf aS ?_)))
 exact bE (((qav aS)).symm) (eE hm)

def JZ (p : Jb) : Option (Jb) :=
  if decide (p.line = 0) then
  (JI p).bind fun x9 =>
  some (⟨p.list, p.atZ, x9.Ad⟩ : Jb)
  else
  some p
theorem J4 {p : Jb} {b0 : Nat} {aa : Option Addr} {ab : Nat} {K : Hp} {r : Jb}
    (hm : JZ p = some r) (ae : (0 < p.list.length → Has aa)) :
    Fn Tryz.prog 100 [.pointer (some ⟨b0, 0, none⟩)] K [Cells b0 163 [.slice aa p.list.length ab, .int .i64 p.atZ, .int .i64 p.line], qas Je.enc aa 166 4 ab p.list] (fun v K' H' => ∃ ar_0 : Option Addr, ∃ cr_0 : Nat, v = .tuple #[] ∧ (0 < r.list.length → Has ar_0) ∧ H' = [Cells b0 163 [.slice ar_0 r.list.length cr_0, .int .i64 r.atZ, .int .i64 r.line], qas Je.enc ar_0 166 4 cr_0 r.list]) := by
 refine Fn.enter Tryz.func100 Tryz.call100 rfl fun F => ?_
 unfold JZ at hm
 refine qah (fa rfl (ro (ld r0 rfl rfl (qaf ?_))))
 refine cs rfl rfl hm ?_ ?_ <;> intro w6 hm
 refine cb hm fun x9 q9 hm => cgx (JH q9 :) ?_
 refine Jdj rfl rfl rfl rfl ?_
 refine qah (fa rfl ?_)
 refine qaa r0 rfl ⟨rfl, rfl, (nl rfl), ?_⟩
 exact eE hm
 exact eE hm

def Jq (p : Jb) : Option (Je × Jb) :=
  (JI p).bind fun x5 =>
  (chk (InI ((p.list.length : Int) - 1))).bind fun _ =>
  if decide (p.atZ < ((p.list.length : Int) - 1)) then
  (chk (InI (p.atZ + 1))).bind fun _ =>
  some (x5, (⟨p.list, (p.atZ + 1), p.line⟩ : Jb))
  else
  some (x5, p)
theorem Jm {p : Jb} {b0 : Nat} {aa : Option Addr} {ab : Nat} {K : Hp} {r : Je × Jb}
    (hm : Jq p = some r) (ae : (0 < p.list.length → Has aa)) :
    Fn Tryz.prog 206 [.pointer (some ⟨b0, 0, none⟩)] K [Cells b0 163 [.slice aa p.list.length ab, .int .i64 p.atZ, .int .i64 p.line], qas Je.enc aa 166 4 ab p.list] (fun v K' H' => ∃ ar_0 : Option Addr, ∃ cr_0 : Nat, v = .agg #[.int .i64 r.1.Ab, str r.1.Ac, .int .i64 r.1.Ad, .int .i64 r.1.Column] ∧ (0 < r.2.list.length → Has ar_0) ∧ H' = [Cells b0 163 [.slice ar_0 r.2.list.length cr_0, .int .i64 r.2.atZ, .int .i64 r.2.line], qas Je.enc ar_0 166 4 cr_0 r.2.list]) := by
 refine Fn.enter Tryz.func206 Tryz.call206 rfl fun F => ?_
 unfold Jq at hm
 refine qai rfl fun b2 => ?_
 refine cb hm fun x5 q5 hm => cgx (JH q5 :) ?_
 refine qai rfl fun b3 => ?_
 refine qaa r0 rfl ⟨rfl, rfl, (nl rfl), ?_⟩
 refine qa4 ⟨⟨[], false⟩, _, [(_, _)], []⟩ (by kernel_rfl) ⟨Hp.Le.refl _, (sc [1] rfl), ci0⟩ ?_
 refine qah (fa rfl (qao m0 rfl rfl (qah (fa rfl (qao m0 rfl rfl (qce rfl ?_))))))
 refine ci hm fun hm => ?_
 refine cs rfl rfl hm ?_ ?_ <;> intro aT hm
 refine qah (fa rfl (ro (ld r1 rfl rfl ?_)))
 obtain ⟨aS, hm⟩ := qaw hm
 refine qam aS (qah (fa rfl ?_))
 refine qaa r1 rfl ⟨rfl, rfl, (nl rfl), ?_⟩
 refine ro (qab r1 rfl (nl rfl) ?_)
 refine qaa r3 rfl ⟨rfl, rfl, (nl rfl), ?_⟩
 exact ro (qab r0 rfl (nl rfl) (eE hm))
 refine ro (qab r0 rfl (nl rfl) ?_)
 refine qaa r3 rfl ⟨rfl, rfl, (nl rfl), ?_⟩
 exact ro (qab r0 rfl (nl rfl) (eE hm))

def JaB (v' : Str) : List Str → Nat → Option (Fl (Int) (Unit))
  | [], _ => some (Fl.go ())
  | e0 :: aS, i0 =>
    if decide (v' = e0) then
    some (Fl.ret (i0 : Int))
    else
    JaB v' aS (i0 + 1)
def Jcd (s : (List Str)) (v' : Str) : Option (Int) :=
  (chk (s.length ≤ qbh)).bind fun _ =>
  (JaB v' s 0).bind fun s0 => s0.el some fun t0 =>
  some (-1)
theorem Jdx {s : (List Str)} {v' : Str} {aa : Option Addr} {ab : Nat} {n0 : Nat} {K : Hp} {r : Int}
    (hm : Jcd s v' = some r) (hX : RdC eS K aa ab 1 s ∧ n0 = s.length) :
    Fn Tryz.prog 88 [.slice aa n0 ab, str v'] K [] (fun v K' H' => v = .int .i64 r ∧ H' = []) := by
 obtain ⟨ae, aU⟩ := hX
 subst aU
 refine Fn.enter Tryz.func88 Tryz.call88 rfl fun F => ?_
 unfold Jcd at hm
 refine ro (qak rfl ?_)
 obtain ⟨aV, hm⟩ := qaw hm
 obtain ⟨s0, aS, hm⟩ := bnd hm
 refine lD (σ := (Unit)) ([4,5] ++ rg 8 11) [0] (fun i0 => [(8, .int .i64 (i0 : Int))]) (fun _ => []) (fun _ => []) (fun _ => True) (fun i0 _ => JaB v' (s.drop i0) i0 = some s0) (fun t0 => s0 = Fl.go t0) (fun i0 => s.length - i0) 0 () aS (And.intro qe (And.intro ?_ ?_))
 clear aS
 rintro i0 _ _ aS j0
 conv at aS => whnf
 refine qac rfl ?_
 refine qae ?_ ?_ <;> intro w0
 obtain ⟨e0, aT, aW⟩ := ltx w0
 rw [aW, JaB.eq_2] at aS
 refine qal rfl ?_
 refine RStep.ofN (qad rfl rfl (qfs ae.rd aT) (nn _) (qbo aT) (ro (qcv i0 0 _ _ ae.rd rfl (mp aT) rfl rfl (qap ?_))))
 refine cs rfl rfl aS ?_ ?_ <;> intro aX aS
 exact eE (er aS hm)
 refine qam (qbu aT aV) ?_
 exact eR aS (_, ())
 rw [lty w0, JaB.eq_1] at aS
 refine cT ?_
 exact eM aS _
 rintro t0 _ rfl j0
 replace hm := elg hm
 exact eE hm

def JK (s : (List Str)) (v' : Str) : Option (Bool) :=
  (Jcd s v').bind fun x7 =>
  some (decide (x7 ≥ 0))
theorem JM {s : (List Str)} {v' : Str} {aa : Option Addr} {ab : Nat} {n0 : Nat} {K : Hp} {r : Bool}
    (hm : JK s v' = some r) (hX : RdC eS K aa ab 1 s ∧ n0 = s.length) :
    Fn Tryz.prog 53 [.slice aa n0 ab, str v'] K [] (fun v K' H' => v = .bool r ∧ H' = []) := by
 obtain ⟨ae, aS⟩ := hX
 subst aS
 refine Fn.enter Tryz.func53 Tryz.call53 rfl fun F => ?_
 unfold JK at hm
 refine cb hm fun x7 q7 hm => cgx (Jdx q7 :) ?_
 exact eE hm

def JbS (s : Str) : Option (Bool) :=
  (JK gkw0 s).bind fun x5 =>
  some x5
theorem Jcm {s : Str} {K : Hp} {r : Bool}
    (hm : JbS s = some r) (hG : GG K) :
    Fn Tryz.prog 208 [str s] K [] (fun v K' H' => v = .bool r ∧ H' = []) := by
 obtain ⟨aV, aW, aT, gn_, aS, aU⟩ := gg5 hG
 subst gn_
 refine Fn.enter Tryz.func208 Tryz.call208 rfl fun F => ?_
 unfold JbS at hm
 refine ro (qka aS rfl ?_)
 refine cb hm fun x5 q5 hm => cgx (JM q5 :) ?_
 exact eE hm

def JF (p : Jb) (text : Str) : Option (Jb) :=
  (Jy p 4 text).bind fun x6 =>
  if (!x6) then
  (JZ p).bind fun x9 =>
  some x9
  else
  (Jq p).bind fun aS =>
  some aS.2
theorem JD {p : Jb} {text : Str} {b0 : Nat} {aa : Option Addr} {ab : Nat} {K : Hp} {r : Jb}
    (hm : JF p text = some r) (ae : (0 < p.list.length → Has aa)) :
    Fn Tryz.prog 211 [.pointer (some ⟨b0, 0, none⟩), str text] K [Cells b0 163 [.slice aa p.list.length ab, .int .i64 p.atZ, .int .i64 p.line], qas Je.enc aa 166 4 ab p.list] (fun v K' H' => ∃ ar_0 : Option Addr, ∃ cr_0 : Nat, v = .tuple #[] ∧ (0 < r.list.length → Has ar_0) ∧ H' = [Cells b0 163 [.slice ar_0 r.list.length cr_0, .int .i64 r.atZ, .int .i64 r.line], qas Je.enc ar_0 166 4 cr_0 r.list]) := by
 refine Fn.enter Tryz.func211 Tryz.call211 rfl fun F => ?_
 unfold JF at hm
 refine cb hm fun x6 q6 hm => cgx (Jv q6 :) ?_
 refine qau ?_
 refine cs rfl rfl hm ?_ ?_ <;> intro w7 hm
 refine cb hm fun x9 q9 hm => ckx (J4 q9 :) ?_
 rintro _ _ _ ⟨aX, aV, rfl, aY, rfl⟩
 exact eE hm
 refine cb hm fun aZ aW hm => ckx (Jm aW :) ?_
 rintro _ _ _ ⟨aS, aU, rfl, aT, rfl⟩
 exact eE hm

def JaL (kind : Int) (text : Str) (a : Ja) (b : Ja) : Option (Ja) :=
  some (⟨kind, text, [a, b], a.Ad⟩ : Ja)
theorem JaQ {kind : Int} {text : Str} {a : Ja} {b : Ja} {ar : Option Addr} {au : Nat} {aC : Option Addr} {aD : Nat} {K : Hp} {r : Ja}
    (hm : JaL kind text a b = some r) (hX : LiC Ja.R K ar au 4 a.Aa ∧ LiC Ja.R K aC aD 4 b.Aa) :
    Fn Tryz.prog 254 [.int .i64 kind, str text, .agg #[.int .i64 a.Ab, str a.Ac, .slice ar a.Aa.length au, .int .i64 a.Ad], .agg #[.int .i64 b.Ab, str b.Ac, .slice aC b.Aa.length aD, .int .i64 b.Ad]] K [] (fun v K' H' => ∃ ar_0 : Option Addr, ∃ cr_0 : Nat, ∃ sr_0 : List (List Value), v = .agg #[.int .i64 r.Ab, str r.Ac, .slice ar_0 r.Aa.length cr_0, .int .i64 r.Ad] ∧ (0 < r.Aa.length → Has ar_0) ∧ LR Ja.R K' sr_0 r.Aa ∧ H' = [OwnA ar_0 117 4 cr_0 sr_0]) := by
 obtain ⟨aT, aS⟩ := hX
 refine Fn.enter Tryz.func254 Tryz.call254 rfl fun F => ?_
 unfold JaL at hm
 refine qaq ?_
 intro b6
 refine qaq ?_
 intro b7
 refine qai rfl fun b8 => ?_
 refine fa rfl (ro (ld r2 rfl rfl (ro (qab r2 rfl (nl rfl) (ro (qab r1 rfl (nl rfl) ?_))))))
 refine qje (R := Ja.R) (len := 2) (l := [a, b]) (css := [[.int .i64 a.Ab, str a.Ac, .slice ar a.Aa.length au, .int .i64 a.Ad], [.int .i64 b.Ab, str b.Ac, .slice aC b.Aa.length aD, .int .i64 b.Ad]]) (cl := [.int .i64 a.Ab, str a.Ac, .slice ar a.Aa.length au, .int .i64 a.Ad, .int .i64 b.Ab, str b.Ac, .slice aC b.Aa.length aD, .int .i64 b.Ad]) Ja.R_ok qbx rfl rfl (LR.snoc (LR.snoc LR.nil (Ja.of (x := a) ⟨ar, au, rfl, aT⟩)) (Ja.of (x := b) ⟨aC, aD, rfl, aS⟩)) rfl rfl rfl ?_ fun aU => ?_
 · conv => whnf
   refine cT (cT ?_)
   first | done | rfl
 refine qag rfl rfl (cT (cT (cT (cT ?_))))
 refine qaa r1 rfl ⟨rfl, rfl, (nl rfl), ?_⟩
 obtain rfl := si hm
 exact ro (qab r0 rfl (nl rfl) (en lr ⟨(some ⟨aU, 0, none⟩), 2, ([[.int .i64 a.Ab, str a.Ac, .slice ar a.Aa.length au, .int .i64 a.Ad], [.int .i64 b.Ab, str b.Ac, .slice aC b.Aa.length aD, .int .i64 b.Ad]]), rfl, (fun _ => ⟨_, _, rfl⟩), (show LR Ja.R _ [[.int .i64 a.Ab, str a.Ac, .slice ar a.Aa.length au, .int .i64 a.Ad], [.int .i64 b.Ab, str b.Ac, .slice aC b.Aa.length aD, .int .i64 b.Ad]] [a, b] from (LR.snoc (LR.snoc LR.nil (Ja.of (x := a) ⟨ar, au, rfl, aT⟩)) (Ja.of (x := b) ⟨aC, aD, rfl, aS⟩))), rfl⟩ (sc [1,3] rfl)))

def Jbn (kind : Int) (text : Str) : Option (Bool) :=
  if decide (text = ([61, 61] : Str)) then
  some (decide (kind = 4))
  else
  if decide (text = ([33, 61] : Str)) then
  some (decide (kind = 4))
  else
  if decide (text = ([60] : Str)) then
  some (decide (kind = 4))
  else
  if decide (text = ([60, 61] : Str)) then
  some (decide (kind = 4))
  else
  if decide (text = ([115, 116, 97, 114, 116, 115] : Str)) then
  some (decide (kind = 1))
  else
  if decide (text = ([101, 110, 100, 115] : Str)) then
  some (decide (kind = 1))
  else
  if decide (text = ([99, 111, 110, 116, 97, 105, 110, 115] : Str)) then
  some (decide (kind = 1))
  else
  some false
theorem Jb3 {kind : Int} {text : Str} {K : Hp} {r : Bool}
    (hm : Jbn kind text = some r)  :
    Fn Tryz.prog 257 [.int .i64 kind, str text] K [] (fun v K' H' => v = .bool r ∧ H' = []) := by
 refine Fn.enter Tryz.func257 Tryz.call257 rfl fun F => ?_
 unfold Jbn at hm
 refine qal rfl ?_
 refine qap (cs rfl rfl hm ?_ ?_) <;> intro w6 hm
 refine qac rfl (ct w6 (qaf ?_))
 exact eE hm
 refine qap (cs rfl rfl hm ?_ ?_) <;> intro w6 hm
 refine qac rfl (ct w6 (qaf ?_))
 exact eE hm
 refine qap (cs rfl rfl hm ?_ ?_) <;> intro w6 hm
 refine qac rfl (ct w6 (qaf ?_))
 exact eE hm
 refine qap (cs rfl rfl hm ?_ ?_) <;> intro w6 hm
 refine qaf ?_
 exact eE hm
 refine qap (cs rfl rfl hm ?_ ?_) <;> intro aS hm
 refine qac rfl (ct aS (qaf ?_))
 exact eE hm
 refine qap (cs rfl rfl hm ?_ ?_) <;> intro aS hm
 refine qac rfl (ct aS (qaf ?_))
 exact eE hm
 refine qap (cs rfl rfl hm ?_ ?_) <;> intro aS hm
 refine qaf ?_
 exact eE hm
 exact eE hm

def J9 (aj : (Jb → Option (Ja × Jb))) : Nat → (List Ja) → Jb → Option ((List Ja) × Jb)
  | 0, _, _ => none
  | aU + 1, ac, aS =>
    (Jt aS).bind fun x9 =>
    if x9 then
    (aj aS).bind fun al =>
    (chk (ac.length + [al.1].length ≤ lim)).bind fun _ =>
    (Jt al.2).bind fun aW =>
    if (!aW) then
    some ((ac ++ [al.1]), al.2)
    else
    (Jy al.2 4 ([44] : Str)).bind fun aV =>
    if aV then
    (Jq al.2).bind fun aX =>
    J9 aj aU (ac ++ [al.1]) aX.2
    else
    (JF al.2 ([41] : Str)).bind fun aT =>
    some ((ac ++ [al.1]), aT)
    else
    some (ac, aS)
def Jbf (aj : (Jb → Option (Ja × Jb))) (n : Nat) (p : Jb) : Option ((List Ja) × Jb) :=
  (Jy p 4 ([41] : Str)).bind fun x5 =>
  if x5 then
  (Jq p).bind fun x7 =>
  some ([], x7.2)
  else
  (J9 aj n [] p).bind fun t0 =>
  some (t0.1, t0.2)
theorem JcV {aj : (Jb → Option (Ja × Jb))} (ihrec0_0 : ∀ {p : Jb} {b0 : Nat} {aa : Option Addr} {ab : Nat} {K : Hp} {r : Ja × Jb} (hm : aj p = some r) (hX : (0 < p.list.length → Has aa) ∧ GG K), Fn Tryz.prog 236 [.pointer (some ⟨b0, 0, none⟩)] K [Cells b0 163 [.slice aa p.list.length ab, .int .i64 p.atZ, .int .i64 p.line], qas Je.enc aa 166 4 ab p.list] (fun v K' H' => ∃ ar_0 : Option Addr, ∃ cr_0 : Nat, ∃ sr_0 : List (List Value), ∃ ar_1 : Option Addr, ∃ cr_1 : Nat, v = .agg #[.int .i64 r.1.Ab, str r.1.Ac, .slice ar_0 r.1.Aa.length cr_0, .int .i64 r.1.Ad] ∧ (0 < r.1.Aa.length → Has ar_0) ∧ LR Ja.R K' sr_0 r.1.Aa ∧ (0 < r.2.list.length → Has ar_1) ∧ H' = [OwnA ar_0 117 4 cr_0 sr_0, Cells b0 163 [.slice ar_1 r.2.list.length cr_1, .int .i64 r.2.atZ, .int .i64 r.2.line], qas Je.enc ar_1 166 4 cr_1 r.2.list])) {n : Nat} {p : Jb} {b0 : Nat} {aa : Option Addr} {ab : Nat} {K : Hp} {r : (List Ja) × Jb}
    (hm : Jbf aj n p = some r) (hX : (0 < p.list.length → Has aa) ∧ GG K) :
    Fn Tryz.prog 276 [.pointer (some ⟨b0, 0, none⟩)] K [Cells b0 163 [.slice aa p.list.length ab, .int .i64 p.atZ, .int .i64 p.line], qas Je.enc aa 166 4 ab p.list] (fun v K' H' => ∃ ar_0 : Option Addr, ∃ cr_0 : Nat, ∃ sr_0 : List (List Value), ∃ ar_1 : Option Addr, ∃ cr_1 : Nat, v = .slice ar_0 r.1.length cr_0 ∧ (0 < r.1.length → Has ar_0) ∧ LR Ja.R K' sr_0 r.1 ∧ (0 < r.2.list.length → Has ar_1) ∧ H' = [OwnA ar_0 117 4 cr_0 sr_0, Cells b0 163 [.slice ar_1 r.2.list.length cr_1, .int .i64 r.2.atZ, .int .i64 r.2.line], qas Je.enc ar_1 166 4 cr_1 r.2.list]) := by
 obtain ⟨ae, hG⟩ := hX
 refine Fn.enter Tryz.func276 Tryz.call276 rfl fun F => ?_
 unfold Jbf at hm
 refine cb hm fun x5 q5 hm => cgx (Jv q5 :) ?_
 refine cs rfl rfl hm ?_ ?_ <;> intro w5 hm
 refine cb hm fun x7 q7 hm => ckx (Jm q7 :) ?_
 rintro _ _ _ ⟨bQ, bL, rfl, bP, rfl⟩
 refine qcj (fun _ : Ja => []) 117 4 ?_
 exact eE hm
 obtain ⟨s0, aU, hm⟩ := bnd hm
 refine qhd (fun _ : Ja => []) 117 4 ?_
 refine lC (σ := ((List Ja) × Jb) × Option Addr × Nat × List (List Value) × Option Addr × Nat) ([3] ++ rg 8 16) [3] (fun _ => []) (fun (t0, aV, a6, aW, aS, aT) => [(3, .slice aV t0.1.length a6)]) (fun (t0, aV, a6, aW, aS, aT) => [OwnA aV 117 4 a6 aW, Cells b0 163 [.slice aS t0.2.list.length aT, .int .i64 t0.2.atZ, .int .i64 t0.2.line], qas Je.enc aS 166 4 aT t0.2.list]) (fun zz K1 => match zz with | (t0, aV, a6, aW, aS, aT) => LR Ja.R K1 aW t0.1 ∧ (0 < t0.1.length → Has aV) ∧ (0 < t0.2.list.length → Has aS)) (fun i0 (t0, aV, a6, aW, aS, aT) => J9 aj i0 t0.1 t0.2 = some s0) (fun (t0, aV, a6, aW, aS, aT) => t0 = s0) (fun i0 => i0) n ((_, _), _, _, _, _, _) aU (And.intro qe (And.intro ?_ ?_))
 clear aU
 rintro i0 ⟨⟨ac, bH⟩, bt, bo, bC, bg, bh⟩ bW cn ⟨ba, bj, bd⟩ aU j0
 dsimp only at aU ⊢
 cases i0 with
 | zero => rw [J9.eq_1] at aU; cases aU
 | succ i0 =>
  rw [J9.eq_2] at aU
  refine cb aU fun x9 q9 aU => cgx (Js q9 :) ?_
  refine cs rfl rfl aU ?_ ?_ <;> intro w9 aU
  refine qal rfl ?_
  refine cb aU fun al bI aU => cfx (ihrec0_0 bI :) ?_
  rintro _ bS _ bO ⟨aY, aX, bA, bl, bp, rfl, bm, bb, bF, rfl⟩
  refine qks Ja.R_ok r0 bb fun bc a8 aZ => ?_
  refine qje (R := Ja.R) (len := 1) (l := [al.1]) (css := [[.int .i64 al.1.Ab, str al.1.Ac, .slice aY al.1.Aa.length aX, .int .i64 al.1.Ad]]) (cl := [.int .i64 al.1.Ab, str al.1.Ac, .slice aY al.1.Aa.length aX, .int .i64 al.1.Ad]) Ja.R_ok qbx rfl rfl (LR.snoc LR.nil (Ja.of (x := al.1) ⟨aY, aX, rfl, aZ⟩)) rfl rfl rfl ?_ fun bT => ?_
  · conv => whnf
    refine cT ?_
    first | done | rfl
  obtain ⟨bG, aU⟩ := qaw aU
  refine qoj r3 (LR.mono Ja.R_ok (bO.trans a8) ba) rfl qbx (qc8 rfl r0 rfl Ja.R_ok (show LR Ja.R _ [[.int .i64 al.1.Ab, str al.1.Ac, .slice aY al.1.Aa.length aX, .int .i64 al.1.Ad]] [al.1] from (LR.snoc LR.nil (Ja.of (x := al.1) ⟨aY, aX, rfl, aZ⟩)))) (show LR Ja.R _ [[.int .i64 al.1.Ab, str al.1.Ac, .slice aY al.1.Aa.length aX, .int .i64 al.1.Ad]] [al.1] from (LR.snoc LR.nil (Ja.of (x := al.1) ⟨aY, aX, rfl, aZ⟩))) bG ?_
  intro bV bU cm r_14 ce
  refine cb aU fun co bN aU => cgx (Js bN :) ?_
  refine qau ?_
  refine cs rfl rfl aU ?_ ?_ <;> intro cj aU
  refine cF (cT ?_)
  exact eM aU (_, _, _, _, _, _)
  refine cb aU fun ca bJ aU => cgx (Jv bJ :) ?_
  refine cs rfl rfl aU ?_ ?_ <;> intro cr aU
  refine cb aU fun bX bK aU => ckx (Jm bK :) ?_
  rintro _ _ _ ⟨bz, bD, rfl, bu, rfl⟩
  refine cT ?_
  exact eR aU (_, (_, _), _, _, _, _, _)
  refine cb aU fun bY bM aU => ckx (JD bM :) ?_
  rintro _ _ _ ⟨br, bn, rfl, bB, rfl⟩
  refine cF (cT ?_)
  exact eM aU (_, _, _, _, _, _)
  refine cT ?_
  exact eM aU (_, _, _, _, _, _)
 rintro ⟨t0, aV, a6, aW, aS, aT⟩ bZ bR ⟨bw, bv, bf⟩ rfl j0
 exact eE hm

def Jbj (aj : (Jb → Option (Ja × Jb))) (n : Nat) (p : Jb) : Option (Ja × Jb) :=
  (JI p).bind fun x6 =>
  if decide (x6.Ab = 2) then
  (Jq p).bind fun aZ =>
  some ((⟨20, x6.Ac, [], x6.Ad⟩ : Ja), aZ.2)
  else
  if decide (x6.Ab = 3) then
  (Jq p).bind fun bd =>
  some ((⟨21, x6.Ac, [], x6.Ad⟩ : Ja), bd.2)
  else
  (Jy p 1 ([116, 114, 117, 101] : Str)).bind fun ba =>
  if ba then
  (Jq p).bind fun aU =>
  some ((⟨22, x6.Ac, [], x6.Ad⟩ : Ja), aU.2)
  else
  (Jy p 1 ([102, 97, 108, 115, 101] : Str)).bind fun a8 =>
  if a8 then
  (Jq p).bind fun aU =>
  some ((⟨22, x6.Ac, [], x6.Ad⟩ : Ja), aU.2)
  else
  (if decide (x6.Ab = 1) then (JbS x6.Ac).bind fun bh =>
  some (!bh) else some false).bind fun aV =>
  if aV then
  (Jq p).bind fun aT =>
  (Jy aT.2 4 ([40] : Str)).bind fun bb =>
  if bb then
  (Jq aT.2).bind fun aY =>
  (Jbf aj n aY.2).bind fun aW =>
  some ((⟨24, x6.Ac, aW.1, x6.Ad⟩ : Ja), aW.2)
  else
  some ((⟨23, x6.Ac, [], x6.Ad⟩ : Ja), aT.2)
  else
  (Jy p 4 ([40] : Str)).bind fun bc =>
  if bc then
  (Jq p).bind fun bf =>
  (aj bf.2).bind fun aS =>
  (Jt aS.2).bind fun aX =>
  if aX then
  (JF aS.2 ([41] : Str)).bind fun a6 =>
  some (aS.1, a6)
  else
  some (aS.1, aS.2)
  else
  (JZ p).bind fun bg =>
  some ((⟨0, x6.Ac, [], x6.Ad⟩ : Ja), bg)
theorem Jcn {aj : (Jb → Option (Ja × Jb))} (ihrec0_0 : ∀ {p : Jb} {b0 : Nat} {aa : Option Addr} {ab : Nat} {K : Hp} {r : Ja × Jb} (hm : aj p = some r) (hX : (0 < p.list.length → Has aa) ∧ GG K), Fn Tryz.prog 236 [.pointer (some ⟨b0, 0, none⟩)] K [Cells b0 163 [.slice aa p.list.length ab, .int .i64 p.atZ, .int .i64 p.line], qas Je.enc aa 166 4 ab p.list] (fun v K' H' => ∃ ar_0 : Option Addr, ∃ cr_0 : Nat, ∃ sr_0 : List (List Value), ∃ ar_1 : Option Addr, ∃ cr_1 : Nat, v = .agg #[.int .i64 r.1.Ab, str r.1.Ac, .slice ar_0 r.1.Aa.length cr_0, .int .i64 r.1.Ad] ∧ (0 < r.1.Aa.length → Has ar_0) ∧ LR Ja.R K' sr_0 r.1.Aa ∧ (0 < r.2.list.length → Has ar_1) ∧ H' = [OwnA ar_0 117 4 cr_0 sr_0, Cells b0 163 [.slice ar_1 r.2.list.length cr_1, .int .i64 r.2.atZ, .int .i64 r.2.line], qas Je.enc ar_1 166 4 cr_1 r.2.list])) {n : Nat} {p : Jb} {b0 : Nat} {aa : Option Addr} {ab : Nat} {K : Hp} {r : Ja × Jb}
    (hm : Jbj aj n p = some r) (hX : (0 < p.list.length → Has aa) ∧ GG K) :
    Fn Tryz.prog 275 [.pointer (some ⟨b0, 0, none⟩)] K [Cells b0 163 [.slice aa p.list.length ab, .int .i64 p.atZ, .int .i64 p.line], qas Je.enc aa 166 4 ab p.list] (fun v K' H' => ∃ ar_0 : Option Addr, ∃ cr_0 : Nat, ∃ sr_0 : List (List Value), ∃ ar_1 : Option Addr, ∃ cr_1 : Nat, v = .agg #[.int .i64 r.1.Ab, str r.1.Ac, .slice ar_0 r.1.Aa.length cr_0, .int .i64 r.1.Ad] ∧ (0 < r.1.Aa.length → Has ar_0) ∧ LR Ja.R K' sr_0 r.1.Aa ∧ (0 < r.2.list.length → Has ar_1) ∧ H' = [OwnA ar_0 117 4 cr_0 sr_0, Cells b0 163 [.slice ar_1 r.2.list.length cr_1, .int .i64 r.2.atZ, .int .i64 r.2.line], qas Je.enc ar_1 166 4 cr_1 r.2.list]) := by
 obtain ⟨ae, hG⟩ := hX
 refine Fn.enter Tryz.func275 Tryz.call275 rfl fun F => ?_
 unfold Jbj at hm
 refine qai rfl fun b2 => ?_
 refine cb hm fun x6 q6 hm => cgx (JH q6 :) ?_
 refine qai rfl fun b3 => ?_
 refine qaa r0 rfl ⟨rfl, rfl, (nl rfl), ?_⟩
 refine fa rfl (ro (ld r0 rfl rfl (fa rfl (ro (ld r0 rfl rfl (qag rfl rfl (cT (cT ?_))))))))
 refine qai rfl fun b4 => ?_
 refine qaa r0 rfl ⟨rfl, rfl, (nl rfl), ?_⟩
 refine qal rfl ?_
 refine fa rfl (ro (ld r1 rfl rfl (qaf ?_)))
 refine cs rfl rfl hm ?_ ?_ <;> intro cD hm
 refine fa rfl ?_
 refine qaa r0 rfl ⟨rfl, rfl, (nl rfl), ?_⟩
 refine cb hm fun cM bV hm => ckx (Jm bV :) ?_
 rintro _ _ _ ⟨bu, bG, rfl, bL, rfl⟩
 refine ro (qab r2 rfl (nl rfl) ?_)
 refine qaa r4 rfl ⟨rfl, rfl, (nl rfl), ?_⟩
 refine ro (qab r0 rfl (nl rfl) ?_)
 refine qcj (fun _ : Ja => []) 117 4 ?_
 exact eE hm
 refine fa rfl (ro (ld r1 rfl rfl (qaf ?_)))
 refine cs rfl rfl hm ?_ ?_ <;> intro cC hm
 refine fa rfl ?_
 refine qaa r0 rfl ⟨rfl, rfl, (nl rfl), ?_⟩
 refine cb hm fun cH cu hm => ckx (Jm cu :) ?_
 rintro _ _ _ ⟨bm, bo, rfl, bJ, rfl⟩
 refine ro (qab r2 rfl (nl rfl) ?_)
 refine qaa r4 rfl ⟨rfl, rfl, (nl rfl), ?_⟩
 refine ro (qab r0 rfl (nl rfl) ?_)
 refine qcj (fun _ : Ja => []) 117 4 ?_
 exact eE hm
 refine cb hm fun cP bZ hm => cgx (Jv bZ :) ?_
 refine cs rfl rfl hm ?_ ?_ <;> intro bt hm
 refine qac rfl (ct bt (fa rfl ?_))
 refine qaa r2 rfl ⟨rfl, rfl, (nl rfl), ?_⟩
 refine cb hm fun ca aZ hm => ckx (Jm aZ :) ?_
 rintro _ _ _ ⟨aY, aX, rfl, aW, rfl⟩
 refine ro (qab r2 rfl (nl rfl) ?_)
 refine qaa r4 rfl ⟨rfl, rfl, (nl rfl), ?_⟩
 refine ro (qab r0 rfl (nl rfl) ?_)
 refine qcj (fun _ : Ja => []) 117 4 ?_
 exact eE hm
 refine cb hm fun cX cm hm => cgx (Jv cm :) ?_
 refine cs rfl rfl hm ?_ ?_ <;> intro bt hm
 refine fa rfl ?_
 refine qaa r2 rfl ⟨rfl, rfl, (nl rfl), ?_⟩
 refine cb hm fun ca aZ hm => ckx (Jm aZ :) ?_
 rintro _ _ _ ⟨aY, aX, rfl, aW, rfl⟩
 refine ro (qab r2 rfl (nl rfl) ?_)
 refine qaa r4 rfl ⟨rfl, rfl, (nl rfl), ?_⟩
 refine ro (qab r0 rfl (nl rfl) ?_)
 refine qcj (fun _ : Ja => []) 117 4 ?_
 exact eE hm
 obtain ⟨a6, aT, hm⟩ := bnd hm
 refine jR (σ := Bool) (rg 36 10) (fun aU => [(36, .bool aU)]) (fun aU => aU = a6) ?_ ?_
 replace aT := bsm aT
 refine qaj rfl ?_
 refine fa rfl (ro (ld r3 rfl rfl (qaf ?_)))
 obtain ⟨cK, aV, aT⟩ := bnd aT
 refine cS aV (fun aS aV => ?_) fun aS aV => ?_
 refine fa rfl (ct aS (ro (ld r3 rfl rfl (ct aS ?_))))
 refine cb aV fun cY co aV => cgx (Jcm co :) ?_
 refine ct aS (qau (ct aS ?_))
 exact eMq aT _ ⟨bq (si aV), trivial⟩
 refine cf aS (cf aS (cf aS (cf aS ?_)))
 exact eMq aT _ ⟨bq (si aV), trivial⟩
 rintro aU rfl bY
 refine cs rfl rfl hm ?_ ?_ <;> intro cV hm
 refine fa rfl ?_
 refine qaa r2 rfl ⟨rfl, rfl, (nl rfl), ?_⟩
 refine cb hm fun c4 cr hm => ckx (Jm cr :) ?_
 rintro _ _ _ ⟨bA, bh, rfl, bd, rfl⟩
 refine cb hm fun cG ce hm => cgx (Jv ce :) ?_
 refine cs rfl rfl hm ?_ ?_ <;> intro cJ hm
 refine cb hm fun cL cy hm => ckx (Jm cy :) ?_
 rintro _ _ _ ⟨bb, bc, rfl, bw, rfl⟩
 refine fa rfl ?_
 refine qaa r2 rfl ⟨rfl, rfl, (nl rfl), ?_⟩
 refine cb hm fun cQ bW hm => cfx (JcV ihrec0_0 bW :) ?_
 rintro _ cI _ cB ⟨bK, bg, ba, bz, bD, rfl, bF, bH, bv, rfl⟩
 refine fa rfl ?_
 refine qaa r3 rfl ⟨rfl, rfl, (nl rfl), ?_⟩
 refine ro (qab r0 rfl (nl rfl) ?_)
 refine qaa r5 rfl ⟨rfl, rfl, (nl rfl), ?_⟩
 exact ro (qab r0 rfl (nl rfl) (eE hm))
 refine ro (qab r2 rfl (nl rfl) ?_)
 refine qaa r4 rfl ⟨rfl, rfl, (nl rfl), ?_⟩
 refine ro (qab r0 rfl (nl rfl) ?_)
 refine qcj (fun _ : Ja => []) 117 4 ?_
 exact eE hm
 refine cb hm fun cA bU hm => cgx (Jv bU :) ?_
 refine cs rfl rfl hm ?_ ?_ <;> intro cN hm
 refine cb hm fun cR cw hm => ckx (Jm cw :) ?_
 rintro _ _ _ ⟨bp, bf, rfl, bl, rfl⟩
 refine cb hm fun cz cn hm => cfx (ihrec0_0 cn :) ?_
 rintro _ c5 _ cZ ⟨br, a8, bS, bM, bB, rfl, bn, bj, bP, rfl⟩
 refine qaa r3 rfl ⟨rfl, rfl, (nl rfl), ?_⟩
 refine cb hm fun cU cj hm => cgx (Js cj :) ?_
 refine cs rfl rfl hm ?_ ?_ <;> intro cO hm
 refine cb hm fun cW bT hm => ckx (JD bT :) ?_
 rintro _ _ _ ⟨bN, bI, rfl, bC, rfl⟩
 refine ro (qab r2 rfl (nl rfl) ?_)
 refine qaa r5 rfl ⟨rfl, rfl, (nl rfl), ?_⟩
 exact ro (qab r0 rfl (nl rfl) (eE hm))
 refine ro (qab r2 rfl (nl rfl) ?_)
 refine qaa r5 rfl ⟨rfl, rfl, (nl rfl), ?_⟩
 exact ro (qab r0 rfl (nl rfl) (eE hm))
 refine cb hm fun cE bX hm => ckx (J4 bX :) ?_
 rintro _ _ _ ⟨bR, bQ, rfl, bO, rfl⟩
 refine ro (qab r2 rfl (nl rfl) ?_)
 refine qaa r4 rfl ⟨rfl, rfl, (nl rfl), ?_⟩
 refine ro (qab r0 rfl (nl rfl) ?_)
 refine qcj (fun _ : Ja => []) 117 4 ?_
 exact eE hm

def Jat (aj : (Jb → Option (Ja × Jb))) (n : Nat) : Nat → Ja → Jb → Option (Ja × Jb)
  | 0, _, _ => none
  | aV + 1, ac, aS =>
    (Jt aS).bind fun x7 =>
    (if x7 then (Jy aS 4 ([42] : Str)).bind fun aU =>
    some aU else some false).bind fun aW =>
    if aW then
    (Jq aS).bind fun aY =>
    (Jbj aj n aY.2).bind fun aT =>
    (JaL 19 ([] : Str) ac aT.1).bind fun aX =>
    Jat aj n aV aX aT.2
    else
    some (ac, aS)
def JaR (aj : (Jb → Option (Ja × Jb))) (n : Nat) (p : Jb) : Option (Ja × Jb) :=
  (Jbj aj n p).bind fun x5 =>
  (Jat aj n n x5.1 x5.2).bind fun t0 =>
  some (t0.1, t0.2)
theorem Jbu {aj : (Jb → Option (Ja × Jb))} (ihrec0_0 : ∀ {p : Jb} {b0 : Nat} {aa : Option Addr} {ab : Nat} {K : Hp} {r : Ja × Jb} (hm : aj p = some r) (hX : (0 < p.list.length → Has aa) ∧ GG K), Fn Tryz.prog 236 [.pointer (some ⟨b0, 0, none⟩)] K [Cells b0 163 [.slice aa p.list.length ab, .int .i64 p.atZ, .int .i64 p.line], qas Je.enc aa 166 4 ab p.list] (fun v K' H' => ∃ ar_0 : Option Addr, ∃ cr_0 : Nat, ∃ sr_0 : List (List Value), ∃ ar_1 : Option Addr, ∃ cr_1 : Nat, v = .agg #[.int .i64 r.1.Ab, str r.1.Ac, .slice ar_0 r.1.Aa.length cr_0, .int .i64 r.1.Ad] ∧ (0 < r.1.Aa.length → Has ar_0) ∧ LR Ja.R K' sr_0 r.1.Aa ∧ (0 < r.2.list.length → Has ar_1) ∧ H' = [OwnA ar_0 117 4 cr_0 sr_0, Cells b0 163 [.slice ar_1 r.2.list.length cr_1, .int .i64 r.2.atZ, .int .i64 r.2.line], qas Je.enc ar_1 166 4 cr_1 r.2.list])) {n : Nat} {p : Jb} {b0 : Nat} {aa : Option Addr} {ab : Nat} {K : Hp} {r : Ja × Jb}
    (hm : JaR aj n p = some r) (hX : (0 < p.list.length → Has aa) ∧ GG K) :
    Fn Tryz.prog 274 [.pointer (some ⟨b0, 0, none⟩)] K [Cells b0 163 [.slice aa p.list.length ab, .int .i64 p.atZ, .int .i64 p.line], qas Je.enc aa 166 4 ab p.list] (fun v K' H' => ∃ ar_0 : Option Addr, ∃ cr_0 : Nat, ∃ sr_0 : List (List Value), ∃ ar_1 : Option Addr, ∃ cr_1 : Nat, v = .agg #[.int .i64 r.1.Ab, str r.1.Ac, .slice ar_0 r.1.Aa.length cr_0, .int .i64 r.1.Ad] ∧ (0 < r.1.Aa.length → Has ar_0) ∧ LR Ja.R K' sr_0 r.1.Aa ∧ (0 < r.2.list.length → Has ar_1) ∧ H' = [OwnA ar_0 117 4 cr_0 sr_0, Cells b0 163 [.slice ar_1 r.2.list.length cr_1, .int .i64 r.2.atZ, .int .i64 r.2.line], qas Je.enc ar_1 166 4 cr_1 r.2.list]) := by
 obtain ⟨ae, hG⟩ := hX
 refine Fn.enter Tryz.func274 Tryz.call274 rfl fun F => ?_
 unfold JaR at hm
 refine qai rfl fun b2 => ?_
 refine cb hm fun x5 q5 hm => cfx (Jcn ihrec0_0 q5 :) ?_
 rintro _ K5 _ l5 ⟨bU, bY, bP, bW, ca, rfl, bZ, bT, bS, rfl⟩
 refine qai rfl fun b3 => ?_
 refine qaa r0 rfl ⟨rfl, rfl, (nl rfl), ?_⟩
 obtain ⟨s0, aX, hm⟩ := bnd hm
 refine lC (σ := (Ja × Jb) × Option Addr × Nat × List (List Value) × Option Addr × Nat) (rg 6 12) [4, 5] (fun _ => []) (fun _ => []) (fun (t0, aT, aU, aV, aS, aW) => [Cells b3 117 [.int .i64 t0.1.Ab, str t0.1.Ac, .slice aT t0.1.Aa.length aU, .int .i64 t0.1.Ad], OwnA aT 117 4 aU aV, Cells b0 163 [.slice aS t0.2.list.length aW, .int .i64 t0.2.atZ, .int .i64 t0.2.line], qas Je.enc aS 166 4 aW t0.2.list]) (fun zz K1 => match zz with | (t0, aT, aU, aV, aS, aW) => (0 < t0.1.Aa.length → Has aT) ∧ LR Ja.R K1 aV t0.1.Aa ∧ (0 < t0.2.list.length → Has aS)) (fun i0 (t0, aT, aU, aV, aS, aW) => Jat aj n i0 t0.1 t0.2 = some s0) (fun (t0, aT, aU, aV, aS, aW) => t0 = s0) (fun i0 => i0) n ((_, _), _, _, _, _, _) aX (And.intro qe (And.intro ?_ ?_))
 clear aX
 rintro i0 ⟨⟨ac, bO⟩, bn, bl, bp, bm, bo⟩ cm cB ⟨bt, a6, bh⟩ aX j0
 dsimp only at aX ⊢
 cases i0 with
 | zero => rw [Jat.eq_1] at aX; cases aX
 | succ i0 =>
  rw [Jat.eq_2] at aX
  refine qaj rfl ?_
  refine cb aX fun x7 q7 aX => cgx (Js q7 :) ?_
  obtain ⟨cy, a8, aX⟩ := bnd aX
  refine cS a8 (fun aZ a8 => ?_) fun aZ a8 => ?_
  refine ct aZ ?_
  refine cb a8 fun cA ce a8 => cgx (Jv ce :) ?_
  refine ct aZ (qac rfl ?_)
  refine qae ?_ ?_ <;> intro bv
  replace aX := ift ((si a8).symm.trans bv) aX
  refine qal rfl ?_
  refine cb aX fun co bQ aX => ckx (Jm bQ :) ?_
  rintro _ _ _ ⟨bN, bM, rfl, bJ, rfl⟩
  refine qa1 ⟨⟨[], false⟩, _, [(_, _)], []⟩ 3 rfl (by kernel_rfl) ⟨Hp.Le.refl _, (sc [2] rfl), ci0⟩ ?_
  refine qcc m0 rfl (nl rfl) ?_
  refine cb aX fun cC bR aX => cfx (Jcn ihrec0_0 bR :) ?_
  rintro _ cn _ bV ⟨bG, bw, bA, bz, bI, rfl, bF, ba, bB, rfl⟩
  refine qk (sc [3] rfl) ?_
  refine qjd Tryz.call254 Ja.R_ok r4 (LR.mono Ja.R_ok bV a6) fun bg aY bf => ?_
  refine qjd Tryz.call254 Ja.R_ok r0 (LR.mono Ja.R_ok aY ba) fun bd bc bb => ?_
  refine cb aX fun cu bX aX => cfx (JaQ bX :) ?_
  rintro _ cz _ cr ⟨bC, bL, bD, rfl, bK, bH, rfl⟩
  refine ⟨⟨Hp.emp_le _, (pf rfl), ci0⟩, ?_⟩
  refine qaa r3 rfl ⟨rfl, rfl, (nl rfl), ?_⟩
  refine ⟨⟨Hp.emp_le _, (pf rfl), ci0⟩, ?_⟩
  exact eR aX (_, (_, _), _, _, _, _, _)
  replace aX := qba ((si a8).symm.trans bv) aX
  refine cT ?_
  exact eM aX (_, _, _, _, _, _)
  refine cf aZ (cf aZ (qac rfl (cF ?_)))
  replace aX := qba (si a8).symm aX
  refine cT ?_
  exact eM aX (_, _, _, _, _, _)
 rintro ⟨t0, aT, aU, aV, aS, aW⟩ cw cj ⟨bu, br, bj⟩ rfl j0
 refine ro (qab r0 rfl (nl rfl) ?_)
 refine qaa r4 rfl ⟨rfl, rfl, (nl rfl), ?_⟩
 exact ro (qab r0 rfl (nl rfl) (eE hm))

def Jaj (aj : (Jb → Option (Ja × Jb))) (n : Nat) : Nat → Ja → Jb → Option (Fl (Ja × Jb) (Ja × Jb))
  | 0, _, _ => none
  | aV + 1, ac, aS =>
    (Jt aS).bind fun x7 =>
    if x7 then
    (Jy aS 4 ([43] : Str)).bind fun aZ =>
    if aZ then
    (Jq aS).bind fun a8 =>
    (JaR aj n a8.2).bind fun aU =>
    (JaL 17 ([] : Str) ac aU.1).bind fun a6 =>
    Jaj aj n aV a6 aU.2
    else
    (Jy aS 4 ([45] : Str)).bind fun aW =>
    if aW then
    (Jq aS).bind fun aY =>
    (JaR aj n aY.2).bind fun aT =>
    (JaL 18 ([] : Str) ac aT.1).bind fun aX =>
    Jaj aj n aV aX aT.2
    else
    some (Fl.ret (ac, aS))
    else
    some (Fl.go (ac, aS))
def Jbv (aj : (Jb → Option (Ja × Jb))) (n : Nat) (p : Jb) : Option (Ja × Jb) :=
  (JaR aj n p).bind fun x5 =>
  (Jaj aj n n x5.1 x5.2).bind fun s0 => s0.el some fun t0 =>
  some (t0.1, t0.2)
theorem Jcy {aj : (Jb → Option (Ja × Jb))} (ihrec0_0 : ∀ {p : Jb} {b0 : Nat} {aa : Option Addr} {ab : Nat} {K : Hp} {r : Ja × Jb} (hm : aj p = some r) (hX : (0 < p.list.length → Has aa) ∧ GG K), Fn Tryz.prog 236 [.pointer (some ⟨b0, 0, none⟩)] K [Cells b0 163 [.slice aa p.list.length ab, .int .i64 p.atZ, .int .i64 p.line], qas Je.enc aa 166 4 ab p.list] (fun v K' H' => ∃ ar_0 : Option Addr, ∃ cr_0 : Nat, ∃ sr_0 : List (List Value), ∃ ar_1 : Option Addr, ∃ cr_1 : Nat, v = .agg #[.int .i64 r.1.Ab, str r.1.Ac, .slice ar_0 r.1.Aa.length cr_0, .int .i64 r.1.Ad] ∧ (0 < r.1.Aa.length → Has ar_0) ∧ LR Ja.R K' sr_0 r.1.Aa ∧ (0 < r.2.list.length → Has ar_1) ∧ H' = [OwnA ar_0 117 4 cr_0 sr_0, Cells b0 163 [.slice ar_1 r.2.list.length cr_1, .int .i64 r.2.atZ, .int .i64 r.2.line], qas Je.enc ar_1 166 4 cr_1 r.2.list])) {n : Nat} {p : Jb} {b0 : Nat} {aa : Option Addr} {ab : Nat} {K : Hp} {r : Ja × Jb}
    (hm : Jbv aj n p = some r) (hX : (0 < p.list.length → Has aa) ∧ GG K) :
    Fn Tryz.prog 271 [.pointer (some ⟨b0, 0, none⟩)] K [Cells b0 163 [.slice aa p.list.length ab, .int .i64 p.atZ, .int .i64 p.line], qas Je.enc aa 166 4 ab p.list] (fun v K' H' => ∃ ar_0 : Option Addr, ∃ cr_0 : Nat, ∃ sr_0 : List (List Value), ∃ ar_1 : Option Addr, ∃ cr_1 : Nat, v = .agg #[.int .i64 r.1.Ab, str r.1.Ac, .slice ar_0 r.1.Aa.length cr_0, .int .i64 r.1.Ad] ∧ (0 < r.1.Aa.length → Has ar_0) ∧ LR Ja.R K' sr_0 r.1.Aa ∧ (0 < r.2.list.length → Has ar_1) ∧ H' = [OwnA ar_0 117 4 cr_0 sr_0, Cells b0 163 [.slice ar_1 r.2.list.length cr_1, .int .i64 r.2.atZ, .int .i64 r.2.line], qas Je.enc ar_1 166 4 cr_1 r.2.list]) := by
 obtain ⟨ae, hG⟩ := hX
 refine Fn.enter Tryz.func271 Tryz.call271 rfl fun F => ?_
 unfold Jbv at hm
 refine qai rfl fun b2 => ?_
 refine cb hm fun x5 q5 hm => cfx (Jbu ihrec0_0 q5 :) ?_
 rintro _ K5 _ l5 ⟨cE, cL, cw, cI, cN, rfl, cM, cC, cB, rfl⟩
 refine qai rfl fun b3 => ?_
 refine qaa r0 rfl ⟨rfl, rfl, (nl rfl), ?_⟩
 obtain ⟨s0, aU, hm⟩ := bnd hm
 refine lC (σ := (Ja × Jb) × Option Addr × Nat × List (List Value) × Option Addr × Nat) (rg 6 21) [4, 5] (fun _ => []) (fun _ => []) (fun (t0, aT, aV, aW, aS, aX) => [Cells b3 117 [.int .i64 t0.1.Ab, str t0.1.Ac, .slice aT t0.1.Aa.length aV, .int .i64 t0.1.Ad], OwnA aT 117 4 aV aW, Cells b0 163 [.slice aS t0.2.list.length aX, .int .i64 t0.2.atZ, .int .i64 t0.2.line], qas Je.enc aS 166 4 aX t0.2.list]) (fun zz K1 => match zz with | (t0, aT, aV, aW, aS, aX) => (0 < t0.1.Aa.length → Has aT) ∧ LR Ja.R K1 aW t0.1.Aa ∧ (0 < t0.2.list.length → Has aS)) (fun i0 (t0, aT, aV, aW, aS, aX) => Jaj aj n i0 t0.1 t0.2 = some s0) (fun (t0, aT, aV, aW, aS, aX) => s0 = Fl.go t0) (fun i0 => i0) n ((_, _), _, _, _, _, _) aU (And.intro qe (And.intro ?_ ?_))
 clear aU
 rintro i0 ⟨⟨ac, cu⟩, bu, br, bw, bt, bv⟩ cU dg ⟨bA, aY, bo⟩ aU j0
 dsimp only at aU ⊢
 cases i0 with
 | zero => rw [Jaj.eq_1] at aU; cases aU
 | succ i0 =>
  rw [Jaj.eq_2] at aU
  refine cb aU fun x7 q7 aU => cgx (Js q7 :) ?_
  refine cs rfl rfl aU ?_ ?_ <;> intro w7 aU
  refine qal rfl ?_
  refine qal rfl ?_
  refine cb aU fun c8 cK aU => cgx (Jv cK :) ?_
  refine cs rfl rfl aU ?_ ?_ <;> intro w9 aU
  refine cb aU fun cY cz aU => ckx (Jm cz :) ?_
  rintro _ _ _ ⟨cr, co, rfl, cj, rfl⟩
  refine qa1 ⟨⟨[], false⟩, _, [(_, _)], []⟩ 3 rfl (by kernel_rfl) ⟨Hp.Le.refl _, (sc [2] rfl), ci0⟩ ?_
  refine qcc m0 rfl (nl rfl) ?_
  refine cb aU fun dh cA aU => cfx (Jbu ihrec0_0 cA :) ?_
  rintro _ cX _ cG ⟨bV, bF, bJ, bH, bZ, rfl, bR, ba, bN, rfl⟩
  refine qk (sc [3] rfl) ?_
  refine qjd Tryz.call254 Ja.R_ok r4 (LR.mono Ja.R_ok cG aY) fun bn aZ bm => ?_
  refine qjd Tryz.call254 Ja.R_ok r0 (LR.mono Ja.R_ok aZ ba) fun bh bf bd => ?_
  refine cb aU fun c4 cJ aU => cfx (JaQ cJ :) ?_
  rintro _ df _ cZ ⟨bO, cn, bQ, rfl, cm, bX, rfl⟩
  refine ⟨⟨Hp.emp_le _, (pf rfl), ci0⟩, ?_⟩
  refine qaa r3 rfl ⟨rfl, rfl, (nl rfl), ?_⟩
  refine ⟨⟨Hp.emp_le _, (pf rfl), ci0⟩, ?_⟩
  exact eR aU (_, (_, _), _, _, _, _, _)
  refine cb aU fun c9 cy aU => cgx (Jv cy :) ?_
  refine cs rfl rfl aU ?_ ?_ <;> intro di aU
  refine cb aU fun de cD aU => ckx (Jm cD :) ?_
  rintro _ _ _ ⟨ca, bG, rfl, bP, rfl⟩
  refine qa1 ⟨⟨[], false⟩, _, [(_, _)], []⟩ 3 rfl (by kernel_rfl) ⟨Hp.Le.refl _, (sc [2] rfl), ci0⟩ ?_
  refine qcc m0 rfl (nl rfl) ?_
  refine cb aU fun dc cP aU => cfx (Jbu ihrec0_0 cP :) ?_
  rintro _ cV _ cO ⟨bU, bS, bK, bC, bI, rfl, bW, bc, bY, rfl⟩
  refine qk (sc [3] rfl) ?_
  refine qjd Tryz.call254 Ja.R_ok r4 (LR.mono Ja.R_ok cO aY) fun bl a6 a8 => ?_
  refine qjd Tryz.call254 Ja.R_ok r0 (LR.mono Ja.R_ok a6 bc) fun bj bg bb => ?_
  refine cb aU fun cW cH aU => cfx (JaQ cH :) ?_
  rintro _ cR _ c5 ⟨bT, bM, bL, rfl, ce, bD, rfl⟩
  refine ⟨⟨Hp.emp_le _, (pf rfl), ci0⟩, ?_⟩
  refine qaa r3 rfl ⟨rfl, rfl, (nl rfl), ?_⟩
  refine ⟨⟨Hp.emp_le _, (pf rfl), ci0⟩, ?_⟩
  exact eR aU (_, (_, _), _, _, _, _, _)
  refine ro (qab r2 rfl (nl rfl) ?_)
  refine qaa r4 rfl ⟨rfl, rfl, (nl rfl), ?_⟩
  exact ro (qab r0 rfl (nl rfl) (eE (er aU hm)))
  refine cT ?_
  exact eM aU (_, _, _, _, _, _)
 rintro ⟨t0, aT, aV, aW, aS, aX⟩ c6 cQ ⟨bB, bz, bp⟩ rfl j0
 replace hm := elg hm
 refine ro (qab r0 rfl (nl rfl) ?_)
 refine qaa r4 rfl ⟨rfl, rfl, (nl rfl), ?_⟩
 exact ro (qab r0 rfl (nl rfl) (eE hm))

def Jb4 (aj : (Jb → Option (Ja × Jb))) (n : Nat) (p : Jb) : Option (Ja × Jb) :=
  (Jbv aj n p).bind fun x6 =>
  (JI x6.2).bind fun x8 =>
  (Jt x6.2).bind fun aT =>
  (if aT then (Jbn x8.Ab x8.Ac).bind fun aW =>
  some aW else some false).bind fun aX =>
  if aX then
  (Jq x6.2).bind fun aV =>
  (Jbv aj n aV.2).bind fun aS =>
  (JaL 16 x8.Ac x6.1 aS.1).bind fun aU =>
  some (aU, aS.2)
  else
  some (x6.1, x6.2)
theorem Jdn {aj : (Jb → Option (Ja × Jb))} (ihrec0_0 : ∀ {p : Jb} {b0 : Nat} {aa : Option Addr} {ab : Nat} {K : Hp} {r : Ja × Jb} (hm : aj p = some r) (hX : (0 < p.list.length → Has aa) ∧ GG K), Fn Tryz.prog 236 [.pointer (some ⟨b0, 0, none⟩)] K [Cells b0 163 [.slice aa p.list.length ab, .int .i64 p.atZ, .int .i64 p.line], qas Je.enc aa 166 4 ab p.list] (fun v K' H' => ∃ ar_0 : Option Addr, ∃ cr_0 : Nat, ∃ sr_0 : List (List Value), ∃ ar_1 : Option Addr, ∃ cr_1 : Nat, v = .agg #[.int .i64 r.1.Ab, str r.1.Ac, .slice ar_0 r.1.Aa.length cr_0, .int .i64 r.1.Ad] ∧ (0 < r.1.Aa.length → Has ar_0) ∧ LR Ja.R K' sr_0 r.1.Aa ∧ (0 < r.2.list.length → Has ar_1) ∧ H' = [OwnA ar_0 117 4 cr_0 sr_0, Cells b0 163 [.slice ar_1 r.2.list.length cr_1, .int .i64 r.2.atZ, .int .i64 r.2.line], qas Je.enc ar_1 166 4 cr_1 r.2.list])) {n : Nat} {p : Jb} {b0 : Nat} {aa : Option Addr} {ab : Nat} {K : Hp} {r : Ja × Jb}
    (hm : Jb4 aj n p = some r) (hX : (0 < p.list.length → Has aa) ∧ GG K) :
    Fn Tryz.prog 267 [.pointer (some ⟨b0, 0, none⟩)] K [Cells b0 163 [.slice aa p.list.length ab, .int .i64 p.atZ, .int .i64 p.line], qas Je.enc aa 166 4 ab p.list] (fun v K' H' => ∃ ar_0 : Option Addr, ∃ cr_0 : Nat, ∃ sr_0 : List (List Value), ∃ ar_1 : Option Addr, ∃ cr_1 : Nat, v = .agg #[.int .i64 r.1.Ab, str r.1.Ac, .slice ar_0 r.1.Aa.length cr_0, .int .i64 r.1.Ad] ∧ (0 < r.1.Aa.length → Has ar_0) ∧ LR Ja.R K' sr_0 r.1.Aa ∧ (0 < r.2.list.length → Has ar_1) ∧ H' = [OwnA ar_0 117 4 cr_0 sr_0, Cells b0 163 [.slice ar_1 r.2.list.length cr_1, .int .i64 r.2.atZ, .int .i64 r.2.line], qas Je.enc ar_1 166 4 cr_1 r.2.list]) := by
 obtain ⟨ae, hG⟩ := hX
 refine Fn.enter Tryz.func267 Tryz.call267 rfl fun F => ?_
 unfold Jb4 at hm
 refine qai rfl fun b2 => ?_
 refine cb hm fun x6 q6 hm => cfx (Jcy ihrec0_0 q6 :) ?_
 rintro _ K6 _ l6 ⟨bH, bA, bB, bC, bG, rfl, bz, ba, bF, rfl⟩
 refine qai rfl fun b3 => ?_
 refine qaa r0 rfl ⟨rfl, rfl, (nl rfl), ?_⟩
 refine cb hm fun x8 q8 hm => cgx (JH q8 :) ?_
 refine qai rfl fun b4 => ?_
 refine qaa r0 rfl ⟨rfl, rfl, (nl rfl), ?_⟩
 refine qaj rfl ?_
 refine cb hm fun bQ bL hm => cgx (Js bL :) ?_
 obtain ⟨bS, aV, hm⟩ := bnd hm
 refine cS aV (fun aS aV => ?_) fun aS aV => ?_
 refine fa rfl (ct aS (ro (ld r2 rfl rfl (ct aS (fa rfl (ct aS (ro (ld r2 rfl rfl (ct aS ?_)))))))))
 refine cb aV fun bR bK aV => cg0 (Jb3 bK :) ?_
 refine ct aS (qac rfl ?_)
 refine qae ?_ ?_ <;> intro bm
 replace hm := ift ((si aV).symm.trans bm) hm
 refine cb hm fun bM bI hm => ckx (Jm bI :) ?_
 rintro _ _ _ ⟨bb, bu, rfl, bj, rfl⟩
 refine qa4 ⟨⟨[], false⟩, _, [(_, _), (_, _)], []⟩ (by kernel_rfl) ⟨Hp.Le.refl _, (sc [2,2] rfl), ci0⟩ ?_
 refine fa rfl (qao m0 rfl rfl (qcc m1 rfl (nl rfl) ?_))
 refine cb hm fun bT bD hm => cfx (Jcy ihrec0_0 bD :) ?_
 rintro _ bP _ a8 ⟨bg, bl, bn, bo, bd, rfl, bt, a6, bf, rfl⟩
 refine qk (sc [3,3] rfl) ?_
 refine qjd Tryz.call254 Ja.R_ok r5 (LR.mono Ja.R_ok a8 ba) fun aY aT aW => ?_
 refine qjd Tryz.call254 Ja.R_ok r0 (LR.mono Ja.R_ok aT a6) fun aZ aU aX => ?_
 refine cb hm fun bO bJ hm => cfx (JaQ bJ :) ?_
 rintro _ bN _ bv ⟨bc, bw, bp, rfl, br, bh, rfl⟩
 refine ⟨⟨(((a8.trans aT).trans aU).trans bv), (sc [3,3] rfl), ci0⟩, ?_⟩
 refine qaa r5 rfl ⟨rfl, rfl, (nl rfl), ?_⟩
 refine ⟨⟨(((a8.trans aT).trans aU).trans bv), (sc [4,4] rfl), ci0⟩, ?_⟩
 exact ro (qab r0 rfl (nl rfl) (eE hm))
 replace hm := qba ((si aV).symm.trans bm) hm
 refine ro (qab r3 rfl (nl rfl) ?_)
 refine qaa r5 rfl ⟨rfl, rfl, (nl rfl), ?_⟩
 exact ro (qab r0 rfl (nl rfl) (eE hm))
 refine cf aS (cf aS (cf aS (cf aS (cf aS (qac rfl (cF ?_))))))
 replace hm := qba (si aV).symm hm
 refine ro (qab r3 rfl (nl rfl) ?_)
 refine qaa r5 rfl ⟨rfl, rfl, (nl rfl), ?_⟩
 exact ro (qab r0 rfl (nl rfl) (eE hm))

def JaF (aj : (Jb → Option (Ja × Jb))) : Nat → Jb → Option (Ja × Jb)
  | 0, _ => none
  | n + 1, p =>
    (Jy p 1 ([110, 111, 116] : Str)).bind fun x5 =>
    if x5 then
    (Jq p).bind fun x7 =>
    ((JaF aj n) x7.2).bind fun aS =>
    some ((⟨15, ([] : Str), [aS.1], x7.1.Ad⟩ : Ja), aS.2)
    else
    (Jb4 aj n p).bind fun aT =>
    some (aT.1, aT.2)
theorem Jcz {aj : (Jb → Option (Ja × Jb))} (ihrec0_0 : ∀ {p : Jb} {b0 : Nat} {aa : Option Addr} {ab : Nat} {K : Hp} {r : Ja × Jb} (hm : aj p = some r) (hX : (0 < p.list.length → Has aa) ∧ GG K), Fn Tryz.prog 236 [.pointer (some ⟨b0, 0, none⟩)] K [Cells b0 163 [.slice aa p.list.length ab, .int .i64 p.atZ, .int .i64 p.line], qas Je.enc aa 166 4 ab p.list] (fun v K' H' => ∃ ar_0 : Option Addr, ∃ cr_0 : Nat, ∃ sr_0 : List (List Value), ∃ ar_1 : Option Addr, ∃ cr_1 : Nat, v = .agg #[.int .i64 r.1.Ab, str r.1.Ac, .slice ar_0 r.1.Aa.length cr_0, .int .i64 r.1.Ad] ∧ (0 < r.1.Aa.length → Has ar_0) ∧ LR Ja.R K' sr_0 r.1.Aa ∧ (0 < r.2.list.length → Has ar_1) ∧ H' = [OwnA ar_0 117 4 cr_0 sr_0, Cells b0 163 [.slice ar_1 r.2.list.length cr_1, .int .i64 r.2.atZ, .int .i64 r.2.line], qas Je.enc ar_1 166 4 cr_1 r.2.list])) : ∀ {n : Nat} {p : Jb} {b0 : Nat} {aa : Option Addr} {ab : Nat} {K : Hp} {r : Ja × Jb}
    (hm : JaF aj n p = some r) (hX : (0 < p.list.length → Has aa) ∧ GG K),
    Fn Tryz.prog 261 [.pointer (some ⟨b0, 0, none⟩)] K [Cells b0 163 [.slice aa p.list.length ab, .int .i64 p.atZ, .int .i64 p.line], qas Je.enc aa 166 4 ab p.list] (fun v K' H' => ∃ ar_0 : Option Addr, ∃ cr_0 : Nat, ∃ sr_0 : List (List Value), ∃ ar_1 : Option Addr, ∃ cr_1 : Nat, v = .agg #[.int .i64 r.1.Ab, str r.1.Ac, .slice ar_0 r.1.Aa.length cr_0, .int .i64 r.1.Ad] ∧ (0 < r.1.Aa.length → Has ar_0) ∧ LR Ja.R K' sr_0 r.1.Aa ∧ (0 < r.2.list.length → Has ar_1) ∧ H' = [OwnA ar_0 117 4 cr_0 sr_0, Cells b0 163 [.slice ar_1 r.2.list.length cr_1, .int .i64 r.2.atZ, .int .i64 r.2.line], qas Je.enc ar_1 166 4 cr_1 r.2.list]) := by
 intro n
 induction n with
 | zero =>
   intro p b0 aa ab K r hm hX
   rw [JaF.eq_1] at hm; cases hm
 | succ n ih =>
   intro p b0 aa ab K r hm hX
   obtain ⟨ae, hG⟩ := hX
   refine Fn.enter Tryz.func261 Tryz.call261 rfl fun F => ?_
   rw [JaF.eq_2] at hm
   refine qai rfl fun b2 => ?_
   refine cb hm fun x5 q5 hm => cgx (Jv q5 :) ?_
   refine cs rfl rfl hm ?_ ?_ <;> intro w5 hm
   refine cb hm fun x7 q7 hm => ckx (Jm q7 :) ?_
   rintro _ _ _ ⟨bt, bu, rfl, bp, rfl⟩
   refine qai rfl fun b3 => ?_
   refine qaa r0 rfl ⟨rfl, rfl, (nl rfl), ?_⟩
   refine qa4 ⟨⟨[], false⟩, _, [(_, _)], []⟩ (by kernel_rfl) ⟨Hp.Le.refl _, (pf rfl), ci0⟩ ?_
   refine fa rfl (qao m0 rfl rfl ?_)
   refine cb hm fun aT br hm => cfx (ih br :) ?_
   rintro _ bB _ ba ⟨aU, aV, bj, aZ, aY, rfl, bl, aX, a8, rfl⟩
   refine qk (sc [3] rfl) ?_
   refine qks Ja.R_ok r0 aX fun a6 aS aW => ?_
   refine qje (R := Ja.R) (len := 1) (l := [aT.1]) (css := [[.int .i64 aT.1.Ab, str aT.1.Ac, .slice aU aT.1.Aa.length aV, .int .i64 aT.1.Ad]]) (cl := [.int .i64 aT.1.Ab, str aT.1.Ac, .slice aU aT.1.Aa.length aV, .int .i64 aT.1.Ad]) Ja.R_ok qbx rfl rfl (LR.snoc LR.nil (Ja.of (x := aT.1) ⟨aU, aV, rfl, aW⟩)) rfl rfl rfl ?_ fun bv => ?_
   · conv => whnf
     refine cT ?_
     first | done | rfl
   refine ⟨⟨(ba.trans aS), (sc [3] rfl), ci0⟩, ?_⟩
   refine qag rfl rfl (cT (cT (cT ?_)))
   refine qaa r4 rfl ⟨rfl, rfl, (nl rfl), ?_⟩
   refine ⟨⟨(ba.trans aS), (sc [4] rfl), ci0⟩, ?_⟩
   obtain rfl := si hm
   exact ro (qab r0 rfl (nl rfl) (en (ba.trans aS) ⟨(some ⟨bv, 0, none⟩), 1, ([[.int .i64 aT.1.Ab, str aT.1.Ac, .slice aU aT.1.Aa.length aV, .int .i64 aT.1.Ad]]), aZ, aY, rfl, (fun _ => ⟨_, _, rfl⟩), (show LR Ja.R _ [[.int .i64 aT.1.Ab, str aT.1.Ac, .slice aU aT.1.Aa.length aV, .int .i64 aT.1.Ad]] [aT.1] from (LR.snoc LR.nil (Ja.of (x := aT.1) ⟨aU, aV, rfl, aW⟩))), a8, rfl⟩ (sc [1,1,1,2] rfl)))
   refine cb hm fun bA bo hm => cfx (Jdn ihrec0_0 bo :) ?_
   rintro _ bw _ bz ⟨bh, bb, bg, bd, bf, rfl, bm, bc, bn, rfl⟩
   refine qaa r3 rfl ⟨rfl, rfl, (nl rfl), ?_⟩
   exact ro (qab r0 rfl (nl rfl) (eE hm))

def Jau (aj : (Jb → Option (Ja × Jb))) (n : Nat) : Nat → Ja → Jb → Option (Ja × Jb)
  | 0, _, _ => none
  | aV + 1, ac, aS =>
    (Jt aS).bind fun x7 =>
    (if x7 then (Jy aS 1 ([97, 110, 100] : Str)).bind fun aU =>
    some aU else some false).bind fun aW =>
    if aW then
    (Jq aS).bind fun aY =>
    (JaF aj n aY.2).bind fun aT =>
    (JaL 14 ([] : Str) ac aT.1).bind fun aX =>
    Jau aj n aV aX aT.2
    else
    some (ac, aS)
def Jbk (aj : (Jb → Option (Ja × Jb))) (n : Nat) (p : Jb) : Option (Ja × Jb) :=
  (JaF aj n p).bind fun x5 =>
  (Jau aj n n x5.1 x5.2).bind fun t0 =>
  some (t0.1, t0.2)
theorem Jco {aj : (Jb → Option (Ja × Jb))} (ihrec0_0 : ∀ {p : Jb} {b0 : Nat} {aa : Option Addr} {ab : Nat} {K : Hp} {r : Ja × Jb} (hm : aj p = some r) (hX : (0 < p.list.length → Has aa) ∧ GG K), Fn Tryz.prog 236 [.pointer (some ⟨b0, 0, none⟩)] K [Cells b0 163 [.slice aa p.list.length ab, .int .i64 p.atZ, .int .i64 p.line], qas Je.enc aa 166 4 ab p.list] (fun v K' H' => ∃ ar_0 : Option Addr, ∃ cr_0 : Nat, ∃ sr_0 : List (List Value), ∃ ar_1 : Option Addr, ∃ cr_1 : Nat, v = .agg #[.int .i64 r.1.Ab, str r.1.Ac, .slice ar_0 r.1.Aa.length cr_0, .int .i64 r.1.Ad] ∧ (0 < r.1.Aa.length → Has ar_0) ∧ LR Ja.R K' sr_0 r.1.Aa ∧ (0 < r.2.list.length → Has ar_1) ∧ H' = [OwnA ar_0 117 4 cr_0 sr_0, Cells b0 163 [.slice ar_1 r.2.list.length cr_1, .int .i64 r.2.atZ, .int .i64 r.2.line], qas Je.enc ar_1 166 4 cr_1 r.2.list])) {n : Nat} {p : Jb} {b0 : Nat} {aa : Option Addr} {ab : Nat} {K : Hp} {r : Ja × Jb}
    (hm : Jbk aj n p = some r) (hX : (0 < p.list.length → Has aa) ∧ GG K) :
    Fn Tryz.prog 253 [.pointer (some ⟨b0, 0, none⟩)] K [Cells b0 163 [.slice aa p.list.length ab, .int .i64 p.atZ, .int .i64 p.line], qas Je.enc aa 166 4 ab p.list] (fun v K' H' => ∃ ar_0 : Option Addr, ∃ cr_0 : Nat, ∃ sr_0 : List (List Value), ∃ ar_1 : Option Addr, ∃ cr_1 : Nat, v = .agg #[.int .i64 r.1.Ab, str r.1.Ac, .slice ar_0 r.1.Aa.length cr_0, .int .i64 r.1.Ad] ∧ (0 < r.1.Aa.length → Has ar_0) ∧ LR Ja.R K' sr_0 r.1.Aa ∧ (0 < r.2.list.length → Has ar_1) ∧ H' = [OwnA ar_0 117 4 cr_0 sr_0, Cells b0 163 [.slice ar_1 r.2.list.length cr_1, .int .i64 r.2.atZ, .int .i64 r.2.line], qas Je.enc ar_1 166 4 cr_1 r.2.list]) := by
 obtain ⟨ae, hG⟩ := hX
 refine Fn.enter Tryz.func253 Tryz.call253 rfl fun F => ?_
 unfold Jbk at hm
 refine qai rfl fun b2 => ?_
 refine cb hm fun x5 q5 hm => cfx (Jcz ihrec0_0 q5 :) ?_
 rintro _ K5 _ l5 ⟨bU, bY, bP, bW, ca, rfl, bZ, bT, bS, rfl⟩
 refine qai rfl fun b3 => ?_
 refine qaa r0 rfl ⟨rfl, rfl, (nl rfl), ?_⟩
 obtain ⟨s0, aX, hm⟩ := bnd hm
 refine lC (σ := (Ja × Jb) × Option Addr × Nat × List (List Value) × Option Addr × Nat) (rg 6 12) [4, 5] (fun _ => []) (fun _ => []) (fun (t0, aT, aU, aV, aS, aW) => [Cells b3 117 [.int .i64 t0.1.Ab, str t0.1.Ac, .slice aT t0.1.Aa.length aU, .int .i64 t0.1.Ad], OwnA aT 117 4 aU aV, Cells b0 163 [.slice aS t0.2.list.length aW, .int .i64 t0.2.atZ, .int .i64 t0.2.line], qas Je.enc aS 166 4 aW t0.2.list]) (fun zz K1 => match zz with | (t0, aT, aU, aV, aS, aW) => (0 < t0.1.Aa.length → Has aT) ∧ LR Ja.R K1 aV t0.1.Aa ∧ (0 < t0.2.list.length → Has aS)) (fun i0 (t0, aT, aU, aV, aS, aW) => Jau aj n i0 t0.1 t0.2 = some s0) (fun (t0, aT, aU, aV, aS, aW) => t0 = s0) (fun i0 => i0) n ((_, _), _, _, _, _, _) aX (And.intro qe (And.intro ?_ ?_))
 clear aX
 rintro i0 ⟨⟨ac, bO⟩, bn, bl, bp, bm, bo⟩ cm cB ⟨bt, a6, bh⟩ aX j0
 dsimp only at aX ⊢
 cases i0 with
 | zero => rw [Jau.eq_1] at aX; cases aX
 | succ i0 =>
  rw [Jau.eq_2] at aX
  refine qaj rfl ?_
  refine cb aX fun x7 q7 aX => cgx (Js q7 :) ?_
  obtain ⟨cy, a8, aX⟩ := bnd aX
  refine cS a8 (fun aZ a8 => ?_) fun aZ a8 => ?_
  refine ct aZ ?_
  refine cb a8 fun cA ce a8 => cgx (Jv ce :) ?_
  refine ct aZ (qac rfl ?_)
  refine qae ?_ ?_ <;> intro bv
  replace aX := ift ((si a8).symm.trans bv) aX
  refine qal rfl ?_
  refine cb aX fun co bQ aX => ckx (Jm bQ :) ?_
  rintro _ _ _ ⟨bN, bM, rfl, bJ, rfl⟩
  refine qa1 ⟨⟨[], false⟩, _, [(_, _)], []⟩ 3 rfl (by kernel_rfl) ⟨Hp.Le.refl _, (sc [2] rfl), ci0⟩ ?_
  refine qcc m0 rfl (nl rfl) ?_
  refine cb aX fun cC bR aX => cfx (Jcz ihrec0_0 bR :) ?_
  rintro _ cn _ bV ⟨bG, bw, bA, bz, bI, rfl, bF, ba, bB, rfl⟩
  refine qk (sc [3] rfl) ?_
  refine qjd Tryz.call254 Ja.R_ok r4 (LR.mono Ja.R_ok bV a6) fun bg aY bf => ?_
  refine qjd Tryz.call254 Ja.R_ok r0 (LR.mono Ja.R_ok aY ba) fun bd bc bb => ?_
  refine cb aX fun cu bX aX => cfx (JaQ bX :) ?_
  rintro _ cz _ cr ⟨bC, bL, bD, rfl, bK, bH, rfl⟩
  refine ⟨⟨Hp.emp_le _, (pf rfl), ci0⟩, ?_⟩
  refine qaa r3 rfl ⟨rfl, rfl, (nl rfl), ?_⟩
  refine ⟨⟨Hp.emp_le _, (pf rfl), ci0⟩, ?_⟩
  exact eR aX (_, (_, _), _, _, _, _, _)
  replace aX := qba ((si a8).symm.trans bv) aX
  refine cT ?_
  exact eM aX (_, _, _, _, _, _)
  refine cf aZ (cf aZ (qac rfl (cF ?_)))
  replace aX := qba (si a8).symm aX
  refine cT ?_
  exact eM aX (_, _, _, _, _, _)
 rintro ⟨t0, aT, aU, aV, aS, aW⟩ cw cj ⟨bu, br, bj⟩ rfl j0
 refine ro (qab r0 rfl (nl rfl) ?_)
 refine qaa r4 rfl ⟨rfl, rfl, (nl rfl), ?_⟩
 exact ro (qab r0 rfl (nl rfl) (eE hm))

def Jav (rec_ : (Jb → Option (Ja × Jb))) (n : Nat) : Nat → Ja → Jb → Option (Ja × Jb)
  | 0, _, _ => none
  | aV + 1, ac, aS =>
    (Jt aS).bind fun x7 =>
    (if x7 then (Jy aS 1 ([111, 114] : Str)).bind fun aU =>
    some aU else some false).bind fun aW =>
    if aW then
    (Jq aS).bind fun aY =>
    (Jbk rec_ n aY.2).bind fun aT =>
    (JaL 13 ([] : Str) ac aT.1).bind fun aX =>
    Jav rec_ n aV aX aT.2
    else
    some (ac, aS)
def J0 : Nat → Jb → Option (Ja × Jb)
  | 0, _ => none
  | n + 1, p =>
    (Jbk (J0 n) n p).bind fun x5 =>
    (Jav (J0 n) n n x5.1 x5.2).bind fun t0 =>
    some (t0.1, t0.2)
theorem Jbw : ∀ {n : Nat} {p : Jb} {b0 : Nat} {aa : Option Addr} {ab : Nat} {K : Hp} {r : Ja × Jb}
    (hm : J0 n p = some r) (hX : (0 < p.list.length → Has aa) ∧ GG K),
    Fn Tryz.prog 236 [.pointer (some ⟨b0, 0, none⟩)] K [Cells b0 163 [.slice aa p.list.length ab, .int .i64 p.atZ, .int .i64 p.line], qas Je.enc aa 166 4 ab p.list] (fun v K' H' => ∃ ar_0 : Option Addr, ∃ cr_0 : Nat, ∃ sr_0 : List (List Value), ∃ ar_1 : Option Addr, ∃ cr_1 : Nat, v = .agg #[.int .i64 r.1.Ab, str r.1.Ac, .slice ar_0 r.1.Aa.length cr_0, .int .i64 r.1.Ad] ∧ (0 < r.1.Aa.length → Has ar_0) ∧ LR Ja.R K' sr_0 r.1.Aa ∧ (0 < r.2.list.length → Has ar_1) ∧ H' = [OwnA ar_0 117 4 cr_0 sr_0, Cells b0 163 [.slice ar_1 r.2.list.length cr_1, .int .i64 r.2.atZ, .int .i64 r.2.line], qas Je.enc ar_1 166 4 cr_1 r.2.list]) := by
 intro n
 induction n with
 | zero =>
   intro p b0 aa ab K r hm hX
   rw [J0.eq_1] at hm; cases hm
 | succ n ih =>
   intro p b0 aa ab K r hm hX
   obtain ⟨ae, hG⟩ := hX
   refine Fn.enter Tryz.func236 Tryz.call236 rfl fun F => ?_
   rw [J0.eq_2] at hm
   refine qai rfl fun b2 => ?_
   refine cb hm fun x5 q5 hm => cfx (Jco ih q5 :) ?_
   rintro _ K5 _ l5 ⟨bU, bY, bP, bW, ca, rfl, bZ, bT, bS, rfl⟩
   refine qai rfl fun b3 => ?_
   refine qaa r0 rfl ⟨rfl, rfl, (nl rfl), ?_⟩
   obtain ⟨s0, aX, hm⟩ := bnd hm
   refine lC (σ := (Ja × Jb) × Option Addr × Nat × List (List Value) × Option Addr × Nat) (rg 6 12) [4, 5] (fun _ => []) (fun _ => []) (fun (t0, aT, aU, aV, aS, aW) => [Cells b3 117 [.int .i64 t0.1.Ab, str t0.1.Ac, .slice aT t0.1.Aa.length aU, .int .i64 t0.1.Ad], OwnA aT 117 4 aU aV, Cells b0 163 [.slice aS t0.2.list.length aW, .int .i64 t0.2.atZ, .int .i64 t0.2.line], qas Je.enc aS 166 4 aW t0.2.list]) (fun zz K1 => match zz with | (t0, aT, aU, aV, aS, aW) => (0 < t0.1.Aa.length → Has aT) ∧ LR Ja.R K1 aV t0.1.Aa ∧ (0 < t0.2.list.length → Has aS)) (fun i0 (t0, aT, aU, aV, aS, aW) => Jav (J0 n) n i0 t0.1 t0.2 = some s0) (fun (t0, aT, aU, aV, aS, aW) => t0 = s0) (fun i0 => i0) n ((_, _), _, _, _, _, _) aX (And.intro qe (And.intro ?_ ?_))
   clear aX
   rintro i0 ⟨⟨ac, bO⟩, bn, bl, bp, bm, bo⟩ cm cB ⟨bt, a6, bh⟩ aX j0
   dsimp only at aX ⊢
   cases i0 with
   | zero => rw [Jav.eq_1] at aX; cases aX
   | succ i0 =>
    rw [Jav.eq_2] at aX
    refine qaj rfl ?_
    refine cb aX fun x7 q7 aX => cgx (Js q7 :) ?_
    obtain ⟨cw, a8, aX⟩ := bnd aX
    refine cS a8 (fun aZ a8 => ?_) fun aZ a8 => ?_
    refine ct aZ ?_
    refine cb a8 fun cA ce a8 => cgx (Jv ce :) ?_
    refine ct aZ (qac rfl ?_)
    refine qae ?_ ?_ <;> intro bv
    replace aX := ift ((si a8).symm.trans bv) aX
    refine qal rfl ?_
    refine cb aX fun co bQ aX => ckx (Jm bQ :) ?_
    rintro _ _ _ ⟨bN, bM, rfl, bJ, rfl⟩
    refine qa1 ⟨⟨[], false⟩, _, [(_, _)], []⟩ 3 rfl (by kernel_rfl) ⟨Hp.Le.refl _, (sc [2] rfl), ci0⟩ ?_
    refine qcc m0 rfl (nl rfl) ?_
    refine cb aX fun cC bR aX => cfx (Jco ih bR :) ?_
    rintro _ cn _ bV ⟨bG, bw, bA, bz, bI, rfl, bF, ba, bB, rfl⟩
    refine qk (sc [3] rfl) ?_
    refine qjd Tryz.call254 Ja.R_ok r4 (LR.mono Ja.R_ok bV a6) fun bg aY bf => ?_
    refine qjd Tryz.call254 Ja.R_ok r0 (LR.mono Ja.R_ok aY ba) fun bd bc bb => ?_
    refine cb aX fun cu bX aX => cfx (JaQ bX :) ?_
    rintro _ cz _ cr ⟨bC, bL, bD, rfl, bK, bH, rfl⟩
    refine ⟨⟨Hp.emp_le _, (pf rfl), ci0⟩, ?_⟩
    refine qaa r3 rfl ⟨rfl, rfl, (nl rfl), ?_⟩
    refine ⟨⟨Hp.emp_le _, (pf rfl), ci0⟩, ?_⟩
    exact eR aX (_, (_, _), _, _, _, _, _)
    replace aX := qba ((si a8).symm.trans bv) aX
    refine cT ?_
    exact eM aX (_, _, _, _, _, _)
    refine cf aZ (cf aZ (qac rfl (cF ?_)))
    replace aX := qba (si a8).symm aX
    refine cT ?_
    exact eM aX (_, _, _, _, _, _)
   rintro ⟨t0, aT, aU, aV, aS, aW⟩ cy cj ⟨bu, br, bj⟩ rfl j0
   refine ro (qab r0 rfl (nl rfl) ?_)
   refine qaa r4 rfl ⟨rfl, rfl, (nl rfl), ?_⟩
   exact ro (qab r0 rfl (nl rfl) (eE hm))

def Jw (n : Nat) (p : Jb) (sign : Str) : Option ((List Ja) × Jb) :=
  if decide (sign ≠ ([] : Str)) then
  (JF p sign).bind fun aT =>
  (Jt aT).bind fun al =>
  if (!al) then
  some ([], aT)
  else
  (J0 n aT).bind fun aS =>
  (Jt aS.2).bind fun aV =>
  if aV then
  (JF aS.2 ([59] : Str)).bind fun aU =>
  some ([aS.1], aU)
  else
  some ([aS.1], aS.2)
  else
  (Jt p).bind fun al =>
  if (!al) then
  some ([], p)
  else
  (J0 n p).bind fun aS =>
  (Jt aS.2).bind fun aV =>
  if aV then
  (JF aS.2 ([59] : Str)).bind fun aU =>
  some ([aS.1], aU)
  else
  some ([aS.1], aS.2)
theorem Ju {n : Nat} {p : Jb} {sign : Str} {b0 : Nat} {aa : Option Addr} {ab : Nat} {K : Hp} {r : (List Ja) × Jb}
    (hm : Jw n p sign = some r) (hX : (0 < p.list.length → Has aa) ∧ GG K) :
    Fn Tryz.prog 209 [.pointer (some ⟨b0, 0, none⟩), str sign] K [Cells b0 163 [.slice aa p.list.length ab, .int .i64 p.atZ, .int .i64 p.line], qas Je.enc aa 166 4 ab p.list] (fun v K' H' => ∃ ar_0 : Option Addr, ∃ cr_0 : Nat, ∃ sr_0 : List (List Value), ∃ ar_1 : Option Addr, ∃ cr_1 : Nat, v = .slice ar_0 r.1.length cr_0 ∧ (0 < r.1.length → Has ar_0) ∧ LR Ja.R K' sr_0 r.1 ∧ (0 < r.2.list.length → Has ar_1) ∧ H' = [OwnA ar_0 117 4 cr_0 sr_0, Cells b0 163 [.slice ar_1 r.2.list.length cr_1, .int .i64 r.2.atZ, .int .i64 r.2.line], qas Je.enc ar_1 166 4 cr_1 r.2.list]) := by
 obtain ⟨ae, hG⟩ := hX
 refine Fn.enter Tryz.func209 Tryz.call209 rfl fun F => ?_
 unfold Jw at hm
 refine qbn (cs rfl rfl hm ?_ ?_) <;> intro w7 hm
 refine cb hm fun bB bv hm => ckx (JD bv :) ?_
 rintro _ _ _ ⟨br, bo, rfl, bp, rfl⟩
 refine cb hm fun al bl hm => cgx (Js bl :) ?_
 refine qau ?_
 refine cs rfl rfl hm ?_ ?_ <;> intro bz hm
 refine qcj (fun _ : Ja => []) 117 4 ?_
 exact eE hm
 refine cb hm fun aS bj hm => cfx (Jbw bj :) ?_
 rintro _ bt _ bf ⟨aU, aT, bg, a6, a8, rfl, bh, aY, bb, rfl⟩
 refine qai rfl fun b5 => ?_
 refine qaa r0 rfl ⟨rfl, rfl, (nl rfl), ?_⟩
 refine cb hm fun bA bm hm => cgx (Js bm :) ?_
 refine cs rfl rfl hm ?_ ?_ <;> intro bw hm
 refine cb hm fun bu bn hm => ckx (JD bn :) ?_
 rintro _ _ _ ⟨aZ, bc, rfl, ba, rfl⟩
 refine ro (qab r2 rfl (nl rfl) ?_)
 refine qks Ja.R_ok r3 aY fun aX aW aV => ?_
 refine qje (R := Ja.R) (len := 1) (l := [aS.1]) (css := [[.int .i64 aS.1.Ab, str aS.1.Ac, .slice aU aS.1.Aa.length aT, .int .i64 aS.1.Ad]]) (cl := [.int .i64 aS.1.Ab, str aS.1.Ac, .slice aU aS.1.Aa.length aT, .int .i64 aS.1.Ad]) Ja.R_ok qbx rfl rfl (LR.snoc LR.nil (Ja.of (x := aS.1) ⟨aU, aT, rfl, aV⟩)) rfl rfl rfl ?_ fun bd => ?_
 · conv => whnf
   refine cT ?_
   first | done | rfl
 cases hm
 exact en (bf.trans aW) ⟨(some ⟨bd, 0, none⟩), 1, ([[.int .i64 aS.1.Ab, str aS.1.Ac, .slice aU aS.1.Aa.length aT, .int .i64 aS.1.Ad]]), aZ, bc, rfl, (fun _ => ⟨_, _, rfl⟩), (show LR Ja.R _ [[.int .i64 aS.1.Ab, str aS.1.Ac, .slice aU aS.1.Aa.length aT, .int .i64 aS.1.Ad]] [aS.1] from (LR.snoc LR.nil (Ja.of (x := aS.1) ⟨aU, aT, rfl, aV⟩))), ba, rfl⟩ (sc [0,0,0,1] rfl)
 refine ro (qab r2 rfl (nl rfl) ?_)
 refine qks Ja.R_ok r3 aY fun aX aW aV => ?_
 refine qje (R := Ja.R) (len := 1) (l := [aS.1]) (css := [[.int .i64 aS.1.Ab, str aS.1.Ac, .slice aU aS.1.Aa.length aT, .int .i64 aS.1.Ad]]) (cl := [.int .i64 aS.1.Ab, str aS.1.Ac, .slice aU aS.1.Aa.length aT, .int .i64 aS.1.Ad]) Ja.R_ok qbx rfl rfl (LR.snoc LR.nil (Ja.of (x := aS.1) ⟨aU, aT, rfl, aV⟩)) rfl rfl rfl ?_ fun bd => ?_
 · conv => whnf
   refine cT ?_
   first | done | rfl
 cases hm
 exact en (bf.trans aW) ⟨(some ⟨bd, 0, none⟩), 1, ([[.int .i64 aS.1.Ab, str aS.1.Ac, .slice aU aS.1.Aa.length aT, .int .i64 aS.1.Ad]]), a6, a8, rfl, (fun _ => ⟨_, _, rfl⟩), (show LR Ja.R _ [[.int .i64 aS.1.Ab, str aS.1.Ac, .slice aU aS.1.Aa.length aT, .int .i64 aS.1.Ad]] [aS.1] from (LR.snoc LR.nil (Ja.of (x := aS.1) ⟨aU, aT, rfl, aV⟩))), bb, rfl⟩ (sc [0,0,0,1] rfl)
 refine cb hm fun al bl hm => cgx (Js bl :) ?_
 refine qau ?_
 refine cs rfl rfl hm ?_ ?_ <;> intro bz hm
 refine qcj (fun _ : Ja => []) 117 4 ?_
 exact eE hm
 refine cb hm fun aS bj hm => cfx (Jbw bj :) ?_
 rintro _ bt _ bf ⟨aU, aT, bg, a6, a8, rfl, bh, aY, bb, rfl⟩
 refine qai rfl fun b5 => ?_
 refine qaa r0 rfl ⟨rfl, rfl, (nl rfl), ?_⟩
 refine cb hm fun bA bm hm => cgx (Js bm :) ?_
 refine cs rfl rfl hm ?_ ?_ <;> intro bw hm
 refine cb hm fun bu bn hm => ckx (JD bn :) ?_
 rintro _ _ _ ⟨aZ, bc, rfl, ba, rfl⟩
 refine ro (qab r2 rfl (nl rfl) ?_)
 refine qks Ja.R_ok r3 aY fun aX aW aV => ?_
 refine qje (R := Ja.R) (len := 1) (l := [aS.1]) (css := [[.int .i64 aS.1.Ab, str aS.1.Ac, .slice aU aS.1.Aa.length aT, .int .i64 aS.1.Ad]]) (cl := [.int .i64 aS.1.Ab, str aS.1.Ac, .slice aU aS.1.Aa.length aT, .int .i64 aS.1.Ad]) Ja.R_ok qbx rfl rfl (LR.snoc LR.nil (Ja.of (x := aS.1) ⟨aU, aT, rfl, aV⟩)) rfl rfl rfl ?_ fun bd => ?_
 · conv => whnf
   refine cT ?_
   first | done | rfl
 cases hm
 exact en (bf.trans aW) ⟨(some ⟨bd, 0, none⟩), 1, ([[.int .i64 aS.1.Ab, str aS.1.Ac, .slice aU aS.1.Aa.length aT, .int .i64 aS.1.Ad]]), aZ, bc, rfl, (fun _ => ⟨_, _, rfl⟩), (show LR Ja.R _ [[.int .i64 aS.1.Ab, str aS.1.Ac, .slice aU aS.1.Aa.length aT, .int .i64 aS.1.Ad]] [aS.1] from (LR.snoc LR.nil (Ja.of (x := aS.1) ⟨aU, aT, rfl, aV⟩))), ba, rfl⟩ (sc [0,0,0,1] rfl)
 refine ro (qab r2 rfl (nl rfl) ?_)
 refine qks Ja.R_ok r3 aY fun aX aW aV => ?_
 refine qje (R := Ja.R) (len := 1) (l := [aS.1]) (css := [[.int .i64 aS.1.Ab, str aS.1.Ac, .slice aU aS.1.Aa.length aT, .int .i64 aS.1.Ad]]) (cl := [.int .i64 aS.1.Ab, str aS.1.Ac, .slice aU aS.1.Aa.length aT, .int .i64 aS.1.Ad]) Ja.R_ok qbx rfl rfl (LR.snoc LR.nil (Ja.of (x := aS.1) ⟨aU, aT, rfl, aV⟩)) rfl rfl rfl ?_ fun bd => ?_
 · conv => whnf
   refine cT ?_
   first | done | rfl
 cases hm
 exact en (bf.trans aW) ⟨(some ⟨bd, 0, none⟩), 1, ([[.int .i64 aS.1.Ab, str aS.1.Ac, .slice aU aS.1.Aa.length aT, .int .i64 aS.1.Ad]]), a6, a8, rfl, (fun _ => ⟨_, _, rfl⟩), (show LR Ja.R _ [[.int .i64 aS.1.Ab, str aS.1.Ac, .slice aU aS.1.Aa.length aT, .int .i64 aS.1.Ad]] [aS.1] from (LR.snoc LR.nil (Ja.of (x := aS.1) ⟨aU, aT, rfl, aV⟩))), bb, rfl⟩ (sc [0,0,0,1] rfl)
