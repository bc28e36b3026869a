/- Functions of the program: mirrors, and that a call returns what the mirror says. Printed by gen.py. -/
import Derived.Test.YtiaaooopklhobaaGreatDoorShelf
import Derived.Test.YtiaaooopklhobaaGreatDoorLT
import Derived.KernelRfl
import Derived.Test.YtiaaooopklhobaaGreatDoorProg
set_option linter.unusedVariables false
set_option linter.unusedSimpArgs false
open Go Go.SL Go.Proofs
noncomputable section
set_option maxRecDepth 1000000
set_option maxHeartbeats 8000000
def Jar : List Str := [[109, 101, 116, 104, 111, 100], [104, 111, 115, 116], [112, 97, 116, 104], [113, 117, 101, 114, 121]]
def JaV : List Str := [[104, 101, 97, 100, 101, 114], [104, 97, 115], [97, 114, 103], [108, 101, 110], [108, 111, 119, 101, 114], [112, 97, 114, 116], [116, 101, 120, 116], [110, 117, 109, 98, 101, 114]]
def JaW : List Str := [[43], [45], [42], [61, 61], [33, 61], [60], [60, 61], [115, 116, 97, 114, 116, 115], [101, 110, 100, 115], [99, 111, 110, 116, 97, 105, 110, 115]]
def gkw0 : List Str := [[105, 102], [101, 108, 115, 101], [108, 101, 116], [118, 97, 114, 121], [116, 97, 103], [116, 116, 108], [100, 101, 110, 121], [112, 97, 115, 115], [116, 111, 107, 101, 110], [111, 114], [97, 110, 100], [110, 111, 116], [115, 116, 97, 114, 116, 115], [101, 110, 100, 115], [99, 111, 110, 116, 97, 105, 110, 115], [116, 114, 117, 101], [102, 97, 108, 115, 101]]
structure Jl where
  An : Str
  Ae : Str
  Af : Str
  HasQuery : Bool
abbrev Jl.enc (x : Jl) : List Go.Value := [str x.An, str x.Ae, str x.Af, .bool x.HasQuery]
structure Jc where
  Name : Str
  Value : Str
abbrev Jc.enc (x : Jc) : List Go.Value := [str x.Name, str x.Value]
structure Jx where
  Tenant : Int
  TTL : Int
  Ai : Int
  Asked : Jl
  Cache : Jl
  Ao : (List Jc)
  Vary : (List Str)
  Ah : (List Str)
  Ak : Bool
  Al : Bool
def Jx.R : Rp Jx := fun K cs x => ∃ a_0 : Option Addr, ∃ c_0 : Nat, ∃ a_1 : Option Addr, ∃ c_1 : Nat, ∃ a_2 : Option Addr, ∃ c_2 : Nat, cs = [.int .i64 x.Tenant, .int .i64 x.TTL, .int .i64 x.Ai, str x.Asked.An, str x.Asked.Ae, str x.Asked.Af, .bool x.Asked.HasQuery, str x.Cache.An, str x.Cache.Ae, str x.Cache.Af, .bool x.Cache.HasQuery, .slice a_0 x.Ao.length c_0, .slice a_1 x.Vary.length c_1, .slice a_2 x.Ah.length c_2, .bool x.Ak, .bool x.Al] ∧ RdC Jc.enc K a_0 c_0 2 x.Ao ∧ RdC eS K a_1 c_1 1 x.Vary ∧ RdC eS K a_2 c_2 1 x.Ah
theorem Jx.R_ok : qft 16 Jx.R :=
  ⟨fun hk ⟨a_0, c_0, a_1, c_1, a_2, c_2, e, h_0, h_1, h_2⟩ => ⟨a_0, c_0, a_1, c_1, a_2, c_2, e, (h_0.mono hk), (h_1.mono hk), (h_2.mono hk)⟩, fun ⟨a_0, c_0, a_1, c_1, a_2, c_2, e, h_0, h_1, h_2⟩ => by simp [e], fun ⟨a_0, c_0, a_1, c_1, a_2, c_2, e, h_0, h_1, h_2⟩ v hv => by rw [e] at hv; simp at hv; rcases hv with rfl | rfl | rfl | rfl | rfl | rfl | rfl | rfl | rfl | rfl | rfl | rfl | rfl | rfl | rfl | rfl <;> rfl⟩
instance : RpI 16 Jx.R := ⟨Jx.R_ok⟩
structure Jas where
  An : Str
  Tenant : Int
  Program : Str
abbrev Jas.enc (x : Jas) : List Go.Value := [str x.An, .int .i64 x.Tenant, str x.Program]
structure Jf where
  Op : Int
  N : Int
  S : Str
abbrev Jf.enc (x : Jf) : List Go.Value := [.int .i64 x.Op, .int .i64 x.N, str x.S]
structure Jy where
  tenant : Int
  code : (List Jf)
def Jy.R : Rp Jy := fun K cs x => ∃ a_0 : Option Addr, ∃ c_0 : Nat, cs = [.int .i64 x.tenant, .slice a_0 x.code.length c_0] ∧ RdC Jf.enc K a_0 c_0 3 x.code
theorem Jy.R_ok : qft 2 Jy.R :=
  ⟨fun hk ⟨a_0, c_0, e, h_0⟩ => ⟨a_0, c_0, e, (h_0.mono hk)⟩, fun ⟨a_0, c_0, e, h_0⟩ => by simp [e], fun ⟨a_0, c_0, e, h_0⟩ v hv => by rw [e] at hv; simp at hv; rcases hv with rfl | rfl <;> rfl⟩
instance : RpI 2 Jy.R := ⟨Jy.R_ok⟩
structure JG where
  sites : (List (Str × Jy))
structure Ja where
  Ab : Int
  Ac : Str
  Aa : (List Ja)
  Ad : Int
inductive Ja.R (K : Hp) : List Value → Ja → Prop
  | mk {cs : List Value} {x : Ja} (a_0 : Option Addr) (c_0 : Nat) (e : cs = [.int .i64 x.Ab, str x.Ac, .slice a_0 x.Aa.length c_0, .int .i64 x.Ad]) (css0 : List (List Value)) (p0 : RdS K a_0 4 css0) (q0 : css0.length = x.Aa.length) (r0 : x.Aa.length ≤ c_0) (z0 : ∀ (i : Nat) (c : List Value) (y : Ja), css0[i]? = some c → x.Aa[i]? = some y → Ja.R K c y) : Ja.R K cs x
theorem Ja.out {K : Hp} {cs : List Value} {x : Ja} (h : Ja.R K cs x) : ∃ a_0 : Option Addr, ∃ c_0 : Nat, cs = [.int .i64 x.Ab, str x.Ac, .slice a_0 x.Aa.length c_0, .int .i64 x.Ad] ∧ LiC Ja.R K a_0 c_0 4 x.Aa := by
  cases h with
  | mk a_0 c_0 e css0 p0 q0 r0 z0 => exact ⟨a_0, c_0, e, ⟨⟨css0, p0, q0, z0⟩, r0⟩⟩
theorem Ja.of {K : Hp} {cs : List Value} {x : Ja} (h : ∃ a_0 : Option Addr, ∃ c_0 : Nat, cs = [.int .i64 x.Ab, str x.Ac, .slice a_0 x.Aa.length c_0, .int .i64 x.Ad] ∧ LiC Ja.R K a_0 c_0 4 x.Aa) : Ja.R K cs x := by
  obtain ⟨a_0, c_0, e, ⟨⟨aS, p0, q0, z0⟩, r0⟩⟩ := h
  exact .mk a_0 c_0 e aS p0 q0 r0 z0
theorem Ja.R_mono {K K' : Hp} (hk : K.Le K') {cs : List Value} {x : Ja} (h : Ja.R K cs x) : Ja.R K' cs x := by
  induction h with
  | mk a_0 c_0 e css0 p0 q0 r0 z0 ih0 => exact .mk a_0 c_0 e css0 (p0.mono hk) q0 r0 (ih0)
theorem Ja.R_ok : qft 4 Ja.R := by
  refine ⟨fun hk h => Ja.R_mono hk h, fun h => ?_, fun h v hv => ?_⟩
  · obtain ⟨a_0, c_0, e, aS⟩ := Ja.out h; simp [e]
  · obtain ⟨a_0, c_0, e, aS⟩ := Ja.out h; rw [e] at hv; simp at hv; rcases hv with rfl | rfl | rfl | rfl <;> rfl
instance : RpI 4 Ja.R := ⟨Ja.R_ok⟩
structure Je where
  Ab : Int
  Ac : Str
  Ad : Int
  Column : Int
abbrev Je.enc (x : Je) : List Go.Value := [.int .i64 x.Ab, str x.Ac, .int .i64 x.Ad, .int .i64 x.Column]
structure Jb where
  list : (List Je)
  atZ : Int
  line : Int
def Jb.R : Rp Jb := fun K cs x => ∃ a_0 : Option Addr, ∃ c_0 : Nat, cs = [.slice a_0 x.list.length c_0, .int .i64 x.atZ, .int .i64 x.line] ∧ RdC Je.enc K a_0 c_0 4 x.list
theorem Jb.R_ok : qft 3 Jb.R :=
  ⟨fun hk ⟨a_0, c_0, e, h_0⟩ => ⟨a_0, c_0, e, (h_0.mono hk)⟩, fun ⟨a_0, c_0, e, h_0⟩ => by simp [e], fun ⟨a_0, c_0, e, h_0⟩ v hv => by rw [e] at hv; simp at hv; rcases hv with rfl | rfl | rfl <;> rfl⟩
instance : RpI 3 Jb.R := ⟨Jb.R_ok⟩
structure Jn where
  line : Int
  err : Err
abbrev Jn.enc (x : Jn) : List Go.Value := [.int .i64 x.line, qcy 48 x.err]
structure Jk where
  Name : Str
  Ar : Int
abbrev Jk.enc (x : Jk) : List Go.Value := [str x.Name, .int .i64 x.Ar]
structure Jr where
  name : Str
  slot : Int
abbrev Jr.enc (x : Jr) : List Go.Value := [str x.name, .int .i64 x.slot]
structure Jd where
  code : (List Jf)
  names : (List Jr)
  Ap : Int
def Jd.R : Rp Jd := fun K cs x => ∃ a_0 : Option Addr, ∃ c_0 : Nat, ∃ a_1 : Option Addr, ∃ c_1 : Nat, cs = [.slice a_0 x.code.length c_0, .slice a_1 x.names.length c_1, .int .i64 x.Ap] ∧ RdC Jf.enc K a_0 c_0 3 x.code ∧ RdC Jr.enc K a_1 c_1 2 x.names
theorem Jd.R_ok : qft 3 Jd.R :=
  ⟨fun hk ⟨a_0, c_0, a_1, c_1, e, h_0, h_1⟩ => ⟨a_0, c_0, a_1, c_1, e, (h_0.mono hk), (h_1.mono hk)⟩, fun ⟨a_0, c_0, a_1, c_1, e, h_0, h_1⟩ => by simp [e], fun ⟨a_0, c_0, a_1, c_1, e, h_0, h_1⟩ v hv => by rw [e] at hv; simp at hv; rcases hv with rfl | rfl | rfl <;> rfl⟩
instance : RpI 3 Jd.R := ⟨Jd.R_ok⟩
structure Jaq where
  Am : Str
  Target : Str
  Ao : (List Jc)
def Jaq.R : Rp Jaq := fun K cs x => ∃ a_0 : Option Addr, ∃ c_0 : Nat, cs = [str x.Am, str x.Target, .slice a_0 x.Ao.length c_0] ∧ RdC Jc.enc K a_0 c_0 2 x.Ao
theorem Jaq.R_ok : qft 3 Jaq.R :=
  ⟨fun hk ⟨a_0, c_0, e, h_0⟩ => ⟨a_0, c_0, e, (h_0.mono hk)⟩, fun ⟨a_0, c_0, e, h_0⟩ => by simp [e], fun ⟨a_0, c_0, e, h_0⟩ v hv => by rw [e] at hv; simp at hv; rcases hv with rfl | rfl | rfl <;> rfl⟩
instance : RpI 3 Jaq.R := ⟨Jaq.R_ok⟩
structure JU where
  Am : Str
  An : Str
  Ae : Str
  Af : Str
  Ao : (List Jc)
def JU.R : Rp JU := fun K cs x => ∃ a_0 : Option Addr, ∃ c_0 : Nat, cs = [str x.Am, str x.An, str x.Ae, str x.Af, .slice a_0 x.Ao.length c_0] ∧ RdC Jc.enc K a_0 c_0 2 x.Ao
theorem JU.R_ok : qft 5 JU.R :=
  ⟨fun hk ⟨a_0, c_0, e, h_0⟩ => ⟨a_0, c_0, e, (h_0.mono hk)⟩, fun ⟨a_0, c_0, e, h_0⟩ => by simp [e], fun ⟨a_0, c_0, e, h_0⟩ v hv => by rw [e] at hv; simp at hv; rcases hv with rfl | rfl | rfl | rfl | rfl <;> rfl⟩
instance : RpI 5 JU.R := ⟨JU.R_ok⟩
structure Jq where
  Ae : Str
  Af : Str
  Ag : (List Jc)
  Vary : (List Str)
  Ah : (List Str)
  TTL : Int
  Ai : Int
  Aj : Int
  Ak : Bool
  Al : Bool
def Jq.R : Rp Jq := fun K cs x => ∃ a_0 : Option Addr, ∃ c_0 : Nat, ∃ a_1 : Option Addr, ∃ c_1 : Nat, ∃ a_2 : Option Addr, ∃ c_2 : Nat, cs = [str x.Ae, str x.Af, .slice a_0 x.Ag.length c_0, .slice a_1 x.Vary.length c_1, .slice a_2 x.Ah.length c_2, .int .i64 x.TTL, .int .i64 x.Ai, .int .i64 x.Aj, .bool x.Ak, .bool x.Al] ∧ RdC Jc.enc K a_0 c_0 2 x.Ag ∧ RdC eS K a_1 c_1 1 x.Vary ∧ RdC eS K a_2 c_2 1 x.Ah
theorem Jq.R_ok : qft 10 Jq.R :=
  ⟨fun hk ⟨a_0, c_0, a_1, c_1, a_2, c_2, e, h_0, h_1, h_2⟩ => ⟨a_0, c_0, a_1, c_1, a_2, c_2, e, (h_0.mono hk), (h_1.mono hk), (h_2.mono hk)⟩, fun ⟨a_0, c_0, a_1, c_1, a_2, c_2, e, h_0, h_1, h_2⟩ => by simp [e], fun ⟨a_0, c_0, a_1, c_1, a_2, c_2, e, h_0, h_1, h_2⟩ v hv => by rw [e] at hv; simp at hv; rcases hv with rfl | rfl | rfl | rfl | rfl | rfl | rfl | rfl | rfl | rfl <;> rfl⟩
instance : RpI 10 Jq.R := ⟨Jq.R_ok⟩
structure JaF where
  f0 : Int
  f1 : Int
  f2 : Int
  f3 : Int
  f4 : Int
  f5 : Int
  f6 : Int
  f7 : Int
abbrev JaF.enc (x : JaF) : List Go.Value := [.int .u64 x.f0, .int .u64 x.f1, .int .u64 x.f2, .int .u64 x.f3, .int .u64 x.f4, .int .u64 x.f5, .int .u64 x.f6, .int .u64 x.f7]
structure Jo where
  Au : Bool
  depth : Int
  At : JaF
abbrev Jo.enc (x : Jo) : List Go.Value := [.bool x.Au, .int .i64 x.depth, .int .u64 x.At.f0, .int .u64 x.At.f1, .int .u64 x.At.f2, .int .u64 x.At.f3, .int .u64 x.At.f4, .int .u64 x.At.f5, .int .u64 x.At.f6, .int .u64 x.At.f7]
structure Ji where
  kind : Int
  n : Int
  s : Str
  As : Bool
abbrev Ji.enc (x : Ji) : List Go.Value := [.int .i64 x.kind, .int .i64 x.n, str x.s, .bool x.As]
structure Jh where
  Aq : JU
  most : Int
  result : Jq
  stack : (List Ji)
  Ap : (List Ji)
theorem qrf : ElT Tryz.prog 31 30 3 := ElT.mk' rfl rfl rfl rfl rfl
theorem qbe : ElT Tryz.prog 52 5 1 := ElT.mk' rfl rfl rfl rfl rfl
theorem qbr : ElT Tryz.prog 23 9 1 := ElT.mk' rfl rfl rfl rfl rfl
theorem qj8 : ElT Tryz.prog 158 166 4 := ElT.mk' rfl rfl rfl rfl rfl
theorem qbz : ElT Tryz.prog 115 117 4 := ElT.mk' rfl rfl rfl rfl rfl
theorem qj9 : ElT Tryz.prog 284 3 1 := ElT.mk' rfl rfl rfl rfl rfl
theorem qka : ElT Tryz.prog 259 288 2 := ElT.mk' rfl rfl rfl rfl rfl
theorem qp8 : ElT Tryz.prog 80 135 3 := ElT.mk' rfl rfl rfl rfl rfl
theorem qkb : ElT Tryz.prog 207 290 2 := ElT.mk' rfl rfl rfl rfl rfl
theorem qf2 : ElT Tryz.prog 35 41 2 := ElT.mk' rfl rfl rfl rfl rfl
theorem qp9 : ElT Tryz.prog 225 228 10 := ElT.mk' rfl rfl rfl rfl rfl
theorem qn6 : ElT Tryz.prog 126 128 4 := ElT.mk' rfl rfl rfl rfl rfl
def GG (K : Hp) : Prop := (GlN 0 K) ∧ (GlL eS 1 1 Jar K) ∧ (GlL eS 1 2 JaV K) ∧ (GlL eS 1 3 JaW K) ∧ (GlA 4 (Go.Lib.pow10Tab.map fun z => Value.int .u64 z) K) ∧ (GlL eS 1 5 gkw0 K)
theorem GG.of {K : Hp} (h : (GlN 0 K) ∧ (GlL eS 1 1 Jar K) ∧ (GlL eS 1 2 JaV K) ∧ (GlL eS 1 3 JaW K) ∧ (GlA 4 (Go.Lib.pow10Tab.map fun z => Value.int .u64 z) K) ∧ (GlL eS 1 5 gkw0 K)) : GG K := h
theorem GG.mono {K K' : Hp} (h : GG K) (hk : K.Le K') : GG K' := ⟨h.1.mono hk, h.2.1.mono hk, h.2.2.1.mono hk, h.2.2.2.1.mono hk, h.2.2.2.2.1.mono hk, h.2.2.2.2.2.mono hk⟩
theorem gg0 {K : Hp} (h : GG K) : GlN 0 K := h.1
theorem gg1 {K : Hp} (h : GG K) : GlL eS 1 1 Jar K := h.2.1
theorem gg2 {K : Hp} (h : GG K) : GlL eS 1 2 JaV K := h.2.2.1
theorem gg3 {K : Hp} (h : GG K) : GlL eS 1 3 JaW K := h.2.2.2.1
theorem gg4 {K : Hp} (h : GG K) : GlA 4 (Go.Lib.pow10Tab.map fun z => Value.int .u64 z) K := h.2.2.2.2.1
theorem gg5 {K : Hp} (h : GG K) : GlL eS 1 5 gkw0 K := h.2.2.2.2.2
def Jba : List Jc → Nat → Int → Option (Int)
  | [], _, ac => some ac
  | e0 :: aS, i0, ac =>
    (chk (InI ((e0.Name.length : Int) + (e0.Value.length : Int)))).bind fun _ =>
    (chk (InI (((e0.Name.length : Int) + (e0.Value.length : Int)) + 4))).bind fun _ =>
    (chk (InI (ac + (((e0.Name.length : Int) + (e0.Value.length : Int)) + 4)))).bind fun _ =>
    Jba aS (i0 + 1) (ac + (((e0.Name.length : Int) + (e0.Value.length : Int)) + 4))
def Jdi (f : (List Jc)) : Option (Int) :=
  (chk (f.length ≤ qbg)).bind fun _ =>
  (Jba f 0 0).bind fun t0 =>
  some t0
theorem Jeq {f : (List Jc)} {aa : Option Addr} {ab : Nat} {n0 : Nat} {K : Hp} {r : Int}
    (hm : Jdi f = some r) (hX : RdC Jc.enc K aa ab 2 f ∧ n0 = f.length) :
    Fn Tryz.prog 29 [.slice aa n0 ab] K [] (fun v K' H' => v = .int .i64 r ∧ H' = []) := by
 obtain ⟨ae, aV⟩ := hX
 subst aV
 refine Fn.enter Tryz.func29 Tryz.call29 rfl fun F => ?_
 unfold Jdi at hm
 refine ro (qak rfl ?_)
 obtain ⟨aW, hm⟩ := qax hm
 obtain ⟨s0, aS, hm⟩ := bnd hm
 refine lD (σ := (Int)) ([3,5] ++ rg 8 15) [0] (fun i0 => [(8, .int .i64 (i0 : Int))]) (fun t0 => [(3, .int .i64 t0)]) (fun _ => []) (fun _ => True) (fun i0 t0 => Jba (f.drop i0) i0 t0 = some s0) (fun t0 => t0 = s0) (fun i0 => f.length - i0) 0 _ aS (And.intro qe (And.intro ?_ ?_))
 clear aS
 rintro i0 ac _ aS j0
 conv at aS => whnf
 refine qac rfl ?_
 refine qae ?_ ?_ <;> intro w0
 obtain ⟨e0, aT, aX⟩ := ltx w0
 rw [aX, Jba.eq_2] at aS
 refine qal rfl ?_
 refine RStep.ofN (qad rfl rfl (qfy ae.rd aT) (nn _) (qbm aT) (ro (qan i0 _ ae.rd rfl (mp aT) rfl ?_)))
 refine qai rfl fun b5 => ?_
 refine qaa r0 rfl ⟨rfl, rfl, (nl rfl), ?_⟩
 refine fa rfl (ro (ld r0 rfl rfl (ro (qa0 rfl (fa rfl (ro (ld r0 rfl rfl (ro (qa0 rfl ?_)))))))))
 refine ci aS fun aS => ?_
 refine ci aS fun aS => ?_
 obtain ⟨aU, aS⟩ := qax aS
 refine qam aU (qam (qbj aT aW) ?_)
 exact eR aS (_, _)
 rw [lty w0, Jba.eq_1] at aS
 refine cT ?_
 exact eM aS _
 rintro t0 _ rfl j0
 exact eE hm

def Jbb (c : UInt8) : Option (Bool) :=
  if (decide ((c.toNat : Int) ≥ 48) && decide ((c.toNat : Int) ≤ 57)) then
  some true
  else
  if (decide ((c.toNat : Int) ≥ 97) && decide ((c.toNat : Int) ≤ 122)) then
  some true
  else
  some (decide ((c.toNat : Int) ≥ 65) && decide ((c.toNat : Int) ≤ 90))
theorem Jdt {c : UInt8} {K : Hp} {r : Bool}
    (hm : Jbb c = some r)  :
    Fn Tryz.prog 77 [.int .u8 (c.toNat : Int)] K [] (fun v K' H' => v = .bool r ∧ H' = []) := by
 refine Fn.enter Tryz.func77 Tryz.call77 rfl fun F => ?_
 unfold Jbb at hm
 refine qah rfl ?_
 refine qae ?_ ?_ <;> intro aW
 refine ct aW (ct aW ?_)
 refine qae ?_ ?_ <;> intro aV
 replace hm := ift (qct aW aV) hm
 refine ct aV (ct aV (ct aV (ct aV (cT (cT (cT (cT ?_)))))))
 refine cT ?_
 exact eE hm
 replace hm := qa7 (qcu aW aV) hm
 refine cf aV (cf aV ?_)
 refine qae ?_ ?_ <;> intro aU
 refine ct aU (cf aV (ct aU (cf aV ?_)))
 refine qae ?_ ?_ <;> intro aT
 replace hm := ift (qct aU aT) hm
 refine ct aT (ct aT (ct aT (ct aT ?_)))
 exact eE hm
 replace hm := qa7 (qcu aU aT) hm
 refine cf aT (cf aT ?_)
 refine qae ?_ ?_ <;> intro aS
 refine ct aS (cf aT (ct aS (cf aT ?_)))
 exact bE (qcr (b := decide ((c.toNat : Int) ≤ 90)) aS) (eE hm)
 refine cf aS (cf aT (cf aS (cf aT ?_)))
 exact bE (((qa9 aS)).symm) (eE hm)
 refine cf aU (cf aV (cf aU (cf aV ?_)))
 replace hm := qa7 (qa9 aU) hm
 refine cF (cF (cF ?_))
 refine qae ?_ ?_ <;> intro aS
 refine ct aS (cF (ct aS (cF ?_)))
 exact bE (qcr (b := decide ((c.toNat : Int) ≤ 90)) aS) (eE hm)
 refine cf aS (cF (cf aS (cF ?_)))
 exact bE (((qa9 aS)).symm) (eE hm)
 refine cf aW (cf aW ?_)
 replace hm := qa7 (qa9 aW) hm
 refine cF (cF (cF ?_))
 refine qae ?_ ?_ <;> intro aU
 refine ct aU (cF (ct aU (cF ?_)))
 refine qae ?_ ?_ <;> intro aT
 replace hm := ift (qct aU aT) hm
 refine ct aT (ct aT (ct aT (ct aT ?_)))
 exact eE hm
 replace hm := qa7 (qcu aU aT) hm
 refine cf aT (cf aT ?_)
 refine qae ?_ ?_ <;> intro aS
 refine ct aS (cf aT (ct aS (cf aT ?_)))
 exact bE (qcr (b := decide ((c.toNat : Int) ≤ 90)) aS) (eE hm)
 refine cf aS (cf aT (cf aS (cf aT ?_)))
 exact bE (((qa9 aS)).symm) (eE hm)
 refine cf aU (cF (cf aU (cF ?_)))
 replace hm := qa7 (qa9 aU) hm
 refine cF (cF (cF ?_))
 refine qae ?_ ?_ <;> intro aS
 refine ct aS (cF (ct aS (cF ?_)))
 exact bE (qcr (b := decide ((c.toNat : Int) ≤ 90)) aS) (eE hm)
 refine cf aS (cF (cf aS (cF ?_)))
 exact bE (((qa9 aS)).symm) (eE hm)

def Ja1 : List UInt8 → Nat → Option (Fl (Str × Err) (Unit))
  | [], _ => some (Fl.go ())
  | e2 :: aU, i2 =>
    (Jbb e2).bind fun aS =>
    (if (!aS) then some (decide ((e2.toNat : Int) ≠ 45)) else some false).bind fun aT =>
    if aT then
    some (Fl.ret (([] : Str), (some 8)))
    else
    Ja1 aU (i2 + 1)
def Ja2 : List Str → Nat → Option (Fl (Str × Err) (Unit))
  | [], _ => some (Fl.go ())
  | e0 :: aU, i0 =>
    (((if (decide ((e0.length : Int) < 1) || decide ((e0.length : Int) > 63)) then some true else (ix e0 0).bind fun aV =>
    some (decide ((aV.toNat : Int) = 45))).bind fun aW =>
    (if aW then some true else (chk (InI ((e0.length : Int) - 1))).bind fun _ =>
    (ix e0 ((e0.length : Int) - 1)).bind fun aT =>
    some (decide ((aT.toNat : Int) = 45))).bind fun aX =>
    some aX) : Option (Bool)).bind fun aS =>
    if aS then
    some (Fl.ret (([] : Str), (some 8)))
    else
    (chk (e0.length ≤ qbg)).bind fun _ =>
    (Ja1 e0 0).bind fun s2 => s2.el (fun r => some (Fl.ret r)) fun t2 =>
    Ja2 aU (i0 + 1)
def JaM : Nat → Nat → Str → Option (Str)
  | 0, _, aS => some aS
  | aU + 1, i4, aS =>
    (ix aS (i4 : Int)).bind fun aT =>
    if (decide ((aT.toNat : Int) ≥ 65) && decide ((aT.toNat : Int) ≤ 90)) then
    (ix aS (i4 : Int)).bind fun aV =>
    JaM aU (i4 + 1) (aS.set (((i4 : Int)).toNat) (aT + (32 : UInt8)))
    else
    JaM aU (i4 + 1) aS
def JbV (s : Str) : Option (Str × Err) :=
  if decide ((s.length : Int) > 100) then
  some (([] : Str), (some 8))
  else
  (qe6 s ([46] : Str)).bind fun aS =>
  (chk (aS.length ≤ qbg)).bind fun _ =>
  (Ja2 aS 0).bind fun s0 => s0.el some fun t0 =>
  (chk (s.length ≤ lim)).bind fun _ =>
  (chk (InI (s.length : Int))).bind fun _ =>
  (JaM (s.length : Int).toNat 0 s).bind fun t4 =>
  some (t4, none)
theorem JdB {s : Str} {K : Hp} {r : Str × Err}
    (hm : JbV s = some r) (hG : GG K) :
    Fn Tryz.prog 44 [str s] K [] (fun v K' H' => v = .tuple #[str r.1, qcy 48 r.2] ∧ H' = []) := by
 refine Fn.enter Tryz.func44 Tryz.call44 rfl fun F => ?_
 unfold JbV at hm
 refine ro (qa0 rfl ?_)
 refine cs rfl rfl hm ?_ ?_ <;> intro ce hm
 refine qas rfl ?_
 exact eE hm
 refine cb hm fun bI bT hm => ck0 (qf1 bT (gg0 hG)) ?_
 rintro _ _ _ ⟨bF, bw, rfl, bj, rfl⟩
 refine ro (qak rfl ?_)
 obtain ⟨bX, hm⟩ := qax hm
 obtain ⟨s0, aY, hm⟩ := bnd hm
 refine lD (σ := (Unit)) ([2,3,5,6,7] ++ rg 18 43) [0, 1] (fun i0 => [(18, .int .i64 (i0 : Int))]) (fun _ => []) (fun _ => []) (fun _ => True) (fun i0 _ => Ja2 (bI.drop i0) i0 = some s0) (fun t0 => s0 = Fl.go t0) (fun i0 => bI.length - i0) 0 () aY (And.intro qe (And.intro ?_ ?_))
 clear aY
 rintro i0 _ _ aY j0
 conv at aY => whnf
 refine qac rfl ?_
 refine qae ?_ ?_ <;> intro w0
 obtain ⟨e0, bn, bS⟩ := ltx w0
 rw [bS, Ja2.eq_2] at aY
 refine qal rfl ?_
 refine RStep.ofN (qad rfl rfl (qcm bj bn) (nn _) (qef rfl bn) (ro (qby (i := i0) (o := 0) r0 rfl bn rfl rfl (ro (qa0 rfl ?_)))))
 obtain ⟨bv, aS, aY⟩ := bnd aY
 refine jR (σ := Bool) (rg 24 18) (fun bg => [(41, .bool bg)]) (fun bg => bg = bv) ?_ ?_
 refine qah rfl ?_
 refine qae ?_ ?_ <;> intro aX
 refine ct aX (ct aX ?_)
 obtain ⟨bL, bc, aS⟩ := bnd aS
 replace bc := ift (qcj aX) bc
 refine cT (cT (cT (cT ?_)))
 obtain ⟨bG, bb, aS⟩ := bnd aS
 replace bb := ift (si bc).symm bb
 refine cT (cT (cT (cT (cT (cT ?_)))))
 exact eMq aS _ ⟨bq (si bb), trivial⟩
 refine cf aX (cf aX ?_)
 obtain ⟨bL, bc, aS⟩ := bnd aS
 refine qae ?_ ?_ <;> intro aW
 replace bc := ift (qgx aX aW) bc
 refine ct aW (ct aW (ct aW ?_))
 obtain ⟨bG, bb, aS⟩ := bnd aS
 replace bb := ift (si bc).symm bb
 refine cT (cT (cT (cT (cT (cT ?_)))))
 exact eMq aS _ ⟨bq (si bb), trivial⟩
 replace bc := qa7 (qeh aX aW) bc
 refine cf aW ?_
 obtain ⟨cn, bW, bY, bc⟩ := ixb bc
 refine qay rfl bW bY (cf aW (qaf (cf aW ?_)))
 obtain ⟨bG, bb, aS⟩ := bnd aS
 refine qae ?_ ?_ <;> intro aU
 replace bb := ift ((si bc).symm.trans aU) bb
 refine ct aU (ct aU (ct aU (ct aU (ct aU ?_))))
 exact eMq aS _ ⟨bq (si bb), trivial⟩
 replace bb := qa7 ((si bc).symm.trans aU) bb
 refine cf aU (cf aU ?_)
 obtain ⟨bU, bb⟩ := qax bb
 refine qam bU (cf aU ?_)
 obtain ⟨cm, bN, bR, bb⟩ := ixb bb
 refine qay rfl bN bR (cf aU (qaf (cf aU ?_)))
 exact eMq aS _ ⟨bq (si bb), trivial⟩
 rintro bg rfl bO
 refine cs rfl rfl aY ?_ ?_ <;> intro co aY
 refine qas rfl ?_
 exact eE (er aY hm)
 obtain ⟨bB, aY⟩ := qax aY
 obtain ⟨s2, aZ, aY⟩ := bnd aY
 refine lD (σ := (Unit)) ([2,3,7] ++ rg 44 16) [0, 1] (fun i2 => [(44, .int .i64 (i2 : Int))]) (fun _ => []) (fun _ => []) (fun _ => True) (fun i2 _ => Ja1 (e0.drop i2) i2 = some s2) (fun t2 => s2 = Fl.go t2) (fun i2 => e0.length - i2) 0 () aZ (And.intro qe (And.intro ?_ ?_))
 clear aZ
 rintro i2 _ _ aZ j2
 conv at aZ => whnf
 refine qac rfl ?_
 refine qae ?_ ?_ <;> intro w2
 obtain ⟨e2, bm, bK⟩ := ltx w2
 rw [bK, Ja1.eq_2] at aZ
 refine qal rfl ?_
 refine qah rfl ?_
 refine qay rfl (nn _) bm ?_
 refine cb aZ fun cj bV aZ => cg0 (Jdt bV :) ?_
 refine qaw ?_
 obtain ⟨bZ, bh, aZ⟩ := bnd aZ
 refine cS bh (fun aT bh => ?_) fun aT bh => ?_
 refine ct aT (ct aT (qay rfl (nn _) bm (ct aT (qa6 (ct aT (qac rfl ?_))))))
 refine qae ?_ ?_ <;> intro bD
 replace aZ := ift ((si bh).symm.trans bD) aZ
 refine qas rfl ?_
 exact eE (er (er aZ aY :) hm)
 replace aZ := qa7 ((si bh).symm.trans bD) aZ
 refine qam (qbj bm bB) ?_
 exact eR aZ (_, ())
 refine cf aT (cf aT (cf aT (cf aT (qac rfl (cF ?_)))))
 replace aZ := qa7 (si bh).symm aZ
 refine qam (qbj bm bB) ?_
 exact eR aZ (_, ())
 rw [lty w2, Ja1.eq_1] at aZ
 refine cT ?_
 exact eM aZ _
 rintro t2 _ rfl j2
 replace aY := elg aY
 refine qam (qbj bn bX) ?_
 exact eR aY (_, ())
 rw [lty w0, Ja2.eq_1] at aY
 refine cT ?_
 exact eM aY _
 rintro t0 _ rfl j0
 replace hm := elg hm
 obtain ⟨bP, hm⟩ := qax hm
 refine qex rfl rfl rfl bP ?_
 intro bz bM ca
 refine ro (qak rfl ?_)
 obtain ⟨bu, hm⟩ := qax hm
 obtain ⟨s4, ba, hm⟩ := bnd hm
 refine lD (σ := (Str)) ([9,10] ++ rg 65 17) [1, 2] (fun i4 => [(65, .int .i64 (i4 : Int))]) (fun _ => []) (fun t4 => [qau eU bz 5 1 bM t4]) (fun t4 => (0 < t4.length → Has bz) ∧ s.length = t4.length) (fun i4 t4 => JaM ((s.length : Int).toNat - i4) i4 t4 = some s4) (fun t4 => t4 = s4) (fun i4 => (s.length : Int).toNat - i4) 0 _ ba (And.intro qe (And.intro ?_ ?_))
 clear ba
 rintro i4 bo ⟨bf, bd⟩ ba j4
 conv at ba => whnf
 refine qac rfl ?_
 refine qae ?_ ?_ <;> intro w4
 rw [ltn w4, JaM.eq_2] at ba
 refine qal rfl ?_
 obtain ⟨bt, bA, bp, ba⟩ := ixb ba
 refine RStep.ofN (qad rfl rfl (qcm bf bp) bA (qaz bd bA bp) (ro (qby (i := ((i4 : Int)).toNat) (o := 0) r0 rfl bp rfl rfl ?_)))
 refine qah rfl ?_
 refine qae ?_ ?_ <;> intro aV
 refine ct aV (ct aV (qac rfl ?_))
 refine qae ?_ ?_ <;> intro bC
 replace ba := ift (qct aV bC) ba
 refine qhy (x := bt) (y := (32 : UInt8)) rfl rfl ?_
 obtain ⟨bQ, bJ, br, ba⟩ := ixb ba
 refine RStep.ofN (qad rfl rfl (qcm bf br) bJ (qaz bd bJ br) ?_)
 refine qd8 (o := 0) (y := (bt + (32 : UInt8))) bQ r0 rfl br rfl (by (conv => whnf); exact ⟨rfl, rfl, (nl rfl), rfl, rfl, rfl⟩) ?_
 refine qam (qio w4 bu) ?_
 exact rd (i4 + 1, (bo.set (((i4 : Int)).toNat) (bt + (32 : UInt8)))) ⟨rfl, trivial⟩ rfl (pf rfl) lr (qpd w4) ⟨⟨(by first | simpa using bf | exact fun _ => ⟨_, _, rfl⟩), ((bd).trans List.length_set.symm)⟩, ba⟩
 replace ba := qa7 (qcu aV bC) ba
 refine qam (qio w4 bu) ?_
 exact eR ba (_, _)
 refine cf aV (cf aV (qac rfl (cF ?_)))
 replace ba := qa7 (qa9 aV) ba
 refine qam (qio w4 bu) ?_
 exact eR ba (_, _)
 rw [lto w4, JaM.eq_1] at ba
 refine cT ?_
 exact eM ba _
 rintro t4 ⟨bH, bl⟩ rfl j4
 refine ro (qdm bl r0 rfl rfl rfl ?_)
 exact eE hm

def JcI (c : UInt8) : Option (Bool) :=
  some ((decide ((c.toNat : Int) ≥ 97) && decide ((c.toNat : Int) ≤ 122)) || decide ((c.toNat : Int) = 95))
theorem Jdj {c : UInt8} {K : Hp} {r : Bool}
    (hm : JcI c = some r)  :
    Fn Tryz.prog 203 [.int .u8 (c.toNat : Int)] K [] (fun v K' H' => v = .bool r ∧ H' = []) := by
 refine Fn.enter Tryz.func203 Tryz.call203 rfl fun F => ?_
 unfold JcI at hm
 refine qah rfl ?_
 refine qae ?_ ?_ <;> intro aS
 refine ct aS (ct aS ?_)
 refine qae ?_ ?_ <;> intro aT
 refine ct aT (ct aT ?_)
 exact bE (((qcj (qct aS aT))).symm) (eE hm)
 refine cf aT (qaf (cf aT ?_))
 exact bE (qg2 (b := decide ((c.toNat : Int) = 95)) (qcu aS aT)) (eE hm)
 refine cf aS (cf aS (cF (cF (qaf (cF ?_)))))
 exact bE (qg2 (b := decide ((c.toNat : Int) = 95)) (qa9 aS)) (eE hm)

def Jco (c : UInt8) : Option (Bool) :=
  some (decide ((c.toNat : Int) ≥ 48) && decide ((c.toNat : Int) ≤ 57))
theorem JcM {c : UInt8} {K : Hp} {r : Bool}
    (hm : Jco c = some r)  :
    Fn Tryz.prog 204 [.int .u8 (c.toNat : Int)] K [] (fun v K' H' => v = .bool r ∧ H' = []) := by
 refine Fn.enter Tryz.func204 Tryz.call204 rfl fun F => ?_
 unfold Jco at hm
 refine qah rfl ?_
 refine qae ?_ ?_ <;> intro aS
 refine ct aS (ct aS ?_)
 exact bE (qcr (b := decide ((c.toNat : Int) ≤ 57)) aS) (eE hm)
 refine cf aS (cf aS ?_)
 exact bE (((qa9 aS)).symm) (eE hm)

def JaY (s : Str) : Nat → Str → Int → Option (Fl (Int × Str) (Str × Int))
  | 0, _, _ => none
  | aU + 1, ac, aS =>
    if decide (aS < (s.length : Int)) then
    (ix s aS).bind fun aT =>
    if decide ((aT.toNat : Int) = 34) then
    (chk (InI (aS + 1))).bind fun _ =>
    some (Fl.ret ((aS + 1), ac))
    else
    if decide ((aT.toNat : Int) = 92) then
    (chk (InI (aS + 1))).bind fun _ =>
    if decide ((aS + 1) = (s.length : Int)) then
    some (Fl.ret (0, ([] : Str)))
    else
    (ix s (aS + 1)).bind fun aY =>
    (if decide ((aY.toNat : Int) ≠ 34) then (ix s (aS + 1)).bind fun aX =>
    some (decide ((aX.toNat : Int) ≠ 92)) else some false).bind fun aW =>
    if aW then
    some (Fl.ret (0, ([] : Str)))
    else
    (ix s (aS + 1)).bind fun aV =>
    (chk (ac.length + ([aV] : Str).length ≤ lim)).bind fun _ =>
    (chk (InI ((aS + 1) + 1))).bind fun _ =>
    JaY s aU (ac ++ ([aV] : Str)) ((aS + 1) + 1)
    else
    if (decide ((aT.toNat : Int) < 32) || decide ((aT.toNat : Int) > 126)) then
    some (Fl.ret (0, ([] : Str)))
    else
    (chk (ac.length + ([aT] : Str).length ≤ lim)).bind fun _ =>
    (chk (InI (aS + 1))).bind fun _ =>
    JaY s aU (ac ++ ([aT] : Str)) (aS + 1)
    else
    some (Fl.go (ac, aS))
def Jc6 (n : Nat) (s : Str) : Option (Int × Str) :=
  (JaY s n [] 1).bind fun s0 => s0.el some fun t0 =>
  some (0, ([] : Str))
theorem JdX {n : Nat} {s : Str} {K : Hp} {r : Int × Str}
    (hm : Jc6 n s = some r)  :
    Fn Tryz.prog 205 [str s] K [] (fun v K' H' => v = .tuple #[.int .i64 r.1, str r.2] ∧ H' = []) := by
 refine Fn.enter Tryz.func205 Tryz.call205 rfl fun F => ?_
 unfold Jc6 at hm
 obtain ⟨s0, aS, hm⟩ := bnd hm
 refine qgy eU 5 1 ?_
 refine lD (σ := (Str × Int) × Option Addr × Nat) (rg 2 56) [1] (fun _ => []) (fun (t0, aW, aX) => [(4, .slice aW t0.1.length aX), (5, .int .i64 t0.2)]) (fun (t0, aW, aX) => [qau eU aW 5 1 aX t0.1]) (fun (t0, aW, aX) => (0 < t0.1.length → Has aW) ∧ True) (fun i0 (t0, aW, aX) => JaY s i0 t0.1 t0.2 = some s0) (fun (t0, aW, aX) => s0 = Fl.go t0) (fun i0 => i0) n ((_, _), _, _) aS (And.intro qe (And.intro ?_ ?_))
 clear aS
 rintro i0 ⟨⟨ac, bu⟩, bp, bm⟩ ⟨bd, _⟩ aS j0
 dsimp only at aS ⊢
 cases i0 with
 | zero => rw [JaY.eq_1] at aS; cases aS
 | succ i0 =>
  rw [JaY.eq_2] at aS
  refine ro (qa0 rfl ?_)
  refine cs rfl rfl aS ?_ ?_ <;> intro bI aS
  refine qal rfl ?_
  obtain ⟨bf, bt, bv, aS⟩ := ixb aS
  refine qay rfl bt bv ?_
  refine qal rfl ?_
  refine qaf (cs rfl rfl aS ?_ ?_) <;> intro bD aS
  refine qa3 ⟨⟨[], false⟩, _, [], []⟩ (by kernel_rfl) ⟨Hp.Le.refl _, (pf rfl), ci0⟩ ?_
  refine ci aS fun aS => ?_
  refine qdm rfl r0 rfl rfl rfl ?_
  exact eE (er aS hm)
  refine qaf (cs rfl rfl aS ?_ ?_) <;> intro bF aS
  refine ci aS fun aS => ?_
  refine qah rfl ?_
  refine ro (qa0 rfl (qaf ?_))
  refine cS aS (fun aT aS => ?_) fun aT aS => ?_
  refine ct aT (ct aT (ct aT (ct aT (ct aT (ct aT (qac rfl (cT ?_)))))))
  exact eE (er aS hm)
  refine cf aT (cf aT ?_)
  obtain ⟨bG, bB, bw, aS⟩ := ixb aS
  refine qay rfl bB bw (cf aT (qa6 (cf aT ?_)))
  obtain ⟨bC, aY, aS⟩ := bnd aS
  refine cS aY (fun aU aY => ?_) fun aU aY => ?_
  refine ct aU (ct aU ?_)
  obtain ⟨bH, bA, bz, aY⟩ := ixb aY
  refine qay rfl bA bz (ct aU (qa6 (cf aT (ct aU (cf aT (qac rfl ?_))))))
  refine qae ?_ ?_ <;> intro bg
  replace aS := ift ((si aY).symm.trans bg) aS
  exact eE (er aS hm)
  replace aS := qa7 ((si aY).symm.trans bg) aS
  obtain ⟨ba, bc, bb, aS⟩ := ixb aS
  refine qay rfl bc bb ?_
  refine bsO (len := 1) (enc := eU) (l := ([ba] : Str)) (cl := [.int .u8 (ba.toNat : Int)]) qbe rfl rfl (fun _ _ => rfl) rfl rfl rfl ?_ fun bo => ?_
  · conv => whnf
    refine cT ?_
    first | done | rfl
  obtain ⟨aZ, aS⟩ := qax aS
  refine apE rfl r1 qbe (qat rfl r0 rfl (fun _ => rfl) (fun _ => rfl)) aZ ?_
  intro bn bl bj
  refine ci aS fun aS => ?_
  exact eR aS (_, (_, _), _, _)
  refine cf aU (cf aU (cf aU (cf aT (cf aU (cf aT (qac rfl (cF ?_)))))))
  replace aS := qa7 (si aY).symm aS
  obtain ⟨ba, bc, bb, aS⟩ := ixb aS
  refine qay rfl bc bb ?_
  refine bsO (len := 1) (enc := eU) (l := ([ba] : Str)) (cl := [.int .u8 (ba.toNat : Int)]) qbe rfl rfl (fun _ _ => rfl) rfl rfl rfl ?_ fun bo => ?_
  · conv => whnf
    refine cT ?_
    first | done | rfl
  obtain ⟨aZ, aS⟩ := qax aS
  refine apE rfl r1 qbe (qat rfl r0 rfl (fun _ => rfl) (fun _ => rfl)) aZ ?_
  intro bn bl bj
  refine ci aS fun aS => ?_
  exact eR aS (_, (_, _), _, _)
  refine qah rfl ?_
  refine qae ?_ ?_ <;> intro aV
  refine ct aV (ct aV (qac rfl (cT ?_)))
  replace aS := ift (qcj aV) aS
  exact eE (er aS hm)
  refine cf aV (cf aV (qac rfl ?_))
  refine qae ?_ ?_ <;> intro br
  replace aS := ift (qgx aV br) aS
  exact eE (er aS hm)
  replace aS := qa7 (qeh aV br) aS
  refine bsO (len := 1) (enc := eU) (l := ([bf] : Str)) (cl := [.int .u8 (bf.toNat : Int)]) qbe rfl rfl (fun _ _ => rfl) rfl rfl rfl ?_ fun bo => ?_
  · conv => whnf
    refine cT ?_
    first | done | rfl
  obtain ⟨aZ, aS⟩ := qax aS
  refine apE rfl r1 qbe (qat rfl r0 rfl (fun _ => rfl) (fun _ => rfl)) aZ ?_
  intro bn bl bj
  refine ci aS fun aS => ?_
  exact eR aS (_, (_, _), _, _)
  refine cT ?_
  exact eM aS (_, _, _)
 rintro ⟨t0, aW, aX⟩ ⟨bh, _⟩ rfl j0
 replace hm := elg hm
 exact eE hm

def Jag (s : Str) (prefixZ : Str) : Option (Bool) :=
  (if decide ((s.length : Int) ≥ (prefixZ.length : Int)) then (chk (0 ≤ (0 : Int) ∧ (0 : Int) ≤ (prefixZ.length : Int) ∧ (prefixZ.length : Int) ≤ (s.length : Int))).bind fun _ =>
  some (decide ((subL s (0 : Int) (prefixZ.length : Int)) = prefixZ)) else some false).bind fun aS =>
  some aS
theorem Jbc {s : Str} {prefixZ : Str} {K : Hp} {r : Bool}
    (hm : Jag s prefixZ = some r)  :
    Fn Tryz.prog 128 [str s, str prefixZ] K [] (fun v K' H' => v = .bool r ∧ H' = []) := by
 refine Fn.enter Tryz.func128 Tryz.call128 rfl fun F => ?_
 unfold Jag at hm
 refine qah rfl ?_
 refine ro (qa0 rfl (ro (qa0 rfl ?_)))
 obtain ⟨aV, aT, hm⟩ := bnd hm
 refine cS aT (fun aS aT => ?_) fun aS aT => ?_
 refine ct aS (ct aS (ro (qa0 rfl (ct aS ?_))))
 obtain ⟨aU, aT⟩ := qax aT
 refine RStep.ofN (qdy (lo := none) (hi := (some (prefixZ.length : Int))) rfl aU (ct aS (ct aS (qaq (ct aS ?_)))))
 exact bE (si aT) (eE hm)
 refine cf aS (cf aS (cf aS (cf aS (cf aS (cf aS ?_)))))
 exact bE (si aT) (eE hm)

def Jam (s : Str) (prefixZ : Str) : Option (Bool) :=
  (Jag s prefixZ).bind fun x7 =>
  some x7
theorem JaB {s : Str} {prefixZ : Str} {K : Hp} {r : Bool}
    (hm : Jam s prefixZ = some r)  :
    Fn Tryz.prog 75 [str s, str prefixZ] K [] (fun v K' H' => v = .bool r ∧ H' = []) := by
 refine Fn.enter Tryz.func75 Tryz.call75 rfl fun F => ?_
 unfold Jam at hm
 refine cb hm fun x7 q7 hm => cg0 (Jbc q7 :) ?_
 exact eE hm

def JbF (s : Str) : Nat → Int → Option (Int)
  | 0, _ => none
  | aU + 1, aS =>
    if decide (aS < (s.length : Int)) then
    (ix s aS).bind fun aT =>
    (JcI aT).bind fun aV =>
    (if aV then some true else (ix s aS).bind fun aY =>
    (Jco aY).bind fun aW =>
    some aW).bind fun aX =>
    if aX then
    (chk (InI (aS + 1))).bind fun _ =>
    JbF s aU (aS + 1)
    else
    some aS
    else
    some aS
def JbG (s : Str) : Nat → Int → Option (Int)
  | 0, _ => none
  | aT + 1, aS =>
    (if decide (aS < (s.length : Int)) then (ix s aS).bind fun aW =>
    (Jco aW).bind fun aV =>
    some aV else some false).bind fun aU =>
    if aU then
    (chk (InI (aS + 1))).bind fun _ =>
    JbG s aT (aS + 1)
    else
    some aS
def JbH (s : Str) : Nat → Nat → Option (Fl (Int × Int × Str) (Unit))
  | 0, _ => some (Fl.go ())
  | aT + 1, i5 =>
    (ix ([([61, 61] : Str), ([33, 61] : Str), ([60, 61] : Str), ([60] : Str), ([43] : Str), ([45] : Str), ([42] : Str), ([40] : Str), ([41] : Str), ([123] : Str), ([125] : Str), ([44] : Str), ([59] : Str), ([61] : Str)]) (i5 : Int)).bind fun aS =>
    (Jam s aS).bind fun aU =>
    if aU then
    some (Fl.ret (4, (aS.length : Int), aS))
    else
    JbH s aT (i5 + 1)
def Jdn (n : Nat) (s : Str) : Option (Int × Int × Str) :=
  (ix s 0).bind fun al =>
  (JcI al).bind fun aT =>
  if aT then
  (JbF s n 1).bind fun t1 =>
  (chk (0 ≤ (0 : Int) ∧ (0 : Int) ≤ t1 ∧ t1 ≤ (s.length : Int))).bind fun _ =>
  some (1, t1, (subL s (0 : Int) t1))
  else
  (Jco al).bind fun aU =>
  if aU then
  (JbG s n 1).bind fun t3 =>
  if decide (t3 > 9) then
  some (0, 0, ([] : Str))
  else
  (chk (0 ≤ (0 : Int) ∧ (0 : Int) ≤ t3 ∧ t3 ≤ (s.length : Int))).bind fun _ =>
  some (2, t3, (subL s (0 : Int) t3))
  else
  if decide ((al.toNat : Int) = 34) then
  (Jc6 n s).bind fun aS =>
  some (3, aS.1, aS.2)
  else
  (chk (InI (14 : Int))).bind fun _ =>
  (JbH s (14 : Int).toNat 0).bind fun s5 => s5.el some fun t5 =>
  some (0, 0, ([] : Str))
theorem Jee {n : Nat} {s : Str} {K : Hp} {r : Int × Int × Str}
    (hm : Jdn n s = some r)  :
    Fn Tryz.prog 148 [str s] K [] (fun v K' H' => v = .tuple #[.int .i64 r.1, .int .i64 r.2.1, str r.2.2] ∧ H' = []) := by
 refine Fn.enter Tryz.func148 Tryz.call148 rfl fun F => ?_
 unfold Jdn at hm
 obtain ⟨al, bh, bw, hm⟩ := ixb hm
 refine qay rfl bh bw ?_
 refine qal rfl ?_
 refine cb hm fun bI bl hm => cg0 (Jdj bl :) ?_
 refine cs rfl rfl hm ?_ ?_ <;> intro bN hm
 obtain ⟨s1, aT, hm⟩ := bnd hm
 refine lD (σ := (Int)) ([5] ++ rg 16 18) [0] (fun _ => []) (fun t1 => [(5, .int .i64 t1)]) (fun _ => []) (fun _ => True) (fun i1 t1 => JbF s i1 t1 = some s1) (fun t1 => t1 = s1) (fun i1 => i1) n _ aT (And.intro qe (And.intro ?_ ?_))
 clear aT
 rintro i1 bo _ aT j1
 conv at aT => whnf
 cases i1 with
 | zero => rw [JbF.eq_1] at aT; cases aT
 | succ i1 =>
  rw [JbF.eq_2] at aT
  refine qah rfl ?_
  refine ro (qa0 rfl ?_)
  refine cS aT (fun aS aT => ?_) fun aS aT => ?_
  refine ct aS (ct aS ?_)
  obtain ⟨bG, bt, bz, aT⟩ := ixb aT
  refine qay rfl bt bz (ct aS ?_)
  refine cb aT fun bX bn aT => cg0 (Jdj bn :) ?_
  refine ct aS ?_
  obtain ⟨bK, aY, aT⟩ := bnd aT
  refine cS aY (fun aU aY => ?_) fun aU aY => ?_
  refine ct aU (ct aU (ct aU (ct aS (ct aU (ct aS (qac rfl (cT ?_)))))))
  replace aT := ift (si aY).symm aT
  refine qal rfl ?_
  refine ci aT fun aT => ?_
  exact eR aT (_, _)
  refine cf aU (cf aU ?_)
  obtain ⟨bM, bF, bf, aY⟩ := ixb aY
  refine qay rfl bF bf (cf aU ?_)
  refine cb aY fun bO bp aY => cg0 (JcM bp :) ?_
  refine ct aS (cf aU (ct aS (qac rfl ?_)))
  refine qae ?_ ?_ <;> intro bc
  replace aT := ift ((si aY).symm.trans bc) aT
  refine qal rfl ?_
  refine ci aT fun aT => ?_
  exact eR aT (_, _)
  replace aT := qa7 ((si aY).symm.trans bc) aT
  refine cT ?_
  exact eM aT _
  refine cf aS (cf aS (cf aS (cf aS (cf aS (cf aS (qac rfl (cF ?_)))))))
  refine cT ?_
  exact eM aT _
 rintro t1 _ rfl j1
 refine qa3 ⟨⟨[], false⟩, _, [], []⟩ (by kernel_rfl) ⟨Hp.Le.refl _, (pf rfl), ci0⟩ ?_
 obtain ⟨bB, hm⟩ := qax hm
 refine qdy (lo := none) (hi := (some t1)) rfl bB ?_
 exact eE hm
 refine cb hm fun bP bv hm => cg0 (JcM bv :) ?_
 refine cs rfl rfl hm ?_ ?_ <;> intro bJ hm
 obtain ⟨s3, aW, hm⟩ := bnd hm
 refine lD (σ := (Int)) ([5] ++ rg 41 12) [0] (fun _ => []) (fun t3 => [(5, .int .i64 t3)]) (fun _ => []) (fun _ => True) (fun i3 t3 => JbG s i3 t3 = some s3) (fun t3 => t3 = s3) (fun i3 => i3) n _ aW (And.intro qe (And.intro ?_ ?_))
 clear aW
 rintro i3 bu _ aW j3
 conv at aW => whnf
 cases i3 with
 | zero => rw [JbG.eq_1] at aW; cases aW
 | succ i3 =>
  rw [JbG.eq_2] at aW
  refine qah rfl ?_
  refine ro (qa0 rfl ?_)
  obtain ⟨bQ, aZ, aW⟩ := bnd aW
  refine cS aZ (fun aV aZ => ?_) fun aV aZ => ?_
  refine ct aV (ct aV ?_)
  obtain ⟨bV, br, bD, aZ⟩ := ixb aZ
  refine qay rfl br bD (ct aV ?_)
  refine cb aZ fun bT bj aZ => cg0 (JcM bj :) ?_
  refine ct aV (qac rfl ?_)
  refine qae ?_ ?_ <;> intro bd
  replace aW := ift ((si aZ).symm.trans bd) aW
  refine qal rfl ?_
  refine ci aW fun aW => ?_
  exact eR aW (_, _)
  replace aW := qa7 ((si aZ).symm.trans bd) aW
  refine cT ?_
  exact eM aW _
  refine cf aV (cf aV (cf aV (cf aV (qac rfl (cF ?_)))))
  replace aW := qa7 (si aZ).symm aW
  refine cT ?_
  exact eM aW _
 rintro t3 _ rfl j3
 refine cs rfl rfl hm ?_ ?_ <;> intro bR hm
 exact eE hm
 refine qa3 ⟨⟨[], false⟩, _, [], []⟩ (by kernel_rfl) ⟨Hp.Le.refl _, (pf rfl), ci0⟩ ?_
 obtain ⟨bA, hm⟩ := qax hm
 refine qdy (lo := none) (hi := (some t3)) rfl bA ?_
 exact eE hm
 refine qaf (cs rfl rfl hm ?_ ?_) <;> intro bS hm
 refine cb hm fun bH bg hm => cg0 (JdX bg :) ?_
 exact eE hm
 refine bsO (len := 14) (enc := eS) (l := [([61, 61] : Str), ([33, 61] : Str), ([60, 61] : Str), ([60] : Str), ([43] : Str), ([45] : Str), ([42] : Str), ([40] : Str), ([41] : Str), ([123] : Str), ([125] : Str), ([44] : Str), ([59] : Str), ([61] : Str)]) (cl := [str ([61, 61] : Str), str ([33, 61] : Str), str ([60, 61] : Str), str ([60] : Str), str ([43] : Str), str ([45] : Str), str ([42] : Str), str ([40] : Str), str ([41] : Str), str ([123] : Str), str ([125] : Str), str ([44] : Str), str ([59] : Str), str ([61] : Str)]) qbr rfl rfl (fun _ _ => rfl) rfl rfl rfl ?_ fun bU => ?_
 · conv => whnf
   refine cT (cT (cT (cT (cT (cT (cT (cT ?_)))))))
   refine cT (cT (cT (cT (cT (cT ?_)))))
   first | done | rfl
 refine ro (qak rfl ?_)
 obtain ⟨bm, hm⟩ := qax hm
 obtain ⟨s5, aX, hm⟩ := bnd hm
 refine lD (σ := (Unit)) ([2,3,4,10] ++ rg 71 11) [0, 1] (fun i5 => [(71, .int .i64 (i5 : Int))]) (fun _ => []) (fun _ => []) (fun _ => True) (fun i5 _ => JbH s ((14 : Int).toNat - i5) i5 = some s5) (fun t5 => s5 = Fl.go t5) (fun i5 => (14 : Int).toNat - i5) 0 () aX (And.intro qe (And.intro ?_ ?_))
 clear aX
 rintro i5 _ _ aX j5
 conv at aX => whnf
 refine qac rfl ?_
 refine qae ?_ ?_ <;> intro w5
 rw [ltn (n := (14 : Int)) w5, JbH.eq_2] at aX
 refine qal rfl ?_
 obtain ⟨bL, bb, ba, aX⟩ := ixb aX
 refine RStep.ofN (qad rfl rfl (qcm (fun _ => ⟨_, _, rfl⟩) ba) bb (qaz rfl bb ba) (ro (qby (i := ((i5 : Int)).toNat) (o := 0) r0 rfl ba rfl rfl ?_)))
 refine cb aX fun bW bC aX => cg0 (JaB bC :) ?_
 refine cs rfl rfl aX ?_ ?_ <;> intro bY aX
 refine ro (qa0 rfl ?_)
 exact eE (er aX hm)
 refine qam (qio w5 bm) ?_
 exact eR aX (_, ())
 rw [lto (n := (14 : Int)) w5, JbH.eq_1] at aX
 refine cT ?_
 exact eM aX _
 rintro t5 _ rfl j5
 replace hm := elg hm
 exact eE hm

def JbI (text : Str) : Nat → Int → Option (Int)
  | 0, _ => none
  | aT + 1, aS =>
    (if decide (aS < (text.length : Int)) then (ix text aS).bind fun aU =>
    some (decide ((aU.toNat : Int) ≠ 10)) else some false).bind fun aV =>
    if aV then
    (chk (InI (aS + 1))).bind fun _ =>
    JbI text aT (aS + 1)
    else
    some aS
def Jab (text : Str) (n : Nat) : Nat → (List Je) → Int → Int → Int → Option (Fl ((List Je) × Err) ((List Je) × Int × Int × Int))
  | 0, _, _, _, _ => none
  | aW + 1, ac, aU, aT, aS =>
    if decide (aS < (text.length : Int)) then
    (ix text aS).bind fun aX =>
    if decide ((aX.toNat : Int) = 10) then
    (chk (InI (aS + 1))).bind fun _ =>
    (chk (InI (aU + 1))).bind fun _ =>
    Jab text n aW ac (aU + 1) (aS + 1) (aS + 1)
    else
    if decide ((aX.toNat : Int) = 32) then
    (chk (InI (aS + 1))).bind fun _ =>
    Jab text n aW ac aU aT (aS + 1)
    else
    if decide ((aX.toNat : Int) = 9) then
    (chk (InI (aS + 1))).bind fun _ =>
    Jab text n aW ac aU aT (aS + 1)
    else
    if decide ((aX.toNat : Int) = 13) then
    (chk (InI (aS + 1))).bind fun _ =>
    Jab text n aW ac aU aT (aS + 1)
    else
    if decide ((aX.toNat : Int) = 35) then
    (JbI text n aS).bind fun t3 =>
    Jab text n aW ac aU aT t3
    else
    (chk (0 ≤ aS ∧ aS ≤ (text.length : Int) ∧ (text.length : Int) ≤ (text.length : Int))).bind fun _ =>
    (Jdn n (subL text aS (text.length : Int))).bind fun aV =>
    if decide (aV.2.1 = 0) then
    some (Fl.ret ([], (some 2)))
    else
    (chk (InI (aS - aT))).bind fun _ =>
    (chk (InI ((aS - aT) + 1))).bind fun _ =>
    (chk (ac.length + [(⟨aV.1, aV.2.2, aU, ((aS - aT) + 1)⟩ : Je)].length ≤ lim)).bind fun _ =>
    (chk (InI (aS + aV.2.1))).bind fun _ =>
    Jab text n aW (ac ++ [(⟨aV.1, aV.2.2, aU, ((aS - aT) + 1)⟩ : Je)]) aU aT (aS + aV.2.1)
    else
    some (Fl.go (ac, aU, aT, aS))
def JcW (n : Nat) (text : Str) : Option ((List Je) × Err) :=
  if decide ((text.length : Int) > 4096) then
  some ([], (some 5))
  else
  (Jab text n n [] 1 0 0).bind fun s0 => s0.el some fun t0 =>
  (chk (InI ((text.length : Int) - t0.2.2.1))).bind fun _ =>
  (chk (InI (((text.length : Int) - t0.2.2.1) + 1))).bind fun _ =>
  (chk (t0.1.length + ([(⟨5, ([] : Str), t0.2.1, (((text.length : Int) - t0.2.2.1) + 1)⟩ : Je)]).length ≤ lim)).bind fun _ =>
  some ((t0.1 ++ [(⟨5, ([] : Str), t0.2.1, (((text.length : Int) - t0.2.2.1) + 1)⟩ : Je)]), none)
theorem Jdu {n : Nat} {text : Str} {K : Hp} {r : (List Je) × Err}
    (hm : JcW n text = some r)  :
    Fn Tryz.prog 96 [str text] K [] (fun v K' H' => ∃ ar_0 : Option Addr, ∃ cr_0 : Nat, v = .tuple #[.slice ar_0 r.1.length cr_0, qcy 48 r.2] ∧ (0 < r.1.length → Has ar_0) ∧ H' = [qau Je.enc ar_0 166 4 cr_0 r.1]) := by
 refine Fn.enter Tryz.func96 Tryz.call96 rfl fun F => ?_
 unfold JcW at hm
 refine ro (qa0 rfl ?_)
 refine cs rfl rfl hm ?_ ?_ <;> intro bJ hm
 refine qas rfl ?_
 refine qcg Je.enc 166 4 ?_
 exact eE hm
 obtain ⟨s0, aS, hm⟩ := bnd hm
 refine qgy Je.enc 166 4 ?_
 refine lD (σ := ((List Je) × Int × Int × Int) × Option Addr × Nat) (rg 2 9 ++ rg 15 59) [1] (fun _ => []) (fun (t0, aU, aV) => [(4, .slice aU t0.1.length aV), (5, .int .i64 t0.2.1), (6, .int .i64 t0.2.2.1), (7, .int .i64 t0.2.2.2)]) (fun (t0, aU, aV) => [qau Je.enc aU 166 4 aV t0.1]) (fun (t0, aU, aV) => (0 < t0.1.length → Has aU) ∧ True) (fun i0 (t0, aU, aV) => Jab text n i0 t0.1 t0.2.1 t0.2.2.1 t0.2.2.2 = some s0) (fun (t0, aU, aV) => s0 = Fl.go t0) (fun i0 => i0) n ((_, _, _, _), _, _) aS (And.intro qe (And.intro ?_ ?_))
 clear aS
 rintro i0 ⟨⟨ac, aZ, ba, aY⟩, bl, bj⟩ ⟨bf, _⟩ aS j0
 dsimp only at aS ⊢
 cases i0 with
 | zero => rw [Jab.eq_1] at aS; cases aS
 | succ i0 =>
  rw [Jab.eq_2] at aS
  refine ro (qa0 rfl ?_)
  refine cs rfl rfl aS ?_ ?_ <;> intro bR aS
  refine qal rfl ?_
  obtain ⟨bI, bt, bz, aS⟩ := ixb aS
  refine qay rfl bt bz ?_
  refine qal rfl ?_
  refine qaf (cs rfl rfl aS ?_ ?_) <;> intro bP aS
  refine ci aS fun aS => ?_
  obtain ⟨bp, aS⟩ := qax aS
  refine qam bp (cF (cT ?_))
  exact eR aS (_, (_, _, _, _), _, _)
  refine qaf (cs rfl rfl aS ?_ ?_) <;> intro bc aS
  refine qac rfl (ct bc ?_)
  obtain ⟨bb, aS⟩ := qax aS
  refine qam bb (cF (cT ?_))
  exact eR aS (_, (_, _, _, _), _, _)
  refine qaf (cs rfl rfl aS ?_ ?_) <;> intro bc aS
  refine qac rfl (ct bc ?_)
  obtain ⟨bb, aS⟩ := qax aS
  refine qam bb (cF (cT ?_))
  exact eR aS (_, (_, _, _, _), _, _)
  refine qaf (cs rfl rfl aS ?_ ?_) <;> intro bc aS
  obtain ⟨bb, aS⟩ := qax aS
  refine qam bb (cF (cT ?_))
  exact eR aS (_, (_, _, _, _), _, _)
  refine qaf (cs rfl rfl aS ?_ ?_) <;> intro bS aS
  obtain ⟨s3, aW, aS⟩ := bnd aS
  refine lD (σ := (Int)) ([7] ++ rg 37 12) [0, 1] (fun _ => []) (fun t3 => [(7, .int .i64 t3)]) (fun _ => []) (fun _ => True) (fun i3 t3 => JbI text i3 t3 = some s3) (fun t3 => t3 = s3) (fun i3 => i3) n _ aW (And.intro qe (And.intro ?_ ?_))
  clear aW
  rintro i3 bw _ aW j3
  conv at aW => whnf
  cases i3 with
  | zero => rw [JbI.eq_1] at aW; cases aW
  | succ i3 =>
   rw [JbI.eq_2] at aW
   refine qah rfl ?_
   refine ro (qa0 rfl ?_)
   obtain ⟨bD, aX, aW⟩ := bnd aW
   refine cS aX (fun aT aX => ?_) fun aT aX => ?_
   refine ct aT (ct aT ?_)
   obtain ⟨bM, bu, bA, aX⟩ := ixb aX
   refine qay rfl bu bA (ct aT (qa6 (ct aT (qac rfl ?_))))
   refine qae ?_ ?_ <;> intro bh
   replace aW := ift ((si aX).symm.trans bh) aW
   refine qal rfl ?_
   refine ci aW fun aW => ?_
   exact eR aW (_, _)
   replace aW := qa7 ((si aX).symm.trans bh) aW
   refine cT ?_
   exact eM aW _
   refine cf aT (cf aT (cf aT (cf aT (qac rfl (cF ?_)))))
   replace aW := qa7 (si aX).symm aW
   refine cT ?_
   exact eM aW _
  rintro t3 _ rfl j3
  refine cF (cT ?_)
  exact eR aS (_, (_, _, _, _), _, _)
  obtain ⟨bB, aS⟩ := qax aS
  refine RStep.ofN (qdy (lo := (some aY)) (hi := none) rfl bB ?_)
  refine cb aS fun bd bn aS => cg0 (Jee bn :) ?_
  refine qaf (cs rfl rfl aS ?_ ?_) <;> intro bH aS
  refine qas rfl ?_
  refine qcg Je.enc 166 4 ?_
  exact eE (er aS hm)
  refine ci aS fun aS => ?_
  obtain ⟨br, aS⟩ := qax aS
  refine qam br (qaj rfl rfl (cT (cT (cT (cT ?_)))))
  refine bsO (len := 1) (enc := Je.enc) (l := [(⟨bd.1, bd.2.2, aZ, ((aY - ba) + 1)⟩ : Je)]) (cl := [.int .i64 bd.1, str bd.2.2, .int .i64 aZ, .int .i64 ((aY - ba) + 1)]) qj8 rfl rfl (fun _ _ => rfl) rfl rfl rfl ?_ fun bO => ?_
  · conv => whnf
    refine cT ?_
    first | done | rfl
  obtain ⟨bm, aS⟩ := qax aS
  refine apE rfl r1 qj8 (qat rfl r0 rfl (fun _ => rfl) (fun _ => rfl)) bm ?_
  intro bG bN bF
  refine ci aS fun aS => ?_
  exact eR aS (_, (_, _, _, _), _, _)
  refine cT ?_
  exact eM aS (_, _, _)
 rintro ⟨t0, aU, aV⟩ ⟨bg, _⟩ rfl j0
 replace hm := elg hm
 refine ro (qa0 rfl ?_)
 refine ci hm fun hm => ?_
 obtain ⟨bo, hm⟩ := qax hm
 refine qam bo (qaj rfl rfl (cT (cT (cT (cT ?_)))))
 refine bsO (len := 1) (enc := Je.enc) (l := [(⟨5, ([] : Str), t0.2.1, (((text.length : Int) - t0.2.2.1) + 1)⟩ : Je)]) (cl := [.int .i64 5, str ([] : Str), .int .i64 t0.2.1, .int .i64 (((text.length : Int) - t0.2.2.1) + 1)]) qj8 rfl rfl (fun _ _ => rfl) rfl rfl rfl ?_ fun bQ => ?_
 · conv => whnf
   refine cT ?_
   first | done | rfl
 obtain ⟨bv, hm⟩ := qax hm
 refine apE rfl r1 qj8 (qat rfl r0 rfl (fun _ => rfl) (fun _ => rfl)) bv ?_
 intro bL bK bC
 exact eE hm

def Jt (p : Jb) : Option (Bool) :=
  some (decide (p.line = 0))
theorem Js {p : Jb} {b0 : Nat} {aa : Option Addr} {ab : Nat} {K : Hp} {r : Bool}
    (hm : Jt p = some r) (ae : (0 < p.list.length → Has aa)) :
    Fn Tryz.prog 98 [.pointer (some ⟨b0, 0, none⟩)] K [Cells b0 163 [.slice aa p.list.length ab, .int .i64 p.atZ, .int .i64 p.line], qau Je.enc aa 166 4 ab p.list] (fun v K' H' => v = .bool r ∧ H' = [Cells b0 163 [.slice aa p.list.length ab, .int .i64 p.atZ, .int .i64 p.line], qau Je.enc aa 166 4 ab p.list]) := by
 refine Fn.enter Tryz.func98 Tryz.call98 rfl fun F => ?_
 unfold Jt at hm
 refine qag (fa rfl (ro (ld r0 rfl rfl (qaf ?_))))
 exact eE hm

def JI (p : Jb) : Option (Je) :=
  (ix p.list p.atZ).bind fun aS =>
  some aS
theorem JH {p : Jb} {b0 : Nat} {aa : Option Addr} {ab : Nat} {K : Hp} {r : Je}
    (hm : JI p = some r) (ae : (0 < p.list.length → Has aa)) :
    Fn Tryz.prog 99 [.pointer (some ⟨b0, 0, none⟩)] K [Cells b0 163 [.slice aa p.list.length ab, .int .i64 p.atZ, .int .i64 p.line], qau Je.enc aa 166 4 ab p.list] (fun v K' H' => v = .agg #[.int .i64 r.Ab, str r.Ac, .int .i64 r.Ad, .int .i64 r.Column] ∧ H' = [Cells b0 163 [.slice aa p.list.length ab, .int .i64 p.atZ, .int .i64 p.line], qau Je.enc aa 166 4 ab p.list]) := by
 refine Fn.enter Tryz.func99 Tryz.call99 rfl fun F => ?_
 unfold JI at hm
 refine qai rfl fun b2 => ?_
 refine qa3 ⟨⟨[], true⟩, _, [], []⟩ (by kernel_rfl) ⟨Hp.Le.refl _, (pf rfl), ci0⟩ ?_
 refine qag (fa rfl ?_)
 refine ld r1 rfl rfl ?_
 refine qag (fa rfl ?_)
 refine ld r1 rfl rfl ?_
 obtain ⟨aU, aT, aS, hm⟩ := ixb hm
 refine qad rfl rfl (qcm ae aS) aT (qaz rfl aT aS) ?_
 refine qh0 (i := (p.atZ).toNat) r2 rfl aS rfl rfl ?_
 refine qaa r0 rfl ⟨rfl, rfl, (nl rfl), ?_⟩
 refine qk (pf rfl) ?_
 exact ro (qab r0 rfl (nl rfl) (eE hm))

def Jz (p : Jb) (kind : Int) (text : Str) : Option (Bool) :=
  (JI p).bind fun x9 =>
  some (decide (x9.Ab = kind) && decide (x9.Ac = text))
theorem Jv {p : Jb} {kind : Int} {text : Str} {b0 : Nat} {aa : Option Addr} {ab : Nat} {K : Hp} {r : Bool}
    (hm : Jz p kind text = some r) (ae : (0 < p.list.length → Has aa)) :
    Fn Tryz.prog 149 [.pointer (some ⟨b0, 0, none⟩), .int .i64 kind, str text] K [Cells b0 163 [.slice aa p.list.length ab, .int .i64 p.atZ, .int .i64 p.line], qau Je.enc aa 166 4 ab p.list] (fun v K' H' => v = .bool r ∧ H' = [Cells b0 163 [.slice aa p.list.length ab, .int .i64 p.atZ, .int .i64 p.line], qau Je.enc aa 166 4 ab p.list]) := by
 refine Fn.enter Tryz.func149 Tryz.call149 rfl fun F => ?_
 unfold Jz at hm
 refine cb hm fun x9 q9 hm => cgx (JH q9 :) ?_
 refine qai rfl fun b7 => ?_
 refine qaa r0 rfl ⟨rfl, rfl, (nl rfl), ?_⟩
 refine qah rfl ?_
 refine fa rfl (ro (ld r0 rfl rfl (qaf ?_)))
 refine qae ?_ ?_ <;> intro aS
 refine fa rfl (ct aS (ro (ld r0 rfl rfl (ct aS (ct aS (qaq (ct aS ?_)))))))
 exact bE (qcr (b := decide (x9.Ac = text)) aS) (eE hm)
 refine cf aS (cf aS (cf aS (cf aS ?_)))
 exact bE (((qa9 aS)).symm) (eE hm)

def JY (p : Jb) : Option (Jb) :=
  if decide (p.line = 0) then
  (JI p).bind fun x9 =>
  some (⟨p.list, p.atZ, x9.Ad⟩ : Jb)
  else
  some p
theorem J2 {p : Jb} {b0 : Nat} {aa : Option Addr} {ab : Nat} {K : Hp} {r : Jb}
    (hm : JY p = some r) (ae : (0 < p.list.length → Has aa)) :
    Fn Tryz.prog 100 [.pointer (some ⟨b0, 0, none⟩)] K [Cells b0 163 [.slice aa p.list.length ab, .int .i64 p.atZ, .int .i64 p.line], qau Je.enc aa 166 4 ab p.list] (fun v K' H' => ∃ ar_0 : Option Addr, ∃ cr_0 : Nat, v = .tuple #[] ∧ (0 < r.list.length → Has ar_0) ∧ H' = [Cells b0 163 [.slice ar_0 r.list.length cr_0, .int .i64 r.atZ, .int .i64 r.line], qau Je.enc ar_0 166 4 cr_0 r.list]) := by
 refine Fn.enter Tryz.func100 Tryz.call100 rfl fun F => ?_
 unfold JY at hm
 refine qag (fa rfl (ro (ld r0 rfl rfl (qaf ?_))))
 refine cs rfl rfl hm ?_ ?_ <;> intro w6 hm
 refine cb hm fun x9 q9 hm => cgx (JH q9 :) ?_
 refine Jdk rfl rfl rfl rfl ?_
 refine qag (fa rfl ?_)
 refine qaa r0 rfl ⟨rfl, rfl, (nl rfl), ?_⟩
 exact eE hm
 exact eE hm

def Jp (p : Jb) : Option (Je × Jb) :=
  (JI p).bind fun x5 =>
  (chk (InI ((p.list.length : Int) - 1))).bind fun _ =>
  if decide (p.atZ < ((p.list.length : Int) - 1)) then
  (chk (InI (p.atZ + 1))).bind fun _ =>
  some (x5, (⟨p.list, (p.atZ + 1), p.line⟩ : Jb))
  else
  some (x5, p)
theorem Jm {p : Jb} {b0 : Nat} {aa : Option Addr} {ab : Nat} {K : Hp} {r : Je × Jb}
    (hm : Jp p = some r) (ae : (0 < p.list.length → Has aa)) :
    Fn Tryz.prog 206 [.pointer (some ⟨b0, 0, none⟩)] K [Cells b0 163 [.slice aa p.list.length ab, .int .i64 p.atZ, .int .i64 p.line], qau Je.enc aa 166 4 ab p.list] (fun v K' H' => ∃ ar_0 : Option Addr, ∃ cr_0 : Nat, v = .agg #[.int .i64 r.1.Ab, str r.1.Ac, .int .i64 r.1.Ad, .int .i64 r.1.Column] ∧ (0 < r.2.list.length → Has ar_0) ∧ H' = [Cells b0 163 [.slice ar_0 r.2.list.length cr_0, .int .i64 r.2.atZ, .int .i64 r.2.line], qau Je.enc ar_0 166 4 cr_0 r.2.list]) := by
 refine Fn.enter Tryz.func206 Tryz.call206 rfl fun F => ?_
 unfold Jp at hm
 refine qai rfl fun b2 => ?_
 refine cb hm fun x5 q5 hm => cgx (JH q5 :) ?_
 refine qai rfl fun b3 => ?_
 refine qaa r0 rfl ⟨rfl, rfl, (nl rfl), ?_⟩
 refine qa3 ⟨⟨[], false⟩, _, [(_, _)], []⟩ (by kernel_rfl) ⟨Hp.Le.refl _, (sc [1] rfl), ci0⟩ ?_
 refine qag (fa rfl (qap m0 rfl rfl (qag (fa rfl (qap m0 rfl rfl (qcc rfl ?_))))))
 refine ci hm fun hm => ?_
 refine cs rfl rfl hm ?_ ?_ <;> intro aT hm
 refine qag (fa rfl (ro (ld r1 rfl rfl ?_)))
 obtain ⟨aS, hm⟩ := qax hm
 refine qam aS (qag (fa rfl ?_))
 refine qaa r1 rfl ⟨rfl, rfl, (nl rfl), ?_⟩
 refine ro (qab r1 rfl (nl rfl) ?_)
 refine qaa r3 rfl ⟨rfl, rfl, (nl rfl), ?_⟩
 exact ro (qab r0 rfl (nl rfl) (eE hm))
 refine ro (qab r0 rfl (nl rfl) ?_)
 refine qaa r3 rfl ⟨rfl, rfl, (nl rfl), ?_⟩
 exact ro (qab r0 rfl (nl rfl) (eE hm))

def JaC (v' : Str) : List Str → Nat → Option (Fl (Int) (Unit))
  | [], _ => some (Fl.go ())
  | e0 :: aS, i0 =>
    if decide (v' = e0) then
    some (Fl.ret (i0 : Int))
    else
    JaC v' aS (i0 + 1)
def Jci (s : (List Str)) (v' : Str) : Option (Int) :=
  (chk (s.length ≤ qbg)).bind fun _ =>
  (JaC v' s 0).bind fun s0 => s0.el some fun t0 =>
  some (-1)
theorem Jdw {s : (List Str)} {v' : Str} {aa : Option Addr} {ab : Nat} {n0 : Nat} {K : Hp} {r : Int}
    (hm : Jci s v' = some r) (hX : RdC eS K aa ab 1 s ∧ n0 = s.length) :
    Fn Tryz.prog 88 [.slice aa n0 ab, str v'] K [] (fun v K' H' => v = .int .i64 r ∧ H' = []) := by
 obtain ⟨ae, aU⟩ := hX
 subst aU
 refine Fn.enter Tryz.func88 Tryz.call88 rfl fun F => ?_
 unfold Jci at hm
 refine ro (qak rfl ?_)
 obtain ⟨aV, hm⟩ := qax hm
 obtain ⟨s0, aS, hm⟩ := bnd hm
 refine lD (σ := (Unit)) ([4,5] ++ rg 8 11) [0] (fun i0 => [(8, .int .i64 (i0 : Int))]) (fun _ => []) (fun _ => []) (fun _ => True) (fun i0 _ => JaC v' (s.drop i0) i0 = some s0) (fun t0 => s0 = Fl.go t0) (fun i0 => s.length - i0) 0 () aS (And.intro qe (And.intro ?_ ?_))
 clear aS
 rintro i0 _ _ aS j0
 conv at aS => whnf
 refine qac rfl ?_
 refine qae ?_ ?_ <;> intro w0
 obtain ⟨e0, aT, aW⟩ := ltx w0
 rw [aW, JaC.eq_2] at aS
 refine qal rfl ?_
 refine RStep.ofN (qad rfl rfl (qfy ae.rd aT) (nn _) (qbm aT) (ro (qci i0 0 _ _ ae.rd rfl (mp aT) rfl rfl (qaq ?_))))
 refine cs rfl rfl aS ?_ ?_ <;> intro aX aS
 exact eE (er aS hm)
 refine qam (qbj aT aV) ?_
 exact eR aS (_, ())
 rw [lty w0, JaC.eq_1] at aS
 refine cT ?_
 exact eM aS _
 rintro t0 _ rfl j0
 replace hm := elg hm
 exact eE hm

def JK (s : (List Str)) (v' : Str) : Option (Bool) :=
  (Jci s v').bind fun x7 =>
  some (decide (x7 ≥ 0))
theorem JM {s : (List Str)} {v' : Str} {aa : Option Addr} {ab : Nat} {n0 : Nat} {K : Hp} {r : Bool}
    (hm : JK s v' = some r) (hX : RdC eS K aa ab 1 s ∧ n0 = s.length) :
    Fn Tryz.prog 53 [.slice aa n0 ab, str v'] K [] (fun v K' H' => v = .bool r ∧ H' = []) := by
 obtain ⟨ae, aS⟩ := hX
 subst aS
 refine Fn.enter Tryz.func53 Tryz.call53 rfl fun F => ?_
 unfold JK at hm
 refine cb hm fun x7 q7 hm => cgx (Jdw q7 :) ?_
 exact eE hm

def JbW (s : Str) : Option (Bool) :=
  (JK gkw0 s).bind fun x5 =>
  some x5
theorem Jcp {s : Str} {K : Hp} {r : Bool}
    (hm : JbW s = some r) (hG : GG K) :
    Fn Tryz.prog 208 [str s] K [] (fun v K' H' => v = .bool r ∧ H' = []) := by
 obtain ⟨aV, aW, aT, gn_, aS, aU⟩ := gg5 hG
 subst gn_
 refine Fn.enter Tryz.func208 Tryz.call208 rfl fun F => ?_
 unfold JbW at hm
 refine ro (qkj aS rfl ?_)
 refine cb hm fun x5 q5 hm => cgx (JM q5 :) ?_
 exact eE hm

def JE (p : Jb) (text : Str) : Option (Jb) :=
  (Jz p 4 text).bind fun x6 =>
  if (!x6) then
  (JY p).bind fun x9 =>
  some x9
  else
  (Jp p).bind fun aS =>
  some aS.2
theorem JD {p : Jb} {text : Str} {b0 : Nat} {aa : Option Addr} {ab : Nat} {K : Hp} {r : Jb}
    (hm : JE p text = some r) (ae : (0 < p.list.length → Has aa)) :
    Fn Tryz.prog 211 [.pointer (some ⟨b0, 0, none⟩), str text] K [Cells b0 163 [.slice aa p.list.length ab, .int .i64 p.atZ, .int .i64 p.line], qau Je.enc aa 166 4 ab p.list] (fun v K' H' => ∃ ar_0 : Option Addr, ∃ cr_0 : Nat, v = .tuple #[] ∧ (0 < r.list.length → Has ar_0) ∧ H' = [Cells b0 163 [.slice ar_0 r.list.length cr_0, .int .i64 r.atZ, .int .i64 r.line], qau Je.enc ar_0 166 4 cr_0 r.list]) := by
 refine Fn.enter Tryz.func211 Tryz.call211 rfl fun F => ?_
 unfold JE at hm
 refine cb hm fun x6 q6 hm => cgx (Jv q6 :) ?_
 refine qaw ?_
 refine cs rfl rfl hm ?_ ?_ <;> intro w7 hm
 refine cb hm fun x9 q9 hm => ckx (J2 q9 :) ?_
 rintro _ _ _ ⟨aX, aV, rfl, aY, rfl⟩
 exact eE hm
 refine cb hm fun aZ aW hm => ckx (Jm aW :) ?_
 rintro _ _ _ ⟨aS, aU, rfl, aT, rfl⟩
 exact eE hm

def JaN (kind : Int) (text : Str) (a : Ja) (b : Ja) : Option (Ja) :=
  some (⟨kind, text, [a, b], a.Ad⟩ : Ja)
theorem JaS {kind : Int} {text : Str} {a : Ja} {b : Ja} {ao : Option Addr} {aq : Nat} {aC : Option Addr} {aD : Nat} {K : Hp} {r : Ja}
    (hm : JaN kind text a b = some r) (hX : LiC Ja.R K ao aq 4 a.Aa ∧ LiC Ja.R K aC aD 4 b.Aa) :
    Fn Tryz.prog 254 [.int .i64 kind, str text, .agg #[.int .i64 a.Ab, str a.Ac, .slice ao a.Aa.length aq, .int .i64 a.Ad], .agg #[.int .i64 b.Ab, str b.Ac, .slice aC b.Aa.length aD, .int .i64 b.Ad]] K [] (fun v K' H' => ∃ ar_0 : Option Addr, ∃ cr_0 : Nat, ∃ sr_0 : List (List Value), v = .agg #[.int .i64 r.Ab, str r.Ac, .slice ar_0 r.Aa.length cr_0, .int .i64 r.Ad] ∧ (0 < r.Aa.length → Has ar_0) ∧ LR Ja.R K' sr_0 r.Aa ∧ H' = [OwnA ar_0 117 4 cr_0 sr_0]) := by
 obtain ⟨aT, aS⟩ := hX
 refine Fn.enter Tryz.func254 Tryz.call254 rfl fun F => ?_
 unfold JaN at hm
 refine qar ?_
 intro b6
 refine qar ?_
 intro b7
 refine qai rfl fun b8 => ?_
 refine fa rfl (ro (ld r2 rfl rfl (ro (qab r2 rfl (nl rfl) (ro (qab r1 rfl (nl rfl) ?_))))))
 refine qji (R := Ja.R) (len := 2) (l := [a, b]) (css := [[.int .i64 a.Ab, str a.Ac, .slice ao a.Aa.length aq, .int .i64 a.Ad], [.int .i64 b.Ab, str b.Ac, .slice aC b.Aa.length aD, .int .i64 b.Ad]]) (cl := [.int .i64 a.Ab, str a.Ac, .slice ao a.Aa.length aq, .int .i64 a.Ad, .int .i64 b.Ab, str b.Ac, .slice aC b.Aa.length aD, .int .i64 b.Ad]) Ja.R_ok qbz rfl rfl (LR.snoc (LR.snoc LR.nil (Ja.of (x := a) ⟨ao, aq, rfl, aT⟩)) (Ja.of (x := b) ⟨aC, aD, rfl, aS⟩)) rfl rfl rfl ?_ fun aU => ?_
 · conv => whnf
   refine cT (cT ?_)
   first | done | rfl
 refine qaj rfl rfl (cT (cT (cT (cT ?_))))
 refine qaa r1 rfl ⟨rfl, rfl, (nl rfl), ?_⟩
 obtain rfl := si hm
 exact ro (qab r0 rfl (nl rfl) (en lr ⟨(some ⟨aU, 0, none⟩), 2, ([[.int .i64 a.Ab, str a.Ac, .slice ao a.Aa.length aq, .int .i64 a.Ad], [.int .i64 b.Ab, str b.Ac, .slice aC b.Aa.length aD, .int .i64 b.Ad]]), rfl, (fun _ => ⟨_, _, rfl⟩), (show LR Ja.R _ [[.int .i64 a.Ab, str a.Ac, .slice ao a.Aa.length aq, .int .i64 a.Ad], [.int .i64 b.Ab, str b.Ac, .slice aC b.Aa.length aD, .int .i64 b.Ad]] [a, b] from (LR.snoc (LR.snoc LR.nil (Ja.of (x := a) ⟨ao, aq, rfl, aT⟩)) (Ja.of (x := b) ⟨aC, aD, rfl, aS⟩))), rfl⟩ (sc [1,3] rfl)))

def Jbs (kind : Int) (text : Str) : Option (Bool) :=
  if decide (text = ([61, 61] : Str)) then
  some (decide (kind = 4))
  else
  if decide (text = ([33, 61] : Str)) then
  some (decide (kind = 4))
  else
  if decide (text = ([60] : Str)) then
  some (decide (kind = 4))
  else
  if decide (text = ([60, 61] : Str)) then
  some (decide (kind = 4))
  else
  if decide (text = ([115, 116, 97, 114, 116, 115] : Str)) then
  some (decide (kind = 1))
  else
  if decide (text = ([101, 110, 100, 115] : Str)) then
  some (decide (kind = 1))
  else
  if decide (text = ([99, 111, 110, 116, 97, 105, 110, 115] : Str)) then
  some (decide (kind = 1))
  else
  some false
theorem Jb6 {kind : Int} {text : Str} {K : Hp} {r : Bool}
    (hm : Jbs kind text = some r)  :
    Fn Tryz.prog 257 [.int .i64 kind, str text] K [] (fun v K' H' => v = .bool r ∧ H' = []) := by
 refine Fn.enter Tryz.func257 Tryz.call257 rfl fun F => ?_
 unfold Jbs at hm
 refine qal rfl ?_
 refine qaq (cs rfl rfl hm ?_ ?_) <;> intro w6 hm
 refine qac rfl (ct w6 (qaf ?_))
 exact eE hm
 refine qaq (cs rfl rfl hm ?_ ?_) <;> intro w6 hm
 refine qac rfl (ct w6 (qaf ?_))
 exact eE hm
 refine qaq (cs rfl rfl hm ?_ ?_) <;> intro w6 hm
 refine qac rfl (ct w6 (qaf ?_))
 exact eE hm
 refine qaq (cs rfl rfl hm ?_ ?_) <;> intro w6 hm
 refine qaf ?_
 exact eE hm
 refine qaq (cs rfl rfl hm ?_ ?_) <;> intro aS hm
 refine qac rfl (ct aS (qaf ?_))
 exact eE hm
 refine qaq (cs rfl rfl hm ?_ ?_) <;> intro aS hm
 refine qac rfl (ct aS (qaf ?_))
 exact eE hm
 refine qaq (cs rfl rfl hm ?_ ?_) <;> intro aS hm
 refine qaf ?_
 exact eE hm
 exact eE hm

def J7 (aj : (Jb → Option (Ja × Jb))) : Nat → (List Ja) → Jb → Option ((List Ja) × Jb)
  | 0, _, _ => none
  | aU + 1, ac, aS =>
    (Jt aS).bind fun x9 =>
    if x9 then
    (aj aS).bind fun al =>
    (chk (ac.length + [al.1].length ≤ lim)).bind fun _ =>
    (Jt al.2).bind fun aW =>
    if (!aW) then
    some ((ac ++ [al.1]), al.2)
    else
    (Jz al.2 4 ([44] : Str)).bind fun aV =>
    if aV then
    (Jp al.2).bind fun aX =>
    J7 aj aU (ac ++ [al.1]) aX.2
    else
    (JE al.2 ([41] : Str)).bind fun aT =>
    some ((ac ++ [al.1]), aT)
    else
    some (ac, aS)
def Jbl (aj : (Jb → Option (Ja × Jb))) (n : Nat) (p : Jb) : Option ((List Ja) × Jb) :=
  (Jz p 4 ([41] : Str)).bind fun x5 =>
  if x5 then
  (Jp p).bind fun x7 =>
  some ([], x7.2)
  else
  (J7 aj n [] p).bind fun t0 =>
  some (t0.1, t0.2)
theorem JcX {aj : (Jb → Option (Ja × Jb))} (ihrec0_0 : ∀ {p : Jb} {b0 : Nat} {aa : Option Addr} {ab : Nat} {K : Hp} {r : Ja × Jb} (hm : aj p = some r) (hX : (0 < p.list.length → Has aa) ∧ GG K), Fn Tryz.prog 236 [.pointer (some ⟨b0, 0, none⟩)] K [Cells b0 163 [.slice aa p.list.length ab, .int .i64 p.atZ, .int .i64 p.line], qau Je.enc aa 166 4 ab p.list] (fun v K' H' => ∃ ar_0 : Option Addr, ∃ cr_0 : Nat, ∃ sr_0 : List (List Value), ∃ ar_1 : Option Addr, ∃ cr_1 : Nat, v = .agg #[.int .i64 r.1.Ab, str r.1.Ac, .slice ar_0 r.1.Aa.length cr_0, .int .i64 r.1.Ad] ∧ (0 < r.1.Aa.length → Has ar_0) ∧ LR Ja.R K' sr_0 r.1.Aa ∧ (0 < r.2.list.length → Has ar_1) ∧ H' = [OwnA ar_0 117 4 cr_0 sr_0, Cells b0 163 [.slice ar_1 r.2.list.length cr_1, .int .i64 r.2.atZ, .int .i64 r.2.line], qau Je.enc ar_1 166 4 cr_1 r.2.list])) {n : Nat} {p : Jb} {b0 : Nat} {aa : Option Addr} {ab : Nat} {K : Hp} {r : (List Ja) × Jb}
    (hm : Jbl aj n p = some r) (hX : (0 < p.list.length → Has aa) ∧ GG K) :
    Fn Tryz.prog 276 [.pointer (some ⟨b0, 0, none⟩)] K [Cells b0 163 [.slice aa p.list.length ab, .int .i64 p.atZ, .int .i64 p.line], qau Je.enc aa 166 4 ab p.list] (fun v K' H' => ∃ ar_0 : Option Addr, ∃ cr_0 : Nat, ∃ sr_0 : List (List Value), ∃ ar_1 : Option Addr, ∃ cr_1 : Nat, v = .slice ar_0 r.1.length cr_0 ∧ (0 < r.1.length → Has ar_0) ∧ LR Ja.R K' sr_0 r.1 ∧ (0 < r.2.list.length → Has ar_1) ∧ H' = [OwnA ar_0 117 4 cr_0 sr_0, Cells b0 163 [.slice ar_1 r.2.list.length cr_1, .int .i64 r.2.atZ, .int .i64 r.2.line], qau Je.enc ar_1 166 4 cr_1 r.2.list]) := by
 obtain ⟨ae, hG⟩ := hX
 refine Fn.enter Tryz.func276 Tryz.call276 rfl fun F => ?_
 unfold Jbl at hm
 refine cb hm fun x5 q5 hm => cgx (Jv q5 :) ?_
 refine cs rfl rfl hm ?_ ?_ <;> intro w5 hm
 refine cb hm fun x7 q7 hm => ckx (Jm q7 :) ?_
 rintro _ _ _ ⟨bS, bN, rfl, bR, rfl⟩
 refine qcg (fun _ : Ja => []) 117 4 ?_
 exact eE hm
 obtain ⟨s0, aU, hm⟩ := bnd hm
 refine qgy (fun _ : Ja => []) 117 4 ?_
 refine lC (σ := ((List Ja) × Jb) × Option Addr × Nat × List (List Value) × Option Addr × Nat) ([3] ++ rg 8 16) [3] (fun _ => []) (fun (t0, aV, ba, aW, aS, aT) => [(3, .slice aV t0.1.length ba)]) (fun (t0, aV, ba, aW, aS, aT) => [OwnA aV 117 4 ba aW, Cells b0 163 [.slice aS t0.2.list.length aT, .int .i64 t0.2.atZ, .int .i64 t0.2.line], qau Je.enc aS 166 4 aT t0.2.list]) (fun zz K1 => match zz with | (t0, aV, ba, aW, aS, aT) => LR Ja.R K1 aW t0.1 ∧ (0 < t0.1.length → Has aV) ∧ (0 < t0.2.list.length → Has aS)) (fun i0 (t0, aV, ba, aW, aS, aT) => J7 aj i0 t0.1 t0.2 = some s0) (fun (t0, aV, ba, aW, aS, aT) => t0 = s0) (fun i0 => i0) n ((_, _), _, _, _, _, _) aU (And.intro qe (And.intro ?_ ?_))
 clear aU
 rintro i0 ⟨⟨ac, bJ⟩, bv, br, bF, bj, bl⟩ bY cr ⟨bc, bm, bg⟩ aU j0
 dsimp only at aU ⊢
 cases i0 with
 | zero => rw [J7.eq_1] at aU; cases aU
 | succ i0 =>
  rw [J7.eq_2] at aU
  refine cb aU fun x9 q9 aU => cgx (Js q9 :) ?_
  refine cs rfl rfl aU ?_ ?_ <;> intro w9 aU
  refine qal rfl ?_
  refine cb aU fun al bK aU => cfx (ihrec0_0 bK :) ?_
  rintro _ bU _ bQ ⟨aY, aX, bC, bn, bt, rfl, bo, bd, bH, rfl⟩
  refine qlb Ja.R_ok r0 bd fun bf bb aZ => ?_
  refine qji (R := Ja.R) (len := 1) (l := [al.1]) (css := [[.int .i64 al.1.Ab, str al.1.Ac, .slice aY al.1.Aa.length aX, .int .i64 al.1.Ad]]) (cl := [.int .i64 al.1.Ab, str al.1.Ac, .slice aY al.1.Aa.length aX, .int .i64 al.1.Ad]) Ja.R_ok qbz rfl rfl (LR.snoc LR.nil (Ja.of (x := al.1) ⟨aY, aX, rfl, aZ⟩)) rfl rfl rfl ?_ fun bV => ?_
  · conv => whnf
    refine cT ?_
    first | done | rfl
  obtain ⟨bI, aU⟩ := qax aU
  refine qph r3 (LR.mono Ja.R_ok (bQ.trans bb) bc) rfl qbz (qc8 rfl r0 rfl Ja.R_ok (show LR Ja.R _ [[.int .i64 al.1.Ab, str al.1.Ac, .slice aY al.1.Aa.length aX, .int .i64 al.1.Ad]] [al.1] from (LR.snoc LR.nil (Ja.of (x := al.1) ⟨aY, aX, rfl, aZ⟩)))) (show LR Ja.R _ [[.int .i64 al.1.Ab, str al.1.Ac, .slice aY al.1.Aa.length aX, .int .i64 al.1.Ad]] [al.1] from (LR.snoc LR.nil (Ja.of (x := al.1) ⟨aY, aX, rfl, aZ⟩))) bI ?_
  intro bX bW co r_14 cm
  refine cb aU fun cu bP aU => cgx (Js bP :) ?_
  refine qaw ?_
  refine cs rfl rfl aU ?_ ?_ <;> intro cn aU
  refine cF (cT ?_)
  exact eM aU (_, _, _, _, _, _)
  refine cb aU fun cj bL aU => cgx (Jv bL :) ?_
  refine cs rfl rfl aU ?_ ?_ <;> intro cw aU
  refine cb aU fun bZ bM aU => ckx (Jm bM :) ?_
  rintro _ _ _ ⟨bB, bG, rfl, bw, rfl⟩
  refine cT ?_
  exact eR aU (_, (_, _), _, _, _, _, _)
  refine cb aU fun ca bO aU => ckx (JD bO :) ?_
  rintro _ _ _ ⟨bu, bp, rfl, bD, rfl⟩
  refine cF (cT ?_)
  exact eM aU (_, _, _, _, _, _)
  refine cT ?_
  exact eM aU (_, _, _, _, _, _)
 rintro ⟨t0, aV, ba, aW, aS, aT⟩ ce bT ⟨bA, bz, bh⟩ rfl j0
 exact eE hm

def Jbp (aj : (Jb → Option (Ja × Jb))) (n : Nat) (p : Jb) : Option (Ja × Jb) :=
  (JI p).bind fun x6 =>
  if decide (x6.Ab = 2) then
  (Jp p).bind fun aZ =>
  some ((⟨20, x6.Ac, [], x6.Ad⟩ : Ja), aZ.2)
  else
  if decide (x6.Ab = 3) then
  (Jp p).bind fun bg =>
  some ((⟨21, x6.Ac, [], x6.Ad⟩ : Ja), bg.2)
  else
  (Jz p 1 ([116, 114, 117, 101] : Str)).bind fun bc =>
  if bc then
  (Jp p).bind fun aU =>
  some ((⟨22, x6.Ac, [], x6.Ad⟩ : Ja), aU.2)
  else
  (Jz p 1 ([102, 97, 108, 115, 101] : Str)).bind fun bb =>
  if bb then
  (Jp p).bind fun aU =>
  some ((⟨22, x6.Ac, [], x6.Ad⟩ : Ja), aU.2)
  else
  (if decide (x6.Ab = 1) then (JbW x6.Ac).bind fun bl =>
  some (!bl) else some false).bind fun aV =>
  if aV then
  (Jp p).bind fun aT =>
  (Jz aT.2 4 ([40] : Str)).bind fun bd =>
  if bd then
  (Jp aT.2).bind fun aY =>
  (Jbl aj n aY.2).bind fun aW =>
  some ((⟨24, x6.Ac, aW.1, x6.Ad⟩ : Ja), aW.2)
  else
  some ((⟨23, x6.Ac, [], x6.Ad⟩ : Ja), aT.2)
  else
  (Jz p 4 ([40] : Str)).bind fun bf =>
  if bf then
  (Jp p).bind fun bh =>
  (aj bh.2).bind fun aS =>
  (Jt aS.2).bind fun aX =>
  if aX then
  (JE aS.2 ([41] : Str)).bind fun ba =>
  some (aS.1, ba)
  else
  some (aS.1, aS.2)
  else
  (JY p).bind fun bj =>
  some ((⟨0, x6.Ac, [], x6.Ad⟩ : Ja), bj)
theorem Jcq {aj : (Jb → Option (Ja × Jb))} (ihrec0_0 : ∀ {p : Jb} {b0 : Nat} {aa : Option Addr} {ab : Nat} {K : Hp} {r : Ja × Jb} (hm : aj p = some r) (hX : (0 < p.list.length → Has aa) ∧ GG K), Fn Tryz.prog 236 [.pointer (some ⟨b0, 0, none⟩)] K [Cells b0 163 [.slice aa p.list.length ab, .int .i64 p.atZ, .int .i64 p.line], qau Je.enc aa 166 4 ab p.list] (fun v K' H' => ∃ ar_0 : Option Addr, ∃ cr_0 : Nat, ∃ sr_0 : List (List Value), ∃ ar_1 : Option Addr, ∃ cr_1 : Nat, v = .agg #[.int .i64 r.1.Ab, str r.1.Ac, .slice ar_0 r.1.Aa.length cr_0, .int .i64 r.1.Ad] ∧ (0 < r.1.Aa.length → Has ar_0) ∧ LR Ja.R K' sr_0 r.1.Aa ∧ (0 < r.2.list.length → Has ar_1) ∧ H' = [OwnA ar_0 117 4 cr_0 sr_0, Cells b0 163 [.slice ar_1 r.2.list.length cr_1, .int .i64 r.2.atZ, .int .i64 r.2.line], qau Je.enc ar_1 166 4 cr_1 r.2.list])) {n : Nat} {p : Jb} {b0 : Nat} {aa : Option Addr} {ab : Nat} {K : Hp} {r : Ja × Jb}
    (hm : Jbp aj n p = some r) (hX : (0 < p.list.length → Has aa) ∧ GG K) :
    Fn Tryz.prog 275 [.pointer (some ⟨b0, 0, none⟩)] K [Cells b0 163 [.slice aa p.list.length ab, .int .i64 p.atZ, .int .i64 p.line], qau Je.enc aa 166 4 ab p.list] (fun v K' H' => ∃ ar_0 : Option Addr, ∃ cr_0 : Nat, ∃ sr_0 : List (List Value), ∃ ar_1 : Option Addr, ∃ cr_1 : Nat, v = .agg #[.int .i64 r.1.Ab, str r.1.Ac, .slice ar_0 r.1.Aa.length cr_0, .int .i64 r.1.Ad] ∧ (0 < r.1.Aa.length → Has ar_0) ∧ LR Ja.R K' sr_0 r.1.Aa ∧ (0 < r.2.list.length → Has ar_1) ∧ H' = [OwnA ar_0 117 4 cr_0 sr_0, Cells b0 163 [.slice ar_1 r.2.list.length cr_1, .int .i64 r.2.atZ, .int .i64 r.2.line], qau Je.enc ar_1 166 4 cr_1 r.2.list]) := by
 obtain ⟨ae, hG⟩ := hX
 refine Fn.enter Tryz.func275 Tryz.call275 rfl fun F => ?_
 unfold Jbp at hm
 refine qai rfl fun b2 => ?_
 refine cb hm fun x6 q6 hm => cgx (JH q6 :) ?_
 refine qai rfl fun b3 => ?_
 refine qaa r0 rfl ⟨rfl, rfl, (nl rfl), ?_⟩
 refine fa rfl (ro (ld r0 rfl rfl (fa rfl (ro (ld r0 rfl rfl (qaj rfl rfl (cT (cT ?_))))))))
 refine qai rfl fun b4 => ?_
 refine qaa r0 rfl ⟨rfl, rfl, (nl rfl), ?_⟩
 refine qal rfl ?_
 refine fa rfl (ro (ld r1 rfl rfl (qaf ?_)))
 refine cs rfl rfl hm ?_ ?_ <;> intro cG hm
 refine fa rfl ?_
 refine qaa r0 rfl ⟨rfl, rfl, (nl rfl), ?_⟩
 refine cb hm fun cO bX hm => ckx (Jm bX :) ?_
 rintro _ _ _ ⟨bw, bI, rfl, bN, rfl⟩
 refine ro (qab r2 rfl (nl rfl) ?_)
 refine qaa r4 rfl ⟨rfl, rfl, (nl rfl), ?_⟩
 refine ro (qab r0 rfl (nl rfl) ?_)
 refine qcg (fun _ : Ja => []) 117 4 ?_
 exact eE hm
 refine fa rfl (ro (ld r1 rfl rfl (qaf ?_)))
 refine cs rfl rfl hm ?_ ?_ <;> intro cE hm
 refine fa rfl ?_
 refine qaa r0 rfl ⟨rfl, rfl, (nl rfl), ?_⟩
 refine cb hm fun cJ cy hm => ckx (Jm cy :) ?_
 rintro _ _ _ ⟨bo, br, rfl, bL, rfl⟩
 refine ro (qab r2 rfl (nl rfl) ?_)
 refine qaa r4 rfl ⟨rfl, rfl, (nl rfl), ?_⟩
 refine ro (qab r0 rfl (nl rfl) ?_)
 refine qcg (fun _ : Ja => []) 117 4 ?_
 exact eE hm
 refine cb hm fun cR ce hm => cgx (Jv ce :) ?_
 refine cs rfl rfl hm ?_ ?_ <;> intro bv hm
 refine qac rfl (ct bv (fa rfl ?_))
 refine qaa r2 rfl ⟨rfl, rfl, (nl rfl), ?_⟩
 refine cb hm fun cj aZ hm => ckx (Jm aZ :) ?_
 rintro _ _ _ ⟨aY, aX, rfl, aW, rfl⟩
 refine ro (qab r2 rfl (nl rfl) ?_)
 refine qaa r4 rfl ⟨rfl, rfl, (nl rfl), ?_⟩
 refine ro (qab r0 rfl (nl rfl) ?_)
 refine qcg (fun _ : Ja => []) 117 4 ?_
 exact eE hm
 refine cb hm fun cZ co hm => cgx (Jv co :) ?_
 refine cs rfl rfl hm ?_ ?_ <;> intro bv hm
 refine fa rfl ?_
 refine qaa r2 rfl ⟨rfl, rfl, (nl rfl), ?_⟩
 refine cb hm fun cj aZ hm => ckx (Jm aZ :) ?_
 rintro _ _ _ ⟨aY, aX, rfl, aW, rfl⟩
 refine ro (qab r2 rfl (nl rfl) ?_)
 refine qaa r4 rfl ⟨rfl, rfl, (nl rfl), ?_⟩
 refine ro (qab r0 rfl (nl rfl) ?_)
 refine qcg (fun _ : Ja => []) 117 4 ?_
 exact eE hm
 obtain ⟨ba, aT, hm⟩ := bnd hm
 refine jR (σ := Bool) (rg 36 10) (fun aU => [(36, .bool aU)]) (fun aU => aU = ba) ?_ ?_
 replace aT := bsm aT
 refine qah rfl ?_
 refine fa rfl (ro (ld r3 rfl rfl (qaf ?_)))
 obtain ⟨cM, aV, aT⟩ := bnd aT
 refine cS aV (fun aS aV => ?_) fun aS aV => ?_
 refine fa rfl (ct aS (ro (ld r3 rfl rfl (ct aS ?_))))
 refine cb aV fun dc cu aV => cgx (Jcp cu :) ?_
 refine ct aS (qaw (ct aS ?_))
 exact eMq aT _ ⟨bq (si aV), trivial⟩
 refine cf aS (cf aS (cf aS (cf aS ?_)))
 exact eMq aT _ ⟨bq (si aV), trivial⟩
 rintro aU rfl ca
 refine cs rfl rfl hm ?_ ?_ <;> intro cX hm
 refine fa rfl ?_
 refine qaa r2 rfl ⟨rfl, rfl, (nl rfl), ?_⟩
 refine cb hm fun df cw hm => ckx (Jm cw :) ?_
 rintro _ _ _ ⟨bC, bl, rfl, bg, rfl⟩
 refine cb hm fun cI cm hm => cgx (Jv cm :) ?_
 refine cs rfl rfl hm ?_ ?_ <;> intro cL hm
 refine cb hm fun cN cA hm => ckx (Jm cA :) ?_
 rintro _ _ _ ⟨bd, bf, rfl, bA, rfl⟩
 refine fa rfl ?_
 refine qaa r2 rfl ⟨rfl, rfl, (nl rfl), ?_⟩
 refine cb hm fun cU bY hm => cfx (JcX ihrec0_0 bY :) ?_
 rintro _ cK _ cD ⟨bM, bj, bc, bB, bG, rfl, bH, bJ, bz, rfl⟩
 refine fa rfl ?_
 refine qaa r3 rfl ⟨rfl, rfl, (nl rfl), ?_⟩
 refine ro (qab r0 rfl (nl rfl) ?_)
 refine qaa r5 rfl ⟨rfl, rfl, (nl rfl), ?_⟩
 exact ro (qab r0 rfl (nl rfl) (eE hm))
 refine ro (qab r2 rfl (nl rfl) ?_)
 refine qaa r4 rfl ⟨rfl, rfl, (nl rfl), ?_⟩
 refine ro (qab r0 rfl (nl rfl) ?_)
 refine qcg (fun _ : Ja => []) 117 4 ?_
 exact eE hm
 refine cb hm fun cC bW hm => cgx (Jv bW :) ?_
 refine cs rfl rfl hm ?_ ?_ <;> intro cP hm
 refine cb hm fun cV cz hm => ckx (Jm cz :) ?_
 rintro _ _ _ ⟨bt, bh, rfl, bn, rfl⟩
 refine cb hm fun cB cr hm => cfx (ihrec0_0 cr :) ?_
 rintro _ dg _ de ⟨bu, bb, bU, bO, bD, rfl, bp, bm, bR, rfl⟩
 refine qaa r3 rfl ⟨rfl, rfl, (nl rfl), ?_⟩
 refine cb hm fun cW cn hm => cgx (Js cn :) ?_
 refine cs rfl rfl hm ?_ ?_ <;> intro cQ hm
 refine cb hm fun cY bV hm => ckx (JD bV :) ?_
 rintro _ _ _ ⟨bP, bK, rfl, bF, rfl⟩
 refine ro (qab r2 rfl (nl rfl) ?_)
 refine qaa r5 rfl ⟨rfl, rfl, (nl rfl), ?_⟩
 exact ro (qab r0 rfl (nl rfl) (eE hm))
 refine ro (qab r2 rfl (nl rfl) ?_)
 refine qaa r5 rfl ⟨rfl, rfl, (nl rfl), ?_⟩
 exact ro (qab r0 rfl (nl rfl) (eE hm))
 refine cb hm fun cH bZ hm => ckx (J2 bZ :) ?_
 rintro _ _ _ ⟨bT, bS, rfl, bQ, rfl⟩
 refine ro (qab r2 rfl (nl rfl) ?_)
 refine qaa r4 rfl ⟨rfl, rfl, (nl rfl), ?_⟩
 refine ro (qab r0 rfl (nl rfl) ?_)
 refine qcg (fun _ : Ja => []) 117 4 ?_
 exact eE hm

def Jat (aj : (Jb → Option (Ja × Jb))) (n : Nat) : Nat → Ja → Jb → Option (Ja × Jb)
  | 0, _, _ => none
  | aV + 1, ac, aS =>
    (Jt aS).bind fun x7 =>
    (if x7 then (Jz aS 4 ([42] : Str)).bind fun aU =>
    some aU else some false).bind fun aW =>
    if aW then
    (Jp aS).bind fun aY =>
    (Jbp aj n aY.2).bind fun aT =>
    (JaN 19 ([] : Str) ac aT.1).bind fun aX =>
    Jat aj n aV aX aT.2
    else
    some (ac, aS)
def JaT (aj : (Jb → Option (Ja × Jb))) (n : Nat) (p : Jb) : Option (Ja × Jb) :=
  (Jbp aj n p).bind fun x5 =>
  (Jat aj n n x5.1 x5.2).bind fun t0 =>
  some (t0.1, t0.2)
theorem JbB {aj : (Jb → Option (Ja × Jb))} (ihrec0_0 : ∀ {p : Jb} {b0 : Nat} {aa : Option Addr} {ab : Nat} {K : Hp} {r : Ja × Jb} (hm : aj p = some r) (hX : (0 < p.list.length → Has aa) ∧ GG K), Fn Tryz.prog 236 [.pointer (some ⟨b0, 0, none⟩)] K [Cells b0 163 [.slice aa p.list.length ab, .int .i64 p.atZ, .int .i64 p.line], qau Je.enc aa 166 4 ab p.list] (fun v K' H' => ∃ ar_0 : Option Addr, ∃ cr_0 : Nat, ∃ sr_0 : List (List Value), ∃ ar_1 : Option Addr, ∃ cr_1 : Nat, v = .agg #[.int .i64 r.1.Ab, str r.1.Ac, .slice ar_0 r.1.Aa.length cr_0, .int .i64 r.1.Ad] ∧ (0 < r.1.Aa.length → Has ar_0) ∧ LR Ja.R K' sr_0 r.1.Aa ∧ (0 < r.2.list.length → Has ar_1) ∧ H' = [OwnA ar_0 117 4 cr_0 sr_0, Cells b0 163 [.slice ar_1 r.2.list.length cr_1, .int .i64 r.2.atZ, .int .i64 r.2.line], qau Je.enc ar_1 166 4 cr_1 r.2.list])) {n : Nat} {p : Jb} {b0 : Nat} {aa : Option Addr} {ab : Nat} {K : Hp} {r : Ja × Jb}
    (hm : JaT aj n p = some r) (hX : (0 < p.list.length → Has aa) ∧ GG K) :
    Fn Tryz.prog 274 [.pointer (some ⟨b0, 0, none⟩)] K [Cells b0 163 [.slice aa p.list.length ab, .int .i64 p.atZ, .int .i64 p.line], qau Je.enc aa 166 4 ab p.list] (fun v K' H' => ∃ ar_0 : Option Addr, ∃ cr_0 : Nat, ∃ sr_0 : List (List Value), ∃ ar_1 : Option Addr, ∃ cr_1 : Nat, v = .agg #[.int .i64 r.1.Ab, str r.1.Ac, .slice ar_0 r.1.Aa.length cr_0, .int .i64 r.1.Ad] ∧ (0 < r.1.Aa.length → Has ar_0) ∧ LR Ja.R K' sr_0 r.1.Aa ∧ (0 < r.2.list.length → Has ar_1) ∧ H' = [OwnA ar_0 117 4 cr_0 sr_0, Cells b0 163 [.slice ar_1 r.2.list.length cr_1, .int .i64 r.2.atZ, .int .i64 r.2.line], qau Je.enc ar_1 166 4 cr_1 r.2.list]) := by
 obtain ⟨ae, hG⟩ := hX
 refine Fn.enter Tryz.func274 Tryz.call274 rfl fun F => ?_
 unfold JaT at hm
 refine qai rfl fun b2 => ?_
 refine cb hm fun x5 q5 hm => cfx (Jcq ihrec0_0 q5 :) ?_
 rintro _ K5 _ l5 ⟨bW, ca, bR, bY, cj, rfl, ce, bV, bU, rfl⟩
 refine qai rfl fun b3 => ?_
 refine qaa r0 rfl ⟨rfl, rfl, (nl rfl), ?_⟩
 obtain ⟨s0, aX, hm⟩ := bnd hm
 refine lC (σ := (Ja × Jb) × Option Addr × Nat × List (List Value) × Option Addr × Nat) (rg 6 12) [4, 5] (fun _ => []) (fun _ => []) (fun (t0, aT, aU, aV, aS, aW) => [Cells b3 117 [.int .i64 t0.1.Ab, str t0.1.Ac, .slice aT t0.1.Aa.length aU, .int .i64 t0.1.Ad], OwnA aT 117 4 aU aV, Cells b0 163 [.slice aS t0.2.list.length aW, .int .i64 t0.2.atZ, .int .i64 t0.2.line], qau Je.enc aS 166 4 aW t0.2.list]) (fun zz K1 => match zz with | (t0, aT, aU, aV, aS, aW) => (0 < t0.1.Aa.length → Has aT) ∧ LR Ja.R K1 aV t0.1.Aa ∧ (0 < t0.2.list.length → Has aS)) (fun i0 (t0, aT, aU, aV, aS, aW) => Jat aj n i0 t0.1 t0.2 = some s0) (fun (t0, aT, aU, aV, aS, aW) => t0 = s0) (fun i0 => i0) n ((_, _), _, _, _, _, _) aX (And.intro qe (And.intro ?_ ?_))
 clear aX
 rintro i0 ⟨⟨ac, bQ⟩, bp, bn, bt, bo, br⟩ co cD ⟨bv, ba, bl⟩ aX j0
 dsimp only at aX ⊢
 cases i0 with
 | zero => rw [Jat.eq_1] at aX; cases aX
 | succ i0 =>
  rw [Jat.eq_2] at aX
  refine qah rfl ?_
  refine cb aX fun x7 q7 aX => cgx (Js q7 :) ?_
  obtain ⟨cA, bb, aX⟩ := bnd aX
  refine cS bb (fun aZ bb => ?_) fun aZ bb => ?_
  refine ct aZ ?_
  refine cb bb fun cC cm bb => cgx (Jv cm :) ?_
  refine ct aZ (qac rfl ?_)
  refine qae ?_ ?_ <;> intro bz
  replace aX := ift ((si bb).symm.trans bz) aX
  refine qal rfl ?_
  refine cb aX fun cu bS aX => ckx (Jm bS :) ?_
  rintro _ _ _ ⟨bP, bO, rfl, bL, rfl⟩
  refine qa2 ⟨⟨[], false⟩, _, [(_, _)], []⟩ 3 rfl (by kernel_rfl) ⟨Hp.Le.refl _, (sc [2] rfl), ci0⟩ ?_
  refine qbx m0 rfl (nl rfl) ?_
  refine cb aX fun cE bT aX => cfx (Jcq ihrec0_0 bT :) ?_
  rintro _ cr _ bX ⟨bI, bA, bC, bB, bK, rfl, bH, bc, bD, rfl⟩
  refine qk (sc [3] rfl) ?_
  refine qjh Tryz.call254 Ja.R_ok r4 (LR.mono Ja.R_ok bX ba) fun bj aY bh => ?_
  refine qjh Tryz.call254 Ja.R_ok r0 (LR.mono Ja.R_ok aY bc) fun bg bf bd => ?_
  refine cb aX fun cy bZ aX => cfx (JaS bZ :) ?_
  rintro _ cB _ cw ⟨bF, bN, bG, rfl, bM, bJ, rfl⟩
  refine ⟨⟨Hp.emp_le _, (pf rfl), ci0⟩, ?_⟩
  refine qaa r3 rfl ⟨rfl, rfl, (nl rfl), ?_⟩
  refine ⟨⟨Hp.emp_le _, (pf rfl), ci0⟩, ?_⟩
  exact eR aX (_, (_, _), _, _, _, _, _)
  replace aX := qa7 ((si bb).symm.trans bz) aX
  refine cT ?_
  exact eM aX (_, _, _, _, _, _)
  refine cf aZ (cf aZ (qac rfl (cF ?_)))
  replace aX := qa7 (si bb).symm aX
  refine cT ?_
  exact eM aX (_, _, _, _, _, _)
 rintro ⟨t0, aT, aU, aV, aS, aW⟩ cz cn ⟨bw, bu, bm⟩ rfl j0
 refine ro (qab r0 rfl (nl rfl) ?_)
 refine qaa r4 rfl ⟨rfl, rfl, (nl rfl), ?_⟩
 exact ro (qab r0 rfl (nl rfl) (eE hm))

def Jah (aj : (Jb → Option (Ja × Jb))) (n : Nat) : Nat → Ja → Jb → Option (Fl (Ja × Jb) (Ja × Jb))
  | 0, _, _ => none
  | aV + 1, ac, aS =>
    (Jt aS).bind fun x7 =>
    if x7 then
    (Jz aS 4 ([43] : Str)).bind fun aZ =>
    if aZ then
    (Jp aS).bind fun bb =>
    (JaT aj n bb.2).bind fun aU =>
    (JaN 17 ([] : Str) ac aU.1).bind fun ba =>
    Jah aj n aV ba aU.2
    else
    (Jz aS 4 ([45] : Str)).bind fun aW =>
    if aW then
    (Jp aS).bind fun aY =>
    (JaT aj n aY.2).bind fun aT =>
    (JaN 18 ([] : Str) ac aT.1).bind fun aX =>
    Jah aj n aV aX aT.2
    else
    some (Fl.ret (ac, aS))
    else
    some (Fl.go (ac, aS))
def JbC (aj : (Jb → Option (Ja × Jb))) (n : Nat) (p : Jb) : Option (Ja × Jb) :=
  (JaT aj n p).bind fun x5 =>
  (Jah aj n n x5.1 x5.2).bind fun s0 => s0.el some fun t0 =>
  some (t0.1, t0.2)
theorem JcA {aj : (Jb → Option (Ja × Jb))} (ihrec0_0 : ∀ {p : Jb} {b0 : Nat} {aa : Option Addr} {ab : Nat} {K : Hp} {r : Ja × Jb} (hm : aj p = some r) (hX : (0 < p.list.length → Has aa) ∧ GG K), Fn Tryz.prog 236 [.pointer (some ⟨b0, 0, none⟩)] K [Cells b0 163 [.slice aa p.list.length ab, .int .i64 p.atZ, .int .i64 p.line], qau Je.enc aa 166 4 ab p.list] (fun v K' H' => ∃ ar_0 : Option Addr, ∃ cr_0 : Nat, ∃ sr_0 : List (List Value), ∃ ar_1 : Option Addr, ∃ cr_1 : Nat, v = .agg #[.int .i64 r.1.Ab, str r.1.Ac, .slice ar_0 r.1.Aa.length cr_0, .int .i64 r.1.Ad] ∧ (0 < r.1.Aa.length → Has ar_0) ∧ LR Ja.R K' sr_0 r.1.Aa ∧ (0 < r.2.list.length → Has ar_1) ∧ H' = [OwnA ar_0 117 4 cr_0 sr_0, Cells b0 163 [.slice ar_1 r.2.list.length cr_1, .int .i64 r.2.atZ, .int .i64 r.2.line], qau Je.enc ar_1 166 4 cr_1 r.2.list])) {n : Nat} {p : Jb} {b0 : Nat} {aa : Option Addr} {ab : Nat} {K : Hp} {r : Ja × Jb}
    (hm : JbC aj n p = some r) (hX : (0 < p.list.length → Has aa) ∧ GG K) :
    Fn Tryz.prog 271 [.pointer (some ⟨b0, 0, none⟩)] K [Cells b0 163 [.slice aa p.list.length ab, .int .i64 p.atZ, .int .i64 p.line], qau Je.enc aa 166 4 ab p.list] (fun v K' H' => ∃ ar_0 : Option Addr, ∃ cr_0 : Nat, ∃ sr_0 : List (List Value), ∃ ar_1 : Option Addr, ∃ cr_1 : Nat, v = .agg #[.int .i64 r.1.Ab, str r.1.Ac, .slice ar_0 r.1.Aa.length cr_0, .int .i64 r.1.Ad] ∧ (0 < r.1.Aa.length → Has ar_0) ∧ LR Ja.R K' sr_0 r.1.Aa ∧ (0 < r.2.list.length → Has ar_1) ∧ H' = [OwnA ar_0 117 4 cr_0 sr_0, Cells b0 163 [.slice ar_1 r.2.list.length cr_1, .int .i64 r.2.atZ, .int .i64 r.2.line], qau Je.enc ar_1 166 4 cr_1 r.2.list]) := by
 obtain ⟨ae, hG⟩ := hX
 refine Fn.enter Tryz.func271 Tryz.call271 rfl fun F => ?_
 unfold JbC at hm
 refine qai rfl fun b2 => ?_
 refine cb hm fun x5 q5 hm => cfx (JbB ihrec0_0 q5 :) ?_
 rintro _ K5 _ l5 ⟨cH, cN, cz, cK, cP, rfl, cO, cE, cD, rfl⟩
 refine qai rfl fun b3 => ?_
 refine qaa r0 rfl ⟨rfl, rfl, (nl rfl), ?_⟩
 obtain ⟨s0, aU, hm⟩ := bnd hm
 refine lC (σ := (Ja × Jb) × Option Addr × Nat × List (List Value) × Option Addr × Nat) (rg 6 21) [4, 5] (fun _ => []) (fun _ => []) (fun (t0, aT, aV, aW, aS, aX) => [Cells b3 117 [.int .i64 t0.1.Ab, str t0.1.Ac, .slice aT t0.1.Aa.length aV, .int .i64 t0.1.Ad], OwnA aT 117 4 aV aW, Cells b0 163 [.slice aS t0.2.list.length aX, .int .i64 t0.2.atZ, .int .i64 t0.2.line], qau Je.enc aS 166 4 aX t0.2.list]) (fun zz K1 => match zz with | (t0, aT, aV, aW, aS, aX) => (0 < t0.1.Aa.length → Has aT) ∧ LR Ja.R K1 aW t0.1.Aa ∧ (0 < t0.2.list.length → Has aS)) (fun i0 (t0, aT, aV, aW, aS, aX) => Jah aj n i0 t0.1 t0.2 = some s0) (fun (t0, aT, aV, aW, aS, aX) => s0 = Fl.go t0) (fun i0 => i0) n ((_, _), _, _, _, _, _) aU (And.intro qe (And.intro ?_ ?_))
 clear aU
 rintro i0 ⟨⟨ac, cy⟩, bw, bu, bA, bv, bz⟩ cW dp ⟨bC, aY, br⟩ aU j0
 dsimp only at aU ⊢
 cases i0 with
 | zero => rw [Jah.eq_1] at aU; cases aU
 | succ i0 =>
  rw [Jah.eq_2] at aU
  refine cb aU fun x7 q7 aU => cgx (Js q7 :) ?_
  refine cs rfl rfl aU ?_ ?_ <;> intro w7 aU
  refine qal rfl ?_
  refine qal rfl ?_
  refine cb aU fun di cM aU => cgx (Jv cM :) ?_
  refine cs rfl rfl aU ?_ ?_ <;> intro w9 aU
  refine cb aU fun dc cB aU => ckx (Jm cB :) ?_
  rintro _ _ _ ⟨cw, cu, rfl, cn, rfl⟩
  refine qa2 ⟨⟨[], false⟩, _, [(_, _)], []⟩ 3 rfl (by kernel_rfl) ⟨Hp.Le.refl _, (sc [2] rfl), ci0⟩ ?_
  refine qbx m0 rfl (nl rfl) ?_
  refine cb aU fun dq cC aU => cfx (JbB ihrec0_0 cC :) ?_
  rintro _ cZ _ cI ⟨bX, bH, bL, bJ, ce, rfl, bT, bc, bP, rfl⟩
  refine qk (sc [3] rfl) ?_
  refine qjh Tryz.call254 Ja.R_ok r4 (LR.mono Ja.R_ok cI aY) fun bp aZ bo => ?_
  refine qjh Tryz.call254 Ja.R_ok r0 (LR.mono Ja.R_ok aZ bc) fun bl bh bg => ?_
  refine cb aU fun df cL aU => cfx (JaS cL :) ?_
  rintro _ dn _ de ⟨bQ, cr, bS, rfl, co, bZ, rfl⟩
  refine ⟨⟨Hp.emp_le _, (pf rfl), ci0⟩, ?_⟩
  refine qaa r3 rfl ⟨rfl, rfl, (nl rfl), ?_⟩
  refine ⟨⟨Hp.emp_le _, (pf rfl), ci0⟩, ?_⟩
  exact eR aU (_, (_, _), _, _, _, _, _)
  refine cb aU fun dj cA aU => cgx (Jv cA :) ?_
  refine cs rfl rfl aU ?_ ?_ <;> intro dt aU
  refine cb aU fun dm cG aU => ckx (Jm cG :) ?_
  rintro _ _ _ ⟨cj, bI, rfl, bR, rfl⟩
  refine qa2 ⟨⟨[], false⟩, _, [(_, _)], []⟩ 3 rfl (by kernel_rfl) ⟨Hp.Le.refl _, (sc [2] rfl), ci0⟩ ?_
  refine qbx m0 rfl (nl rfl) ?_
  refine cb aU fun dk cR aU => cfx (JbB ihrec0_0 cR :) ?_
  rintro _ cX _ cQ ⟨bW, bU, bM, bF, bK, rfl, bY, bf, ca, rfl⟩
  refine qk (sc [3] rfl) ?_
  refine qjh Tryz.call254 Ja.R_ok r4 (LR.mono Ja.R_ok cQ aY) fun bn ba bb => ?_
  refine qjh Tryz.call254 Ja.R_ok r0 (LR.mono Ja.R_ok ba bf) fun bm bj bd => ?_
  refine cb aU fun cY cJ aU => cfx (JaS cJ :) ?_
  rintro _ cV _ dg ⟨bV, bO, bN, rfl, cm, bG, rfl⟩
  refine ⟨⟨Hp.emp_le _, (pf rfl), ci0⟩, ?_⟩
  refine qaa r3 rfl ⟨rfl, rfl, (nl rfl), ?_⟩
  refine ⟨⟨Hp.emp_le _, (pf rfl), ci0⟩, ?_⟩
  exact eR aU (_, (_, _), _, _, _, _, _)
  refine ro (qab r2 rfl (nl rfl) ?_)
  refine qaa r4 rfl ⟨rfl, rfl, (nl rfl), ?_⟩
  exact ro (qab r0 rfl (nl rfl) (eE (er aU hm)))
  refine cT ?_
  exact eM aU (_, _, _, _, _, _)
 rintro ⟨t0, aT, aV, aW, aS, aX⟩ dh cU ⟨bD, bB, bt⟩ rfl j0
 replace hm := elg hm
 refine ro (qab r0 rfl (nl rfl) ?_)
 refine qaa r4 rfl ⟨rfl, rfl, (nl rfl), ?_⟩
 exact ro (qab r0 rfl (nl rfl) (eE hm))

def Jb7 (aj : (Jb → Option (Ja × Jb))) (n : Nat) (p : Jb) : Option (Ja × Jb) :=
  (JbC aj n p).bind fun x6 =>
  (JI x6.2).bind fun x8 =>
  (Jt x6.2).bind fun aT =>
  (if aT then (Jbs x8.Ab x8.Ac).bind fun aW =>
  some aW else some false).bind fun aX =>
  if aX then
  (Jp x6.2).bind fun aV =>
  (JbC aj n aV.2).bind fun aS =>
  (JaN 16 x8.Ac x6.1 aS.1).bind fun aU =>
  some (aU, aS.2)
  else
  some (x6.1, x6.2)
theorem Jdo {aj : (Jb → Option (Ja × Jb))} (ihrec0_0 : ∀ {p : Jb} {b0 : Nat} {aa : Option Addr} {ab : Nat} {K : Hp} {r : Ja × Jb} (hm : aj p = some r) (hX : (0 < p.list.length → Has aa) ∧ GG K), Fn Tryz.prog 236 [.pointer (some ⟨b0, 0, none⟩)] K [Cells b0 163 [.slice aa p.list.length ab, .int .i64 p.atZ, .int .i64 p.line], qau Je.enc aa 166 4 ab p.list] (fun v K' H' => ∃ ar_0 : Option Addr, ∃ cr_0 : Nat, ∃ sr_0 : List (List Value), ∃ ar_1 : Option Addr, ∃ cr_1 : Nat, v = .agg #[.int .i64 r.1.Ab, str r.1.Ac, .slice ar_0 r.1.Aa.length cr_0, .int .i64 r.1.Ad] ∧ (0 < r.1.Aa.length → Has ar_0) ∧ LR Ja.R K' sr_0 r.1.Aa ∧ (0 < r.2.list.length → Has ar_1) ∧ H' = [OwnA ar_0 117 4 cr_0 sr_0, Cells b0 163 [.slice ar_1 r.2.list.length cr_1, .int .i64 r.2.atZ, .int .i64 r.2.line], qau Je.enc ar_1 166 4 cr_1 r.2.list])) {n : Nat} {p : Jb} {b0 : Nat} {aa : Option Addr} {ab : Nat} {K : Hp} {r : Ja × Jb}
    (hm : Jb7 aj n p = some r) (hX : (0 < p.list.length → Has aa) ∧ GG K) :
    Fn Tryz.prog 267 [.pointer (some ⟨b0, 0, none⟩)] K [Cells b0 163 [.slice aa p.list.length ab, .int .i64 p.atZ, .int .i64 p.line], qau Je.enc aa 166 4 ab p.list] (fun v K' H' => ∃ ar_0 : Option Addr, ∃ cr_0 : Nat, ∃ sr_0 : List (List Value), ∃ ar_1 : Option Addr, ∃ cr_1 : Nat, v = .agg #[.int .i64 r.1.Ab, str r.1.Ac, .slice ar_0 r.1.Aa.length cr_0, .int .i64 r.1.Ad] ∧ (0 < r.1.Aa.length → Has ar_0) ∧ LR Ja.R K' sr_0 r.1.Aa ∧ (0 < r.2.list.length → Has ar_1) ∧ H' = [OwnA ar_0 117 4 cr_0 sr_0, Cells b0 163 [.slice ar_1 r.2.list.length cr_1, .int .i64 r.2.atZ, .int .i64 r.2.line], qau Je.enc ar_1 166 4 cr_1 r.2.list]) := by
 obtain ⟨ae, hG⟩ := hX
 refine Fn.enter Tryz.func267 Tryz.call267 rfl fun F => ?_
 unfold Jb7 at hm
 refine qai rfl fun b2 => ?_
 refine cb hm fun x6 q6 hm => cfx (JcA ihrec0_0 q6 :) ?_
 rintro _ K6 _ l6 ⟨bJ, bC, bD, bF, bI, rfl, bB, bc, bH, rfl⟩
 refine qai rfl fun b3 => ?_
 refine qaa r0 rfl ⟨rfl, rfl, (nl rfl), ?_⟩
 refine cb hm fun x8 q8 hm => cgx (JH q8 :) ?_
 refine qai rfl fun b4 => ?_
 refine qaa r0 rfl ⟨rfl, rfl, (nl rfl), ?_⟩
 refine qah rfl ?_
 refine cb hm fun bS bN hm => cgx (Js bN :) ?_
 obtain ⟨bU, aV, hm⟩ := bnd hm
 refine cS aV (fun aS aV => ?_) fun aS aV => ?_
 refine fa rfl (ct aS (ro (ld r2 rfl rfl (ct aS (fa rfl (ct aS (ro (ld r2 rfl rfl (ct aS ?_)))))))))
 refine cb aV fun bT bM aV => cg0 (Jb6 bM :) ?_
 refine ct aS (qac rfl ?_)
 refine qae ?_ ?_ <;> intro bo
 replace hm := ift ((si aV).symm.trans bo) hm
 refine cb hm fun bO bK hm => ckx (Jm bK :) ?_
 rintro _ _ _ ⟨bd, bw, rfl, bm, rfl⟩
 refine qa3 ⟨⟨[], false⟩, _, [(_, _), (_, _)], []⟩ (by kernel_rfl) ⟨Hp.Le.refl _, (sc [2,2] rfl), ci0⟩ ?_
 refine fa rfl (qap m0 rfl rfl (qbx m1 rfl (nl rfl) ?_))
 refine cb hm fun bV bG hm => cfx (JcA ihrec0_0 bG :) ?_
 rintro _ bR _ bb ⟨bj, bn, bp, br, bg, rfl, bv, ba, bh, rfl⟩
 refine qk (sc [3,3] rfl) ?_
 refine qjh Tryz.call254 Ja.R_ok r5 (LR.mono Ja.R_ok bb bc) fun aY aT aW => ?_
 refine qjh Tryz.call254 Ja.R_ok r0 (LR.mono Ja.R_ok aT ba) fun aZ aU aX => ?_
 refine cb hm fun bQ bL hm => cfx (JaS bL :) ?_
 rintro _ bP _ bz ⟨bf, bA, bt, rfl, bu, bl, rfl⟩
 refine ⟨⟨(((bb.trans aT).trans aU).trans bz), (sc [3,3] rfl), ci0⟩, ?_⟩
 refine qaa r5 rfl ⟨rfl, rfl, (nl rfl), ?_⟩
 refine ⟨⟨(((bb.trans aT).trans aU).trans bz), (sc [4,4] rfl), ci0⟩, ?_⟩
 exact ro (qab r0 rfl (nl rfl) (eE hm))
 replace hm := qa7 ((si aV).symm.trans bo) hm
 refine ro (qab r3 rfl (nl rfl) ?_)
 refine qaa r5 rfl ⟨rfl, rfl, (nl rfl), ?_⟩
 exact ro (qab r0 rfl (nl rfl) (eE hm))
 refine cf aS (cf aS (cf aS (cf aS (cf aS (qac rfl (cF ?_))))))
 replace hm := qa7 (si aV).symm hm
 refine ro (qab r3 rfl (nl rfl) ?_)
 refine qaa r5 rfl ⟨rfl, rfl, (nl rfl), ?_⟩
 exact ro (qab r0 rfl (nl rfl) (eE hm))

def JaG (aj : (Jb → Option (Ja × Jb))) : Nat → Jb → Option (Ja × Jb)
  | 0, _ => none
  | n + 1, p =>
    (Jz p 1 ([110, 111, 116] : Str)).bind fun x5 =>
    if x5 then
    (Jp p).bind fun x7 =>
    ((JaG aj n) x7.2).bind fun aS =>
    some ((⟨15, ([] : Str), [aS.1], x7.1.Ad⟩ : Ja), aS.2)
    else
    (Jb7 aj n p).bind fun aT =>
    some (aT.1, aT.2)
theorem JcB {aj : (Jb → Option (Ja × Jb))} (ihrec0_0 : ∀ {p : Jb} {b0 : Nat} {aa : Option Addr} {ab : Nat} {K : Hp} {r : Ja × Jb} (hm : aj p = some r) (hX : (0 < p.list.length → Has aa) ∧ GG K), Fn Tryz.prog 236 [.pointer (some ⟨b0, 0, none⟩)] K [Cells b0 163 [.slice aa p.list.length ab, .int .i64 p.atZ, .int .i64 p.line], qau Je.enc aa 166 4 ab p.list] (fun v K' H' => ∃ ar_0 : Option Addr, ∃ cr_0 : Nat, ∃ sr_0 : List (List Value), ∃ ar_1 : Option Addr, ∃ cr_1 : Nat, v = .agg #[.int .i64 r.1.Ab, str r.1.Ac, .slice ar_0 r.1.Aa.length cr_0, .int .i64 r.1.Ad] ∧ (0 < r.1.Aa.length → Has ar_0) ∧ LR Ja.R K' sr_0 r.1.Aa ∧ (0 < r.2.list.length → Has ar_1) ∧ H' = [OwnA ar_0 117 4 cr_0 sr_0, Cells b0 163 [.slice ar_1 r.2.list.length cr_1, .int .i64 r.2.atZ, .int .i64 r.2.line], qau Je.enc ar_1 166 4 cr_1 r.2.list])) : ∀ {n : Nat} {p : Jb} {b0 : Nat} {aa : Option Addr} {ab : Nat} {K : Hp} {r : Ja × Jb}
    (hm : JaG aj n p = some r) (hX : (0 < p.list.length → Has aa) ∧ GG K),
    Fn Tryz.prog 261 [.pointer (some ⟨b0, 0, none⟩)] K [Cells b0 163 [.slice aa p.list.length ab, .int .i64 p.atZ, .int .i64 p.line], qau Je.enc aa 166 4 ab p.list] (fun v K' H' => ∃ ar_0 : Option Addr, ∃ cr_0 : Nat, ∃ sr_0 : List (List Value), ∃ ar_1 : Option Addr, ∃ cr_1 : Nat, v = .agg #[.int .i64 r.1.Ab, str r.1.Ac, .slice ar_0 r.1.Aa.length cr_0, .int .i64 r.1.Ad] ∧ (0 < r.1.Aa.length → Has ar_0) ∧ LR Ja.R K' sr_0 r.1.Aa ∧ (0 < r.2.list.length → Has ar_1) ∧ H' = [OwnA ar_0 117 4 cr_0 sr_0, Cells b0 163 [.slice ar_1 r.2.list.length cr_1, .int .i64 r.2.atZ, .int .i64 r.2.line], qau Je.enc ar_1 166 4 cr_1 r.2.list]) := by
 intro n
 induction n with
 | zero =>
   intro p b0 aa ab K r hm hX
   rw [JaG.eq_1] at hm; cases hm
 | succ n ih =>
   intro p b0 aa ab K r hm hX
   obtain ⟨ae, hG⟩ := hX
   refine Fn.enter Tryz.func261 Tryz.call261 rfl fun F => ?_
   rw [JaG.eq_2] at hm
   refine qai rfl fun b2 => ?_
   refine cb hm fun x5 q5 hm => cgx (Jv q5 :) ?_
   refine cs rfl rfl hm ?_ ?_ <;> intro w5 hm
   refine cb hm fun x7 q7 hm => ckx (Jm q7 :) ?_
   rintro _ _ _ ⟨bv, bw, rfl, bt, rfl⟩
   refine qai rfl fun b3 => ?_
   refine qaa r0 rfl ⟨rfl, rfl, (nl rfl), ?_⟩
   refine qa3 ⟨⟨[], false⟩, _, [(_, _)], []⟩ (by kernel_rfl) ⟨Hp.Le.refl _, (pf rfl), ci0⟩ ?_
   refine fa rfl (qap m0 rfl rfl ?_)
   refine cb hm fun aT bu hm => cfx (ih bu :) ?_
   rintro _ bD _ bc ⟨aU, aV, bm, aZ, aY, rfl, bn, aX, bb, rfl⟩
   refine qk (sc [3] rfl) ?_
   refine qlb Ja.R_ok r0 aX fun ba aS aW => ?_
   refine qji (R := Ja.R) (len := 1) (l := [aT.1]) (css := [[.int .i64 aT.1.Ab, str aT.1.Ac, .slice aU aT.1.Aa.length aV, .int .i64 aT.1.Ad]]) (cl := [.int .i64 aT.1.Ab, str aT.1.Ac, .slice aU aT.1.Aa.length aV, .int .i64 aT.1.Ad]) Ja.R_ok qbz rfl rfl (LR.snoc LR.nil (Ja.of (x := aT.1) ⟨aU, aV, rfl, aW⟩)) rfl rfl rfl ?_ fun bz => ?_
   · conv => whnf
     refine cT ?_
     first | done | rfl
   refine ⟨⟨(bc.trans aS), (sc [3] rfl), ci0⟩, ?_⟩
   refine qaj rfl rfl (cT (cT (cT ?_)))
   refine qaa r4 rfl ⟨rfl, rfl, (nl rfl), ?_⟩
   refine ⟨⟨(bc.trans aS), (sc [4] rfl), ci0⟩, ?_⟩
   obtain rfl := si hm
   exact ro (qab r0 rfl (nl rfl) (en (bc.trans aS) ⟨(some ⟨bz, 0, none⟩), 1, ([[.int .i64 aT.1.Ab, str aT.1.Ac, .slice aU aT.1.Aa.length aV, .int .i64 aT.1.Ad]]), aZ, aY, rfl, (fun _ => ⟨_, _, rfl⟩), (show LR Ja.R _ [[.int .i64 aT.1.Ab, str aT.1.Ac, .slice aU aT.1.Aa.length aV, .int .i64 aT.1.Ad]] [aT.1] from (LR.snoc LR.nil (Ja.of (x := aT.1) ⟨aU, aV, rfl, aW⟩))), bb, rfl⟩ (sc [1,1,1,2] rfl)))
   refine cb hm fun bC br hm => cfx (Jdo ihrec0_0 br :) ?_
   rintro _ bA _ bB ⟨bl, bd, bj, bg, bh, rfl, bo, bf, bp, rfl⟩
   refine qaa r3 rfl ⟨rfl, rfl, (nl rfl), ?_⟩
   exact ro (qab r0 rfl (nl rfl) (eE hm))

def Jau (aj : (Jb → Option (Ja × Jb))) (n : Nat) : Nat → Ja → Jb → Option (Ja × Jb)
  | 0, _, _ => none
  | aV + 1, ac, aS =>
    (Jt aS).bind fun x7 =>
    (if x7 then (Jz aS 1 ([97, 110, 100] : Str)).bind fun aU =>
    some aU else some false).bind fun aW =>
    if aW then
    (Jp aS).bind fun aY =>
    (JaG aj n aY.2).bind fun aT =>
    (JaN 14 ([] : Str) ac aT.1).bind fun aX =>
    Jau aj n aV aX aT.2
    else
    some (ac, aS)
def Jbq (aj : (Jb → Option (Ja × Jb))) (n : Nat) (p : Jb) : Option (Ja × Jb) :=
  (JaG aj n p).bind fun x5 =>
  (Jau aj n n x5.1 x5.2).bind fun t0 =>
  some (t0.1, t0.2)
theorem Jcr {aj : (Jb → Option (Ja × Jb))} (ihrec0_0 : ∀ {p : Jb} {b0 : Nat} {aa : Option Addr} {ab : Nat} {K : Hp} {r : Ja × Jb} (hm : aj p = some r) (hX : (0 < p.list.length → Has aa) ∧ GG K), Fn Tryz.prog 236 [.pointer (some ⟨b0, 0, none⟩)] K [Cells b0 163 [.slice aa p.list.length ab, .int .i64 p.atZ, .int .i64 p.line], qau Je.enc aa 166 4 ab p.list] (fun v K' H' => ∃ ar_0 : Option Addr, ∃ cr_0 : Nat, ∃ sr_0 : List (List Value), ∃ ar_1 : Option Addr, ∃ cr_1 : Nat, v = .agg #[.int .i64 r.1.Ab, str r.1.Ac, .slice ar_0 r.1.Aa.length cr_0, .int .i64 r.1.Ad] ∧ (0 < r.1.Aa.length → Has ar_0) ∧ LR Ja.R K' sr_0 r.1.Aa ∧ (0 < r.2.list.length → Has ar_1) ∧ H' = [OwnA ar_0 117 4 cr_0 sr_0, Cells b0 163 [.slice ar_1 r.2.list.length cr_1, .int .i64 r.2.atZ, .int .i64 r.2.line], qau Je.enc ar_1 166 4 cr_1 r.2.list])) {n : Nat} {p : Jb} {b0 : Nat} {aa : Option Addr} {ab : Nat} {K : Hp} {r : Ja × Jb}
    (hm : Jbq aj n p = some r) (hX : (0 < p.list.length → Has aa) ∧ GG K) :
    Fn Tryz.prog 253 [.pointer (some ⟨b0, 0, none⟩)] K [Cells b0 163 [.slice aa p.list.length ab, .int .i64 p.atZ, .int .i64 p.line], qau Je.enc aa 166 4 ab p.list] (fun v K' H' => ∃ ar_0 : Option Addr, ∃ cr_0 : Nat, ∃ sr_0 : List (List Value), ∃ ar_1 : Option Addr, ∃ cr_1 : Nat, v = .agg #[.int .i64 r.1.Ab, str r.1.Ac, .slice ar_0 r.1.Aa.length cr_0, .int .i64 r.1.Ad] ∧ (0 < r.1.Aa.length → Has ar_0) ∧ LR Ja.R K' sr_0 r.1.Aa ∧ (0 < r.2.list.length → Has ar_1) ∧ H' = [OwnA ar_0 117 4 cr_0 sr_0, Cells b0 163 [.slice ar_1 r.2.list.length cr_1, .int .i64 r.2.atZ, .int .i64 r.2.line], qau Je.enc ar_1 166 4 cr_1 r.2.list]) := by
 obtain ⟨ae, hG⟩ := hX
 refine Fn.enter Tryz.func253 Tryz.call253 rfl fun F => ?_
 unfold Jbq at hm
 refine qai rfl fun b2 => ?_
 refine cb hm fun x5 q5 hm => cfx (JcB ihrec0_0 q5 :) ?_
 rintro _ K5 _ l5 ⟨bW, ca, bR, bY, cj, rfl, ce, bV, bU, rfl⟩
 refine qai rfl fun b3 => ?_
 refine qaa r0 rfl ⟨rfl, rfl, (nl rfl), ?_⟩
 obtain ⟨s0, aX, hm⟩ := bnd hm
 refine lC (σ := (Ja × Jb) × Option Addr × Nat × List (List Value) × Option Addr × Nat) (rg 6 12) [4, 5] (fun _ => []) (fun _ => []) (fun (t0, aT, aU, aV, aS, aW) => [Cells b3 117 [.int .i64 t0.1.Ab, str t0.1.Ac, .slice aT t0.1.Aa.length aU, .int .i64 t0.1.Ad], OwnA aT 117 4 aU aV, Cells b0 163 [.slice aS t0.2.list.length aW, .int .i64 t0.2.atZ, .int .i64 t0.2.line], qau Je.enc aS 166 4 aW t0.2.list]) (fun zz K1 => match zz with | (t0, aT, aU, aV, aS, aW) => (0 < t0.1.Aa.length → Has aT) ∧ LR Ja.R K1 aV t0.1.Aa ∧ (0 < t0.2.list.length → Has aS)) (fun i0 (t0, aT, aU, aV, aS, aW) => Jau aj n i0 t0.1 t0.2 = some s0) (fun (t0, aT, aU, aV, aS, aW) => t0 = s0) (fun i0 => i0) n ((_, _), _, _, _, _, _) aX (And.intro qe (And.intro ?_ ?_))
 clear aX
 rintro i0 ⟨⟨ac, bQ⟩, bp, bn, bt, bo, br⟩ co cD ⟨bv, ba, bl⟩ aX j0
 dsimp only at aX ⊢
 cases i0 with
 | zero => rw [Jau.eq_1] at aX; cases aX
 | succ i0 =>
  rw [Jau.eq_2] at aX
  refine qah rfl ?_
  refine cb aX fun x7 q7 aX => cgx (Js q7 :) ?_
  obtain ⟨cA, bb, aX⟩ := bnd aX
  refine cS bb (fun aZ bb => ?_) fun aZ bb => ?_
  refine ct aZ ?_
  refine cb bb fun cC cm bb => cgx (Jv cm :) ?_
  refine ct aZ (qac rfl ?_)
  refine qae ?_ ?_ <;> intro bz
  replace aX := ift ((si bb).symm.trans bz) aX
  refine qal rfl ?_
  refine cb aX fun cu bS aX => ckx (Jm bS :) ?_
  rintro _ _ _ ⟨bP, bO, rfl, bL, rfl⟩
  refine qa2 ⟨⟨[], false⟩, _, [(_, _)], []⟩ 3 rfl (by kernel_rfl) ⟨Hp.Le.refl _, (sc [2] rfl), ci0⟩ ?_
  refine qbx m0 rfl (nl rfl) ?_
  refine cb aX fun cE bT aX => cfx (JcB ihrec0_0 bT :) ?_
  rintro _ cr _ bX ⟨bI, bA, bC, bB, bK, rfl, bH, bc, bD, rfl⟩
  refine qk (sc [3] rfl) ?_
  refine qjh Tryz.call254 Ja.R_ok r4 (LR.mono Ja.R_ok bX ba) fun bj aY bh => ?_
  refine qjh Tryz.call254 Ja.R_ok r0 (LR.mono Ja.R_ok aY bc) fun bg bf bd => ?_
  refine cb aX fun cy bZ aX => cfx (JaS bZ :) ?_
  rintro _ cB _ cw ⟨bF, bN, bG, rfl, bM, bJ, rfl⟩
  refine ⟨⟨Hp.emp_le _, (pf rfl), ci0⟩, ?_⟩
  refine qaa r3 rfl ⟨rfl, rfl, (nl rfl), ?_⟩
  refine ⟨⟨Hp.emp_le _, (pf rfl), ci0⟩, ?_⟩
  exact eR aX (_, (_, _), _, _, _, _, _)
  replace aX := qa7 ((si bb).symm.trans bz) aX
  refine cT ?_
  exact eM aX (_, _, _, _, _, _)
  refine cf aZ (cf aZ (qac rfl (cF ?_)))
  replace aX := qa7 (si bb).symm aX
  refine cT ?_
  exact eM aX (_, _, _, _, _, _)
 rintro ⟨t0, aT, aU, aV, aS, aW⟩ cz cn ⟨bw, bu, bm⟩ rfl j0
 refine ro (qab r0 rfl (nl rfl) ?_)
 refine qaa r4 rfl ⟨rfl, rfl, (nl rfl), ?_⟩
 exact ro (qab r0 rfl (nl rfl) (eE hm))

def Jav (rec_ : (Jb → Option (Ja × Jb))) (n : Nat) : Nat → Ja → Jb → Option (Ja × Jb)
  | 0, _, _ => none
  | aV + 1, ac, aS =>
    (Jt aS).bind fun x7 =>
    (if x7 then (Jz aS 1 ([111, 114] : Str)).bind fun aU =>
    some aU else some false).bind fun aW =>
    if aW then
    (Jp aS).bind fun aY =>
    (Jbq rec_ n aY.2).bind fun aT =>
    (JaN 13 ([] : Str) ac aT.1).bind fun aX =>
    Jav rec_ n aV aX aT.2
    else
    some (ac, aS)
def JZ : Nat → Jb → Option (Ja × Jb)
  | 0, _ => none
  | n + 1, p =>
    (Jbq (JZ n) n p).bind fun x5 =>
    (Jav (JZ n) n n x5.1 x5.2).bind fun t0 =>
    some (t0.1, t0.2)
theorem JbD : ∀ {n : Nat} {p : Jb} {b0 : Nat} {aa : Option Addr} {ab : Nat} {K : Hp} {r : Ja × Jb}
    (hm : JZ n p = some r) (hX : (0 < p.list.length → Has aa) ∧ GG K),
    Fn Tryz.prog 236 [.pointer (some ⟨b0, 0, none⟩)] K [Cells b0 163 [.slice aa p.list.length ab, .int .i64 p.atZ, .int .i64 p.line], qau Je.enc aa 166 4 ab p.list] (fun v K' H' => ∃ ar_0 : Option Addr, ∃ cr_0 : Nat, ∃ sr_0 : List (List Value), ∃ ar_1 : Option Addr, ∃ cr_1 : Nat, v = .agg #[.int .i64 r.1.Ab, str r.1.Ac, .slice ar_0 r.1.Aa.length cr_0, .int .i64 r.1.Ad] ∧ (0 < r.1.Aa.length → Has ar_0) ∧ LR Ja.R K' sr_0 r.1.Aa ∧ (0 < r.2.list.length → Has ar_1) ∧ H' = [OwnA ar_0 117 4 cr_0 sr_0, Cells b0 163 [.slice ar_1 r.2.list.length cr_1, .int .i64 r.2.atZ, .int .i64 r.2.line], qau Je.enc ar_1 166 4 cr_1 r.2.list]) := by
 intro n
 induction n with
 | zero =>
   intro p b0 aa ab K r hm hX
   rw [JZ.eq_1] at hm; cases hm
 | succ n ih =>
   intro p b0 aa ab K r hm hX
   obtain ⟨ae, hG⟩ := hX
   refine Fn.enter Tryz.func236 Tryz.call236 rfl fun F => ?_
   rw [JZ.eq_2] at hm
   refine qai rfl fun b2 => ?_
   refine cb hm fun x5 q5 hm => cfx (Jcr ih q5 :) ?_
   rintro _ K5 _ l5 ⟨bW, ca, bR, bY, cj, rfl, ce, bV, bU, rfl⟩
   refine qai rfl fun b3 => ?_
   refine qaa r0 rfl ⟨rfl, rfl, (nl rfl), ?_⟩
   obtain ⟨s0, aX, hm⟩ := bnd hm
   refine lC (σ := (Ja × Jb) × Option Addr × Nat × List (List Value) × Option Addr × Nat) (rg 6 12) [4, 5] (fun _ => []) (fun _ => []) (fun (t0, aT, aU, aV, aS, aW) => [Cells b3 117 [.int .i64 t0.1.Ab, str t0.1.Ac, .slice aT t0.1.Aa.length aU, .int .i64 t0.1.Ad], OwnA aT 117 4 aU aV, Cells b0 163 [.slice aS t0.2.list.length aW, .int .i64 t0.2.atZ, .int .i64 t0.2.line], qau Je.enc aS 166 4 aW t0.2.list]) (fun zz K1 => match zz with | (t0, aT, aU, aV, aS, aW) => (0 < t0.1.Aa.length → Has aT) ∧ LR Ja.R K1 aV t0.1.Aa ∧ (0 < t0.2.list.length → Has aS)) (fun i0 (t0, aT, aU, aV, aS, aW) => Jav (JZ n) n i0 t0.1 t0.2 = some s0) (fun (t0, aT, aU, aV, aS, aW) => t0 = s0) (fun i0 => i0) n ((_, _), _, _, _, _, _) aX (And.intro qe (And.intro ?_ ?_))
   clear aX
   rintro i0 ⟨⟨ac, bQ⟩, bp, bn, bt, bo, br⟩ co cD ⟨bv, ba, bl⟩ aX j0
   dsimp only at aX ⊢
   cases i0 with
   | zero => rw [Jav.eq_1] at aX; cases aX
   | succ i0 =>
    rw [Jav.eq_2] at aX
    refine qah rfl ?_
    refine cb aX fun x7 q7 aX => cgx (Js q7 :) ?_
    obtain ⟨cz, bb, aX⟩ := bnd aX
    refine cS bb (fun aZ bb => ?_) fun aZ bb => ?_
    refine ct aZ ?_
    refine cb bb fun cC cm bb => cgx (Jv cm :) ?_
    refine ct aZ (qac rfl ?_)
    refine qae ?_ ?_ <;> intro bz
    replace aX := ift ((si bb).symm.trans bz) aX
    refine qal rfl ?_
    refine cb aX fun cu bS aX => ckx (Jm bS :) ?_
    rintro _ _ _ ⟨bP, bO, rfl, bL, rfl⟩
    refine qa2 ⟨⟨[], false⟩, _, [(_, _)], []⟩ 3 rfl (by kernel_rfl) ⟨Hp.Le.refl _, (sc [2] rfl), ci0⟩ ?_
    refine qbx m0 rfl (nl rfl) ?_
    refine cb aX fun cE bT aX => cfx (Jcr ih bT :) ?_
    rintro _ cr _ bX ⟨bI, bA, bC, bB, bK, rfl, bH, bc, bD, rfl⟩
    refine qk (sc [3] rfl) ?_
    refine qjh Tryz.call254 Ja.R_ok r4 (LR.mono Ja.R_ok bX ba) fun bj aY bh => ?_
    refine qjh Tryz.call254 Ja.R_ok r0 (LR.mono Ja.R_ok aY bc) fun bg bf bd => ?_
    refine cb aX fun cy bZ aX => cfx (JaS bZ :) ?_
    rintro _ cB _ cw ⟨bF, bN, bG, rfl, bM, bJ, rfl⟩
    refine ⟨⟨Hp.emp_le _, (pf rfl), ci0⟩, ?_⟩
    refine qaa r3 rfl ⟨rfl, rfl, (nl rfl), ?_⟩
    refine ⟨⟨Hp.emp_le _, (pf rfl), ci0⟩, ?_⟩
    exact eR aX (_, (_, _), _, _, _, _, _)
    replace aX := qa7 ((si bb).symm.trans bz) aX
    refine cT ?_
    exact eM aX (_, _, _, _, _, _)
    refine cf aZ (cf aZ (qac rfl (cF ?_)))
    replace aX := qa7 (si bb).symm aX
    refine cT ?_
    exact eM aX (_, _, _, _, _, _)
   rintro ⟨t0, aT, aU, aV, aS, aW⟩ cA cn ⟨bw, bu, bm⟩ rfl j0
   refine ro (qab r0 rfl (nl rfl) ?_)
   refine qaa r4 rfl ⟨rfl, rfl, (nl rfl), ?_⟩
   exact ro (qab r0 rfl (nl rfl) (eE hm))
