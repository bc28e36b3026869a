/- Functions of the program: mirrors, and that a call returns what the mirror says. Printed by gen.py. -/
import Derived.Test.YtiaaooopklhobaaGreatDoorShelf
import Derived.Test.YtiaaooopklhobaaGreatDoorLT
import Derived.KernelRfl
import Derived.Test.YtiaaooopklhobaaGreatDoorProg
set_option linter.unusedVariables false
set_option linter.unusedSimpArgs false
open Go Go.SL Go.Proofs
noncomputable section
set_option maxRecDepth 1000000
set_option maxHeartbeats 8000000
def Jax : List Str := [[109, 101, 116, 104, 111, 100], [104, 111, 115, 116], [112, 97, 116, 104], [113, 117, 101, 114, 121]]
def Ja1 : List Str := [[104, 101, 97, 100, 101, 114], [104, 97, 115], [97, 114, 103], [108, 101, 110], [108, 111, 119, 101, 114], [112, 97, 114, 116], [116, 101, 120, 116], [110, 117, 109, 98, 101, 114]]
def Ja2 : List Str := [[43], [45], [42], [61, 61], [33, 61], [60], [60, 61], [115, 116, 97, 114, 116, 115], [101, 110, 100, 115], [99, 111, 110, 116, 97, 105, 110, 115]]
def gkw0 : List Str := [[105, 102], [101, 108, 115, 101], [108, 101, 116], [118, 97, 114, 121], [116, 97, 103], [116, 116, 108], [100, 101, 110, 121], [112, 97, 115, 115], [116, 111, 107, 101, 110], [111, 114], [97, 110, 100], [110, 111, 116], [115, 116, 97, 114, 116, 115], [101, 110, 100, 115], [99, 111, 110, 116, 97, 105, 110, 115], [116, 114, 117, 101], [102, 97, 108, 115, 101]]
structure Jc where
  Name : Str
  Value : Str
abbrev Jc.enc (x : Jc) : List Go.Value := [str x.Name, str x.Value]
structure JA where
  Am : Str
  Target : Str
  Ao : (List Jc)
def JA.R : Rp JA := fun K cs x => ∃ a_0 : Option Addr, ∃ c_0 : Nat, cs = [str x.Am, str x.Target, .slice a_0 x.Ao.length c_0] ∧ RdC Jc.enc K a_0 c_0 2 x.Ao
theorem JA.R_ok : qfs 3 JA.R :=
  ⟨fun hk ⟨a_0, c_0, e, h_0⟩ => ⟨a_0, c_0, e, (h_0.mono hk)⟩, fun ⟨a_0, c_0, e, h_0⟩ => by simp [e], fun ⟨a_0, c_0, e, h_0⟩ v hv => by rw [e] at hv; simp at hv; rcases hv with rfl | rfl | rfl <;> rfl⟩
instance : RpI 3 JA.R := ⟨JA.R_ok⟩
structure JK where
  An : Str
  Tenant : Int
  Program : Str
abbrev JK.enc (x : JK) : List Go.Value := [str x.An, .int .i64 x.Tenant, str x.Program]
structure Jf where
  Op : Int
  N : Int
  S : Str
abbrev Jf.enc (x : Jf) : List Go.Value := [.int .i64 x.Op, .int .i64 x.N, str x.S]
structure Jz where
  tenant : Int
  code : (List Jf)
def Jz.R : Rp Jz := fun K cs x => ∃ a_0 : Option Addr, ∃ c_0 : Nat, cs = [.int .i64 x.tenant, .slice a_0 x.code.length c_0] ∧ RdC Jf.enc K a_0 c_0 3 x.code
theorem Jz.R_ok : qfs 2 Jz.R :=
  ⟨fun hk ⟨a_0, c_0, e, h_0⟩ => ⟨a_0, c_0, e, (h_0.mono hk)⟩, fun ⟨a_0, c_0, e, h_0⟩ => by simp [e], fun ⟨a_0, c_0, e, h_0⟩ v hv => by rw [e] at hv; simp at hv; rcases hv with rfl | rfl <;> rfl⟩
instance : RpI 2 Jz.R := ⟨Jz.R_ok⟩
structure JH where
  sites : (List (Str × Jz))
structure Ja where
  Ab : Int
  Ac : Str
  Aa : (List Ja)
  Ad : Int
inductive Ja.R (K : Hp) : List Value → Ja → Prop
  | mk {cs : List Value} {x : Ja} (a_0 : Option Addr) (c_0 : Nat) (e : cs = [.int .i64 x.Ab, str x.Ac, .slice a_0 x.Aa.length c_0, .int .i64 x.Ad]) (css0 : List (List Value)) (p0 : RdS K a_0 4 css0) (q0 : css0.length = x.Aa.length) (r0 : x.Aa.length ≤ c_0) (z0 : ∀ (i : Nat) (c : List Value) (y : Ja), css0[i]? = some c → x.Aa[i]? = some y → Ja.R K c y) : Ja.R K cs x
theorem Ja.out {K : Hp} {cs : List Value} {x : Ja} (h : Ja.R K cs x) : ∃ a_0 : Option Addr, ∃ c_0 : Nat, cs = [.int .i64 x.Ab, str x.Ac, .slice a_0 x.Aa.length c_0, .int .i64 x.Ad] ∧ LiC Ja.R K a_0 c_0 4 x.Aa := by
  cases h with
  | mk a_0 c_0 e css0 p0 q0 r0 z0 => exact ⟨a_0, c_0, e, ⟨⟨css0, p0, q0, z0⟩, r0⟩⟩
theorem Ja.of {K : Hp} {cs : List Value} {x : Ja} (h : ∃ a_0 : Option Addr, ∃ c_0 : Nat, cs = [.int .i64 x.Ab, str x.Ac, .slice a_0 x.Aa.length c_0, .int .i64 x.Ad] ∧ LiC Ja.R K a_0 c_0 4 x.Aa) : Ja.R K cs x := by
  obtain ⟨a_0, c_0, e, ⟨⟨aU, p0, q0, z0⟩, r0⟩⟩ := h
  exact .mk a_0 c_0 e aU p0 q0 r0 z0
theorem Ja.R_mono {K K' : Hp} (hk : K.Le K') {cs : List Value} {x : Ja} (h : Ja.R K cs x) : Ja.R K' cs x := by
  induction h with
  | mk a_0 c_0 e css0 p0 q0 r0 z0 ih0 => exact .mk a_0 c_0 e css0 (p0.mono hk) q0 r0 (ih0)
theorem Ja.R_ok : qfs 4 Ja.R := by
  refine ⟨fun hk h => Ja.R_mono hk h, fun h => ?_, fun h v hv => ?_⟩
  · obtain ⟨a_0, c_0, e, aU⟩ := Ja.out h; simp [e]
  · obtain ⟨a_0, c_0, e, aU⟩ := Ja.out h; rw [e] at hv; simp at hv; rcases hv with rfl | rfl | rfl | rfl <;> rfl
instance : RpI 4 Ja.R := ⟨Ja.R_ok⟩
structure Je where
  Ab : Int
  Ac : Str
  Ad : Int
  Column : Int
abbrev Je.enc (x : Je) : List Go.Value := [.int .i64 x.Ab, str x.Ac, .int .i64 x.Ad, .int .i64 x.Column]
structure Jb where
  list : (List Je)
  atZ : Int
  line : Int
def Jb.R : Rp Jb := fun K cs x => ∃ a_0 : Option Addr, ∃ c_0 : Nat, cs = [.slice a_0 x.list.length c_0, .int .i64 x.atZ, .int .i64 x.line] ∧ RdC Je.enc K a_0 c_0 4 x.list
theorem Jb.R_ok : qfs 3 Jb.R :=
  ⟨fun hk ⟨a_0, c_0, e, h_0⟩ => ⟨a_0, c_0, e, (h_0.mono hk)⟩, fun ⟨a_0, c_0, e, h_0⟩ => by simp [e], fun ⟨a_0, c_0, e, h_0⟩ v hv => by rw [e] at hv; simp at hv; rcases hv with rfl | rfl | rfl <;> rfl⟩
instance : RpI 3 Jb.R := ⟨Jb.R_ok⟩
structure Jm where
  line : Int
  err : Err
abbrev Jm.enc (x : Jm) : List Go.Value := [.int .i64 x.line, qcp 48 x.err]
structure Jk where
  Name : Str
  Ar : Int
abbrev Jk.enc (x : Jk) : List Go.Value := [str x.Name, .int .i64 x.Ar]
structure Jr where
  name : Str
  slot : Int
abbrev Jr.enc (x : Jr) : List Go.Value := [str x.name, .int .i64 x.slot]
structure Jd where
  code : (List Jf)
  names : (List Jr)
  Ap : Int
def Jd.R : Rp Jd := fun K cs x => ∃ a_0 : Option Addr, ∃ c_0 : Nat, ∃ a_1 : Option Addr, ∃ c_1 : Nat, cs = [.slice a_0 x.code.length c_0, .slice a_1 x.names.length c_1, .int .i64 x.Ap] ∧ RdC Jf.enc K a_0 c_0 3 x.code ∧ RdC Jr.enc K a_1 c_1 2 x.names
theorem Jd.R_ok : qfs 3 Jd.R :=
  ⟨fun hk ⟨a_0, c_0, a_1, c_1, e, h_0, h_1⟩ => ⟨a_0, c_0, a_1, c_1, e, (h_0.mono hk), (h_1.mono hk)⟩, fun ⟨a_0, c_0, a_1, c_1, e, h_0, h_1⟩ => by simp [e], fun ⟨a_0, c_0, a_1, c_1, e, h_0, h_1⟩ v hv => by rw [e] at hv; simp at hv; rcases hv with rfl | rfl | rfl <;> rfl⟩
instance : RpI 3 Jd.R := ⟨Jd.R_ok⟩
structure Jn where
  An : Str
  Ae : Str
  Af : Str
  HasQuery : Bool
abbrev Jn.enc (x : Jn) : List Go.Value := [str x.An, str x.Ae, str x.Af, .bool x.HasQuery]
structure JF where
  Tenant : Int
  TTL : Int
  Ai : Int
  Asked : Jn
  Cache : Jn
  Ao : (List Jc)
  Vary : (List Str)
  Ah : (List Str)
  Ak : Bool
  Al : Bool
def JF.R : Rp JF := fun K cs x => ∃ a_0 : Option Addr, ∃ c_0 : Nat, ∃ a_1 : Option Addr, ∃ c_1 : Nat, ∃ a_2 : Option Addr, ∃ c_2 : Nat, cs = [.int .i64 x.Tenant, .int .i64 x.TTL, .int .i64 x.Ai, str x.Asked.An, str x.Asked.Ae, str x.Asked.Af, .bool x.Asked.HasQuery, str x.Cache.An, str x.Cache.Ae, str x.Cache.Af, .bool x.Cache.HasQuery, .slice a_0 x.Ao.length c_0, .slice a_1 x.Vary.length c_1, .slice a_2 x.Ah.length c_2, .bool x.Ak, .bool x.Al] ∧ RdC Jc.enc K a_0 c_0 2 x.Ao ∧ RdC eS K a_1 c_1 1 x.Vary ∧ RdC eS K a_2 c_2 1 x.Ah
theorem JF.R_ok : qfs 16 JF.R :=
  ⟨fun hk ⟨a_0, c_0, a_1, c_1, a_2, c_2, e, h_0, h_1, h_2⟩ => ⟨a_0, c_0, a_1, c_1, a_2, c_2, e, (h_0.mono hk), (h_1.mono hk), (h_2.mono hk)⟩, fun ⟨a_0, c_0, a_1, c_1, a_2, c_2, e, h_0, h_1, h_2⟩ => by simp [e], fun ⟨a_0, c_0, a_1, c_1, a_2, c_2, e, h_0, h_1, h_2⟩ v hv => by rw [e] at hv; simp at hv; rcases hv with rfl | rfl | rfl | rfl | rfl | rfl | rfl | rfl | rfl | rfl | rfl | rfl | rfl | rfl | rfl | rfl <;> rfl⟩
instance : RpI 16 JF.R := ⟨JF.R_ok⟩
structure J0 where
  Am : Str
  An : Str
  Ae : Str
  Af : Str
  Ao : (List Jc)
def J0.R : Rp J0 := fun K cs x => ∃ a_0 : Option Addr, ∃ c_0 : Nat, cs = [str x.Am, str x.An, str x.Ae, str x.Af, .slice a_0 x.Ao.length c_0] ∧ RdC Jc.enc K a_0 c_0 2 x.Ao
theorem J0.R_ok : qfs 5 J0.R :=
  ⟨fun hk ⟨a_0, c_0, e, h_0⟩ => ⟨a_0, c_0, e, (h_0.mono hk)⟩, fun ⟨a_0, c_0, e, h_0⟩ => by simp [e], fun ⟨a_0, c_0, e, h_0⟩ v hv => by rw [e] at hv; simp at hv; rcases hv with rfl | rfl | rfl | rfl | rfl <;> rfl⟩
instance : RpI 5 J0.R := ⟨J0.R_ok⟩
structure Jp where
  Ae : Str
  Af : Str
  Ag : (List Jc)
  Vary : (List Str)
  Ah : (List Str)
  TTL : Int
  Ai : Int
  Aj : Int
  Ak : Bool
  Al : Bool
def Jp.R : Rp Jp := fun K cs x => ∃ a_0 : Option Addr, ∃ c_0 : Nat, ∃ a_1 : Option Addr, ∃ c_1 : Nat, ∃ a_2 : Option Addr, ∃ c_2 : Nat, cs = [str x.Ae, str x.Af, .slice a_0 x.Ag.length c_0, .slice a_1 x.Vary.length c_1, .slice a_2 x.Ah.length c_2, .int .i64 x.TTL, .int .i64 x.Ai, .int .i64 x.Aj, .bool x.Ak, .bool x.Al] ∧ RdC Jc.enc K a_0 c_0 2 x.Ag ∧ RdC eS K a_1 c_1 1 x.Vary ∧ RdC eS K a_2 c_2 1 x.Ah
theorem Jp.R_ok : qfs 10 Jp.R :=
  ⟨fun hk ⟨a_0, c_0, a_1, c_1, a_2, c_2, e, h_0, h_1, h_2⟩ => ⟨a_0, c_0, a_1, c_1, a_2, c_2, e, (h_0.mono hk), (h_1.mono hk), (h_2.mono hk)⟩, fun ⟨a_0, c_0, a_1, c_1, a_2, c_2, e, h_0, h_1, h_2⟩ => by simp [e], fun ⟨a_0, c_0, a_1, c_1, a_2, c_2, e, h_0, h_1, h_2⟩ v hv => by rw [e] at hv; simp at hv; rcases hv with rfl | rfl | rfl | rfl | rfl | rfl | rfl | rfl | rfl | rfl <;> rfl⟩
instance : RpI 10 Jp.R := ⟨Jp.R_ok⟩
structure JaJ where
  f0 : Int
  f1 : Int
  f2 : Int
  f3 : Int
  f4 : Int
  f5 : Int
  f6 : Int
  f7 : Int
abbrev JaJ.enc (x : JaJ) : List Go.Value := [.int .u64 x.f0, .int .u64 x.f1, .int .u64 x.f2, .int .u64 x.f3, .int .u64 x.f4, .int .u64 x.f5, .int .u64 x.f6, .int .u64 x.f7]
structure Jo where
  Au : Bool
  depth : Int
  At : JaJ
abbrev Jo.enc (x : Jo) : List Go.Value := [.bool x.Au, .int .i64 x.depth, .int .u64 x.At.f0, .int .u64 x.At.f1, .int .u64 x.At.f2, .int .u64 x.At.f3, .int .u64 x.At.f4, .int .u64 x.At.f5, .int .u64 x.At.f6, .int .u64 x.At.f7]
structure Ji where
  kind : Int
  n : Int
  s : Str
  As : Bool
abbrev Ji.enc (x : Ji) : List Go.Value := [.int .i64 x.kind, .int .i64 x.n, str x.s, .bool x.As]
structure Jh where
  Aq : J0
  most : Int
  result : Jp
  stack : (List Ji)
  Ap : (List Ji)
theorem qqm : ElT Tryz.prog 31 30 3 := ElT.mk' rfl rfl rfl rfl rfl
theorem qck : ElT Tryz.prog 52 5 1 := ElT.mk' rfl rfl rfl rfl rfl
theorem qbw : ElT Tryz.prog 23 9 1 := ElT.mk' rfl rfl rfl rfl rfl
theorem qkh : ElT Tryz.prog 158 166 4 := ElT.mk' rfl rfl rfl rfl rfl
theorem qbx : ElT Tryz.prog 115 117 4 := ElT.mk' rfl rfl rfl rfl rfl
theorem qki : ElT Tryz.prog 284 3 1 := ElT.mk' rfl rfl rfl rfl rfl
theorem qkj : ElT Tryz.prog 259 288 2 := ElT.mk' rfl rfl rfl rfl rfl
theorem qqn : ElT Tryz.prog 80 135 3 := ElT.mk' rfl rfl rfl rfl rfl
theorem qkk : ElT Tryz.prog 207 290 2 := ElT.mk' rfl rfl rfl rfl rfl
theorem qf5 : ElT Tryz.prog 35 41 2 := ElT.mk' rfl rfl rfl rfl rfl
theorem qqo : ElT Tryz.prog 225 228 10 := ElT.mk' rfl rfl rfl rfl rfl
theorem qoi : ElT Tryz.prog 126 128 4 := ElT.mk' rfl rfl rfl rfl rfl
def GG (K : Hp) : Prop := (GlN 0 K) ∧ (GlL eS 1 1 Jax K) ∧ (GlL eS 1 2 Ja1 K) ∧ (GlL eS 1 3 Ja2 K) ∧ (GlA 4 (Go.Lib.pow10Tab.map fun z => Value.int .u64 z) K) ∧ (GlL eS 1 5 gkw0 K)
theorem GG.of {K : Hp} (h : (GlN 0 K) ∧ (GlL eS 1 1 Jax K) ∧ (GlL eS 1 2 Ja1 K) ∧ (GlL eS 1 3 Ja2 K) ∧ (GlA 4 (Go.Lib.pow10Tab.map fun z => Value.int .u64 z) K) ∧ (GlL eS 1 5 gkw0 K)) : GG K := h
theorem GG.mono {K K' : Hp} (h : GG K) (hk : K.Le K') : GG K' := ⟨h.1.mono hk, h.2.1.mono hk, h.2.2.1.mono hk, h.2.2.2.1.mono hk, h.2.2.2.2.1.mono hk, h.2.2.2.2.2.mono hk⟩
theorem gg0 {K : Hp} (h : GG K) : GlN 0 K := h.1
theorem gg1 {K : Hp} (h : GG K) : GlL eS 1 1 Jax K := h.2.1
theorem gg2 {K : Hp} (h : GG K) : GlL eS 1 2 Ja1 K := h.2.2.1
theorem gg3 {K : Hp} (h : GG K) : GlL eS 1 3 Ja2 K := h.2.2.2.1
theorem gg4 {K : Hp} (h : GG K) : GlA 4 (Go.Lib.pow10Tab.map fun z => Value.int .u64 z) K := h.2.2.2.2.1
theorem gg5 {K : Hp} (h : GG K) : GlL eS 1 5 gkw0 K := h.2.2.2.2.2
def Ja3 : List Jc → Nat → Int → Option (Int)
  | [], _, ac => some ac
  | e0 :: aU, i0, ac =>
    Ja3 aU (i0 + 1) (IntKind.i64.wrap (ac + (IntKind.i64.wrap ((e0.Name.length : Int) + (e0.Value.length : Int)))))
def Ja4 : List JK → Nat → Int → Option (Int)
  | [], _, aU => some aU
  | e2 :: aV, i2, aU =>
    Ja4 aV (i2 + 1) (IntKind.i64.wrap (aU + (IntKind.i64.wrap ((e2.An.length : Int) + (e2.Program.length : Int)))))
def Jc9 (l : (List JK)) (r' : JA) : Option (Bool) :=
  (chk (r'.Ao.length ≤ qa3)).bind fun _ =>
  (Ja3 r'.Ao 0 (r'.Target.length : Int)).bind fun t0 =>
  (chk (l.length ≤ qa3)).bind fun _ =>
  (Ja4 l 0 t0).bind fun t2 =>
  some ((decide (t2 > 8000) || decide ((l.length : Int) > 8)) || decide ((r'.Ao.length : Int) > 40))
theorem Jez {l : (List JK)} {r' : JA} {aa : Option Addr} {ab : Nat} {n0 : Nat} {af : Option Addr} {ag : Nat} {K : Hp} {r : Bool}
    (hm : Jc9 l r' = some r) (hX : RdC JK.enc K aa ab 3 l ∧ n0 = l.length ∧ RdC Jc.enc K af ag 2 r'.Ao) :
    Fn Tryz.prog 19 [.slice aa n0 ab, .agg #[str r'.Am, str r'.Target, .slice af r'.Ao.length ag]] K [] (fun v K' H' => v = .bool r ∧ H' = []) := by
 obtain ⟨ae, bb, ah⟩ := hX
 subst bb
 refine Fn.enter Tryz.func19 Tryz.call19 rfl fun F => ?_
 unfold Jc9 at hm
 refine qar ?_
 intro b3
 refine fa rfl (ro (ld r0 rfl rfl (ro (qa0 rfl (fa rfl (ro (ld r0 rfl rfl (ro (qak rfl ?_)))))))))
 obtain ⟨ba, hm⟩ := qaw hm
 obtain ⟨s0, aW, hm⟩ := bnd hm
 refine lD (σ := (Int)) ([5,7] ++ rg 16 14) [0, 1] (fun i0 => [(16, .int .i64 (i0 : Int))]) (fun t0 => [(5, .int .i64 t0)]) (fun _ => []) (fun _ => True) (fun i0 t0 => Ja3 (r'.Ao.drop i0) i0 t0 = some s0) (fun t0 => t0 = s0) (fun i0 => r'.Ao.length - i0) 0 _ aW (And.intro qe (And.intro ?_ ?_))
 clear aW
 rintro i0 ac _ aW j0
 conv at aW => whnf
 refine qac rfl ?_
 refine qae ?_ ?_ <;> intro w0
 obtain ⟨e0, aZ, bd⟩ := ltx w0
 rw [bd, Ja3.eq_2] at aW
 refine qal rfl ?_
 refine RStep.ofN (qad rfl rfl (qff ah.rd aZ) (nn _) (qbl aZ) (ro (qan i0 _ ah.rd rfl (mp aZ) rfl ?_)))
 refine qaf rfl fun b7 => ?_
 refine qaa r0 rfl ⟨rfl, rfl, (nl rfl), ?_⟩
 refine fa rfl (ro (ld r0 rfl rfl (ro (qa0 rfl (fa rfl (ro (ld r0 rfl rfl (ro (qa0 rfl ?_)))))))))
 refine qfx ?_
 refine qfx ?_
 refine qam (qbn aZ ba) ?_
 exact eR aW (_, _)
 rw [lty w0, Ja3.eq_1] at aW
 refine cT ?_
 exact eM aW _
 rintro t0 _ rfl j0
 refine ro (qak rfl ?_)
 obtain ⟨a8, hm⟩ := qaw hm
 obtain ⟨s2, aX, hm⟩ := bnd hm
 refine lD (σ := (Int)) ([5,9] ++ rg 32 14) [0, 1] (fun i2 => [(32, .int .i64 (i2 : Int))]) (fun t2 => [(5, .int .i64 t2)]) (fun _ => []) (fun _ => True) (fun i2 t2 => Ja4 (l.drop i2) i2 t2 = some s2) (fun t2 => t2 = s2) (fun i2 => l.length - i2) 0 _ aX (And.intro qe (And.intro ?_ ?_))
 clear aX
 rintro i2 bc _ aX j2
 conv at aX => whnf
 refine qac rfl ?_
 refine qae ?_ ?_ <;> intro w2
 obtain ⟨e2, aY, a6⟩ := ltx w2
 rw [a6, Ja4.eq_2] at aX
 refine qal rfl ?_
 refine RStep.ofN (qad rfl rfl (qff ae.rd aY) (nn _) (qbl aY) (ro (qan i2 _ ae.rd rfl (mp aY) rfl ?_)))
 refine qaf rfl fun b9 => ?_
 refine qaa r0 rfl ⟨rfl, rfl, (nl rfl), ?_⟩
 refine fa rfl (ro (ld r0 rfl rfl (ro (qa0 rfl (fa rfl (ro (ld r0 rfl rfl (ro (qa0 rfl ?_)))))))))
 refine qfx ?_
 refine qfx ?_
 refine qam (qbn aY a8) ?_
 exact eR aX (_, _)
 rw [lty w2, Ja4.eq_1] at aX
 refine cT ?_
 exact eM aX _
 rintro t2 _ rfl j2
 refine qaj rfl ?_
 refine qae ?_ ?_ <;> intro aV
 refine ct aV (ct aV (ct aV (cT (cT (cT (cT (cT ?_)))))))
 exact bE (((qcn (qcn aV))).symm) (eE hm)
 refine cf aV (ro (qak rfl (cf aV (cf aV ?_))))
 refine qae ?_ ?_ <;> intro aU
 refine ct aU (ct aU (ct aU (ct aU ?_)))
 exact bE (((qcn (qg1 aV aU))).symm) (eE hm)
 refine fa rfl (cf aU (ro (ld r0 rfl rfl (cf aU (ro (qak rfl (cf aU (cf aU ?_))))))))
 exact bE (qg2 (b := decide ((r'.Ao.length : Int) > 40)) (qew aV aU)) (eE hm)

def qcr (c : UInt8) : Option (Bool) :=
  if (decide ((c.toNat : Int) ≥ 48) && decide ((c.toNat : Int) ≤ 57)) then
  some true
  else
  if (decide ((c.toNat : Int) ≥ 97) && decide ((c.toNat : Int) ≤ 122)) then
  some true
  else
  if (decide ((c.toNat : Int) ≥ 65) && decide ((c.toNat : Int) ≤ 90)) then
  some true
  else
  (ixByteM ([33, 35, 36, 37, 38, 39, 42, 43, 45, 46, 94, 95, 96, 124, 126] : Str) c).bind fun aU =>
  some (decide (aU ≥ 0))
theorem qf6 {c : UInt8} {K : Hp} {r : Bool}
    (hm : qcr c = some r)  :
    Fn Tryz.prog 219 [.int .u8 (c.toNat : Int)] K [] (fun v K' H' => v = .bool r ∧ H' = []) := by
 refine Fn.enter Tryz.func219 Tryz.call219 rfl fun F => ?_
 unfold qcr at hm
 refine qal rfl ?_
 refine jR (σ := Unit) (rg 3 7) (fun _ => [(3, .bool (decide ((c.toNat : Int) ≥ 48) && decide ((c.toNat : Int) ≤ 57)))]) (fun aZ => True) ?_ ?_
 refine qaj rfl ?_
 refine qae ?_ ?_ <;> intro aW
 refine ct aW (ct aW ?_)
 exact eMt () ⟨bq (qc1 (b := decide ((c.toNat : Int) ≤ 57)) aW), trivial⟩
 refine cf aW (cf aW ?_)
 exact eMt () ⟨bq (((qbc aW)).symm), trivial⟩
 rintro _ _ a6
 refine cs rfl rfl hm ?_ ?_ <;> intro w3 hm
 refine qac rfl (ct w3 ?_)
 exact eE hm
 refine qaj rfl ?_
 refine qae ?_ ?_ <;> intro aV
 refine ct aV (ct aV (qac rfl ?_))
 refine qae ?_ ?_ <;> intro w3
 replace hm := ift (qcy aV w3) hm
 refine qac rfl (ct w3 ?_)
 exact eE hm
 replace hm := qa9 (qcz aV w3) hm
 refine qaj rfl ?_
 refine qae ?_ ?_ <;> intro aU
 refine ct aU (ct aU (qac rfl ?_))
 refine qae ?_ ?_ <;> intro w3
 replace hm := ift (qcy aU w3) hm
 exact eE hm
 replace hm := qa9 (qcz aU w3) hm
 refine cb hm fun aY aX hm => cg0 (qja aX) ?_
 exact eE hm
 refine cf aU (cf aU (qac rfl (cF ?_)))
 replace hm := qa9 (qbc aU) hm
 refine cb hm fun aY aX hm => cg0 (qja aX) ?_
 exact eE hm
 refine cf aV (cf aV (qac rfl (cF ?_)))
 replace hm := qa9 (qbc aV) hm
 refine qaj rfl ?_
 refine qae ?_ ?_ <;> intro aU
 refine ct aU (ct aU (qac rfl ?_))
 refine qae ?_ ?_ <;> intro w3
 replace hm := ift (qcy aU w3) hm
 exact eE hm
 replace hm := qa9 (qcz aU w3) hm
 refine cb hm fun aY aX hm => cg0 (qja aX) ?_
 exact eE hm
 refine cf aU (cf aU (qac rfl (cF ?_)))
 replace hm := qa9 (qbc aU) hm
 refine cb hm fun aY aX hm => cg0 (qja aX) ?_
 exact eE hm

def syntax_Token_L0 : List UInt8 → Nat → Option (Fl (Bool) (Unit))
  | [], _ => some (Fl.go ())
  | e0 :: aU, i0 =>
    (qcr e0).bind fun al =>
    if (!al) then
    some (Fl.ret false)
    else
    syntax_Token_L0 aU (i0 + 1)
def qc9 (s : Str) : Option (Bool) :=
  (chk (s.length ≤ qa3)).bind fun _ =>
  (syntax_Token_L0 s 0).bind fun s0 => s0.el some fun t0 =>
  some (decide (s ≠ ([] : Str)))
theorem qf7 {s : Str} {K : Hp} {r : Bool}
    (hm : qc9 s = some r)  :
    Fn Tryz.prog 180 [str s] K [] (fun v K' H' => v = .bool r ∧ H' = []) := by
 refine Fn.enter Tryz.func180 Tryz.call180 rfl fun F => ?_
 unfold qc9 at hm
 refine ro (qa0 rfl ?_)
 obtain ⟨aX, hm⟩ := qaw hm
 obtain ⟨s0, aU, hm⟩ := bnd hm
 refine lD (σ := (Unit)) ([2,3] ++ rg 6 9) [0] (fun i0 => [(6, .int .i64 (i0 : Int))]) (fun _ => []) (fun _ => []) (fun _ => True) (fun i0 _ => syntax_Token_L0 (s.drop i0) i0 = some s0) (fun t0 => s0 = Fl.go t0) (fun i0 => s.length - i0) 0 () aU (And.intro qe (And.intro ?_ ?_))
 clear aU
 rintro i0 _ _ aU j0
 conv at aU => whnf
 refine qac rfl ?_
 refine qae ?_ ?_ <;> intro w0
 obtain ⟨e0, aV, aY⟩ := ltx w0
 rw [aY, syntax_Token_L0.eq_2] at aU
 refine qal rfl ?_
 refine qaz rfl (nn _) aV ?_
 refine cb aU fun al aW aU => cg0 (qf6 aW :) ?_
 refine qau ?_
 refine cs rfl rfl aU ?_ ?_ <;> intro aZ aU
 exact eE (er aU hm)
 refine qam (qbn aV aX) ?_
 exact eR aU (_, ())
 rw [lty w0, syntax_Token_L0.eq_1] at aU
 refine cT ?_
 exact eM aU _
 rintro t0 _ rfl j0
 replace hm := elg hm
 refine qbk ?_
 exact eE hm

def JaN : Nat → Nat → Str → Option (Str)
  | 0, _, ac => some ac
  | aV + 1, i0, ac =>
    (ix ac (i0 : Int)).bind fun aU =>
    if (decide ((aU.toNat : Int) ≥ 65) && decide ((aU.toNat : Int) ≤ 90)) then
    (ix ac (i0 : Int)).bind fun aW =>
    JaN aV (i0 + 1) (ac.set (((i0 : Int)).toNat) (aU + (32 : UInt8)))
    else
    JaN aV (i0 + 1) ac
def JaK (s : Str) : Option (Str) :=
  (chk (s.length ≤ lim)).bind fun _ =>
  (chk (InI (s.length : Int))).bind fun _ =>
  (JaN (s.length : Int).toNat 0 s).bind fun t0 =>
  some t0
theorem JaO {s : Str} {K : Hp} {r : Str}
    (hm : JaK s = some r)  :
    Fn Tryz.prog 51 [str s] K [] (fun v K' H' => v = str r ∧ H' = []) := by
 refine Fn.enter Tryz.func51 Tryz.call51 rfl fun F => ?_
 unfold JaK at hm
 obtain ⟨h7, hm⟩ := qaw hm
 refine qfz rfl rfl rfl h7 ?_
 intro a7 c7 o7
 refine ro (qak rfl ?_)
 obtain ⟨a8, hm⟩ := qaw hm
 obtain ⟨s0, aV, hm⟩ := bnd hm
 refine lD (σ := (Str)) ([4,5] ++ rg 10 17) [1] (fun i0 => [(10, .int .i64 (i0 : Int))]) (fun _ => []) (fun t0 => [qat eU a7 5 1 c7 t0]) (fun t0 => (0 < t0.length → Has a7) ∧ s.length = t0.length) (fun i0 t0 => JaN ((s.length : Int).toNat - i0) i0 t0 = some s0) (fun t0 => t0 = s0) (fun i0 => (s.length : Int).toNat - i0) 0 _ aV (And.intro qe (And.intro ?_ ?_))
 clear aV
 rintro i0 ac ⟨aW, aX⟩ aV j0
 conv at aV => whnf
 refine qac rfl ?_
 refine qae ?_ ?_ <;> intro w0
 rw [ltn w0, JaN.eq_2] at aV
 refine qal rfl ?_
 obtain ⟨a6, bc, ba, aV⟩ := ixb aV
 refine RStep.ofN (qad rfl rfl (qco aW ba) bc (qax aX bc ba) (ro (qbv (i := ((i0 : Int)).toNat) (o := 0) r0 rfl ba rfl rfl ?_)))
 refine qaj rfl ?_
 refine qae ?_ ?_ <;> intro aU
 refine ct aU (ct aU (qac rfl ?_))
 refine qae ?_ ?_ <;> intro bf
 replace aV := ift (qcy aU bf) aV
 refine qh2 (x := a6) (y := (32 : UInt8)) rfl rfl ?_
 obtain ⟨bg, bd, aZ, aV⟩ := ixb aV
 refine RStep.ofN (qad rfl rfl (qco aW aZ) bd (qax aX bd aZ) ?_)
 refine qex (o := 0) (y := (a6 + (32 : UInt8))) bg r0 rfl aZ rfl (by (conv => whnf); exact ⟨rfl, rfl, (nl rfl), rfl, rfl, rfl⟩) ?_
 refine qam (qij w0 a8) ?_
 exact rd (i0 + 1, (ac.set (((i0 : Int)).toNat) (a6 + (32 : UInt8)))) ⟨rfl, trivial⟩ rfl (pf rfl) lr (qqk w0) ⟨⟨(by first | simpa using aW | exact fun _ => ⟨_, _, rfl⟩), ((aX).trans List.length_set.symm)⟩, aV⟩
 replace aV := qa9 (qcz aU bf) aV
 refine qam (qij w0 a8) ?_
 exact eR aV (_, _)
 refine cf aU (cf aU (qac rfl (cF ?_)))
 replace aV := qa9 (qbc aU) aV
 refine qam (qij w0 a8) ?_
 exact eR aV (_, _)
 rw [lto w0, JaN.eq_1] at aV
 refine cT ?_
 exact eM aV _
 rintro t0 ⟨bb, aY⟩ rfl j0
 refine ro (qeh aY r0 rfl rfl rfl ?_)
 exact eE hm

def Jc7 (s : Str) : Option (Str × Err) :=
  (qc9 s).bind fun x5 =>
  if (!x5) then
  some (([] : Str), (some 8))
  else
  if decide ((s.length : Int) > 64) then
  some (([] : Str), (some 5))
  else
  (JaK s).bind fun aU =>
  some (aU, none)
theorem Jd8 {s : Str} {K : Hp} {r : Str × Err}
    (hm : Jc7 s = some r)  :
    Fn Tryz.prog 137 [str s] K [] (fun v K' H' => v = .tuple #[str r.1, qcp 48 r.2] ∧ H' = []) := by
 refine Fn.enter Tryz.func137 Tryz.call137 rfl fun F => ?_
 unfold Jc7 at hm
 refine cb hm fun x5 q5 hm => cg0 (qf7 q5 :) ?_
 refine qau ?_
 refine cs rfl rfl hm ?_ ?_ <;> intro w6 hm
 refine qas rfl ?_
 exact eE hm
 refine ro (qa0 rfl ?_)
 refine cs rfl rfl hm ?_ ?_ <;> intro aW hm
 refine qas rfl ?_
 exact eE hm
 refine cb hm fun aV aU hm => cg0 (JaO aU :) ?_
 exact eE hm

def JaY : List UInt8 → Nat → Option (Fl (Bool) (Unit))
  | [], _ => some (Fl.go ())
  | e0 :: aW, i0 =>
    (if decide ((e0.toNat : Int) < 32) then some (decide ((e0.toNat : Int) ≠ 9)) else some false).bind fun aU =>
    (if aU then some true else some (decide ((e0.toNat : Int) = 127))).bind fun aV =>
    if aV then
    some (Fl.ret true)
    else
    JaY aW (i0 + 1)
def Jc2 (s : Str) : Option (Bool) :=
  (chk (s.length ≤ qa3)).bind fun _ =>
  (JaY s 0).bind fun s0 => s0.el some fun t0 =>
  some false
theorem Jeq {s : Str} {K : Hp} {r : Bool}
    (hm : Jc2 s = some r)  :
    Fn Tryz.prog 181 [str s] K [] (fun v K' H' => v = .bool r ∧ H' = []) := by
 refine Fn.enter Tryz.func181 Tryz.call181 rfl fun F => ?_
 unfold Jc2 at hm
 refine ro (qa0 rfl ?_)
 obtain ⟨a8, hm⟩ := qaw hm
 obtain ⟨s0, aW, hm⟩ := bnd hm
 refine lD (σ := (Unit)) ([2,3] ++ rg 6 20) [0] (fun i0 => [(6, .int .i64 (i0 : Int))]) (fun _ => []) (fun _ => []) (fun _ => True) (fun i0 _ => JaY (s.drop i0) i0 = some s0) (fun t0 => s0 = Fl.go t0) (fun i0 => s.length - i0) 0 () aW (And.intro qe (And.intro ?_ ?_))
 clear aW
 rintro i0 _ _ aW j0
 conv at aW => whnf
 refine qac rfl ?_
 refine qae ?_ ?_ <;> intro w0
 obtain ⟨e0, aZ, ba⟩ := ltx w0
 rw [ba, JaY.eq_2] at aW
 refine qal rfl ?_
 refine qaj rfl ?_
 refine qaz rfl (nn _) aZ ?_
 obtain ⟨bc, aY, aW⟩ := bnd aW
 refine cS aY (fun aV aY => ?_) fun aV aY => ?_
 refine ct aV (ct aV (qaz rfl (nn _) aZ (ct aV (qa8 (ct aV ?_)))))
 obtain ⟨bb, aX, aW⟩ := bnd aW
 refine qae ?_ ?_ <;> intro aU
 replace aX := ift ((si aY).symm.trans aU) aX
 refine ct aU (ct aU (ct aU (ct aU (qac rfl (cT ?_)))))
 replace aW := ift (si aX).symm aW
 exact eE (er aW hm)
 replace aX := qa9 ((si aY).symm.trans aU) aX
 refine cf aU (cf aU (qaz rfl (nn _) aZ (cf aU (qag (cf aU (qac rfl ?_))))))
 refine qae ?_ ?_ <;> intro a6
 replace aW := ift ((si aX).symm.trans a6) aW
 exact eE (er aW hm)
 replace aW := qa9 ((si aX).symm.trans a6) aW
 refine qam (qbn aZ a8) ?_
 exact eR aW (_, ())
 refine cf aV (cf aV (cf aV (cf aV ?_)))
 obtain ⟨bb, aX, aW⟩ := bnd aW
 replace aX := qa9 (si aY).symm aX
 refine cF (cF (cF (qaz rfl (nn _) aZ (cF (qag (cF (qac rfl ?_)))))))
 refine qae ?_ ?_ <;> intro a6
 replace aW := ift ((si aX).symm.trans a6) aW
 exact eE (er aW hm)
 replace aW := qa9 ((si aX).symm.trans a6) aW
 refine qam (qbn aZ a8) ?_
 exact eR aW (_, ())
 rw [lty w0, JaY.eq_1] at aW
 refine cT ?_
 exact eM aW _
 rintro t0 _ rfl j0
 replace hm := elg hm
 exact eE hm

def JcI (s : Str) : Option (Str × Err) :=
  (Jc2 s).bind fun x5 =>
  if x5 then
  some (([] : Str), (some 2))
  else
  (qh7 s ([32, 9] : Str)).bind fun x8 =>
  if decide ((x8.length : Int) > 2048) then
  some (([] : Str), (some 5))
  else
  some (x8, none)
theorem Jd2 {s : Str} {K : Hp} {r : Str × Err}
    (hm : JcI s = some r)  :
    Fn Tryz.prog 138 [str s] K [] (fun v K' H' => v = .tuple #[str r.1, qcp 48 r.2] ∧ H' = []) := by
 refine Fn.enter Tryz.func138 Tryz.call138 rfl fun F => ?_
 unfold JcI at hm
 refine cb hm fun x5 q5 hm => cg0 (Jeq q5 :) ?_
 refine cs rfl rfl hm ?_ ?_ <;> intro w5 hm
 refine qas rfl ?_
 exact eE hm
 refine cb hm fun x8 q8 hm => cg0 (qke q8) ?_
 refine ro (qa0 rfl ?_)
 refine cs rfl rfl hm ?_ ?_ <;> intro aU hm
 refine qas rfl ?_
 exact eE hm
 exact eE hm

def Jda (f : Jc) : Option (Err) :=
  (Jc7 f.Name).bind fun x9 =>
  if x9.2.isSome then
  some x9.2
  else
  if decide (x9.1 ≠ f.Name) then
  some (some 8)
  else
  (JcI f.Value).bind fun aU =>
  if aU.2.isSome then
  some aU.2
  else
  if decide (aU.1 ≠ f.Value) then
  some (some 2)
  else
  some none
theorem JeA {f : Jc} {K : Hp} {r : Err}
    (hm : Jda f = some r)  :
    Fn Tryz.prog 86 [.agg #[str f.Name, str f.Value]] K [] (fun v K' H' => v = qcp 48 r ∧ H' = []) := by
 refine Fn.enter Tryz.func86 Tryz.call86 rfl fun F => ?_
 unfold Jda at hm
 refine qar ?_
 intro b1
 refine fa rfl (ro (ld r0 rfl rfl ?_))
 refine cb hm fun x9 q9 hm => cg0 (Jd8 q9 :) ?_
 refine qa5 rfl ?_
 refine cs rfl rfl hm ?_ ?_ <;> intro aX hm
 exact eE hm
 refine fa rfl (ro (ld r0 rfl rfl (qbk ?_)))
 refine cs rfl rfl hm ?_ ?_ <;> intro aY hm
 refine qas rfl ?_
 exact eE hm
 refine fa rfl (ro (ld r0 rfl rfl ?_))
 refine cb hm fun aV aU hm => cg0 (Jd2 aU :) ?_
 refine qa5 rfl ?_
 refine cs rfl rfl hm ?_ ?_ <;> intro aW hm
 exact eE hm
 refine fa rfl (ro (ld r0 rfl rfl (qbk ?_)))
 refine cs rfl rfl hm ?_ ?_ <;> intro aZ hm
 refine qas rfl ?_
 exact eE hm
 exact eE hm

def Jbr : List Jc → Nat → Option (Fl (Err) (Unit))
  | [], _ => some (Fl.go ())
  | e0 :: aV, i0 =>
    (Jda e0).bind fun aU =>
    if aU.isSome then
    some (Fl.ret aU)
    else
    Jbr aV (i0 + 1)
def Jdb (f : (List Jc)) : Option (Err) :=
  if decide ((f.length : Int) > 64) then
  some (some 5)
  else
  (chk (f.length ≤ qa3)).bind fun _ =>
  (Jbr f 0).bind fun s0 => s0.el some fun t0 =>
  some none
theorem JeB {f : (List Jc)} {aa : Option Addr} {ab : Nat} {n0 : Nat} {K : Hp} {r : Err}
    (hm : Jdb f = some r) (hX : RdC Jc.enc K aa ab 2 f ∧ n0 = f.length) :
    Fn Tryz.prog 50 [.slice aa n0 ab] K [] (fun v K' H' => v = qcp 48 r ∧ H' = []) := by
 obtain ⟨ae, aX⟩ := hX
 subst aX
 refine Fn.enter Tryz.func50 Tryz.call50 rfl fun F => ?_
 unfold Jdb at hm
 refine ro (qak rfl ?_)
 refine cs rfl rfl hm ?_ ?_ <;> intro w8 hm
 refine qas rfl ?_
 exact eE hm
 refine ro (qak rfl ?_)
 obtain ⟨aY, hm⟩ := qaw hm
 obtain ⟨s0, aU, hm⟩ := bnd hm
 refine lD (σ := (Unit)) ([2,4,5] ++ rg 12 10) [0] (fun i0 => [(12, .int .i64 (i0 : Int))]) (fun _ => []) (fun _ => []) (fun _ => True) (fun i0 _ => Jbr (f.drop i0) i0 = some s0) (fun t0 => s0 = Fl.go t0) (fun i0 => f.length - i0) 0 () aU (And.intro qe (And.intro ?_ ?_))
 clear aU
 rintro i0 _ _ aU j0
 conv at aU => whnf
 refine qac rfl ?_
 refine qae ?_ ?_ <;> intro w0
 obtain ⟨e0, aV, aZ⟩ := ltx w0
 rw [aZ, Jbr.eq_2] at aU
 refine qal rfl ?_
 refine RStep.ofN (qad rfl rfl (qff ae.rd aV) (nn _) (qbl aV) (ro (qan i0 _ ae.rd rfl (mp aV) rfl ?_)))
 refine qaf rfl fun b4 => ?_
 refine qaa r0 rfl ⟨rfl, rfl, (nl rfl), ?_⟩
 refine ro (qab r0 rfl (nl rfl) ?_)
 refine cb aU fun a6 aW aU => cg0 (JeA aW :) ?_
 refine qa5 rfl ?_
 refine cs rfl rfl aU ?_ ?_ <;> intro a8 aU
 exact eE (er aU hm)
 refine qam (qbn aV aY) ?_
 exact eR aU (_, ())
 rw [lty w0, Jbr.eq_1] at aU
 refine cT ?_
 exact eM aU _
 rintro t0 _ rfl j0
 replace hm := elg hm
 exact eE hm

def Jdc (r' : JA) : Option (Bool) :=
  (Jdb r'.Ao).bind fun x5 =>
  some x5.isNone
theorem JeC {r' : JA} {aa : Option Addr} {ab : Nat} {K : Hp} {r : Bool}
    (hm : Jdc r' = some r) (ae : RdC Jc.enc K aa ab 2 r'.Ao) :
    Fn Tryz.prog 20 [.agg #[str r'.Am, str r'.Target, .slice aa r'.Ao.length ab]] K [] (fun v K' H' => v = .bool r ∧ H' = []) := by
 refine Fn.enter Tryz.func20 Tryz.call20 rfl fun F => ?_
 unfold Jdc at hm
 refine qar ?_
 intro b1
 refine fa rfl (ro (ld r0 rfl rfl ?_))
 refine cb hm fun x5 q5 hm => cgx (JeB q5 :) ?_
 refine qd1 rfl ?_
 exact eE hm

def Jcu (c : UInt8) : Option (Bool) :=
  if (decide ((c.toNat : Int) ≥ 48) && decide ((c.toNat : Int) ≤ 57)) then
  some true
  else
  if (decide ((c.toNat : Int) ≥ 97) && decide ((c.toNat : Int) ≤ 122)) then
  some true
  else
  some (decide ((c.toNat : Int) ≥ 65) && decide ((c.toNat : Int) ≤ 90))
theorem JdJ {c : UInt8} {K : Hp} {r : Bool}
    (hm : Jcu c = some r)  :
    Fn Tryz.prog 77 [.int .u8 (c.toNat : Int)] K [] (fun v K' H' => v = .bool r ∧ H' = []) := by
 refine Fn.enter Tryz.func77 Tryz.call77 rfl fun F => ?_
 unfold Jcu at hm
 refine qaj rfl ?_
 refine qae ?_ ?_ <;> intro aY
 refine ct aY (ct aY ?_)
 refine qae ?_ ?_ <;> intro aX
 replace hm := ift (qcy aY aX) hm
 refine ct aX (ct aX (ct aX (ct aX (cT (cT (cT (cT ?_)))))))
 refine cT ?_
 exact eE hm
 replace hm := qa9 (qcz aY aX) hm
 refine cf aX (cf aX ?_)
 refine qae ?_ ?_ <;> intro aW
 refine ct aW (cf aX (ct aW (cf aX ?_)))
 refine qae ?_ ?_ <;> intro aV
 replace hm := ift (qcy aW aV) hm
 refine ct aV (ct aV (ct aV (ct aV ?_)))
 exact eE hm
 replace hm := qa9 (qcz aW aV) hm
 refine cf aV (cf aV ?_)
 refine qae ?_ ?_ <;> intro aU
 refine ct aU (cf aV (ct aU (cf aV ?_)))
 exact bE (qc1 (b := decide ((c.toNat : Int) ≤ 90)) aU) (eE hm)
 refine cf aU (cf aV (cf aU (cf aV ?_)))
 exact bE (((qbc aU)).symm) (eE hm)
 refine cf aW (cf aX (cf aW (cf aX ?_)))
 replace hm := qa9 (qbc aW) hm
 refine cF (cF (cF ?_))
 refine qae ?_ ?_ <;> intro aU
 refine ct aU (cF (ct aU (cF ?_)))
 exact bE (qc1 (b := decide ((c.toNat : Int) ≤ 90)) aU) (eE hm)
 refine cf aU (cF (cf aU (cF ?_)))
 exact bE (((qbc aU)).symm) (eE hm)
 refine cf aY (cf aY ?_)
 replace hm := qa9 (qbc aY) hm
 refine cF (cF (cF ?_))
 refine qae ?_ ?_ <;> intro aW
 refine ct aW (cF (ct aW (cF ?_)))
 refine qae ?_ ?_ <;> intro aV
 replace hm := ift (qcy aW aV) hm
 refine ct aV (ct aV (ct aV (ct aV ?_)))
 exact eE hm
 replace hm := qa9 (qcz aW aV) hm
 refine cf aV (cf aV ?_)
 refine qae ?_ ?_ <;> intro aU
 refine ct aU (cf aV (ct aU (cf aV ?_)))
 exact bE (qc1 (b := decide ((c.toNat : Int) ≤ 90)) aU) (eE hm)
 refine cf aU (cf aV (cf aU (cf aV ?_)))
 exact bE (((qbc aU)).symm) (eE hm)
 refine cf aW (cF (cf aW (cF ?_)))
 replace hm := qa9 (qbc aW) hm
 refine cF (cF (cF ?_))
 refine qae ?_ ?_ <;> intro aU
 refine ct aU (cF (ct aU (cF ?_)))
 exact bE (qc1 (b := decide ((c.toNat : Int) ≤ 90)) aU) (eE hm)
 refine cf aU (cF (cf aU (cF ?_)))
 exact bE (((qbc aU)).symm) (eE hm)

def Jb2 : List UInt8 → Nat → Option (Fl (Str × Err) (Unit))
  | [], _ => some (Fl.go ())
  | e2 :: aW, i2 =>
    (Jcu e2).bind fun aU =>
    (if (!aU) then some (decide ((e2.toNat : Int) ≠ 45)) else some false).bind fun aV =>
    if aV then
    some (Fl.ret (([] : Str), (some 8)))
    else
    Jb2 aW (i2 + 1)
def Jb3 : List Str → Nat → Option (Fl (Str × Err) (Unit))
  | [], _ => some (Fl.go ())
  | e0 :: aW, i0 =>
    (((if (decide ((e0.length : Int) < 1) || decide ((e0.length : Int) > 63)) then some true else (ix e0 0).bind fun aX =>
    some (decide ((aX.toNat : Int) = 45))).bind fun aY =>
    (if aY then some true else (chk (InI ((e0.length : Int) - 1))).bind fun _ =>
    (ix e0 ((e0.length : Int) - 1)).bind fun aV =>
    some (decide ((aV.toNat : Int) = 45))).bind fun aZ =>
    some aZ) : Option (Bool)).bind fun aU =>
    if aU then
    some (Fl.ret (([] : Str), (some 8)))
    else
    (chk (e0.length ≤ qa3)).bind fun _ =>
    (Jb2 e0 0).bind fun s2 => s2.el (fun r => some (Fl.ret r)) fun t2 =>
    Jb3 aW (i0 + 1)
def Jbz : Nat → Nat → Str → Option (Str)
  | 0, _, aU => some aU
  | aW + 1, i4, aU =>
    (ix aU (i4 : Int)).bind fun aV =>
    if (decide ((aV.toNat : Int) ≥ 65) && decide ((aV.toNat : Int) ≤ 90)) then
    (ix aU (i4 : Int)).bind fun aX =>
    Jbz aW (i4 + 1) (aU.set (((i4 : Int)).toNat) (aV + (32 : UInt8)))
    else
    Jbz aW (i4 + 1) aU
def Jcr (s : Str) : Option (Str × Err) :=
  if decide ((s.length : Int) > 100) then
  some (([] : Str), (some 8))
  else
  (qe4 s ([46] : Str)).bind fun aU =>
  (chk (aU.length ≤ qa3)).bind fun _ =>
  (Jb3 aU 0).bind fun s0 => s0.el some fun t0 =>
  (chk (s.length ≤ lim)).bind fun _ =>
  (chk (InI (s.length : Int))).bind fun _ =>
  (Jbz (s.length : Int).toNat 0 s).bind fun t4 =>
  some (t4, none)
theorem JdR {s : Str} {K : Hp} {r : Str × Err}
    (hm : Jcr s = some r) (hG : GG K) :
    Fn Tryz.prog 44 [str s] K [] (fun v K' H' => v = .tuple #[str r.1, qcp 48 r.2] ∧ H' = []) := by
 refine Fn.enter Tryz.func44 Tryz.call44 rfl fun F => ?_
 unfold Jcr at hm
 refine ro (qa0 rfl ?_)
 refine cs rfl rfl hm ?_ ?_ <;> intro ce hm
 refine qas rfl ?_
 exact eE hm
 refine cb hm fun bI bT hm => ck0 (qf4 bT (gg0 hG)) ?_
 rintro _ _ _ ⟨bF, bw, rfl, bj, rfl⟩
 refine ro (qak rfl ?_)
 obtain ⟨bX, hm⟩ := qaw hm
 obtain ⟨s0, a6, hm⟩ := bnd hm
 refine lD (σ := (Unit)) ([2,3,5,6,7] ++ rg 18 43) [0, 1] (fun i0 => [(18, .int .i64 (i0 : Int))]) (fun _ => []) (fun _ => []) (fun _ => True) (fun i0 _ => Jb3 (bI.drop i0) i0 = some s0) (fun t0 => s0 = Fl.go t0) (fun i0 => bI.length - i0) 0 () a6 (And.intro qe (And.intro ?_ ?_))
 clear a6
 rintro i0 _ _ a6 j0
 conv at a6 => whnf
 refine qac rfl ?_
 refine qae ?_ ?_ <;> intro w0
 obtain ⟨e0, bn, bS⟩ := ltx w0
 rw [bS, Jb3.eq_2] at a6
 refine qal rfl ?_
 refine RStep.ofN (qad rfl rfl (qco bj bn) (nn _) (qd2 rfl bn) (ro (qbv (i := i0) (o := 0) r0 rfl bn rfl rfl (ro (qa0 rfl ?_)))))
 obtain ⟨bv, aU, a6⟩ := bnd a6
 refine jR (σ := Bool) (rg 24 18) (fun bg => [(41, .bool bg)]) (fun bg => bg = bv) ?_ ?_
 refine qaj rfl ?_
 refine qae ?_ ?_ <;> intro aZ
 refine ct aZ (ct aZ ?_)
 obtain ⟨bL, bc, aU⟩ := bnd aU
 replace bc := ift (qcn aZ) bc
 refine cT (cT (cT (cT ?_)))
 obtain ⟨bG, bb, aU⟩ := bnd aU
 replace bb := ift (si bc).symm bb
 refine cT (cT (cT (cT (cT (cT ?_)))))
 exact eMq aU _ ⟨bq (si bb), trivial⟩
 refine cf aZ (cf aZ ?_)
 obtain ⟨bL, bc, aU⟩ := bnd aU
 refine qae ?_ ?_ <;> intro aY
 replace bc := ift (qg1 aZ aY) bc
 refine ct aY (ct aY (ct aY ?_))
 obtain ⟨bG, bb, aU⟩ := bnd aU
 replace bb := ift (si bc).symm bb
 refine cT (cT (cT (cT (cT (cT ?_)))))
 exact eMq aU _ ⟨bq (si bb), trivial⟩
 replace bc := qa9 (qew aZ aY) bc
 refine cf aY ?_
 obtain ⟨cn, bW, bY, bc⟩ := ixb bc
 refine qaz rfl bW bY (cf aY (qag (cf aY ?_)))
 obtain ⟨bG, bb, aU⟩ := bnd aU
 refine qae ?_ ?_ <;> intro aW
 replace bb := ift ((si bc).symm.trans aW) bb
 refine ct aW (ct aW (ct aW (ct aW (ct aW ?_))))
 exact eMq aU _ ⟨bq (si bb), trivial⟩
 replace bb := qa9 ((si bc).symm.trans aW) bb
 refine cf aW (cf aW ?_)
 obtain ⟨bU, bb⟩ := qaw bb
 refine qam bU (cf aW ?_)
 obtain ⟨cm, bN, bR, bb⟩ := ixb bb
 refine qaz rfl bN bR (cf aW (qag (cf aW ?_)))
 exact eMq aU _ ⟨bq (si bb), trivial⟩
 rintro bg rfl bO
 refine cs rfl rfl a6 ?_ ?_ <;> intro co a6
 refine qas rfl ?_
 exact eE (er a6 hm)
 obtain ⟨bB, a6⟩ := qaw a6
 obtain ⟨s2, a8, a6⟩ := bnd a6
 refine lD (σ := (Unit)) ([2,3,7] ++ rg 44 16) [0, 1] (fun i2 => [(44, .int .i64 (i2 : Int))]) (fun _ => []) (fun _ => []) (fun _ => True) (fun i2 _ => Jb2 (e0.drop i2) i2 = some s2) (fun t2 => s2 = Fl.go t2) (fun i2 => e0.length - i2) 0 () a8 (And.intro qe (And.intro ?_ ?_))
 clear a8
 rintro i2 _ _ a8 j2
 conv at a8 => whnf
 refine qac rfl ?_
 refine qae ?_ ?_ <;> intro w2
 obtain ⟨e2, bm, bK⟩ := ltx w2
 rw [bK, Jb2.eq_2] at a8
 refine qal rfl ?_
 refine qaj rfl ?_
 refine qaz rfl (nn _) bm ?_
 refine cb a8 fun cj bV a8 => cg0 (JdJ bV :) ?_
 refine qau ?_
 obtain ⟨bZ, bh, a8⟩ := bnd a8
 refine cS bh (fun aV bh => ?_) fun aV bh => ?_
 refine ct aV (ct aV (qaz rfl (nn _) bm (ct aV (qa8 (ct aV (qac rfl ?_))))))
 refine qae ?_ ?_ <;> intro bD
 replace a8 := ift ((si bh).symm.trans bD) a8
 refine qas rfl ?_
 exact eE (er (er a8 a6 :) hm)
 replace a8 := qa9 ((si bh).symm.trans bD) a8
 refine qam (qbn bm bB) ?_
 exact eR a8 (_, ())
 refine cf aV (cf aV (cf aV (cf aV (qac rfl (cF ?_)))))
 replace a8 := qa9 (si bh).symm a8
 refine qam (qbn bm bB) ?_
 exact eR a8 (_, ())
 rw [lty w2, Jb2.eq_1] at a8
 refine cT ?_
 exact eM a8 _
 rintro t2 _ rfl j2
 replace a6 := elg a6
 refine qam (qbn bn bX) ?_
 exact eR a6 (_, ())
 rw [lty w0, Jb3.eq_1] at a6
 refine cT ?_
 exact eM a6 _
 rintro t0 _ rfl j0
 replace hm := elg hm
 obtain ⟨bP, hm⟩ := qaw hm
 refine qfz rfl rfl rfl bP ?_
 intro bz bM ca
 refine ro (qak rfl ?_)
 obtain ⟨bu, hm⟩ := qaw hm
 obtain ⟨s4, ba, hm⟩ := bnd hm
 refine lD (σ := (Str)) ([9,10] ++ rg 65 17) [1, 2] (fun i4 => [(65, .int .i64 (i4 : Int))]) (fun _ => []) (fun t4 => [qat eU bz 5 1 bM t4]) (fun t4 => (0 < t4.length → Has bz) ∧ s.length = t4.length) (fun i4 t4 => Jbz ((s.length : Int).toNat - i4) i4 t4 = some s4) (fun t4 => t4 = s4) (fun i4 => (s.length : Int).toNat - i4) 0 _ ba (And.intro qe (And.intro ?_ ?_))
 clear ba
 rintro i4 bo ⟨bf, bd⟩ ba j4
 conv at ba => whnf
 refine qac rfl ?_
 refine qae ?_ ?_ <;> intro w4
 rw [ltn w4, Jbz.eq_2] at ba
 refine qal rfl ?_
 obtain ⟨bt, bA, bp, ba⟩ := ixb ba
 refine RStep.ofN (qad rfl rfl (qco bf bp) bA (qax bd bA bp) (ro (qbv (i := ((i4 : Int)).toNat) (o := 0) r0 rfl bp rfl rfl ?_)))
 refine qaj rfl ?_
 refine qae ?_ ?_ <;> intro aX
 refine ct aX (ct aX (qac rfl ?_))
 refine qae ?_ ?_ <;> intro bC
 replace ba := ift (qcy aX bC) ba
 refine qh2 (x := bt) (y := (32 : UInt8)) rfl rfl ?_
 obtain ⟨bQ, bJ, br, ba⟩ := ixb ba
 refine RStep.ofN (qad rfl rfl (qco bf br) bJ (qax bd bJ br) ?_)
 refine qex (o := 0) (y := (bt + (32 : UInt8))) bQ r0 rfl br rfl (by (conv => whnf); exact ⟨rfl, rfl, (nl rfl), rfl, rfl, rfl⟩) ?_
 refine qam (qij w4 bu) ?_
 exact rd (i4 + 1, (bo.set (((i4 : Int)).toNat) (bt + (32 : UInt8)))) ⟨rfl, trivial⟩ rfl (pf rfl) lr (qqk w4) ⟨⟨(by first | simpa using bf | exact fun _ => ⟨_, _, rfl⟩), ((bd).trans List.length_set.symm)⟩, ba⟩
 replace ba := qa9 (qcz aX bC) ba
 refine qam (qij w4 bu) ?_
 exact eR ba (_, _)
 refine cf aX (cf aX (qac rfl (cF ?_)))
 replace ba := qa9 (qbc aX) ba
 refine qam (qij w4 bu) ?_
 exact eR ba (_, _)
 rw [lto w4, Jbz.eq_1] at ba
 refine cT ?_
 exact eM ba _
 rintro t4 ⟨bH, bl⟩ rfl j4
 refine ro (qeh bl r0 rfl rfl rfl ?_)
 exact eE hm

def JcP (c : UInt8) : Option (Bool) :=
  some ((decide ((c.toNat : Int) ≥ 97) && decide ((c.toNat : Int) ≤ 122)) || decide ((c.toNat : Int) = 95))
theorem Jdy {c : UInt8} {K : Hp} {r : Bool}
    (hm : JcP c = some r)  :
    Fn Tryz.prog 203 [.int .u8 (c.toNat : Int)] K [] (fun v K' H' => v = .bool r ∧ H' = []) := by
 refine Fn.enter Tryz.func203 Tryz.call203 rfl fun F => ?_
 unfold JcP at hm
 refine qaj rfl ?_
 refine qae ?_ ?_ <;> intro aU
 refine ct aU (ct aU ?_)
 refine qae ?_ ?_ <;> intro aV
 refine ct aV (ct aV ?_)
 exact bE (((qcn (qcy aU aV))).symm) (eE hm)
 refine cf aV (qag (cf aV ?_))
 exact bE (qg2 (b := decide ((c.toNat : Int) = 95)) (qcz aU aV)) (eE hm)
 refine cf aU (cf aU (cF (cF (qag (cF ?_)))))
 exact bE (qg2 (b := decide ((c.toNat : Int) = 95)) (qbc aU)) (eE hm)

def Jcv (c : UInt8) : Option (Bool) :=
  some (decide ((c.toNat : Int) ≥ 48) && decide ((c.toNat : Int) ≤ 57))
theorem JcT {c : UInt8} {K : Hp} {r : Bool}
    (hm : Jcv c = some r)  :
    Fn Tryz.prog 204 [.int .u8 (c.toNat : Int)] K [] (fun v K' H' => v = .bool r ∧ H' = []) := by
 refine Fn.enter Tryz.func204 Tryz.call204 rfl fun F => ?_
 unfold Jcv at hm
 refine qaj rfl ?_
 refine qae ?_ ?_ <;> intro aU
 refine ct aU (ct aU ?_)
 exact bE (qc1 (b := decide ((c.toNat : Int) ≤ 57)) aU) (eE hm)
 refine cf aU (cf aU ?_)
 exact bE (((qbc aU)).symm) (eE hm)

def Ja7 (s : Str) : Nat → Str → Int → Option (Fl (Int × Str) (Str × Int))
  | 0, _, _ => none
  | aW + 1, ac, aU =>
    if decide (aU < (s.length : Int)) then
    (ix s aU).bind fun aV =>
    if decide ((aV.toNat : Int) = 34) then
    (chk (InI (aU + 1))).bind fun _ =>
    some (Fl.ret ((aU + 1), ac))
    else
    if decide ((aV.toNat : Int) = 92) then
    (chk (InI (aU + 1))).bind fun _ =>
    if decide ((aU + 1) = (s.length : Int)) then
    some (Fl.ret (0, ([] : Str)))
    else
    (ix s (aU + 1)).bind fun aZ =>
    (if decide ((aZ.toNat : Int) ≠ 34) then (ix s (aU + 1)).bind fun ao =>
    some (decide ((ao.toNat : Int) ≠ 92)) else some false).bind fun aY =>
    if aY then
    some (Fl.ret (0, ([] : Str)))
    else
    (ix s (aU + 1)).bind fun aX =>
    (chk (ac.length + ([aX] : Str).length ≤ lim)).bind fun _ =>
    (chk (InI ((aU + 1) + 1))).bind fun _ =>
    Ja7 s aW (ac ++ ([aX] : Str)) ((aU + 1) + 1)
    else
    if (decide ((aV.toNat : Int) < 32) || decide ((aV.toNat : Int) > 126)) then
    some (Fl.ret (0, ([] : Str)))
    else
    (chk (ac.length + ([aV] : Str).length ≤ lim)).bind fun _ =>
    (chk (InI (aU + 1))).bind fun _ =>
    Ja7 s aW (ac ++ ([aV] : Str)) (aU + 1)
    else
    some (Fl.go (ac, aU))
def Jdk (n : Nat) (s : Str) : Option (Int × Str) :=
  (Ja7 s n [] 1).bind fun s0 => s0.el some fun t0 =>
  some (0, ([] : Str))
theorem Jec {n : Nat} {s : Str} {K : Hp} {r : Int × Str}
    (hm : Jdk n s = some r)  :
    Fn Tryz.prog 205 [str s] K [] (fun v K' H' => v = .tuple #[.int .i64 r.1, str r.2] ∧ H' = []) := by
 refine Fn.enter Tryz.func205 Tryz.call205 rfl fun F => ?_
 unfold Jdk at hm
 obtain ⟨s0, aU, hm⟩ := bnd hm
 refine qhg eU 5 1 ?_
 refine lD (σ := (Str × Int) × Option Addr × Nat) (rg 2 56) [1] (fun _ => []) (fun (t0, aY, aZ) => [(4, .slice aY t0.1.length aZ), (5, .int .i64 t0.2)]) (fun (t0, aY, aZ) => [qat eU aY 5 1 aZ t0.1]) (fun (t0, aY, aZ) => (0 < t0.1.length → Has aY) ∧ True) (fun i0 (t0, aY, aZ) => Ja7 s i0 t0.1 t0.2 = some s0) (fun (t0, aY, aZ) => s0 = Fl.go t0) (fun i0 => i0) n ((_, _), _, _) aU (And.intro qe (And.intro ?_ ?_))
 clear aU
 rintro i0 ⟨⟨ac, bu⟩, bp, bm⟩ ⟨bd, _⟩ aU j0
 dsimp only at aU ⊢
 cases i0 with
 | zero => rw [Ja7.eq_1] at aU; cases aU
 | succ i0 =>
  rw [Ja7.eq_2] at aU
  refine ro (qa0 rfl ?_)
  refine cs rfl rfl aU ?_ ?_ <;> intro bH aU
  refine qal rfl ?_
  obtain ⟨bf, bt, bv, aU⟩ := ixb aU
  refine qaz rfl bt bv ?_
  refine qal rfl ?_
  refine qag (cs rfl rfl aU ?_ ?_) <;> intro bD aU
  refine qa6 ⟨⟨[], false⟩, _, [], []⟩ (by kernel_rfl) ⟨Hp.Le.refl _, (pf rfl), ci0⟩ ?_
  refine ci aU fun aU => ?_
  refine qeh rfl r0 rfl rfl rfl ?_
  exact eE (er aU hm)
  refine qag (cs rfl rfl aU ?_ ?_) <;> intro bF aU
  refine ci aU fun aU => ?_
  refine qaj rfl ?_
  refine ro (qa0 rfl (qag ?_))
  refine cS aU (fun aV aU => ?_) fun aV aU => ?_
  refine ct aV (ct aV (ct aV (ct aV (ct aV (ct aV (qac rfl (cT ?_)))))))
  exact eE (er aU hm)
  refine cf aV (cf aV ?_)
  obtain ⟨bG, bB, bw, aU⟩ := ixb aU
  refine qaz rfl bB bw (cf aV (qa8 (cf aV ?_)))
  obtain ⟨bC, a6, aU⟩ := bnd aU
  refine cS a6 (fun aW a6 => ?_) fun aW a6 => ?_
  refine ct aW (ct aW ?_)
  obtain ⟨ao, bA, bz, a6⟩ := ixb a6
  refine qaz rfl bA bz (ct aW (qa8 (cf aV (ct aW (cf aV (qac rfl ?_))))))
  refine qae ?_ ?_ <;> intro bg
  replace aU := ift ((si a6).symm.trans bg) aU
  exact eE (er aU hm)
  replace aU := qa9 ((si a6).symm.trans bg) aU
  obtain ⟨ba, bc, bb, aU⟩ := ixb aU
  refine qaz rfl bc bb ?_
  refine bsO (len := 1) (enc := eU) (l := ([ba] : Str)) (cl := [.int .u8 (ba.toNat : Int)]) qck rfl rfl (fun _ _ => rfl) rfl rfl rfl ?_ fun bo => ?_
  · conv => whnf
    refine cT ?_
    first | done | rfl
  obtain ⟨a8, aU⟩ := qaw aU
  refine apE rfl r1 qck (qay rfl r0 rfl (fun _ => rfl) (fun _ => rfl)) a8 ?_
  intro bn bl bj
  refine ci aU fun aU => ?_
  exact eR aU (_, (_, _), _, _)
  refine cf aW (cf aW (cf aW (cf aV (cf aW (cf aV (qac rfl (cF ?_)))))))
  replace aU := qa9 (si a6).symm aU
  obtain ⟨ba, bc, bb, aU⟩ := ixb aU
  refine qaz rfl bc bb ?_
  refine bsO (len := 1) (enc := eU) (l := ([ba] : Str)) (cl := [.int .u8 (ba.toNat : Int)]) qck rfl rfl (fun _ _ => rfl) rfl rfl rfl ?_ fun bo => ?_
  · conv => whnf
    refine cT ?_
    first | done | rfl
  obtain ⟨a8, aU⟩ := qaw aU
  refine apE rfl r1 qck (qay rfl r0 rfl (fun _ => rfl) (fun _ => rfl)) a8 ?_
  intro bn bl bj
  refine ci aU fun aU => ?_
  exact eR aU (_, (_, _), _, _)
  refine qaj rfl ?_
  refine qae ?_ ?_ <;> intro aX
  refine ct aX (ct aX (qac rfl (cT ?_)))
  replace aU := ift (qcn aX) aU
  exact eE (er aU hm)
  refine cf aX (cf aX (qac rfl ?_))
  refine qae ?_ ?_ <;> intro br
  replace aU := ift (qg1 aX br) aU
  exact eE (er aU hm)
  replace aU := qa9 (qew aX br) aU
  refine bsO (len := 1) (enc := eU) (l := ([bf] : Str)) (cl := [.int .u8 (bf.toNat : Int)]) qck rfl rfl (fun _ _ => rfl) rfl rfl rfl ?_ fun bo => ?_
  · conv => whnf
    refine cT ?_
    first | done | rfl
  obtain ⟨a8, aU⟩ := qaw aU
  refine apE rfl r1 qck (qay rfl r0 rfl (fun _ => rfl) (fun _ => rfl)) a8 ?_
  intro bn bl bj
  refine ci aU fun aU => ?_
  exact eR aU (_, (_, _), _, _)
  refine cT ?_
  exact eM aU (_, _, _)
 rintro ⟨t0, aY, aZ⟩ ⟨bh, _⟩ rfl j0
 replace hm := elg hm
 exact eE hm

def J8 (s : Str) (prefixZ : Str) : Option (Bool) :=
  (if decide ((s.length : Int) ≥ (prefixZ.length : Int)) then (chk (0 ≤ (0 : Int) ∧ (0 : Int) ≤ (prefixZ.length : Int) ∧ (prefixZ.length : Int) ≤ (s.length : Int))).bind fun _ =>
  some (decide ((subL s (0 : Int) (prefixZ.length : Int)) = prefixZ)) else some false).bind fun aU =>
  some aU
theorem Jbh {s : Str} {prefixZ : Str} {K : Hp} {r : Bool}
    (hm : J8 s prefixZ = some r)  :
    Fn Tryz.prog 128 [str s, str prefixZ] K [] (fun v K' H' => v = .bool r ∧ H' = []) := by
 refine Fn.enter Tryz.func128 Tryz.call128 rfl fun F => ?_
 unfold J8 at hm
 refine qaj rfl ?_
 refine ro (qa0 rfl (ro (qa0 rfl ?_)))
 obtain ⟨aX, aV, hm⟩ := bnd hm
 refine cS aV (fun aU aV => ?_) fun aU aV => ?_
 refine ct aU (ct aU (ro (qa0 rfl (ct aU ?_))))
 obtain ⟨aW, aV⟩ := qaw aV
 refine RStep.ofN (qdp (lo := none) (hi := (some (prefixZ.length : Int))) rfl aW (ct aU (ct aU (qaq (ct aU ?_)))))
 exact bE (si aV) (eE hm)
 refine cf aU (cf aU (cf aU (cf aU (cf aU (cf aU ?_)))))
 exact bE (si aV) (eE hm)

def Jak (s : Str) (prefixZ : Str) : Option (Bool) :=
  (J8 s prefixZ).bind fun x7 =>
  some x7
theorem JaG {s : Str} {prefixZ : Str} {K : Hp} {r : Bool}
    (hm : Jak s prefixZ = some r)  :
    Fn Tryz.prog 75 [str s, str prefixZ] K [] (fun v K' H' => v = .bool r ∧ H' = []) := by
 refine Fn.enter Tryz.func75 Tryz.call75 rfl fun F => ?_
 unfold Jak at hm
 refine cb hm fun x7 q7 hm => cg0 (Jbh q7 :) ?_
 exact eE hm

def JbN (s : Str) : Nat → Int → Option (Int)
  | 0, _ => none
  | aW + 1, aU =>
    if decide (aU < (s.length : Int)) then
    (ix s aU).bind fun aV =>
    (JcP aV).bind fun aX =>
    (if aX then some true else (ix s aU).bind fun a6 =>
    (Jcv a6).bind fun aY =>
    some aY).bind fun aZ =>
    if aZ then
    (chk (InI (aU + 1))).bind fun _ =>
    JbN s aW (aU + 1)
    else
    some aU
    else
    some aU
def JbO (s : Str) : Nat → Int → Option (Int)
  | 0, _ => none
  | aV + 1, aU =>
    (if decide (aU < (s.length : Int)) then (ix s aU).bind fun aX =>
    (Jcv aX).bind fun az =>
    some az else some false).bind fun aW =>
    if aW then
    (chk (InI (aU + 1))).bind fun _ =>
    JbO s aV (aU + 1)
    else
    some aU
def JbP (s : Str) : Nat → Nat → Option (Fl (Int × Int × Str) (Unit))
  | 0, _ => some (Fl.go ())
  | aV + 1, i5 =>
    (ix ([([61, 61] : Str), ([33, 61] : Str), ([60, 61] : Str), ([60] : Str), ([43] : Str), ([45] : Str), ([42] : Str), ([40] : Str), ([41] : Str), ([123] : Str), ([125] : Str), ([44] : Str), ([59] : Str), ([61] : Str)]) (i5 : Int)).bind fun aU =>
    (Jak s aU).bind fun aW =>
    if aW then
    some (Fl.ret (4, (aU.length : Int), aU))
    else
    JbP s aV (i5 + 1)
def JdD (n : Nat) (s : Str) : Option (Int × Int × Str) :=
  (ix s 0).bind fun al =>
  (JcP al).bind fun aV =>
  if aV then
  (JbN s n 1).bind fun t1 =>
  (chk (0 ≤ (0 : Int) ∧ (0 : Int) ≤ t1 ∧ t1 ≤ (s.length : Int))).bind fun _ =>
  some (1, t1, (subL s (0 : Int) t1))
  else
  (Jcv al).bind fun ao =>
  if ao then
  (JbO s n 1).bind fun t3 =>
  if decide (t3 > 9) then
  some (0, 0, ([] : Str))
  else
  (chk (0 ≤ (0 : Int) ∧ (0 : Int) ≤ t3 ∧ t3 ≤ (s.length : Int))).bind fun _ =>
  some (2, t3, (subL s (0 : Int) t3))
  else
  if decide ((al.toNat : Int) = 34) then
  (Jdk n s).bind fun aU =>
  some (3, aU.1, aU.2)
  else
  (chk (InI (14 : Int))).bind fun _ =>
  (JbP s (14 : Int).toNat 0).bind fun s5 => s5.el some fun t5 =>
  some (0, 0, ([] : Str))
theorem Jer {n : Nat} {s : Str} {K : Hp} {r : Int × Int × Str}
    (hm : JdD n s = some r)  :
    Fn Tryz.prog 148 [str s] K [] (fun v K' H' => v = .tuple #[.int .i64 r.1, .int .i64 r.2.1, str r.2.2] ∧ H' = []) := by
 refine Fn.enter Tryz.func148 Tryz.call148 rfl fun F => ?_
 unfold JdD at hm
 obtain ⟨al, bh, bw, hm⟩ := ixb hm
 refine qaz rfl bh bw ?_
 refine qal rfl ?_
 refine cb hm fun bI bl hm => cg0 (Jdy bl :) ?_
 refine cs rfl rfl hm ?_ ?_ <;> intro bN hm
 obtain ⟨s1, aV, hm⟩ := bnd hm
 refine lD (σ := (Int)) ([5] ++ rg 16 18) [0] (fun _ => []) (fun t1 => [(5, .int .i64 t1)]) (fun _ => []) (fun _ => True) (fun i1 t1 => JbN s i1 t1 = some s1) (fun t1 => t1 = s1) (fun i1 => i1) n _ aV (And.intro qe (And.intro ?_ ?_))
 clear aV
 rintro i1 bo _ aV j1
 conv at aV => whnf
 cases i1 with
 | zero => rw [JbN.eq_1] at aV; cases aV
 | succ i1 =>
  rw [JbN.eq_2] at aV
  refine qaj rfl ?_
  refine ro (qa0 rfl ?_)
  refine cS aV (fun aU aV => ?_) fun aU aV => ?_
  refine ct aU (ct aU ?_)
  obtain ⟨bG, bt, bz, aV⟩ := ixb aV
  refine qaz rfl bt bz (ct aU ?_)
  refine cb aV fun bV bn aV => cg0 (Jdy bn :) ?_
  refine ct aU ?_
  obtain ⟨bK, a6, aV⟩ := bnd aV
  refine cS a6 (fun aW a6 => ?_) fun aW a6 => ?_
  refine ct aW (ct aW (ct aW (ct aU (ct aW (ct aU (qac rfl (cT ?_)))))))
  replace aV := ift (si a6).symm aV
  refine qal rfl ?_
  refine ci aV fun aV => ?_
  exact eR aV (_, _)
  refine cf aW (cf aW ?_)
  obtain ⟨bM, bF, bf, a6⟩ := ixb a6
  refine qaz rfl bF bf (cf aW ?_)
  refine cb a6 fun bO bp a6 => cg0 (JcT bp :) ?_
  refine ct aU (cf aW (ct aU (qac rfl ?_)))
  refine qae ?_ ?_ <;> intro bc
  replace aV := ift ((si a6).symm.trans bc) aV
  refine qal rfl ?_
  refine ci aV fun aV => ?_
  exact eR aV (_, _)
  replace aV := qa9 ((si a6).symm.trans bc) aV
  refine cT ?_
  exact eM aV _
  refine cf aU (cf aU (cf aU (cf aU (cf aU (cf aU (qac rfl (cF ?_)))))))
  refine cT ?_
  exact eM aV _
 rintro t1 _ rfl j1
 refine qa6 ⟨⟨[], false⟩, _, [], []⟩ (by kernel_rfl) ⟨Hp.Le.refl _, (pf rfl), ci0⟩ ?_
 obtain ⟨bB, hm⟩ := qaw hm
 refine qdp (lo := none) (hi := (some t1)) rfl bB ?_
 exact eE hm
 refine cb hm fun ao bv hm => cg0 (JcT bv :) ?_
 refine cs rfl rfl hm ?_ ?_ <;> intro bJ hm
 obtain ⟨s3, aY, hm⟩ := bnd hm
 refine lD (σ := (Int)) ([5] ++ rg 41 12) [0] (fun _ => []) (fun t3 => [(5, .int .i64 t3)]) (fun _ => []) (fun _ => True) (fun i3 t3 => JbO s i3 t3 = some s3) (fun t3 => t3 = s3) (fun i3 => i3) n _ aY (And.intro qe (And.intro ?_ ?_))
 clear aY
 rintro i3 bu _ aY j3
 conv at aY => whnf
 cases i3 with
 | zero => rw [JbO.eq_1] at aY; cases aY
 | succ i3 =>
  rw [JbO.eq_2] at aY
  refine qaj rfl ?_
  refine ro (qa0 rfl ?_)
  obtain ⟨bP, a8, aY⟩ := bnd aY
  refine cS a8 (fun aX a8 => ?_) fun aX a8 => ?_
  refine ct aX (ct aX ?_)
  obtain ⟨bT, br, bD, a8⟩ := ixb a8
  refine qaz rfl br bD (ct aX ?_)
  refine cb a8 fun az bj a8 => cg0 (JcT bj :) ?_
  refine ct aX (qac rfl ?_)
  refine qae ?_ ?_ <;> intro bd
  replace aY := ift ((si a8).symm.trans bd) aY
  refine qal rfl ?_
  refine ci aY fun aY => ?_
  exact eR aY (_, _)
  replace aY := qa9 ((si a8).symm.trans bd) aY
  refine cT ?_
  exact eM aY _
  refine cf aX (cf aX (cf aX (cf aX (qac rfl (cF ?_)))))
  replace aY := qa9 (si a8).symm aY
  refine cT ?_
  exact eM aY _
 rintro t3 _ rfl j3
 refine cs rfl rfl hm ?_ ?_ <;> intro bQ hm
 exact eE hm
 refine qa6 ⟨⟨[], false⟩, _, [], []⟩ (by kernel_rfl) ⟨Hp.Le.refl _, (pf rfl), ci0⟩ ?_
 obtain ⟨bA, hm⟩ := qaw hm
 refine qdp (lo := none) (hi := (some t3)) rfl bA ?_
 exact eE hm
 refine qag (cs rfl rfl hm ?_ ?_) <;> intro bR hm
 refine cb hm fun bH bg hm => cg0 (Jec bg :) ?_
 exact eE hm
 refine bsO (len := 14) (enc := eS) (l := [([61, 61] : Str), ([33, 61] : Str), ([60, 61] : Str), ([60] : Str), ([43] : Str), ([45] : Str), ([42] : Str), ([40] : Str), ([41] : Str), ([123] : Str), ([125] : Str), ([44] : Str), ([59] : Str), ([61] : Str)]) (cl := [str ([61, 61] : Str), str ([33, 61] : Str), str ([60, 61] : Str), str ([60] : Str), str ([43] : Str), str ([45] : Str), str ([42] : Str), str ([40] : Str), str ([41] : Str), str ([123] : Str), str ([125] : Str), str ([44] : Str), str ([59] : Str), str ([61] : Str)]) qbw rfl rfl (fun _ _ => rfl) rfl rfl rfl ?_ fun bS => ?_
 · conv => whnf
   refine cT (cT (cT (cT (cT (cT (cT (cT ?_)))))))
   refine cT (cT (cT (cT (cT (cT ?_)))))
   first | done | rfl
 refine ro (qak rfl ?_)
 obtain ⟨bm, hm⟩ := qaw hm
 obtain ⟨s5, aZ, hm⟩ := bnd hm
 refine lD (σ := (Unit)) ([2,3,4,10] ++ rg 71 11) [0, 1] (fun i5 => [(71, .int .i64 (i5 : Int))]) (fun _ => []) (fun _ => []) (fun _ => True) (fun i5 _ => JbP s ((14 : Int).toNat - i5) i5 = some s5) (fun t5 => s5 = Fl.go t5) (fun i5 => (14 : Int).toNat - i5) 0 () aZ (And.intro qe (And.intro ?_ ?_))
 clear aZ
 rintro i5 _ _ aZ j5
 conv at aZ => whnf
 refine qac rfl ?_
 refine qae ?_ ?_ <;> intro w5
 rw [ltn (n := (14 : Int)) w5, JbP.eq_2] at aZ
 refine qal rfl ?_
 obtain ⟨bL, bb, ba, aZ⟩ := ixb aZ
 refine RStep.ofN (qad rfl rfl (qco (fun _ => ⟨_, _, rfl⟩) ba) bb (qax rfl bb ba) (ro (qbv (i := ((i5 : Int)).toNat) (o := 0) r0 rfl ba rfl rfl ?_)))
 refine cb aZ fun bU bC aZ => cg0 (JaG bC :) ?_
 refine cs rfl rfl aZ ?_ ?_ <;> intro bW aZ
 refine ro (qa0 rfl ?_)
 exact eE (er aZ hm)
 refine qam (qij w5 bm) ?_
 exact eR aZ (_, ())
 rw [lto (n := (14 : Int)) w5, JbP.eq_1] at aZ
 refine cT ?_
 exact eM aZ _
 rintro t5 _ rfl j5
 replace hm := elg hm
 exact eE hm

def JbQ (text : Str) : Nat → Int → Option (Int)
  | 0, _ => none
  | aV + 1, aU =>
    (if decide (aU < (text.length : Int)) then (ix text aU).bind fun aW =>
    some (decide ((aW.toNat : Int) ≠ 10)) else some false).bind fun aX =>
    if aX then
    (chk (InI (aU + 1))).bind fun _ =>
    JbQ text aV (aU + 1)
    else
    some aU
def Jai (text : Str) (n : Nat) : Nat → (List Je) → Int → Int → Int → Option (Fl ((List Je) × Err) ((List Je) × Int × Int × Int))
  | 0, _, _, _, _ => none
  | aY + 1, ac, aW, aV, aU =>
    if decide (aU < (text.length : Int)) then
    (ix text aU).bind fun aZ =>
    if decide ((aZ.toNat : Int) = 10) then
    (chk (InI (aU + 1))).bind fun _ =>
    (chk (InI (aW + 1))).bind fun _ =>
    Jai text n aY ac (aW + 1) (aU + 1) (aU + 1)
    else
    if decide ((aZ.toNat : Int) = 32) then
    (chk (InI (aU + 1))).bind fun _ =>
    Jai text n aY ac aW aV (aU + 1)
    else
    if decide ((aZ.toNat : Int) = 9) then
    (chk (InI (aU + 1))).bind fun _ =>
    Jai text n aY ac aW aV (aU + 1)
    else
    if decide ((aZ.toNat : Int) = 13) then
    (chk (InI (aU + 1))).bind fun _ =>
    Jai text n aY ac aW aV (aU + 1)
    else
    if decide ((aZ.toNat : Int) = 35) then
    (JbQ text n aU).bind fun t3 =>
    Jai text n aY ac aW aV t3
    else
    (chk (0 ≤ aU ∧ aU ≤ (text.length : Int) ∧ (text.length : Int) ≤ (text.length : Int))).bind fun _ =>
    (JdD n (subL text aU (text.length : Int))).bind fun aX =>
    if decide (aX.2.1 = 0) then
    some (Fl.ret ([], (some 2)))
    else
    (chk (InI (aU - aV))).bind fun _ =>
    (chk (InI ((aU - aV) + 1))).bind fun _ =>
    (chk (ac.length + [(⟨aX.1, aX.2.2, aW, ((aU - aV) + 1)⟩ : Je)].length ≤ lim)).bind fun _ =>
    (chk (InI (aU + aX.2.1))).bind fun _ =>
    Jai text n aY (ac ++ [(⟨aX.1, aX.2.2, aW, ((aU - aV) + 1)⟩ : Je)]) aW aV (aU + aX.2.1)
    else
    some (Fl.go (ac, aW, aV, aU))
def Jc3 (n : Nat) (text : Str) : Option ((List Je) × Err) :=
  if decide ((text.length : Int) > 4096) then
  some ([], (some 5))
  else
  (Jai text n n [] 1 0 0).bind fun s0 => s0.el some fun t0 =>
  (chk (InI ((text.length : Int) - t0.2.2.1))).bind fun _ =>
  (chk (InI (((text.length : Int) - t0.2.2.1) + 1))).bind fun _ =>
  (chk (t0.1.length + ([(⟨5, ([] : Str), t0.2.1, (((text.length : Int) - t0.2.2.1) + 1)⟩ : Je)]).length ≤ lim)).bind fun _ =>
  some ((t0.1 ++ [(⟨5, ([] : Str), t0.2.1, (((text.length : Int) - t0.2.2.1) + 1)⟩ : Je)]), none)
theorem JdK {n : Nat} {text : Str} {K : Hp} {r : (List Je) × Err}
    (hm : Jc3 n text = some r)  :
    Fn Tryz.prog 96 [str text] K [] (fun v K' H' => ∃ ar_0 : Option Addr, ∃ cr_0 : Nat, v = .tuple #[.slice ar_0 r.1.length cr_0, qcp 48 r.2] ∧ (0 < r.1.length → Has ar_0) ∧ H' = [qat Je.enc ar_0 166 4 cr_0 r.1]) := by
 refine Fn.enter Tryz.func96 Tryz.call96 rfl fun F => ?_
 unfold Jc3 at hm
 refine ro (qa0 rfl ?_)
 refine cs rfl rfl hm ?_ ?_ <;> intro bJ hm
 refine qas rfl ?_
 refine qci Je.enc 166 4 ?_
 exact eE hm
 obtain ⟨s0, aU, hm⟩ := bnd hm
 refine qhg Je.enc 166 4 ?_
 refine lD (σ := ((List Je) × Int × Int × Int) × Option Addr × Nat) (rg 2 9 ++ rg 15 59) [1] (fun _ => []) (fun (t0, aW, aX) => [(4, .slice aW t0.1.length aX), (5, .int .i64 t0.2.1), (6, .int .i64 t0.2.2.1), (7, .int .i64 t0.2.2.2)]) (fun (t0, aW, aX) => [qat Je.enc aW 166 4 aX t0.1]) (fun (t0, aW, aX) => (0 < t0.1.length → Has aW) ∧ True) (fun i0 (t0, aW, aX) => Jai text n i0 t0.1 t0.2.1 t0.2.2.1 t0.2.2.2 = some s0) (fun (t0, aW, aX) => s0 = Fl.go t0) (fun i0 => i0) n ((_, _, _, _), _, _) aU (And.intro qe (And.intro ?_ ?_))
 clear aU
 rintro i0 ⟨⟨ac, a8, ba, a6⟩, bl, bj⟩ ⟨bf, _⟩ aU j0
 dsimp only at aU ⊢
 cases i0 with
 | zero => rw [Jai.eq_1] at aU; cases aU
 | succ i0 =>
  rw [Jai.eq_2] at aU
  refine ro (qa0 rfl ?_)
  refine cs rfl rfl aU ?_ ?_ <;> intro bR aU
  refine qal rfl ?_
  obtain ⟨bI, bt, bz, aU⟩ := ixb aU
  refine qaz rfl bt bz ?_
  refine qal rfl ?_
  refine qag (cs rfl rfl aU ?_ ?_) <;> intro bP aU
  refine ci aU fun aU => ?_
  obtain ⟨bp, aU⟩ := qaw aU
  refine qam bp (cF (cT ?_))
  exact eR aU (_, (_, _, _, _), _, _)
  refine qag (cs rfl rfl aU ?_ ?_) <;> intro bc aU
  refine qac rfl (ct bc ?_)
  obtain ⟨bb, aU⟩ := qaw aU
  refine qam bb (cF (cT ?_))
  exact eR aU (_, (_, _, _, _), _, _)
  refine qag (cs rfl rfl aU ?_ ?_) <;> intro bc aU
  refine qac rfl (ct bc ?_)
  obtain ⟨bb, aU⟩ := qaw aU
  refine qam bb (cF (cT ?_))
  exact eR aU (_, (_, _, _, _), _, _)
  refine qag (cs rfl rfl aU ?_ ?_) <;> intro bc aU
  obtain ⟨bb, aU⟩ := qaw aU
  refine qam bb (cF (cT ?_))
  exact eR aU (_, (_, _, _, _), _, _)
  refine qag (cs rfl rfl aU ?_ ?_) <;> intro bS aU
  obtain ⟨s3, aY, aU⟩ := bnd aU
  refine lD (σ := (Int)) ([7] ++ rg 37 12) [0, 1] (fun _ => []) (fun t3 => [(7, .int .i64 t3)]) (fun _ => []) (fun _ => True) (fun i3 t3 => JbQ text i3 t3 = some s3) (fun t3 => t3 = s3) (fun i3 => i3) n _ aY (And.intro qe (And.intro ?_ ?_))
  clear aY
  rintro i3 bw _ aY j3
  conv at aY => whnf
  cases i3 with
  | zero => rw [JbQ.eq_1] at aY; cases aY
  | succ i3 =>
   rw [JbQ.eq_2] at aY
   refine qaj rfl ?_
   refine ro (qa0 rfl ?_)
   obtain ⟨bD, aZ, aY⟩ := bnd aY
   refine cS aZ (fun aV aZ => ?_) fun aV aZ => ?_
   refine ct aV (ct aV ?_)
   obtain ⟨bM, bu, bA, aZ⟩ := ixb aZ
   refine qaz rfl bu bA (ct aV (qa8 (ct aV (qac rfl ?_))))
   refine qae ?_ ?_ <;> intro bh
   replace aY := ift ((si aZ).symm.trans bh) aY
   refine qal rfl ?_
   refine ci aY fun aY => ?_
   exact eR aY (_, _)
   replace aY := qa9 ((si aZ).symm.trans bh) aY
   refine cT ?_
   exact eM aY _
   refine cf aV (cf aV (cf aV (cf aV (qac rfl (cF ?_)))))
   replace aY := qa9 (si aZ).symm aY
   refine cT ?_
   exact eM aY _
  rintro t3 _ rfl j3
  refine cF (cT ?_)
  exact eR aU (_, (_, _, _, _), _, _)
  obtain ⟨bB, aU⟩ := qaw aU
  refine RStep.ofN (qdp (lo := (some a6)) (hi := none) rfl bB ?_)
  refine cb aU fun bd bn aU => cg0 (Jer bn :) ?_
  refine qag (cs rfl rfl aU ?_ ?_) <;> intro bH aU
  refine qas rfl ?_
  refine qci Je.enc 166 4 ?_
  exact eE (er aU hm)
  refine ci aU fun aU => ?_
  obtain ⟨br, aU⟩ := qaw aU
  refine qam br (qai rfl rfl (cT (cT (cT (cT ?_)))))
  refine bsO (len := 1) (enc := Je.enc) (l := [(⟨bd.1, bd.2.2, a8, ((a6 - ba) + 1)⟩ : Je)]) (cl := [.int .i64 bd.1, str bd.2.2, .int .i64 a8, .int .i64 ((a6 - ba) + 1)]) qkh rfl rfl (fun _ _ => rfl) rfl rfl rfl ?_ fun bO => ?_
  · conv => whnf
    refine cT ?_
    first | done | rfl
  obtain ⟨bm, aU⟩ := qaw aU
  refine apE rfl r1 qkh (qay rfl r0 rfl (fun _ => rfl) (fun _ => rfl)) bm ?_
  intro bG bN bF
  refine ci aU fun aU => ?_
  exact eR aU (_, (_, _, _, _), _, _)
  refine cT ?_
  exact eM aU (_, _, _)
 rintro ⟨t0, aW, aX⟩ ⟨bg, _⟩ rfl j0
 replace hm := elg hm
 refine ro (qa0 rfl ?_)
 refine ci hm fun hm => ?_
 obtain ⟨bo, hm⟩ := qaw hm
 refine qam bo (qai rfl rfl (cT (cT (cT (cT ?_)))))
 refine bsO (len := 1) (enc := Je.enc) (l := [(⟨5, ([] : Str), t0.2.1, (((text.length : Int) - t0.2.2.1) + 1)⟩ : Je)]) (cl := [.int .i64 5, str ([] : Str), .int .i64 t0.2.1, .int .i64 (((text.length : Int) - t0.2.2.1) + 1)]) qkh rfl rfl (fun _ _ => rfl) rfl rfl rfl ?_ fun bQ => ?_
 · conv => whnf
   refine cT ?_
   first | done | rfl
 obtain ⟨bv, hm⟩ := qaw hm
 refine apE rfl r1 qkh (qay rfl r0 rfl (fun _ => rfl) (fun _ => rfl)) bv ?_
 intro bL bK bC
 exact eE hm

def Ju (p : Jb) : Option (Bool) :=
  some (decide (p.line = 0))
theorem Js {p : Jb} {b0 : Nat} {aa : Option Addr} {ab : Nat} {K : Hp} {r : Bool}
    (hm : Ju p = some r) (ae : (0 < p.list.length → Has aa)) :
    Fn Tryz.prog 98 [.pointer (some ⟨b0, 0, none⟩)] K [Cells b0 163 [.slice aa p.list.length ab, .int .i64 p.atZ, .int .i64 p.line], qat Je.enc aa 166 4 ab p.list] (fun v K' H' => v = .bool r ∧ H' = [Cells b0 163 [.slice aa p.list.length ab, .int .i64 p.atZ, .int .i64 p.line], qat Je.enc aa 166 4 ab p.list]) := by
 refine Fn.enter Tryz.func98 Tryz.call98 rfl fun F => ?_
 unfold Ju at hm
 refine qah (fa rfl (ro (ld r0 rfl rfl (qag ?_))))
 exact eE hm

def JN (p : Jb) : Option (Je) :=
  (ix p.list p.atZ).bind fun aU =>
  some aU
theorem JL {p : Jb} {b0 : Nat} {aa : Option Addr} {ab : Nat} {K : Hp} {r : Je}
    (hm : JN p = some r) (ae : (0 < p.list.length → Has aa)) :
    Fn Tryz.prog 99 [.pointer (some ⟨b0, 0, none⟩)] K [Cells b0 163 [.slice aa p.list.length ab, .int .i64 p.atZ, .int .i64 p.line], qat Je.enc aa 166 4 ab p.list] (fun v K' H' => v = .agg #[.int .i64 r.Ab, str r.Ac, .int .i64 r.Ad, .int .i64 r.Column] ∧ H' = [Cells b0 163 [.slice aa p.list.length ab, .int .i64 p.atZ, .int .i64 p.line], qat Je.enc aa 166 4 ab p.list]) := by
 refine Fn.enter Tryz.func99 Tryz.call99 rfl fun F => ?_
 unfold JN at hm
 refine qaf rfl fun b2 => ?_
 refine qa6 ⟨⟨[], true⟩, _, [], []⟩ (by kernel_rfl) ⟨Hp.Le.refl _, (pf rfl), ci0⟩ ?_
 refine qah (fa rfl ?_)
 refine ld r1 rfl rfl ?_
 refine qah (fa rfl ?_)
 refine ld r1 rfl rfl ?_
 obtain ⟨aW, aV, aU, hm⟩ := ixb hm
 refine qad rfl rfl (qco ae aU) aV (qax rfl aV aU) ?_
 refine qfg (i := (p.atZ).toNat) r2 rfl aU rfl rfl ?_
 refine qaa r0 rfl ⟨rfl, rfl, (nl rfl), ?_⟩
 refine qk (pf rfl) ?_
 exact ro (qab r0 rfl (nl rfl) (eE hm))

def JB (p : Jb) (kind : Int) (text : Str) : Option (Bool) :=
  (JN p).bind fun x9 =>
  some (decide (x9.Ab = kind) && decide (x9.Ac = text))
theorem Jx {p : Jb} {kind : Int} {text : Str} {b0 : Nat} {aa : Option Addr} {ab : Nat} {K : Hp} {r : Bool}
    (hm : JB p kind text = some r) (ae : (0 < p.list.length → Has aa)) :
    Fn Tryz.prog 149 [.pointer (some ⟨b0, 0, none⟩), .int .i64 kind, str text] K [Cells b0 163 [.slice aa p.list.length ab, .int .i64 p.atZ, .int .i64 p.line], qat Je.enc aa 166 4 ab p.list] (fun v K' H' => v = .bool r ∧ H' = [Cells b0 163 [.slice aa p.list.length ab, .int .i64 p.atZ, .int .i64 p.line], qat Je.enc aa 166 4 ab p.list]) := by
 refine Fn.enter Tryz.func149 Tryz.call149 rfl fun F => ?_
 unfold JB at hm
 refine cb hm fun x9 q9 hm => cgx (JL q9 :) ?_
 refine qaf rfl fun b7 => ?_
 refine qaa r0 rfl ⟨rfl, rfl, (nl rfl), ?_⟩
 refine qaj rfl ?_
 refine fa rfl (ro (ld r0 rfl rfl (qag ?_)))
 refine qae ?_ ?_ <;> intro aU
 refine fa rfl (ct aU (ro (ld r0 rfl rfl (ct aU (ct aU (qaq (ct aU ?_)))))))
 exact bE (qc1 (b := decide (x9.Ac = text)) aU) (eE hm)
 refine cf aU (cf aU (cf aU (cf aU ?_)))
 exact bE (((qbc aU)).symm) (eE hm)

def J5 (p : Jb) : Option (Jb) :=
  if decide (p.line = 0) then
  (JN p).bind fun x9 =>
  some (⟨p.list, p.atZ, x9.Ad⟩ : Jb)
  else
  some p
theorem Jab {p : Jb} {b0 : Nat} {aa : Option Addr} {ab : Nat} {K : Hp} {r : Jb}
    (hm : J5 p = some r) (ae : (0 < p.list.length → Has aa)) :
    Fn Tryz.prog 100 [.pointer (some ⟨b0, 0, none⟩)] K [Cells b0 163 [.slice aa p.list.length ab, .int .i64 p.atZ, .int .i64 p.line], qat Je.enc aa 166 4 ab p.list] (fun v K' H' => ∃ ar_0 : Option Addr, ∃ cr_0 : Nat, v = .tuple #[] ∧ (0 < r.list.length → Has ar_0) ∧ H' = [Cells b0 163 [.slice ar_0 r.list.length cr_0, .int .i64 r.atZ, .int .i64 r.line], qat Je.enc ar_0 166 4 cr_0 r.list]) := by
 refine Fn.enter Tryz.func100 Tryz.call100 rfl fun F => ?_
 unfold J5 at hm
 refine qah (fa rfl (ro (ld r0 rfl rfl (qag ?_))))
 refine cs rfl rfl hm ?_ ?_ <;> intro w6 hm
 refine cb hm fun x9 q9 hm => cgx (JL q9 :) ?_
 refine Jdz rfl rfl rfl rfl ?_
 refine qah (fa rfl ?_)
 refine qaa r0 rfl ⟨rfl, rfl, (nl rfl), ?_⟩
 exact eE hm
 exact eE hm

def Jq (p : Jb) : Option (Je × Jb) :=
  (JN p).bind fun x5 =>
  (chk (InI ((p.list.length : Int) - 1))).bind fun _ =>
  if decide (p.atZ < ((p.list.length : Int) - 1)) then
  (chk (InI (p.atZ + 1))).bind fun _ =>
  some (x5, (⟨p.list, (p.atZ + 1), p.line⟩ : Jb))
  else
  some (x5, p)
theorem Jl {p : Jb} {b0 : Nat} {aa : Option Addr} {ab : Nat} {K : Hp} {r : Je × Jb}
    (hm : Jq p = some r) (ae : (0 < p.list.length → Has aa)) :
    Fn Tryz.prog 206 [.pointer (some ⟨b0, 0, none⟩)] K [Cells b0 163 [.slice aa p.list.length ab, .int .i64 p.atZ, .int .i64 p.line], qat Je.enc aa 166 4 ab p.list] (fun v K' H' => ∃ ar_0 : Option Addr, ∃ cr_0 : Nat, v = .agg #[.int .i64 r.1.Ab, str r.1.Ac, .int .i64 r.1.Ad, .int .i64 r.1.Column] ∧ (0 < r.2.list.length → Has ar_0) ∧ H' = [Cells b0 163 [.slice ar_0 r.2.list.length cr_0, .int .i64 r.2.atZ, .int .i64 r.2.line], qat Je.enc ar_0 166 4 cr_0 r.2.list]) := by
 refine Fn.enter Tryz.func206 Tryz.call206 rfl fun F => ?_
 unfold Jq at hm
 refine qaf rfl fun b2 => ?_
 refine cb hm fun x5 q5 hm => cgx (JL q5 :) ?_
 refine qaf rfl fun b3 => ?_
 refine qaa r0 rfl ⟨rfl, rfl, (nl rfl), ?_⟩
 refine qa6 ⟨⟨[], false⟩, _, [(_, _)], []⟩ (by kernel_rfl) ⟨Hp.Le.refl _, (sc [1] rfl), ci0⟩ ?_
 refine qah (fa rfl (qao m0 rfl rfl (qah (fa rfl (qao m0 rfl rfl (qce rfl ?_))))))
 refine ci hm fun hm => ?_
 refine cs rfl rfl hm ?_ ?_ <;> intro aV hm
 refine qah (fa rfl (ro (ld r1 rfl rfl ?_)))
 obtain ⟨aU, hm⟩ := qaw hm
 refine qam aU (qah (fa rfl ?_))
 refine qaa r1 rfl ⟨rfl, rfl, (nl rfl), ?_⟩
 refine ro (qab r1 rfl (nl rfl) ?_)
 refine qaa r3 rfl ⟨rfl, rfl, (nl rfl), ?_⟩
 exact ro (qab r0 rfl (nl rfl) (eE hm))
 refine ro (qab r0 rfl (nl rfl) ?_)
 refine qaa r3 rfl ⟨rfl, rfl, (nl rfl), ?_⟩
 exact ro (qab r0 rfl (nl rfl) (eE hm))

def J1 (v' : Str) : List Str → Nat → Option (Fl (Int) (Unit))
  | [], _ => some (Fl.go ())
  | e0 :: aU, i0 =>
    if decide (v' = e0) then
    some (Fl.ret (i0 : Int))
    else
    J1 v' aU (i0 + 1)
def JbG (s : (List Str)) (v' : Str) : Option (Int) :=
  (chk (s.length ≤ qa3)).bind fun _ =>
  (J1 v' s 0).bind fun s0 => s0.el some fun t0 =>
  some (-1)
theorem JdM {s : (List Str)} {v' : Str} {aa : Option Addr} {ab : Nat} {n0 : Nat} {K : Hp} {r : Int}
    (hm : JbG s v' = some r) (hX : RdC eS K aa ab 1 s ∧ n0 = s.length) :
    Fn Tryz.prog 88 [.slice aa n0 ab, str v'] K [] (fun v K' H' => v = .int .i64 r ∧ H' = []) := by
 obtain ⟨ae, aW⟩ := hX
 subst aW
 refine Fn.enter Tryz.func88 Tryz.call88 rfl fun F => ?_
 unfold JbG at hm
 refine ro (qak rfl ?_)
 obtain ⟨aX, hm⟩ := qaw hm
 obtain ⟨s0, aU, hm⟩ := bnd hm
 refine lD (σ := (Unit)) ([4,5] ++ rg 8 11) [0] (fun i0 => [(8, .int .i64 (i0 : Int))]) (fun _ => []) (fun _ => []) (fun _ => True) (fun i0 _ => J1 v' (s.drop i0) i0 = some s0) (fun t0 => s0 = Fl.go t0) (fun i0 => s.length - i0) 0 () aU (And.intro qe (And.intro ?_ ?_))
 clear aU
 rintro i0 _ _ aU j0
 conv at aU => whnf
 refine qac rfl ?_
 refine qae ?_ ?_ <;> intro w0
 obtain ⟨e0, aV, aY⟩ := ltx w0
 rw [aY, J1.eq_2] at aU
 refine qal rfl ?_
 refine RStep.ofN (qad rfl rfl (qff ae.rd aV) (nn _) (qbl aV) (ro (qcx i0 0 _ _ ae.rd rfl (mp aV) rfl rfl (qaq ?_))))
 refine cs rfl rfl aU ?_ ?_ <;> intro aZ aU
 exact eE (er aU hm)
 refine qam (qbn aV aX) ?_
 exact eR aU (_, ())
 rw [lty w0, J1.eq_1] at aU
 refine cT ?_
 exact eM aU _
 rintro t0 _ rfl j0
 replace hm := elg hm
 exact eE hm

def JE (s : (List Str)) (v' : Str) : Option (Bool) :=
  (JbG s v').bind fun x7 =>
  some (decide (x7 ≥ 0))
theorem JP {s : (List Str)} {v' : Str} {aa : Option Addr} {ab : Nat} {n0 : Nat} {K : Hp} {r : Bool}
    (hm : JE s v' = some r) (hX : RdC eS K aa ab 1 s ∧ n0 = s.length) :
    Fn Tryz.prog 53 [.slice aa n0 ab, str v'] K [] (fun v K' H' => v = .bool r ∧ H' = []) := by
 obtain ⟨ae, aU⟩ := hX
 subst aU
 refine Fn.enter Tryz.func53 Tryz.call53 rfl fun F => ?_
 unfold JE at hm
 refine cb hm fun x7 q7 hm => cgx (JdM q7 :) ?_
 exact eE hm

def Jb4 (s : Str) : Option (Bool) :=
  (JE gkw0 s).bind fun x5 =>
  some x5
theorem Jcw {s : Str} {K : Hp} {r : Bool}
    (hm : Jb4 s = some r) (hG : GG K) :
    Fn Tryz.prog 208 [str s] K [] (fun v K' H' => v = .bool r ∧ H' = []) := by
 obtain ⟨aX, aY, aV, gn_, aU, aW⟩ := gg5 hG
 subst gn_
 refine Fn.enter Tryz.func208 Tryz.call208 rfl fun F => ?_
 unfold Jb4 at hm
 refine ro (qkt aU rfl ?_)
 refine cb hm fun x5 q5 hm => cgx (JP q5 :) ?_
 exact eE hm

def JI (p : Jb) (text : Str) : Option (Jb) :=
  (JB p 4 text).bind fun x6 =>
  if (!x6) then
  (J5 p).bind fun x9 =>
  some x9
  else
  (Jq p).bind fun aU =>
  some aU.2
theorem JG {p : Jb} {text : Str} {b0 : Nat} {aa : Option Addr} {ab : Nat} {K : Hp} {r : Jb}
    (hm : JI p text = some r) (ae : (0 < p.list.length → Has aa)) :
    Fn Tryz.prog 211 [.pointer (some ⟨b0, 0, none⟩), str text] K [Cells b0 163 [.slice aa p.list.length ab, .int .i64 p.atZ, .int .i64 p.line], qat Je.enc aa 166 4 ab p.list] (fun v K' H' => ∃ ar_0 : Option Addr, ∃ cr_0 : Nat, v = .tuple #[] ∧ (0 < r.list.length → Has ar_0) ∧ H' = [Cells b0 163 [.slice ar_0 r.list.length cr_0, .int .i64 r.atZ, .int .i64 r.line], qat Je.enc ar_0 166 4 cr_0 r.list]) := by
 refine Fn.enter Tryz.func211 Tryz.call211 rfl fun F => ?_
 unfold JI at hm
 refine cb hm fun x6 q6 hm => cgx (Jx q6 :) ?_
 refine qau ?_
 refine cs rfl rfl hm ?_ ?_ <;> intro w7 hm
 refine cb hm fun x9 q9 hm => ckx (Jab q9 :) ?_
 rintro _ _ _ ⟨aZ, aX, rfl, a6, rfl⟩
 exact eE hm
 refine cb hm fun a8 aY hm => ckx (Jl aY :) ?_
 rintro _ _ _ ⟨aU, aW, rfl, aV, rfl⟩
 exact eE hm

def JaS (kind : Int) (text : Str) (a : Ja) (b : Ja) : Option (Ja) :=
  some (⟨kind, text, [a, b], a.Ad⟩ : Ja)
theorem JaX {kind : Int} {text : Str} {a : Ja} {b : Ja} {ar : Option Addr} {au : Nat} {aE : Option Addr} {aF : Nat} {K : Hp} {r : Ja}
    (hm : JaS kind text a b = some r) (hX : LiC Ja.R K ar au 4 a.Aa ∧ LiC Ja.R K aE aF 4 b.Aa) :
    Fn Tryz.prog 254 [.int .i64 kind, str text, .agg #[.int .i64 a.Ab, str a.Ac, .slice ar a.Aa.length au, .int .i64 a.Ad], .agg #[.int .i64 b.Ab, str b.Ac, .slice aE b.Aa.length aF, .int .i64 b.Ad]] K [] (fun v K' H' => ∃ ar_0 : Option Addr, ∃ cr_0 : Nat, ∃ sr_0 : List (List Value), v = .agg #[.int .i64 r.Ab, str r.Ac, .slice ar_0 r.Aa.length cr_0, .int .i64 r.Ad] ∧ (0 < r.Aa.length → Has ar_0) ∧ LR Ja.R K' sr_0 r.Aa ∧ H' = [OwnA ar_0 117 4 cr_0 sr_0]) := by
 obtain ⟨aV, aU⟩ := hX
 refine Fn.enter Tryz.func254 Tryz.call254 rfl fun F => ?_
 unfold JaS at hm
 refine qar ?_
 intro b6
 refine qar ?_
 intro b7
 refine qaf rfl fun b8 => ?_
 refine fa rfl (ro (ld r2 rfl rfl (ro (qab r2 rfl (nl rfl) (ro (qab r1 rfl (nl rfl) ?_))))))
 refine qjs (R := Ja.R) (len := 2) (l := [a, b]) (css := [[.int .i64 a.Ab, str a.Ac, .slice ar a.Aa.length au, .int .i64 a.Ad], [.int .i64 b.Ab, str b.Ac, .slice aE b.Aa.length aF, .int .i64 b.Ad]]) (cl := [.int .i64 a.Ab, str a.Ac, .slice ar a.Aa.length au, .int .i64 a.Ad, .int .i64 b.Ab, str b.Ac, .slice aE b.Aa.length aF, .int .i64 b.Ad]) Ja.R_ok qbx rfl rfl (LR.snoc (LR.snoc LR.nil (Ja.of (x := a) ⟨ar, au, rfl, aV⟩)) (Ja.of (x := b) ⟨aE, aF, rfl, aU⟩)) rfl rfl rfl ?_ fun aW => ?_
 · conv => whnf
   refine cT (cT ?_)
   first | done | rfl
 refine qai rfl rfl (cT (cT (cT (cT ?_))))
 refine qaa r1 rfl ⟨rfl, rfl, (nl rfl), ?_⟩
 obtain rfl := si hm
 exact ro (qab r0 rfl (nl rfl) (en lr ⟨(some ⟨aW, 0, none⟩), 2, ([[.int .i64 a.Ab, str a.Ac, .slice ar a.Aa.length au, .int .i64 a.Ad], [.int .i64 b.Ab, str b.Ac, .slice aE b.Aa.length aF, .int .i64 b.Ad]]), rfl, (fun _ => ⟨_, _, rfl⟩), (show LR Ja.R _ [[.int .i64 a.Ab, str a.Ac, .slice ar a.Aa.length au, .int .i64 a.Ad], [.int .i64 b.Ab, str b.Ac, .slice aE b.Aa.length aF, .int .i64 b.Ad]] [a, b] from (LR.snoc (LR.snoc LR.nil (Ja.of (x := a) ⟨ar, au, rfl, aV⟩)) (Ja.of (x := b) ⟨aE, aF, rfl, aU⟩))), rfl⟩ (sc [1,3] rfl)))

def JbA (kind : Int) (text : Str) : Option (Bool) :=
  if decide (text = ([61, 61] : Str)) then
  some (decide (kind = 4))
  else
  if decide (text = ([33, 61] : Str)) then
  some (decide (kind = 4))
  else
  if decide (text = ([60] : Str)) then
  some (decide (kind = 4))
  else
  if decide (text = ([60, 61] : Str)) then
  some (decide (kind = 4))
  else
  if decide (text = ([115, 116, 97, 114, 116, 115] : Str)) then
  some (decide (kind = 1))
  else
  if decide (text = ([101, 110, 100, 115] : Str)) then
  some (decide (kind = 1))
  else
  if decide (text = ([99, 111, 110, 116, 97, 105, 110, 115] : Str)) then
  some (decide (kind = 1))
  else
  some false
theorem Jce {kind : Int} {text : Str} {K : Hp} {r : Bool}
    (hm : JbA kind text = some r)  :
    Fn Tryz.prog 257 [.int .i64 kind, str text] K [] (fun v K' H' => v = .bool r ∧ H' = []) := by
 refine Fn.enter Tryz.func257 Tryz.call257 rfl fun F => ?_
 unfold JbA at hm
 refine qal rfl ?_
 refine qaq (cs rfl rfl hm ?_ ?_) <;> intro w6 hm
 refine qac rfl (ct w6 (qag ?_))
 exact eE hm
 refine qaq (cs rfl rfl hm ?_ ?_) <;> intro w6 hm
 refine qac rfl (ct w6 (qag ?_))
 exact eE hm
 refine qaq (cs rfl rfl hm ?_ ?_) <;> intro w6 hm
 refine qac rfl (ct w6 (qag ?_))
 exact eE hm
 refine qaq (cs rfl rfl hm ?_ ?_) <;> intro w6 hm
 refine qag ?_
 exact eE hm
 refine qaq (cs rfl rfl hm ?_ ?_) <;> intro aU hm
 refine qac rfl (ct aU (qag ?_))
 exact eE hm
 refine qaq (cs rfl rfl hm ?_ ?_) <;> intro aU hm
 refine qac rfl (ct aU (qag ?_))
 exact eE hm
 refine qaq (cs rfl rfl hm ?_ ?_) <;> intro aU hm
 refine qag ?_
 exact eE hm
 exact eE hm

def Jaf (aj : (Jb → Option (Ja × Jb))) : Nat → (List Ja) → Jb → Option ((List Ja) × Jb)
  | 0, _, _ => none
  | aW + 1, ac, aU =>
    (Ju aU).bind fun x9 =>
    if x9 then
    (aj aU).bind fun al =>
    (chk (ac.length + [al.1].length ≤ lim)).bind fun _ =>
    (Ju al.2).bind fun aY =>
    if (!aY) then
    some ((ac ++ [al.1]), al.2)
    else
    (JB al.2 4 ([44] : Str)).bind fun aX =>
    if aX then
    (Jq al.2).bind fun aZ =>
    Jaf aj aW (ac ++ [al.1]) aZ.2
    else
    (JI al.2 ([41] : Str)).bind fun aV =>
    some ((ac ++ [al.1]), aV)
    else
    some (ac, aU)
def Jbs (aj : (Jb → Option (Ja × Jb))) (n : Nat) (p : Jb) : Option ((List Ja) × Jb) :=
  (JB p 4 ([41] : Str)).bind fun x5 =>
  if x5 then
  (Jq p).bind fun x7 =>
  some ([], x7.2)
  else
  (Jaf aj n [] p).bind fun t0 =>
  some (t0.1, t0.2)
theorem Jc4 {aj : (Jb → Option (Ja × Jb))} (ihrec0_0 : ∀ {p : Jb} {b0 : Nat} {aa : Option Addr} {ab : Nat} {K : Hp} {r : Ja × Jb} (hm : aj p = some r) (hX : (0 < p.list.length → Has aa) ∧ GG K), Fn Tryz.prog 236 [.pointer (some ⟨b0, 0, none⟩)] K [Cells b0 163 [.slice aa p.list.length ab, .int .i64 p.atZ, .int .i64 p.line], qat Je.enc aa 166 4 ab p.list] (fun v K' H' => ∃ ar_0 : Option Addr, ∃ cr_0 : Nat, ∃ sr_0 : List (List Value), ∃ ar_1 : Option Addr, ∃ cr_1 : Nat, v = .agg #[.int .i64 r.1.Ab, str r.1.Ac, .slice ar_0 r.1.Aa.length cr_0, .int .i64 r.1.Ad] ∧ (0 < r.1.Aa.length → Has ar_0) ∧ LR Ja.R K' sr_0 r.1.Aa ∧ (0 < r.2.list.length → Has ar_1) ∧ H' = [OwnA ar_0 117 4 cr_0 sr_0, Cells b0 163 [.slice ar_1 r.2.list.length cr_1, .int .i64 r.2.atZ, .int .i64 r.2.line], qat Je.enc ar_1 166 4 cr_1 r.2.list])) {n : Nat} {p : Jb} {b0 : Nat} {aa : Option Addr} {ab : Nat} {K : Hp} {r : (List Ja) × Jb}
    (hm : Jbs aj n p = some r) (hX : (0 < p.list.length → Has aa) ∧ GG K) :
    Fn Tryz.prog 276 [.pointer (some ⟨b0, 0, none⟩)] K [Cells b0 163 [.slice aa p.list.length ab, .int .i64 p.atZ, .int .i64 p.line], qat Je.enc aa 166 4 ab p.list] (fun v K' H' => ∃ ar_0 : Option Addr, ∃ cr_0 : Nat, ∃ sr_0 : List (List Value), ∃ ar_1 : Option Addr, ∃ cr_1 : Nat, v = .slice ar_0 r.1.length cr_0 ∧ (0 < r.1.length → Has ar_0) ∧ LR Ja.R K' sr_0 r.1 ∧ (0 < r.2.list.length → Has ar_1) ∧ H' = [OwnA ar_0 117 4 cr_0 sr_0, Cells b0 163 [.slice ar_1 r.2.list.length cr_1, .int .i64 r.2.atZ, .int .i64 r.2.line], qat Je.enc ar_1 166 4 cr_1 r.2.list]) := by
 obtain ⟨ae, hG⟩ := hX
 refine Fn.enter Tryz.func276 Tryz.call276 rfl fun F => ?_
 unfold Jbs at hm
 refine cb hm fun x5 q5 hm => cgx (Jx q5 :) ?_
 refine cs rfl rfl hm ?_ ?_ <;> intro w5 hm
 refine cb hm fun x7 q7 hm => ckx (Jl q7 :) ?_
 rintro _ _ _ ⟨bS, bN, rfl, bR, rfl⟩
 refine qci (fun _ : Ja => []) 117 4 ?_
 exact eE hm
 obtain ⟨s0, aW, hm⟩ := bnd hm
 refine qhg (fun _ : Ja => []) 117 4 ?_
 refine lC (σ := ((List Ja) × Jb) × Option Addr × Nat × List (List Value) × Option Addr × Nat) ([3] ++ rg 8 16) [3] (fun _ => []) (fun (t0, aX, ba, aY, aU, aV) => [(3, .slice aX t0.1.length ba)]) (fun (t0, aX, ba, aY, aU, aV) => [OwnA aX 117 4 ba aY, Cells b0 163 [.slice aU t0.2.list.length aV, .int .i64 t0.2.atZ, .int .i64 t0.2.line], qat Je.enc aU 166 4 aV t0.2.list]) (fun zz K1 => match zz with | (t0, aX, ba, aY, aU, aV) => LR Ja.R K1 aY t0.1 ∧ (0 < t0.1.length → Has aX) ∧ (0 < t0.2.list.length → Has aU)) (fun i0 (t0, aX, ba, aY, aU, aV) => Jaf aj i0 t0.1 t0.2 = some s0) (fun (t0, aX, ba, aY, aU, aV) => t0 = s0) (fun i0 => i0) n ((_, _), _, _, _, _, _) aW (And.intro qe (And.intro ?_ ?_))
 clear aW
 rintro i0 ⟨⟨ac, bJ⟩, bv, br, bF, bj, bl⟩ bY cr ⟨bc, bm, bg⟩ aW j0
 dsimp only at aW ⊢
 cases i0 with
 | zero => rw [Jaf.eq_1] at aW; cases aW
 | succ i0 =>
  rw [Jaf.eq_2] at aW
  refine cb aW fun x9 q9 aW => cgx (Js q9 :) ?_
  refine cs rfl rfl aW ?_ ?_ <;> intro w9 aW
  refine qal rfl ?_
  refine cb aW fun al bK aW => cfx (ihrec0_0 bK :) ?_
  rintro _ bU _ bQ ⟨a6, aZ, bC, bn, bt, rfl, bo, bd, bH, rfl⟩
  refine qlf Ja.R_ok r0 bd fun bf bb a8 => ?_
  refine qjs (R := Ja.R) (len := 1) (l := [al.1]) (css := [[.int .i64 al.1.Ab, str al.1.Ac, .slice a6 al.1.Aa.length aZ, .int .i64 al.1.Ad]]) (cl := [.int .i64 al.1.Ab, str al.1.Ac, .slice a6 al.1.Aa.length aZ, .int .i64 al.1.Ad]) Ja.R_ok qbx rfl rfl (LR.snoc LR.nil (Ja.of (x := al.1) ⟨a6, aZ, rfl, a8⟩)) rfl rfl rfl ?_ fun bV => ?_
  · conv => whnf
    refine cT ?_
    first | done | rfl
  obtain ⟨bI, aW⟩ := qaw aW
  refine qpw r3 (LR.mono Ja.R_ok (bQ.trans bb) bc) rfl qbx (qdd rfl r0 rfl Ja.R_ok (show LR Ja.R _ [[.int .i64 al.1.Ab, str al.1.Ac, .slice a6 al.1.Aa.length aZ, .int .i64 al.1.Ad]] [al.1] from (LR.snoc LR.nil (Ja.of (x := al.1) ⟨a6, aZ, rfl, a8⟩)))) (show LR Ja.R _ [[.int .i64 al.1.Ab, str al.1.Ac, .slice a6 al.1.Aa.length aZ, .int .i64 al.1.Ad]] [al.1] from (LR.snoc LR.nil (Ja.of (x := al.1) ⟨a6, aZ, rfl, a8⟩))) bI ?_
  intro bX bW co r_14 cm
  refine cb aW fun cu bP aW => cgx (Js bP :) ?_
  refine qau ?_
  refine cs rfl rfl aW ?_ ?_ <;> intro cn aW
  refine cF (cT ?_)
  exact eM aW (_, _, _, _, _, _)
  refine cb aW fun cj bL aW => cgx (Jx bL :) ?_
  refine cs rfl rfl aW ?_ ?_ <;> intro cw aW
  refine cb aW fun bZ bM aW => ckx (Jl bM :) ?_
  rintro _ _ _ ⟨bB, bG, rfl, bw, rfl⟩
  refine cT ?_
  exact eR aW (_, (_, _), _, _, _, _, _)
  refine cb aW fun ca bO aW => ckx (JG bO :) ?_
  rintro _ _ _ ⟨bu, bp, rfl, bD, rfl⟩
  refine cF (cT ?_)
  exact eM aW (_, _, _, _, _, _)
  refine cT ?_
  exact eM aW (_, _, _, _, _, _)
 rintro ⟨t0, aX, ba, aY, aU, aV⟩ ce bT ⟨bA, bz, bh⟩ rfl j0
 exact eE hm

def Jbw (aj : (Jb → Option (Ja × Jb))) (n : Nat) (p : Jb) : Option (Ja × Jb) :=
  (JN p).bind fun x6 =>
  if decide (x6.Ab = 2) then
  (Jq p).bind fun a8 =>
  some ((⟨20, x6.Ac, [], x6.Ad⟩ : Ja), a8.2)
  else
  if decide (x6.Ab = 3) then
  (Jq p).bind fun bg =>
  some ((⟨21, x6.Ac, [], x6.Ad⟩ : Ja), bg.2)
  else
  (JB p 1 ([116, 114, 117, 101] : Str)).bind fun bc =>
  if bc then
  (Jq p).bind fun aW =>
  some ((⟨22, x6.Ac, [], x6.Ad⟩ : Ja), aW.2)
  else
  (JB p 1 ([102, 97, 108, 115, 101] : Str)).bind fun bb =>
  if bb then
  (Jq p).bind fun aW =>
  some ((⟨22, x6.Ac, [], x6.Ad⟩ : Ja), aW.2)
  else
  (if decide (x6.Ab = 1) then (Jb4 x6.Ac).bind fun bl =>
  some (!bl) else some false).bind fun aX =>
  if aX then
  (Jq p).bind fun aV =>
  (JB aV.2 4 ([40] : Str)).bind fun bd =>
  if bd then
  (Jq aV.2).bind fun a6 =>
  (Jbs aj n a6.2).bind fun aY =>
  some ((⟨24, x6.Ac, aY.1, x6.Ad⟩ : Ja), aY.2)
  else
  some ((⟨23, x6.Ac, [], x6.Ad⟩ : Ja), aV.2)
  else
  (JB p 4 ([40] : Str)).bind fun bf =>
  if bf then
  (Jq p).bind fun bh =>
  (aj bh.2).bind fun aU =>
  (Ju aU.2).bind fun aZ =>
  if aZ then
  (JI aU.2 ([41] : Str)).bind fun ba =>
  some (aU.1, ba)
  else
  some (aU.1, aU.2)
  else
  (J5 p).bind fun bj =>
  some ((⟨0, x6.Ac, [], x6.Ad⟩ : Ja), bj)
theorem Jcx {aj : (Jb → Option (Ja × Jb))} (ihrec0_0 : ∀ {p : Jb} {b0 : Nat} {aa : Option Addr} {ab : Nat} {K : Hp} {r : Ja × Jb} (hm : aj p = some r) (hX : (0 < p.list.length → Has aa) ∧ GG K), Fn Tryz.prog 236 [.pointer (some ⟨b0, 0, none⟩)] K [Cells b0 163 [.slice aa p.list.length ab, .int .i64 p.atZ, .int .i64 p.line], qat Je.enc aa 166 4 ab p.list] (fun v K' H' => ∃ ar_0 : Option Addr, ∃ cr_0 : Nat, ∃ sr_0 : List (List Value), ∃ ar_1 : Option Addr, ∃ cr_1 : Nat, v = .agg #[.int .i64 r.1.Ab, str r.1.Ac, .slice ar_0 r.1.Aa.length cr_0, .int .i64 r.1.Ad] ∧ (0 < r.1.Aa.length → Has ar_0) ∧ LR Ja.R K' sr_0 r.1.Aa ∧ (0 < r.2.list.length → Has ar_1) ∧ H' = [OwnA ar_0 117 4 cr_0 sr_0, Cells b0 163 [.slice ar_1 r.2.list.length cr_1, .int .i64 r.2.atZ, .int .i64 r.2.line], qat Je.enc ar_1 166 4 cr_1 r.2.list])) {n : Nat} {p : Jb} {b0 : Nat} {aa : Option Addr} {ab : Nat} {K : Hp} {r : Ja × Jb}
    (hm : Jbw aj n p = some r) (hX : (0 < p.list.length → Has aa) ∧ GG K) :
    Fn Tryz.prog 275 [.pointer (some ⟨b0, 0, none⟩)] K [Cells b0 163 [.slice aa p.list.length ab, .int .i64 p.atZ, .int .i64 p.line], qat Je.enc aa 166 4 ab p.list] (fun v K' H' => ∃ ar_0 : Option Addr, ∃ cr_0 : Nat, ∃ sr_0 : List (List Value), ∃ ar_1 : Option Addr, ∃ cr_1 : Nat, v = .agg #[.int .i64 r.1.Ab, str r.1.Ac, .slice ar_0 r.1.Aa.length cr_0, .int .i64 r.1.Ad] ∧ (0 < r.1.Aa.length → Has ar_0) ∧ LR Ja.R K' sr_0 r.1.Aa ∧ (0 < r.2.list.length → Has ar_1) ∧ H' = [OwnA ar_0 117 4 cr_0 sr_0, Cells b0 163 [.slice ar_1 r.2.list.length cr_1, .int .i64 r.2.atZ, .int .i64 r.2.line], qat Je.enc ar_1 166 4 cr_1 r.2.list]) := by
 obtain ⟨ae, hG⟩ := hX
 refine Fn.enter Tryz.func275 Tryz.call275 rfl fun F => ?_
 unfold Jbw at hm
 refine qaf rfl fun b2 => ?_
 refine cb hm fun x6 q6 hm => cgx (JL q6 :) ?_
 refine qaf rfl fun b3 => ?_
 refine qaa r0 rfl ⟨rfl, rfl, (nl rfl), ?_⟩
 refine fa rfl (ro (ld r0 rfl rfl (fa rfl (ro (ld r0 rfl rfl (qai rfl rfl (cT (cT ?_))))))))
 refine qaf rfl fun b4 => ?_
 refine qaa r0 rfl ⟨rfl, rfl, (nl rfl), ?_⟩
 refine qal rfl ?_
 refine fa rfl (ro (ld r1 rfl rfl (qag ?_)))
 refine cs rfl rfl hm ?_ ?_ <;> intro cG hm
 refine fa rfl ?_
 refine qaa r0 rfl ⟨rfl, rfl, (nl rfl), ?_⟩
 refine cb hm fun cO bX hm => ckx (Jl bX :) ?_
 rintro _ _ _ ⟨bw, bI, rfl, bN, rfl⟩
 refine ro (qab r2 rfl (nl rfl) ?_)
 refine qaa r4 rfl ⟨rfl, rfl, (nl rfl), ?_⟩
 refine ro (qab r0 rfl (nl rfl) ?_)
 refine qci (fun _ : Ja => []) 117 4 ?_
 exact eE hm
 refine fa rfl (ro (ld r1 rfl rfl (qag ?_)))
 refine cs rfl rfl hm ?_ ?_ <;> intro cE hm
 refine fa rfl ?_
 refine qaa r0 rfl ⟨rfl, rfl, (nl rfl), ?_⟩
 refine cb hm fun cJ cy hm => ckx (Jl cy :) ?_
 rintro _ _ _ ⟨bo, br, rfl, bL, rfl⟩
 refine ro (qab r2 rfl (nl rfl) ?_)
 refine qaa r4 rfl ⟨rfl, rfl, (nl rfl), ?_⟩
 refine ro (qab r0 rfl (nl rfl) ?_)
 refine qci (fun _ : Ja => []) 117 4 ?_
 exact eE hm
 refine cb hm fun cR ce hm => cgx (Jx ce :) ?_
 refine cs rfl rfl hm ?_ ?_ <;> intro bv hm
 refine qac rfl (ct bv (fa rfl ?_))
 refine qaa r2 rfl ⟨rfl, rfl, (nl rfl), ?_⟩
 refine cb hm fun cj a8 hm => ckx (Jl a8 :) ?_
 rintro _ _ _ ⟨a6, aZ, rfl, aY, rfl⟩
 refine ro (qab r2 rfl (nl rfl) ?_)
 refine qaa r4 rfl ⟨rfl, rfl, (nl rfl), ?_⟩
 refine ro (qab r0 rfl (nl rfl) ?_)
 refine qci (fun _ : Ja => []) 117 4 ?_
 exact eE hm
 refine cb hm fun cZ co hm => cgx (Jx co :) ?_
 refine cs rfl rfl hm ?_ ?_ <;> intro bv hm
 refine fa rfl ?_
 refine qaa r2 rfl ⟨rfl, rfl, (nl rfl), ?_⟩
 refine cb hm fun cj a8 hm => ckx (Jl a8 :) ?_
 rintro _ _ _ ⟨a6, aZ, rfl, aY, rfl⟩
 refine ro (qab r2 rfl (nl rfl) ?_)
 refine qaa r4 rfl ⟨rfl, rfl, (nl rfl), ?_⟩
 refine ro (qab r0 rfl (nl rfl) ?_)
 refine qci (fun _ : Ja => []) 117 4 ?_
 exact eE hm
 obtain ⟨ba, aV, hm⟩ := bnd hm
 refine jR (σ := Bool) (rg 36 10) (fun aW => [(36, .bool aW)]) (fun aW => aW = ba) ?_ ?_
 replace aV := bsm aV
 refine qaj rfl ?_
 refine fa rfl (ro (ld r3 rfl rfl (qag ?_)))
 obtain ⟨cM, aX, aV⟩ := bnd aV
 refine cS aX (fun aU aX => ?_) fun aU aX => ?_
 refine fa rfl (ct aU (ro (ld r3 rfl rfl (ct aU ?_))))
 refine cb aX fun c4 cu aX => cgx (Jcw cu :) ?_
 refine ct aU (qau (ct aU ?_))
 exact eMq aV _ ⟨bq (si aX), trivial⟩
 refine cf aU (cf aU (cf aU (cf aU ?_)))
 exact eMq aV _ ⟨bq (si aX), trivial⟩
 rintro aW rfl ca
 refine cs rfl rfl hm ?_ ?_ <;> intro cX hm
 refine fa rfl ?_
 refine qaa r2 rfl ⟨rfl, rfl, (nl rfl), ?_⟩
 refine cb hm fun c6 cw hm => ckx (Jl cw :) ?_
 rintro _ _ _ ⟨bC, bl, rfl, bg, rfl⟩
 refine cb hm fun cI cm hm => cgx (Jx cm :) ?_
 refine cs rfl rfl hm ?_ ?_ <;> intro cL hm
 refine cb hm fun cN cA hm => ckx (Jl cA :) ?_
 rintro _ _ _ ⟨bd, bf, rfl, bA, rfl⟩
 refine fa rfl ?_
 refine qaa r2 rfl ⟨rfl, rfl, (nl rfl), ?_⟩
 refine cb hm fun cU bY hm => cfx (Jc4 ihrec0_0 bY :) ?_
 rintro _ cK _ cD ⟨bM, bj, bc, bB, bG, rfl, bH, bJ, bz, rfl⟩
 refine fa rfl ?_
 refine qaa r3 rfl ⟨rfl, rfl, (nl rfl), ?_⟩
 refine ro (qab r0 rfl (nl rfl) ?_)
 refine qaa r5 rfl ⟨rfl, rfl, (nl rfl), ?_⟩
 exact ro (qab r0 rfl (nl rfl) (eE hm))
 refine ro (qab r2 rfl (nl rfl) ?_)
 refine qaa r4 rfl ⟨rfl, rfl, (nl rfl), ?_⟩
 refine ro (qab r0 rfl (nl rfl) ?_)
 refine qci (fun _ : Ja => []) 117 4 ?_
 exact eE hm
 refine cb hm fun cC bW hm => cgx (Jx bW :) ?_
 refine cs rfl rfl hm ?_ ?_ <;> intro cP hm
 refine cb hm fun cV cz hm => ckx (Jl cz :) ?_
 rintro _ _ _ ⟨bt, bh, rfl, bn, rfl⟩
 refine cb hm fun cB cr hm => cfx (ihrec0_0 cr :) ?_
 rintro _ c8 _ c5 ⟨bu, bb, bU, bO, bD, rfl, bp, bm, bR, rfl⟩
 refine qaa r3 rfl ⟨rfl, rfl, (nl rfl), ?_⟩
 refine cb hm fun cW cn hm => cgx (Js cn :) ?_
 refine cs rfl rfl hm ?_ ?_ <;> intro cQ hm
 refine cb hm fun cY bV hm => ckx (JG bV :) ?_
 rintro _ _ _ ⟨bP, bK, rfl, bF, rfl⟩
 refine ro (qab r2 rfl (nl rfl) ?_)
 refine qaa r5 rfl ⟨rfl, rfl, (nl rfl), ?_⟩
 exact ro (qab r0 rfl (nl rfl) (eE hm))
 refine ro (qab r2 rfl (nl rfl) ?_)
 refine qaa r5 rfl ⟨rfl, rfl, (nl rfl), ?_⟩
 exact ro (qab r0 rfl (nl rfl) (eE hm))
 refine cb hm fun cH bZ hm => ckx (Jab bZ :) ?_
 rintro _ _ _ ⟨bT, bS, rfl, bQ, rfl⟩
 refine ro (qab r2 rfl (nl rfl) ?_)
 refine qaa r4 rfl ⟨rfl, rfl, (nl rfl), ?_⟩
 refine ro (qab r0 rfl (nl rfl) ?_)
 refine qci (fun _ : Ja => []) 117 4 ?_
 exact eE hm

def Jay (aj : (Jb → Option (Ja × Jb))) (n : Nat) : Nat → Ja → Jb → Option (Ja × Jb)
  | 0, _, _ => none
  | aX + 1, ac, aU =>
    (Ju aU).bind fun x7 =>
    (if x7 then (JB aU 4 ([42] : Str)).bind fun aW =>
    some aW else some false).bind fun aY =>
    if aY then
    (Jq aU).bind fun a6 =>
    (Jbw aj n a6.2).bind fun aV =>
    (JaS 19 ([] : Str) ac aV.1).bind fun aZ =>
    Jay aj n aX aZ aV.2
    else
    some (ac, aU)
def JaZ (aj : (Jb → Option (Ja × Jb))) (n : Nat) (p : Jb) : Option (Ja × Jb) :=
  (Jbw aj n p).bind fun x5 =>
  (Jay aj n n x5.1 x5.2).bind fun t0 =>
  some (t0.1, t0.2)
theorem JbH {aj : (Jb → Option (Ja × Jb))} (ihrec0_0 : ∀ {p : Jb} {b0 : Nat} {aa : Option Addr} {ab : Nat} {K : Hp} {r : Ja × Jb} (hm : aj p = some r) (hX : (0 < p.list.length → Has aa) ∧ GG K), Fn Tryz.prog 236 [.pointer (some ⟨b0, 0, none⟩)] K [Cells b0 163 [.slice aa p.list.length ab, .int .i64 p.atZ, .int .i64 p.line], qat Je.enc aa 166 4 ab p.list] (fun v K' H' => ∃ ar_0 : Option Addr, ∃ cr_0 : Nat, ∃ sr_0 : List (List Value), ∃ ar_1 : Option Addr, ∃ cr_1 : Nat, v = .agg #[.int .i64 r.1.Ab, str r.1.Ac, .slice ar_0 r.1.Aa.length cr_0, .int .i64 r.1.Ad] ∧ (0 < r.1.Aa.length → Has ar_0) ∧ LR Ja.R K' sr_0 r.1.Aa ∧ (0 < r.2.list.length → Has ar_1) ∧ H' = [OwnA ar_0 117 4 cr_0 sr_0, Cells b0 163 [.slice ar_1 r.2.list.length cr_1, .int .i64 r.2.atZ, .int .i64 r.2.line], qat Je.enc ar_1 166 4 cr_1 r.2.list])) {n : Nat} {p : Jb} {b0 : Nat} {aa : Option Addr} {ab : Nat} {K : Hp} {r : Ja × Jb}
    (hm : JaZ aj n p = some r) (hX : (0 < p.list.length → Has aa) ∧ GG K) :
    Fn Tryz.prog 274 [.pointer (some ⟨b0, 0, none⟩)] K [Cells b0 163 [.slice aa p.list.length ab, .int .i64 p.atZ, .int .i64 p.line], qat Je.enc aa 166 4 ab p.list] (fun v K' H' => ∃ ar_0 : Option Addr, ∃ cr_0 : Nat, ∃ sr_0 : List (List Value), ∃ ar_1 : Option Addr, ∃ cr_1 : Nat, v = .agg #[.int .i64 r.1.Ab, str r.1.Ac, .slice ar_0 r.1.Aa.length cr_0, .int .i64 r.1.Ad] ∧ (0 < r.1.Aa.length → Has ar_0) ∧ LR Ja.R K' sr_0 r.1.Aa ∧ (0 < r.2.list.length → Has ar_1) ∧ H' = [OwnA ar_0 117 4 cr_0 sr_0, Cells b0 163 [.slice ar_1 r.2.list.length cr_1, .int .i64 r.2.atZ, .int .i64 r.2.line], qat Je.enc ar_1 166 4 cr_1 r.2.list]) := by
 obtain ⟨ae, hG⟩ := hX
 refine Fn.enter Tryz.func274 Tryz.call274 rfl fun F => ?_
 unfold JaZ at hm
 refine qaf rfl fun b2 => ?_
 refine cb hm fun x5 q5 hm => cfx (Jcx ihrec0_0 q5 :) ?_
 rintro _ K5 _ l5 ⟨bW, ca, bR, bY, cj, rfl, ce, bV, bU, rfl⟩
 refine qaf rfl fun b3 => ?_
 refine qaa r0 rfl ⟨rfl, rfl, (nl rfl), ?_⟩
 obtain ⟨s0, aZ, hm⟩ := bnd hm
 refine lC (σ := (Ja × Jb) × Option Addr × Nat × List (List Value) × Option Addr × Nat) (rg 6 12) [4, 5] (fun _ => []) (fun _ => []) (fun (t0, aV, aW, aX, aU, aY) => [Cells b3 117 [.int .i64 t0.1.Ab, str t0.1.Ac, .slice aV t0.1.Aa.length aW, .int .i64 t0.1.Ad], OwnA aV 117 4 aW aX, Cells b0 163 [.slice aU t0.2.list.length aY, .int .i64 t0.2.atZ, .int .i64 t0.2.line], qat Je.enc aU 166 4 aY t0.2.list]) (fun zz K1 => match zz with | (t0, aV, aW, aX, aU, aY) => (0 < t0.1.Aa.length → Has aV) ∧ LR Ja.R K1 aX t0.1.Aa ∧ (0 < t0.2.list.length → Has aU)) (fun i0 (t0, aV, aW, aX, aU, aY) => Jay aj n i0 t0.1 t0.2 = some s0) (fun (t0, aV, aW, aX, aU, aY) => t0 = s0) (fun i0 => i0) n ((_, _), _, _, _, _, _) aZ (And.intro qe (And.intro ?_ ?_))
 clear aZ
 rintro i0 ⟨⟨ac, bQ⟩, bp, bn, bt, bo, br⟩ co cD ⟨bv, ba, bl⟩ aZ j0
 dsimp only at aZ ⊢
 cases i0 with
 | zero => rw [Jay.eq_1] at aZ; cases aZ
 | succ i0 =>
  rw [Jay.eq_2] at aZ
  refine qaj rfl ?_
  refine cb aZ fun x7 q7 aZ => cgx (Js q7 :) ?_
  obtain ⟨cA, bb, aZ⟩ := bnd aZ
  refine cS bb (fun a8 bb => ?_) fun a8 bb => ?_
  refine ct a8 ?_
  refine cb bb fun cC cm bb => cgx (Jx cm :) ?_
  refine ct a8 (qac rfl ?_)
  refine qae ?_ ?_ <;> intro bz
  replace aZ := ift ((si bb).symm.trans bz) aZ
  refine qal rfl ?_
  refine cb aZ fun cu bS aZ => ckx (Jl bS :) ?_
  rintro _ _ _ ⟨bP, bO, rfl, bL, rfl⟩
  refine qa2 ⟨⟨[], false⟩, _, [(_, _)], []⟩ 3 rfl (by kernel_rfl) ⟨Hp.Le.refl _, (sc [2] rfl), ci0⟩ ?_
  refine qcb m0 rfl (nl rfl) ?_
  refine cb aZ fun cE bT aZ => cfx (Jcx ihrec0_0 bT :) ?_
  rintro _ cr _ bX ⟨bI, bA, bC, bB, bK, rfl, bH, bc, bD, rfl⟩
  refine qk (sc [3] rfl) ?_
  refine qjr Tryz.call254 Ja.R_ok r4 (LR.mono Ja.R_ok bX ba) fun bj a6 bh => ?_
  refine qjr Tryz.call254 Ja.R_ok r0 (LR.mono Ja.R_ok a6 bc) fun bg bf bd => ?_
  refine cb aZ fun cy bZ aZ => cfx (JaX bZ :) ?_
  rintro _ cB _ cw ⟨bF, bN, bG, rfl, bM, bJ, rfl⟩
  refine ⟨⟨Hp.emp_le _, (pf rfl), ci0⟩, ?_⟩
  refine qaa r3 rfl ⟨rfl, rfl, (nl rfl), ?_⟩
  refine ⟨⟨Hp.emp_le _, (pf rfl), ci0⟩, ?_⟩
  exact eR aZ (_, (_, _), _, _, _, _, _)
  replace aZ := qa9 ((si bb).symm.trans bz) aZ
  refine cT ?_
  exact eM aZ (_, _, _, _, _, _)
  refine cf a8 (cf a8 (qac rfl (cF ?_)))
  replace aZ := qa9 (si bb).symm aZ
  refine cT ?_
  exact eM aZ (_, _, _, _, _, _)
 rintro ⟨t0, aV, aW, aX, aU, aY⟩ cz cn ⟨bw, bu, bm⟩ rfl j0
 refine ro (qab r0 rfl (nl rfl) ?_)
 refine qaa r4 rfl ⟨rfl, rfl, (nl rfl), ?_⟩
 exact ro (qab r0 rfl (nl rfl) (eE hm))

def Jao (aj : (Jb → Option (Ja × Jb))) (n : Nat) : Nat → Ja → Jb → Option (Fl (Ja × Jb) (Ja × Jb))
  | 0, _, _ => none
  | aX + 1, ac, aU =>
    (Ju aU).bind fun x7 =>
    if x7 then
    (JB aU 4 ([43] : Str)).bind fun a8 =>
    if a8 then
    (Jq aU).bind fun bb =>
    (JaZ aj n bb.2).bind fun aW =>
    (JaS 17 ([] : Str) ac aW.1).bind fun ba =>
    Jao aj n aX ba aW.2
    else
    (JB aU 4 ([45] : Str)).bind fun aY =>
    if aY then
    (Jq aU).bind fun a6 =>
    (JaZ aj n a6.2).bind fun aV =>
    (JaS 18 ([] : Str) ac aV.1).bind fun aZ =>
    Jao aj n aX aZ aV.2
    else
    some (Fl.ret (ac, aU))
    else
    some (Fl.go (ac, aU))
def JbI (aj : (Jb → Option (Ja × Jb))) (n : Nat) (p : Jb) : Option (Ja × Jb) :=
  (JaZ aj n p).bind fun x5 =>
  (Jao aj n n x5.1 x5.2).bind fun s0 => s0.el some fun t0 =>
  some (t0.1, t0.2)
theorem JcG {aj : (Jb → Option (Ja × Jb))} (ihrec0_0 : ∀ {p : Jb} {b0 : Nat} {aa : Option Addr} {ab : Nat} {K : Hp} {r : Ja × Jb} (hm : aj p = some r) (hX : (0 < p.list.length → Has aa) ∧ GG K), Fn Tryz.prog 236 [.pointer (some ⟨b0, 0, none⟩)] K [Cells b0 163 [.slice aa p.list.length ab, .int .i64 p.atZ, .int .i64 p.line], qat Je.enc aa 166 4 ab p.list] (fun v K' H' => ∃ ar_0 : Option Addr, ∃ cr_0 : Nat, ∃ sr_0 : List (List Value), ∃ ar_1 : Option Addr, ∃ cr_1 : Nat, v = .agg #[.int .i64 r.1.Ab, str r.1.Ac, .slice ar_0 r.1.Aa.length cr_0, .int .i64 r.1.Ad] ∧ (0 < r.1.Aa.length → Has ar_0) ∧ LR Ja.R K' sr_0 r.1.Aa ∧ (0 < r.2.list.length → Has ar_1) ∧ H' = [OwnA ar_0 117 4 cr_0 sr_0, Cells b0 163 [.slice ar_1 r.2.list.length cr_1, .int .i64 r.2.atZ, .int .i64 r.2.line], qat Je.enc ar_1 166 4 cr_1 r.2.list])) {n : Nat} {p : Jb} {b0 : Nat} {aa : Option Addr} {ab : Nat} {K : Hp} {r : Ja × Jb}
    (hm : JbI aj n p = some r) (hX : (0 < p.list.length → Has aa) ∧ GG K) :
    Fn Tryz.prog 271 [.pointer (some ⟨b0, 0, none⟩)] K [Cells b0 163 [.slice aa p.list.length ab, .int .i64 p.atZ, .int .i64 p.line], qat Je.enc aa 166 4 ab p.list] (fun v K' H' => ∃ ar_0 : Option Addr, ∃ cr_0 : Nat, ∃ sr_0 : List (List Value), ∃ ar_1 : Option Addr, ∃ cr_1 : Nat, v = .agg #[.int .i64 r.1.Ab, str r.1.Ac, .slice ar_0 r.1.Aa.length cr_0, .int .i64 r.1.Ad] ∧ (0 < r.1.Aa.length → Has ar_0) ∧ LR Ja.R K' sr_0 r.1.Aa ∧ (0 < r.2.list.length → Has ar_1) ∧ H' = [OwnA ar_0 117 4 cr_0 sr_0, Cells b0 163 [.slice ar_1 r.2.list.length cr_1, .int .i64 r.2.atZ, .int .i64 r.2.line], qat Je.enc ar_1 166 4 cr_1 r.2.list]) := by
 obtain ⟨ae, hG⟩ := hX
 refine Fn.enter Tryz.func271 Tryz.call271 rfl fun F => ?_
 unfold JbI at hm
 refine qaf rfl fun b2 => ?_
 refine cb hm fun x5 q5 hm => cfx (JbH ihrec0_0 q5 :) ?_
 rintro _ K5 _ l5 ⟨cH, cN, cz, cK, cP, rfl, cO, cE, cD, rfl⟩
 refine qaf rfl fun b3 => ?_
 refine qaa r0 rfl ⟨rfl, rfl, (nl rfl), ?_⟩
 obtain ⟨s0, aW, hm⟩ := bnd hm
 refine lC (σ := (Ja × Jb) × Option Addr × Nat × List (List Value) × Option Addr × Nat) (rg 6 21) [4, 5] (fun _ => []) (fun _ => []) (fun (t0, aV, aX, aY, aU, aZ) => [Cells b3 117 [.int .i64 t0.1.Ab, str t0.1.Ac, .slice aV t0.1.Aa.length aX, .int .i64 t0.1.Ad], OwnA aV 117 4 aX aY, Cells b0 163 [.slice aU t0.2.list.length aZ, .int .i64 t0.2.atZ, .int .i64 t0.2.line], qat Je.enc aU 166 4 aZ t0.2.list]) (fun zz K1 => match zz with | (t0, aV, aX, aY, aU, aZ) => (0 < t0.1.Aa.length → Has aV) ∧ LR Ja.R K1 aY t0.1.Aa ∧ (0 < t0.2.list.length → Has aU)) (fun i0 (t0, aV, aX, aY, aU, aZ) => Jao aj n i0 t0.1 t0.2 = some s0) (fun (t0, aV, aX, aY, aU, aZ) => s0 = Fl.go t0) (fun i0 => i0) n ((_, _), _, _, _, _, _) aW (And.intro qe (And.intro ?_ ?_))
 clear aW
 rintro i0 ⟨⟨ac, cy⟩, bw, bu, bA, bv, bz⟩ cW di ⟨bC, a6, br⟩ aW j0
 dsimp only at aW ⊢
 cases i0 with
 | zero => rw [Jao.eq_1] at aW; cases aW
 | succ i0 =>
  rw [Jao.eq_2] at aW
  refine cb aW fun x7 q7 aW => cgx (Js q7 :) ?_
  refine cs rfl rfl aW ?_ ?_ <;> intro w7 aW
  refine qal rfl ?_
  refine qal rfl ?_
  refine cb aW fun dc cM aW => cgx (Jx cM :) ?_
  refine cs rfl rfl aW ?_ ?_ <;> intro w9 aW
  refine cb aW fun c4 cB aW => ckx (Jl cB :) ?_
  rintro _ _ _ ⟨cw, cu, rfl, cn, rfl⟩
  refine qa2 ⟨⟨[], false⟩, _, [(_, _)], []⟩ 3 rfl (by kernel_rfl) ⟨Hp.Le.refl _, (sc [2] rfl), ci0⟩ ?_
  refine qcb m0 rfl (nl rfl) ?_
  refine cb aW fun dj cC aW => cfx (JbH ihrec0_0 cC :) ?_
  rintro _ cZ _ cI ⟨bX, bH, bL, bJ, ce, rfl, bT, bc, bP, rfl⟩
  refine qk (sc [3] rfl) ?_
  refine qjr Tryz.call254 Ja.R_ok r4 (LR.mono Ja.R_ok cI a6) fun bp a8 bo => ?_
  refine qjr Tryz.call254 Ja.R_ok r0 (LR.mono Ja.R_ok a8 bc) fun bl bh bg => ?_
  refine cb aW fun c6 cL aW => cfx (JaX cL :) ?_
  rintro _ dh _ c5 ⟨bQ, cr, bS, rfl, co, bZ, rfl⟩
  refine ⟨⟨Hp.emp_le _, (pf rfl), ci0⟩, ?_⟩
  refine qaa r3 rfl ⟨rfl, rfl, (nl rfl), ?_⟩
  refine ⟨⟨Hp.emp_le _, (pf rfl), ci0⟩, ?_⟩
  exact eR aW (_, (_, _), _, _, _, _, _)
  refine cb aW fun de cA aW => cgx (Jx cA :) ?_
  refine cs rfl rfl aW ?_ ?_ <;> intro dk aW
  refine cb aW fun dg cG aW => ckx (Jl cG :) ?_
  rintro _ _ _ ⟨cj, bI, rfl, bR, rfl⟩
  refine qa2 ⟨⟨[], false⟩, _, [(_, _)], []⟩ 3 rfl (by kernel_rfl) ⟨Hp.Le.refl _, (sc [2] rfl), ci0⟩ ?_
  refine qcb m0 rfl (nl rfl) ?_
  refine cb aW fun df cR aW => cfx (JbH ihrec0_0 cR :) ?_
  rintro _ cX _ cQ ⟨bW, bU, bM, bF, bK, rfl, bY, bf, ca, rfl⟩
  refine qk (sc [3] rfl) ?_
  refine qjr Tryz.call254 Ja.R_ok r4 (LR.mono Ja.R_ok cQ a6) fun bn ba bb => ?_
  refine qjr Tryz.call254 Ja.R_ok r0 (LR.mono Ja.R_ok ba bf) fun bm bj bd => ?_
  refine cb aW fun cY cJ aW => cfx (JaX cJ :) ?_
  rintro _ cV _ c8 ⟨bV, bO, bN, rfl, cm, bG, rfl⟩
  refine ⟨⟨Hp.emp_le _, (pf rfl), ci0⟩, ?_⟩
  refine qaa r3 rfl ⟨rfl, rfl, (nl rfl), ?_⟩
  refine ⟨⟨Hp.emp_le _, (pf rfl), ci0⟩, ?_⟩
  exact eR aW (_, (_, _), _, _, _, _, _)
  refine ro (qab r2 rfl (nl rfl) ?_)
  refine qaa r4 rfl ⟨rfl, rfl, (nl rfl), ?_⟩
  exact ro (qab r0 rfl (nl rfl) (eE (er aW hm)))
  refine cT ?_
  exact eM aW (_, _, _, _, _, _)
 rintro ⟨t0, aV, aX, aY, aU, aZ⟩ c9 cU ⟨bD, bB, bt⟩ rfl j0
 replace hm := elg hm
 refine ro (qab r0 rfl (nl rfl) ?_)
 refine qaa r4 rfl ⟨rfl, rfl, (nl rfl), ?_⟩
 exact ro (qab r0 rfl (nl rfl) (eE hm))

def Jcf (aj : (Jb → Option (Ja × Jb))) (n : Nat) (p : Jb) : Option (Ja × Jb) :=
  (JbI aj n p).bind fun x6 =>
  (JN x6.2).bind fun x8 =>
  (Ju x6.2).bind fun aV =>
  (if aV then (JbA x8.Ab x8.Ac).bind fun aY =>
  some aY else some false).bind fun aZ =>
  if aZ then
  (Jq x6.2).bind fun aX =>
  (JbI aj n aX.2).bind fun aU =>
  (JaS 16 x8.Ac x6.1 aU.1).bind fun aW =>
  some (aW, aU.2)
  else
  some (x6.1, x6.2)
theorem JdE {aj : (Jb → Option (Ja × Jb))} (ihrec0_0 : ∀ {p : Jb} {b0 : Nat} {aa : Option Addr} {ab : Nat} {K : Hp} {r : Ja × Jb} (hm : aj p = some r) (hX : (0 < p.list.length → Has aa) ∧ GG K), Fn Tryz.prog 236 [.pointer (some ⟨b0, 0, none⟩)] K [Cells b0 163 [.slice aa p.list.length ab, .int .i64 p.atZ, .int .i64 p.line], qat Je.enc aa 166 4 ab p.list] (fun v K' H' => ∃ ar_0 : Option Addr, ∃ cr_0 : Nat, ∃ sr_0 : List (List Value), ∃ ar_1 : Option Addr, ∃ cr_1 : Nat, v = .agg #[.int .i64 r.1.Ab, str r.1.Ac, .slice ar_0 r.1.Aa.length cr_0, .int .i64 r.1.Ad] ∧ (0 < r.1.Aa.length → Has ar_0) ∧ LR Ja.R K' sr_0 r.1.Aa ∧ (0 < r.2.list.length → Has ar_1) ∧ H' = [OwnA ar_0 117 4 cr_0 sr_0, Cells b0 163 [.slice ar_1 r.2.list.length cr_1, .int .i64 r.2.atZ, .int .i64 r.2.line], qat Je.enc ar_1 166 4 cr_1 r.2.list])) {n : Nat} {p : Jb} {b0 : Nat} {aa : Option Addr} {ab : Nat} {K : Hp} {r : Ja × Jb}
    (hm : Jcf aj n p = some r) (hX : (0 < p.list.length → Has aa) ∧ GG K) :
    Fn Tryz.prog 267 [.pointer (some ⟨b0, 0, none⟩)] K [Cells b0 163 [.slice aa p.list.length ab, .int .i64 p.atZ, .int .i64 p.line], qat Je.enc aa 166 4 ab p.list] (fun v K' H' => ∃ ar_0 : Option Addr, ∃ cr_0 : Nat, ∃ sr_0 : List (List Value), ∃ ar_1 : Option Addr, ∃ cr_1 : Nat, v = .agg #[.int .i64 r.1.Ab, str r.1.Ac, .slice ar_0 r.1.Aa.length cr_0, .int .i64 r.1.Ad] ∧ (0 < r.1.Aa.length → Has ar_0) ∧ LR Ja.R K' sr_0 r.1.Aa ∧ (0 < r.2.list.length → Has ar_1) ∧ H' = [OwnA ar_0 117 4 cr_0 sr_0, Cells b0 163 [.slice ar_1 r.2.list.length cr_1, .int .i64 r.2.atZ, .int .i64 r.2.line], qat Je.enc ar_1 166 4 cr_1 r.2.list]) := by
 obtain ⟨ae, hG⟩ := hX
 refine Fn.enter Tryz.func267 Tryz.call267 rfl fun F => ?_
 unfold Jcf at hm
 refine qaf rfl fun b2 => ?_
 refine cb hm fun x6 q6 hm => cfx (JcG ihrec0_0 q6 :) ?_
 rintro _ K6 _ l6 ⟨bJ, bC, bD, bF, bI, rfl, bB, bc, bH, rfl⟩
 refine qaf rfl fun b3 => ?_
 refine qaa r0 rfl ⟨rfl, rfl, (nl rfl), ?_⟩
 refine cb hm fun x8 q8 hm => cgx (JL q8 :) ?_
 refine qaf rfl fun b4 => ?_
 refine qaa r0 rfl ⟨rfl, rfl, (nl rfl), ?_⟩
 refine qaj rfl ?_
 refine cb hm fun bS bN hm => cgx (Js bN :) ?_
 obtain ⟨bU, aX, hm⟩ := bnd hm
 refine cS aX (fun aU aX => ?_) fun aU aX => ?_
 refine fa rfl (ct aU (ro (ld r2 rfl rfl (ct aU (fa rfl (ct aU (ro (ld r2 rfl rfl (ct aU ?_)))))))))
 refine cb aX fun bT bM aX => cg0 (Jce bM :) ?_
 refine ct aU (qac rfl ?_)
 refine qae ?_ ?_ <;> intro bo
 replace hm := ift ((si aX).symm.trans bo) hm
 refine cb hm fun bO bK hm => ckx (Jl bK :) ?_
 rintro _ _ _ ⟨bd, bw, rfl, bm, rfl⟩
 refine qa6 ⟨⟨[], false⟩, _, [(_, _), (_, _)], []⟩ (by kernel_rfl) ⟨Hp.Le.refl _, (sc [2,2] rfl), ci0⟩ ?_
 refine fa rfl (qao m0 rfl rfl (qcb m1 rfl (nl rfl) ?_))
 refine cb hm fun bV bG hm => cfx (JcG ihrec0_0 bG :) ?_
 rintro _ bR _ bb ⟨bj, bn, bp, br, bg, rfl, bv, ba, bh, rfl⟩
 refine qk (sc [3,3] rfl) ?_
 refine qjr Tryz.call254 Ja.R_ok r5 (LR.mono Ja.R_ok bb bc) fun a6 aV aY => ?_
 refine qjr Tryz.call254 Ja.R_ok r0 (LR.mono Ja.R_ok aV ba) fun a8 aW aZ => ?_
 refine cb hm fun bQ bL hm => cfx (JaX bL :) ?_
 rintro _ bP _ bz ⟨bf, bA, bt, rfl, bu, bl, rfl⟩
 refine ⟨⟨(((bb.trans aV).trans aW).trans bz), (sc [3,3] rfl), ci0⟩, ?_⟩
 refine qaa r5 rfl ⟨rfl, rfl, (nl rfl), ?_⟩
 refine ⟨⟨(((bb.trans aV).trans aW).trans bz), (sc [4,4] rfl), ci0⟩, ?_⟩
 exact ro (qab r0 rfl (nl rfl) (eE hm))
 replace hm := qa9 ((si aX).symm.trans bo) hm
 refine ro (qab r3 rfl (nl rfl) ?_)
 refine qaa r5 rfl ⟨rfl, rfl, (nl rfl), ?_⟩
 exact ro (qab r0 rfl (nl rfl) (eE hm))
 refine cf aU (cf aU (cf aU (cf aU (cf aU (qac rfl (cF ?_))))))
 replace hm := qa9 (si aX).symm hm
 refine ro (qab r3 rfl (nl rfl) ?_)
 refine qaa r5 rfl ⟨rfl, rfl, (nl rfl), ?_⟩
 exact ro (qab r0 rfl (nl rfl) (eE hm))
