/- Functions of the program: mirrors, and that a call returns what the mirror says. Printed by gen.py. -/
import Derived.Test.YtiaaooopklhobaaGreatDoorShelf
import Derived.Test.YtiaaooopklhobaaGreatDoorLU
import Derived.KernelRfl
import Derived.Test.YtiaaooopklhobaaGreatDoorProg
set_option linter.unusedVariables false
set_option linter.unusedSimpArgs false
open Go Go.SL Go.Proofs
noncomputable section
set_option maxRecDepth 1000000
set_option maxHeartbeats 8000000
def Jao : List Str := [[109, 101, 116, 104, 111, 100], [104, 111, 115, 116], [112, 97, 116, 104], [113, 117, 101, 114, 121]]
def JaV : List Str := [[104, 101, 97, 100, 101, 114], [104, 97, 115], [97, 114, 103], [108, 101, 110], [108, 111, 119, 101, 114], [112, 97, 114, 116], [116, 101, 120, 116], [110, 117, 109, 98, 101, 114]]
def Jai : List Str := [[43], [45], [42], [61, 61], [33, 61], [60], [60, 61], [115, 116, 97, 114, 116, 115], [101, 110, 100, 115], [99, 111, 110, 116, 97, 105, 110, 115]]
def gkw0 : List Str := [[105, 102], [101, 108, 115, 101], [108, 101, 116], [118, 97, 114, 121], [116, 97, 103], [116, 116, 108], [100, 101, 110, 121], [112, 97, 115, 115], [116, 111, 107, 101, 110], [111, 114], [97, 110, 100], [110, 111, 116], [115, 116, 97, 114, 116, 115], [101, 110, 100, 115], [99, 111, 110, 116, 97, 105, 110, 115], [116, 114, 117, 101], [102, 97, 108, 115, 101]]
structure Jt where
  An : Str
  Tenant : Int
  Program : Str
abbrev Jt.enc (x : Jt) : List Go.Value := [str x.An, .int .i64 x.Tenant, str x.Program]
structure Jc where
  Name : Str
  Value : Str
abbrev Jc.enc (x : Jc) : List Go.Value := [str x.Name, str x.Value]
structure Jal where
  Am : Str
  Target : Str
  Ao : (List Jc)
def Jal.R : Rp Jal := fun K cs x => ∃ a_0 : Option Addr, ∃ c_0 : Nat, cs = [str x.Am, str x.Target, .slice a_0 x.Ao.length c_0] ∧ RdC Jc.enc K a_0 c_0 2 x.Ao
theorem Jal.R_ok : qha 3 Jal.R :=
  ⟨fun hk ⟨a_0, c_0, e, h_0⟩ => ⟨a_0, c_0, e, (h_0.mono hk)⟩, fun ⟨a_0, c_0, e, h_0⟩ => by simp [e], fun ⟨a_0, c_0, e, h_0⟩ v hv => by rw [e] at hv; simp at hv; rcases hv with rfl | rfl | rfl <;> rfl⟩
instance : RpI 3 Jal.R := ⟨Jal.R_ok⟩
structure Jg where
  Op : Int
  N : Int
  S : Str
abbrev Jg.enc (x : Jg) : List Go.Value := [.int .i64 x.Op, .int .i64 x.N, str x.S]
structure JH where
  tenant : Int
  code : (List Jg)
def JH.R : Rp JH := fun K cs x => ∃ a_0 : Option Addr, ∃ c_0 : Nat, cs = [.int .i64 x.tenant, .slice a_0 x.code.length c_0] ∧ RdC Jg.enc K a_0 c_0 3 x.code
theorem JH.R_ok : qha 2 JH.R :=
  ⟨fun hk ⟨a_0, c_0, e, h_0⟩ => ⟨a_0, c_0, e, (h_0.mono hk)⟩, fun ⟨a_0, c_0, e, h_0⟩ => by simp [e], fun ⟨a_0, c_0, e, h_0⟩ v hv => by rw [e] at hv; simp at hv; rcases hv with rfl | rfl <;> rfl⟩
instance : RpI 2 JH.R := ⟨JH.R_ok⟩
structure JJ where
  sites : (List (Str × JH))
structure Ja where
  Ab : Int
  Ac : Str
  Aa : (List Ja)
  Ad : Int
inductive Ja.R (K : Hp) : List Value → Ja → Prop
  | mk {cs : List Value} {x : Ja} (a_0 : Option Addr) (c_0 : Nat) (e : cs = [.int .i64 x.Ab, str x.Ac, .slice a_0 x.Aa.length c_0, .int .i64 x.Ad]) (css0 : List (List Value)) (p0 : RdS K a_0 4 css0) (q0 : css0.length = x.Aa.length) (r0 : x.Aa.length ≤ c_0) (z0 : ∀ (i : Nat) (c : List Value) (y : Ja), css0[i]? = some c → x.Aa[i]? = some y → Ja.R K c y) : Ja.R K cs x
theorem Ja.out {K : Hp} {cs : List Value} {x : Ja} (h : Ja.R K cs x) : ∃ a_0 : Option Addr, ∃ c_0 : Nat, cs = [.int .i64 x.Ab, str x.Ac, .slice a_0 x.Aa.length c_0, .int .i64 x.Ad] ∧ LiC Ja.R K a_0 c_0 4 x.Aa := by
  cases h with
  | mk a_0 c_0 e css0 p0 q0 r0 z0 => exact ⟨a_0, c_0, e, ⟨⟨css0, p0, q0, z0⟩, r0⟩⟩
theorem Ja.of {K : Hp} {cs : List Value} {x : Ja} (h : ∃ a_0 : Option Addr, ∃ c_0 : Nat, cs = [.int .i64 x.Ab, str x.Ac, .slice a_0 x.Aa.length c_0, .int .i64 x.Ad] ∧ LiC Ja.R K a_0 c_0 4 x.Aa) : Ja.R K cs x := by
  obtain ⟨a_0, c_0, e, ⟨⟨aV, p0, q0, z0⟩, r0⟩⟩ := h
  exact .mk a_0 c_0 e aV p0 q0 r0 z0
theorem Ja.R_mono {K K' : Hp} (hk : K.Le K') {cs : List Value} {x : Ja} (h : Ja.R K cs x) : Ja.R K' cs x := by
  induction h with
  | mk a_0 c_0 e css0 p0 q0 r0 z0 ih0 => exact .mk a_0 c_0 e css0 (p0.mono hk) q0 r0 (ih0)
theorem Ja.R_ok : qha 4 Ja.R := by
  refine ⟨fun hk h => Ja.R_mono hk h, fun h => ?_, fun h v hv => ?_⟩
  · obtain ⟨a_0, c_0, e, aV⟩ := Ja.out h; simp [e]
  · obtain ⟨a_0, c_0, e, aV⟩ := Ja.out h; rw [e] at hv; simp at hv; rcases hv with rfl | rfl | rfl | rfl <;> rfl
instance : RpI 4 Ja.R := ⟨Ja.R_ok⟩
structure Je where
  Ab : Int
  Ac : Str
  Ad : Int
  Column : Int
abbrev Je.enc (x : Je) : List Go.Value := [.int .i64 x.Ab, str x.Ac, .int .i64 x.Ad, .int .i64 x.Column]
structure Jb where
  list : (List Je)
  atZ : Int
  line : Int
def Jb.R : Rp Jb := fun K cs x => ∃ a_0 : Option Addr, ∃ c_0 : Nat, cs = [.slice a_0 x.list.length c_0, .int .i64 x.atZ, .int .i64 x.line] ∧ RdC Je.enc K a_0 c_0 4 x.list
theorem Jb.R_ok : qha 3 Jb.R :=
  ⟨fun hk ⟨a_0, c_0, e, h_0⟩ => ⟨a_0, c_0, e, (h_0.mono hk)⟩, fun ⟨a_0, c_0, e, h_0⟩ => by simp [e], fun ⟨a_0, c_0, e, h_0⟩ v hv => by rw [e] at hv; simp at hv; rcases hv with rfl | rfl | rfl <;> rfl⟩
instance : RpI 3 Jb.R := ⟨Jb.R_ok⟩
structure Jn where
  line : Int
  err : Err
abbrev Jn.enc (x : Jn) : List Go.Value := [.int .i64 x.line, qc3 48 x.err]
structure Jl where
  Name : Str
  Ar : Int
abbrev Jl.enc (x : Jl) : List Go.Value := [str x.Name, .int .i64 x.Ar]
structure Jj where
  name : Str
  slot : Int
abbrev Jj.enc (x : Jj) : List Go.Value := [str x.name, .int .i64 x.slot]
structure Jd where
  code : (List Jg)
  names : (List Jj)
  Ap : Int
def Jd.R : Rp Jd := fun K cs x => ∃ a_0 : Option Addr, ∃ c_0 : Nat, ∃ a_1 : Option Addr, ∃ c_1 : Nat, cs = [.slice a_0 x.code.length c_0, .slice a_1 x.names.length c_1, .int .i64 x.Ap] ∧ RdC Jg.enc K a_0 c_0 3 x.code ∧ RdC Jj.enc K a_1 c_1 2 x.names
theorem Jd.R_ok : qha 3 Jd.R :=
  ⟨fun hk ⟨a_0, c_0, a_1, c_1, e, h_0, h_1⟩ => ⟨a_0, c_0, a_1, c_1, e, (h_0.mono hk), (h_1.mono hk)⟩, fun ⟨a_0, c_0, a_1, c_1, e, h_0, h_1⟩ => by simp [e], fun ⟨a_0, c_0, a_1, c_1, e, h_0, h_1⟩ v hv => by rw [e] at hv; simp at hv; rcases hv with rfl | rfl | rfl <;> rfl⟩
instance : RpI 3 Jd.R := ⟨Jd.R_ok⟩
structure Ju where
  An : Str
  Ae : Str
  Af : Str
  HasQuery : Bool
abbrev Ju.enc (x : Ju) : List Go.Value := [str x.An, str x.Ae, str x.Af, .bool x.HasQuery]
structure Jaj where
  Tenant : Int
  TTL : Int
  Ai : Int
  Asked : Ju
  Cache : Ju
  Ao : (List Jc)
  Vary : (List Str)
  Ah : (List Str)
  Ak : Bool
  Al : Bool
def Jaj.R : Rp Jaj := fun K cs x => ∃ a_0 : Option Addr, ∃ c_0 : Nat, ∃ a_1 : Option Addr, ∃ c_1 : Nat, ∃ a_2 : Option Addr, ∃ c_2 : Nat, cs = [.int .i64 x.Tenant, .int .i64 x.TTL, .int .i64 x.Ai, str x.Asked.An, str x.Asked.Ae, str x.Asked.Af, .bool x.Asked.HasQuery, str x.Cache.An, str x.Cache.Ae, str x.Cache.Af, .bool x.Cache.HasQuery, .slice a_0 x.Ao.length c_0, .slice a_1 x.Vary.length c_1, .slice a_2 x.Ah.length c_2, .bool x.Ak, .bool x.Al] ∧ RdC Jc.enc K a_0 c_0 2 x.Ao ∧ RdC eS K a_1 c_1 1 x.Vary ∧ RdC eS K a_2 c_2 1 x.Ah
theorem Jaj.R_ok : qha 16 Jaj.R :=
  ⟨fun hk ⟨a_0, c_0, a_1, c_1, a_2, c_2, e, h_0, h_1, h_2⟩ => ⟨a_0, c_0, a_1, c_1, a_2, c_2, e, (h_0.mono hk), (h_1.mono hk), (h_2.mono hk)⟩, fun ⟨a_0, c_0, a_1, c_1, a_2, c_2, e, h_0, h_1, h_2⟩ => by simp [e], fun ⟨a_0, c_0, a_1, c_1, a_2, c_2, e, h_0, h_1, h_2⟩ v hv => by rw [e] at hv; simp at hv; rcases hv with rfl | rfl | rfl | rfl | rfl | rfl | rfl | rfl | rfl | rfl | rfl | rfl | rfl | rfl | rfl | rfl <;> rfl⟩
instance : RpI 16 Jaj.R := ⟨Jaj.R_ok⟩
structure J5 where
  Am : Str
  An : Str
  Ae : Str
  Af : Str
  Ao : (List Jc)
def J5.R : Rp J5 := fun K cs x => ∃ a_0 : Option Addr, ∃ c_0 : Nat, cs = [str x.Am, str x.An, str x.Ae, str x.Af, .slice a_0 x.Ao.length c_0] ∧ RdC Jc.enc K a_0 c_0 2 x.Ao
theorem J5.R_ok : qha 5 J5.R :=
  ⟨fun hk ⟨a_0, c_0, e, h_0⟩ => ⟨a_0, c_0, e, (h_0.mono hk)⟩, fun ⟨a_0, c_0, e, h_0⟩ => by simp [e], fun ⟨a_0, c_0, e, h_0⟩ v hv => by rw [e] at hv; simp at hv; rcases hv with rfl | rfl | rfl | rfl | rfl <;> rfl⟩
instance : RpI 5 J5.R := ⟨J5.R_ok⟩
structure Jq where
  Ae : Str
  Af : Str
  Ag : (List Jc)
  Vary : (List Str)
  Ah : (List Str)
  TTL : Int
  Ai : Int
  Aj : Int
  Ak : Bool
  Al : Bool
def Jq.R : Rp Jq := fun K cs x => ∃ a_0 : Option Addr, ∃ c_0 : Nat, ∃ a_1 : Option Addr, ∃ c_1 : Nat, ∃ a_2 : Option Addr, ∃ c_2 : Nat, cs = [str x.Ae, str x.Af, .slice a_0 x.Ag.length c_0, .slice a_1 x.Vary.length c_1, .slice a_2 x.Ah.length c_2, .int .i64 x.TTL, .int .i64 x.Ai, .int .i64 x.Aj, .bool x.Ak, .bool x.Al] ∧ RdC Jc.enc K a_0 c_0 2 x.Ag ∧ RdC eS K a_1 c_1 1 x.Vary ∧ RdC eS K a_2 c_2 1 x.Ah
theorem Jq.R_ok : qha 10 Jq.R :=
  ⟨fun hk ⟨a_0, c_0, a_1, c_1, a_2, c_2, e, h_0, h_1, h_2⟩ => ⟨a_0, c_0, a_1, c_1, a_2, c_2, e, (h_0.mono hk), (h_1.mono hk), (h_2.mono hk)⟩, fun ⟨a_0, c_0, a_1, c_1, a_2, c_2, e, h_0, h_1, h_2⟩ => by simp [e], fun ⟨a_0, c_0, a_1, c_1, a_2, c_2, e, h_0, h_1, h_2⟩ v hv => by rw [e] at hv; simp at hv; rcases hv with rfl | rfl | rfl | rfl | rfl | rfl | rfl | rfl | rfl | rfl <;> rfl⟩
instance : RpI 10 Jq.R := ⟨Jq.R_ok⟩
structure Jbb where
  f0 : Int
  f1 : Int
  f2 : Int
  f3 : Int
  f4 : Int
  f5 : Int
  f6 : Int
  f7 : Int
abbrev Jbb.enc (x : Jbb) : List Go.Value := [.int .u64 x.f0, .int .u64 x.f1, .int .u64 x.f2, .int .u64 x.f3, .int .u64 x.f4, .int .u64 x.f5, .int .u64 x.f6, .int .u64 x.f7]
structure Jp where
  Av : Bool
  depth : Int
  Au : Jbb
abbrev Jp.enc (x : Jp) : List Go.Value := [.bool x.Av, .int .i64 x.depth, .int .u64 x.Au.f0, .int .u64 x.Au.f1, .int .u64 x.Au.f2, .int .u64 x.Au.f3, .int .u64 x.Au.f4, .int .u64 x.Au.f5, .int .u64 x.Au.f6, .int .u64 x.Au.f7]
structure Jk where
  kind : Int
  n : Int
  s : Str
  As : Bool
abbrev Jk.enc (x : Jk) : List Go.Value := [.int .i64 x.kind, .int .i64 x.n, str x.s, .bool x.As]
structure Jh where
  Aq : J5
  most : Int
  result : Jq
  stack : (List Jk)
  Ap : (List Jk)
theorem qwa : ElT Tryz.prog 31 30 3 := ElT.mk' rfl rfl rfl rfl rfl
theorem qcr : ElT Tryz.prog 52 5 1 := ElT.mk' rfl rfl rfl rfl rfl
theorem qca : ElT Tryz.prog 23 9 1 := ElT.mk' rfl rfl rfl rfl rfl
theorem qm8 : ElT Tryz.prog 158 166 4 := ElT.mk' rfl rfl rfl rfl rfl
theorem qb3 : ElT Tryz.prog 115 117 4 := ElT.mk' rfl rfl rfl rfl rfl
theorem qm9 : ElT Tryz.prog 284 3 1 := ElT.mk' rfl rfl rfl rfl rfl
theorem qna : ElT Tryz.prog 259 288 2 := ElT.mk' rfl rfl rfl rfl rfl
theorem qur : ElT Tryz.prog 80 135 3 := ElT.mk' rfl rfl rfl rfl rfl
theorem qnb : ElT Tryz.prog 207 290 2 := ElT.mk' rfl rfl rfl rfl rfl
theorem qhu : ElT Tryz.prog 35 41 2 := ElT.mk' rfl rfl rfl rfl rfl
theorem qus : ElT Tryz.prog 225 228 10 := ElT.mk' rfl rfl rfl rfl rfl
theorem qsd : ElT Tryz.prog 126 128 4 := ElT.mk' rfl rfl rfl rfl rfl
def GG (K : Hp) : Prop := (GlN 0 K) ∧ (GlL eS 1 1 Jao K) ∧ (GlL eS 1 2 JaV K) ∧ (GlL eS 1 3 Jai K) ∧ (GlA 4 (Go.Lib.pow10Tab.map fun z => Value.int .u64 z) K) ∧ (GlL eS 1 5 gkw0 K)
theorem GG.of {K : Hp} (h : (GlN 0 K) ∧ (GlL eS 1 1 Jao K) ∧ (GlL eS 1 2 JaV K) ∧ (GlL eS 1 3 Jai K) ∧ (GlA 4 (Go.Lib.pow10Tab.map fun z => Value.int .u64 z) K) ∧ (GlL eS 1 5 gkw0 K)) : GG K := h
theorem GG.mono {K K' : Hp} (h : GG K) (hk : K.Le K') : GG K' := ⟨h.1.mono hk, h.2.1.mono hk, h.2.2.1.mono hk, h.2.2.2.1.mono hk, h.2.2.2.2.1.mono hk, h.2.2.2.2.2.mono hk⟩
theorem gg0 {K : Hp} (h : GG K) : GlN 0 K := h.1
theorem gg1 {K : Hp} (h : GG K) : GlL eS 1 1 Jao K := h.2.1
theorem gg2 {K : Hp} (h : GG K) : GlL eS 1 2 JaV K := h.2.2.1
theorem gg3 {K : Hp} (h : GG K) : GlL eS 1 3 Jai K := h.2.2.2.1
theorem gg4 {K : Hp} (h : GG K) : GlA 4 (Go.Lib.pow10Tab.map fun z => Value.int .u64 z) K := h.2.2.2.2.1
theorem gg5 {K : Hp} (h : GG K) : GlL eS 1 5 gkw0 K := h.2.2.2.2.2
def JbF : List Jc → Nat → Int → Option (Int)
  | [], _, ac => some ac
  | e0 :: aV, i0, ac =>
    JbF aV (i0 + 1) (IntKind.i64.wrap (ac + (IntKind.i64.wrap ((e0.Name.length : Int) + (e0.Value.length : Int)))))
def JbG : List Jt → Nat → Int → Option (Int)
  | [], _, aV => some aV
  | e2 :: aW, i2, aV =>
    JbG aW (i2 + 1) (IntKind.i64.wrap (aV + (IntKind.i64.wrap ((e2.An.length : Int) + (e2.Program.length : Int)))))
def Jda (l : (List Jt)) (r' : Jal) : Option (Bool) :=
  (chk (r'.Ao.length ≤ qa1)).bind fun _ =>
  (JbF r'.Ao 0 (r'.Target.length : Int)).bind fun t0 =>
  (chk (l.length ≤ qa1)).bind fun _ =>
  (JbG l 0 t0).bind fun t2 =>
  some ((decide (t2 > 8000) || decide ((l.length : Int) > 8)) || decide ((r'.Ao.length : Int) > 40))
theorem Jev {l : (List Jt)} {r' : Jal} {aa : Option Addr} {ab : Nat} {n0 : Nat} {af : Option Addr} {ag : Nat} {K : Hp} {r : Bool}
    (hm : Jda l r' = some r) (hX : RdC Jt.enc K aa ab 3 l ∧ n0 = l.length ∧ RdC Jc.enc K af ag 2 r'.Ao) :
    Fn Tryz.prog 19 [.slice aa n0 ab, .agg #[str r'.Am, str r'.Target, .slice af r'.Ao.length ag]] K [] (fun v K' H' => v = .bool r ∧ H' = []) := by
 obtain ⟨ae, bc, aj⟩ := hX
 subst bc
 refine Fn.enter Tryz.func19 Tryz.call19 rfl fun F => ?_
 unfold Jda at hm
 refine qar ?_
 intro b3
 refine fa rfl (ro (ld r0 rfl rfl (ro (qa4 rfl (fa rfl (ro (ld r0 rfl rfl (ro (qal rfl ?_)))))))))
 obtain ⟨bb, hm⟩ := qax hm
 obtain ⟨s0, aX, hm⟩ := bnd hm
 refine lD (σ := (Int)) ([5,7] ++ rg 16 14) [0, 1] (fun i0 => [(16, .int .i64 (i0 : Int))]) (fun t0 => [(5, .int .i64 t0)]) (fun _ => []) (fun _ => True) (fun i0 t0 => JbF (r'.Ao.drop i0) i0 t0 = some s0) (fun t0 => t0 = s0) (fun i0 => r'.Ao.length - i0) 0 _ aX (And.intro qe (And.intro ?_ ?_))
 clear aX
 rintro i0 ac _ aX j0
 conv at aX => whnf
 refine qac rfl ?_
 refine qaf ?_ ?_ <;> intro w0
 obtain ⟨e0, a6, bg⟩ := ltx w0
 rw [bg, JbF.eq_2] at aX
 refine qam rfl ?_
 refine RStep.ofN (qae rfl rfl (qea aj.rd a6) (nn _) (qbp a6) (ro (qao i0 _ aj.rd rfl (mp a6) rfl ?_)))
 refine qai rfl fun b7 => ?_
 refine qaa r0 rfl ⟨rfl, rfl, (nl rfl), ?_⟩
 refine fa rfl (ro (ld r0 rfl rfl (ro (qa4 rfl (fa rfl (ro (ld r0 rfl rfl (ro (qa4 rfl ?_)))))))))
 refine qhj ?_
 refine qhj ?_
 refine qan (qbu a6 bb) ?_
 exact eR aX (_, _)
 rw [lty w0, JbF.eq_1] at aX
 refine cT ?_
 exact eM aX _
 rintro t0 _ rfl j0
 refine ro (qal rfl ?_)
 obtain ⟨ba, hm⟩ := qax hm
 obtain ⟨s2, aY, hm⟩ := bnd hm
 refine lD (σ := (Int)) ([5,9] ++ rg 32 14) [0, 1] (fun i2 => [(32, .int .i64 (i2 : Int))]) (fun t2 => [(5, .int .i64 t2)]) (fun _ => []) (fun _ => True) (fun i2 t2 => JbG (l.drop i2) i2 t2 = some s2) (fun t2 => t2 = s2) (fun i2 => l.length - i2) 0 _ aY (And.intro qe (And.intro ?_ ?_))
 clear aY
 rintro i2 bf _ aY j2
 conv at aY => whnf
 refine qac rfl ?_
 refine qaf ?_ ?_ <;> intro w2
 obtain ⟨e2, aZ, a8⟩ := ltx w2
 rw [a8, JbG.eq_2] at aY
 refine qam rfl ?_
 refine RStep.ofN (qae rfl rfl (qea ae.rd aZ) (nn _) (qbp aZ) (ro (qao i2 _ ae.rd rfl (mp aZ) rfl ?_)))
 refine qai rfl fun b9 => ?_
 refine qaa r0 rfl ⟨rfl, rfl, (nl rfl), ?_⟩
 refine fa rfl (ro (ld r0 rfl rfl (ro (qa4 rfl (fa rfl (ro (ld r0 rfl rfl (ro (qa4 rfl ?_)))))))))
 refine qhj ?_
 refine qhj ?_
 refine qan (qbu aZ ba) ?_
 exact eR aY (_, _)
 rw [lty w2, JbG.eq_1] at aY
 refine cT ?_
 exact eM aY _
 rintro t2 _ rfl j2
 refine qaj rfl ?_
 refine qaf ?_ ?_ <;> intro aW
 refine ct aW (ct aW (ct aW (cT (cT (cT (cT (cT ?_)))))))
 exact bE (((qco (qco aW))).symm) (eE hm)
 refine cf aW (ro (qal rfl (cf aW (cf aW ?_))))
 refine qaf ?_ ?_ <;> intro aV
 refine ct aV (ct aV (ct aV (ct aV ?_)))
 exact bE (((qco (qi2 aW aV))).symm) (eE hm)
 refine fa rfl (cf aV (ro (ld r0 rfl rfl (cf aV (ro (qal rfl (cf aV (cf aV ?_))))))))
 exact bE (qid (b := decide ((r'.Ao.length : Int) > 40)) (qf1 aW aV)) (eE hm)

def Jb2 (c : UInt8) : Option (Bool) :=
  if (decide ((c.toNat : Int) ≥ 48) && decide ((c.toNat : Int) ≤ 57)) then
  some true
  else
  if (decide ((c.toNat : Int) ≥ 97) && decide ((c.toNat : Int) ≤ 122)) then
  some true
  else
  some (decide ((c.toNat : Int) ≥ 65) && decide ((c.toNat : Int) ≤ 90))
theorem JdF {c : UInt8} {K : Hp} {r : Bool}
    (hm : Jb2 c = some r)  :
    Fn Tryz.prog 77 [.int .u8 (c.toNat : Int)] K [] (fun v K' H' => v = .bool r ∧ H' = []) := by
 refine Fn.enter Tryz.func77 Tryz.call77 rfl fun F => ?_
 unfold Jb2 at hm
 refine qaj rfl ?_
 refine qaf ?_ ?_ <;> intro aZ
 refine ct aZ (ct aZ ?_)
 refine qaf ?_ ?_ <;> intro aY
 replace hm := ift (qc1 aZ aY) hm
 refine ct aY (ct aY (ct aY (ct aY (cT (cT (cT (cT ?_)))))))
 refine cT ?_
 exact eE hm
 replace hm := qbd (qc2 aZ aY) hm
 refine cf aY (cf aY ?_)
 refine qaf ?_ ?_ <;> intro aX
 refine ct aX (cf aY (ct aX (cf aY ?_)))
 refine qaf ?_ ?_ <;> intro aW
 replace hm := ift (qc1 aX aW) hm
 refine ct aW (ct aW (ct aW (ct aW ?_)))
 exact eE hm
 replace hm := qbd (qc2 aX aW) hm
 refine cf aW (cf aW ?_)
 refine qaf ?_ ?_ <;> intro aV
 refine ct aV (cf aW (ct aV (cf aW ?_)))
 exact bE (qc8 (b := decide ((c.toNat : Int) ≤ 90)) aV) (eE hm)
 refine cf aV (cf aW (cf aV (cf aW ?_)))
 exact bE (((qbh aV)).symm) (eE hm)
 refine cf aX (cf aY (cf aX (cf aY ?_)))
 replace hm := qbd (qbh aX) hm
 refine cF (cF (cF ?_))
 refine qaf ?_ ?_ <;> intro aV
 refine ct aV (cF (ct aV (cF ?_)))
 exact bE (qc8 (b := decide ((c.toNat : Int) ≤ 90)) aV) (eE hm)
 refine cf aV (cF (cf aV (cF ?_)))
 exact bE (((qbh aV)).symm) (eE hm)
 refine cf aZ (cf aZ ?_)
 replace hm := qbd (qbh aZ) hm
 refine cF (cF (cF ?_))
 refine qaf ?_ ?_ <;> intro aX
 refine ct aX (cF (ct aX (cF ?_)))
 refine qaf ?_ ?_ <;> intro aW
 replace hm := ift (qc1 aX aW) hm
 refine ct aW (ct aW (ct aW (ct aW ?_)))
 exact eE hm
 replace hm := qbd (qc2 aX aW) hm
 refine cf aW (cf aW ?_)
 refine qaf ?_ ?_ <;> intro aV
 refine ct aV (cf aW (ct aV (cf aW ?_)))
 exact bE (qc8 (b := decide ((c.toNat : Int) ≤ 90)) aV) (eE hm)
 refine cf aV (cf aW (cf aV (cf aW ?_)))
 exact bE (((qbh aV)).symm) (eE hm)
 refine cf aX (cF (cf aX (cF ?_)))
 replace hm := qbd (qbh aX) hm
 refine cF (cF (cF ?_))
 refine qaf ?_ ?_ <;> intro aV
 refine ct aV (cF (ct aV (cF ?_)))
 exact bE (qc8 (b := decide ((c.toNat : Int) ≤ 90)) aV) (eE hm)
 refine cf aV (cF (cf aV (cF ?_)))
 exact bE (((qbh aV)).symm) (eE hm)

def JbH : List UInt8 → Nat → Option (Fl (Str × Err) (Unit))
  | [], _ => some (Fl.go ())
  | e2 :: aX, i2 =>
    (Jb2 e2).bind fun aV =>
    (if (!aV) then some (decide ((e2.toNat : Int) ≠ 45)) else some false).bind fun aW =>
    if aW then
    some (Fl.ret (([] : Str), (some 8)))
    else
    JbH aX (i2 + 1)
def JbI : List Str → Nat → Option (Fl (Str × Err) (Unit))
  | [], _ => some (Fl.go ())
  | e0 :: aX, i0 =>
    (((if (decide ((e0.length : Int) < 1) || decide ((e0.length : Int) > 63)) then some true else (ix e0 0).bind fun aY =>
    some (decide ((aY.toNat : Int) = 45))).bind fun aZ =>
    (if aZ then some true else (chk (InI ((e0.length : Int) - 1))).bind fun _ =>
    (ix e0 ((e0.length : Int) - 1)).bind fun aW =>
    some (decide ((aW.toNat : Int) = 45))).bind fun a6 =>
    some a6) : Option (Bool)).bind fun aV =>
    if aV then
    some (Fl.ret (([] : Str), (some 8)))
    else
    (chk (e0.length ≤ qa1)).bind fun _ =>
    (JbH e0 0).bind fun s2 => s2.el (fun r => some (Fl.ret r)) fun t2 =>
    JbI aX (i0 + 1)
def Jbu : Nat → Nat → Str → Option (Str)
  | 0, _, aV => some aV
  | aX + 1, i4, aV =>
    (ix aV (i4 : Int)).bind fun aW =>
    if (decide ((aW.toNat : Int) ≥ 65) && decide ((aW.toNat : Int) ≤ 90)) then
    (ix aV (i4 : Int)).bind fun aY =>
    Jbu aX (i4 + 1) (aV.set (((i4 : Int)).toNat) (aW + (32 : UInt8)))
    else
    Jbu aX (i4 + 1) aV
def Jcj (s : Str) : Option (Str × Err) :=
  if decide ((s.length : Int) > 100) then
  some (([] : Str), (some 8))
  else
  (qem s ([46] : Str)).bind fun aV =>
  (chk (aV.length ≤ qa1)).bind fun _ =>
  (JbI aV 0).bind fun s0 => s0.el some fun t0 =>
  (chk (s.length ≤ lim)).bind fun _ =>
  (chk (InI (s.length : Int))).bind fun _ =>
  (Jbu (s.length : Int).toNat 0 s).bind fun t4 =>
  some (t4, none)
theorem Jdb {s : Str} {K : Hp} {r : Str × Err}
    (hm : Jcj s = some r) (hG : GG K) :
    Fn Tryz.prog 44 [str s] K [] (fun v K' H' => v = .tuple #[str r.1, qc3 48 r.2] ∧ H' = []) := by
 refine Fn.enter Tryz.func44 Tryz.call44 rfl fun F => ?_
 unfold Jcj at hm
 refine ro (qa4 rfl ?_)
 refine cs rfl rfl hm ?_ ?_ <;> intro cn hm
 refine qas rfl ?_
 exact eE hm
 refine cb hm fun bM bX hm => ck0 (qe1 bX (gg0 hG)) ?_
 rintro _ _ _ ⟨bJ, bC, rfl, bn, rfl⟩
 refine ro (qal rfl ?_)
 obtain ⟨cd, hm⟩ := qax hm
 obtain ⟨s0, a8, hm⟩ := bnd hm
 refine lD (σ := (Unit)) ([2,3,5,6,7] ++ rg 18 43) [0, 1] (fun i0 => [(18, .int .i64 (i0 : Int))]) (fun _ => []) (fun _ => []) (fun _ => True) (fun i0 _ => JbI (bM.drop i0) i0 = some s0) (fun t0 => s0 = Fl.go t0) (fun i0 => bM.length - i0) 0 () a8 (And.intro qe (And.intro ?_ ?_))
 clear a8
 rintro i0 _ _ a8 j0
 conv at a8 => whnf
 refine qac rfl ?_
 refine qaf ?_ ?_ <;> intro w0
 obtain ⟨e0, bt, bW⟩ := ltx w0
 rw [bW, JbI.eq_2] at a8
 refine qam rfl ?_
 refine RStep.ofN (qae rfl rfl (qcz bn bt) (nn _) (qfh rfl bt) (ro (qb2 (i := i0) (o := 0) r0 rfl bt rfl rfl (ro (qa4 rfl ?_)))))
 obtain ⟨bB, aV, a8⟩ := bnd a8
 refine jR (σ := Bool) (rg 24 18) (fun bj => [(41, .bool bj)]) (fun bj => bj = bB) ?_ ?_
 refine qaj rfl ?_
 refine qaf ?_ ?_ <;> intro a6
 refine ct a6 (ct a6 ?_)
 obtain ⟨bP, bf, aV⟩ := bnd aV
 replace bf := ift (qco a6) bf
 refine cT (cT (cT (cT ?_)))
 obtain ⟨bK, bc, aV⟩ := bnd aV
 replace bc := ift (si bf).symm bc
 refine cT (cT (cT (cT (cT (cT ?_)))))
 exact eMq aV _ ⟨bq (si bc), trivial⟩
 refine cf a6 (cf a6 ?_)
 obtain ⟨bP, bf, aV⟩ := bnd aV
 refine qaf ?_ ?_ <;> intro aZ
 replace bf := ift (qi2 a6 aZ) bf
 refine ct aZ (ct aZ (ct aZ ?_))
 obtain ⟨bK, bc, aV⟩ := bnd aV
 replace bc := ift (si bf).symm bc
 refine cT (cT (cT (cT (cT (cT ?_)))))
 exact eMq aV _ ⟨bq (si bc), trivial⟩
 replace bf := qbd (qf1 a6 aZ) bf
 refine cf aZ ?_
 obtain ⟨cr, ca, ce, bf⟩ := ixb bf
 refine qa0 rfl ca ce (cf aZ (qag (cf aZ ?_)))
 obtain ⟨bK, bc, aV⟩ := bnd aV
 refine qaf ?_ ?_ <;> intro aX
 replace bc := ift ((si bf).symm.trans aX) bc
 refine ct aX (ct aX (ct aX (ct aX (ct aX ?_))))
 exact eMq aV _ ⟨bq (si bc), trivial⟩
 replace bc := qbd ((si bf).symm.trans aX) bc
 refine cf aX (cf aX ?_)
 obtain ⟨bY, bc⟩ := qax bc
 refine qan bY (cf aX ?_)
 obtain ⟨cq, bR, bV, bc⟩ := ixb bc
 refine qa0 rfl bR bV (cf aX (qag (cf aX ?_)))
 exact eMq aV _ ⟨bq (si bc), trivial⟩
 rintro bj rfl bS
 refine cs rfl rfl a8 ?_ ?_ <;> intro cu a8
 refine qas rfl ?_
 exact eE (er a8 hm)
 obtain ⟨bG, a8⟩ := qax a8
 obtain ⟨s2, ba, a8⟩ := bnd a8
 refine lD (σ := (Unit)) ([2,3,7] ++ rg 44 16) [0, 1] (fun i2 => [(44, .int .i64 (i2 : Int))]) (fun _ => []) (fun _ => []) (fun _ => True) (fun i2 _ => JbH (e0.drop i2) i2 = some s2) (fun t2 => s2 = Fl.go t2) (fun i2 => e0.length - i2) 0 () ba (And.intro qe (And.intro ?_ ?_))
 clear ba
 rintro i2 _ _ ba j2
 conv at ba => whnf
 refine qac rfl ?_
 refine qaf ?_ ?_ <;> intro w2
 obtain ⟨e2, bp, bO⟩ := ltx w2
 rw [bO, JbH.eq_2] at ba
 refine qam rfl ?_
 refine qaj rfl ?_
 refine qa0 rfl (nn _) bp ?_
 refine cb ba fun cp bZ ba => cg0 (JdF bZ :) ?_
 refine qav ?_
 obtain ⟨cj, bm, ba⟩ := bnd ba
 refine cS bm (fun aW bm => ?_) fun aW bm => ?_
 refine ct aW (ct aW (qa0 rfl (nn _) bp (ct aW (qbb (ct aW (qac rfl ?_))))))
 refine qaf ?_ ?_ <;> intro bI
 replace ba := ift ((si bm).symm.trans bI) ba
 refine qas rfl ?_
 exact eE (er (er ba a8 :) hm)
 replace ba := qbd ((si bm).symm.trans bI) ba
 refine qan (qbu bp bG) ?_
 exact eR ba (_, ())
 refine cf aW (cf aW (cf aW (cf aW (qac rfl (cF ?_)))))
 replace ba := qbd (si bm).symm ba
 refine qan (qbu bp bG) ?_
 exact eR ba (_, ())
 rw [lty w2, JbH.eq_1] at ba
 refine cT ?_
 exact eM ba _
 rintro t2 _ rfl j2
 replace a8 := elg a8
 refine qan (qbu bt cd) ?_
 exact eR a8 (_, ())
 rw [lty w0, JbI.eq_1] at a8
 refine cT ?_
 exact eM a8 _
 rintro t0 _ rfl j0
 replace hm := elg hm
 obtain ⟨bT, hm⟩ := qax hm
 refine qhm rfl rfl rfl bT ?_
 intro bD bQ cm
 refine ro (qal rfl ?_)
 obtain ⟨bA, hm⟩ := qax hm
 obtain ⟨s4, bb, hm⟩ := bnd hm
 refine lD (σ := (Str)) ([9,10] ++ rg 65 17) [1, 2] (fun i4 => [(65, .int .i64 (i4 : Int))]) (fun _ => []) (fun t4 => [OwnL eU bD 5 1 bQ t4]) (fun t4 => (0 < t4.length → Has bD) ∧ s.length = t4.length) (fun i4 t4 => Jbu ((s.length : Int).toNat - i4) i4 t4 = some s4) (fun t4 => t4 = s4) (fun i4 => (s.length : Int).toNat - i4) 0 _ bb (And.intro qe (And.intro ?_ ?_))
 clear bb
 rintro i4 bu ⟨bh, bg⟩ bb j4
 conv at bb => whnf
 refine qac rfl ?_
 refine qaf ?_ ?_ <;> intro w4
 rw [ltn w4, Jbu.eq_2] at bb
 refine qam rfl ?_
 obtain ⟨bz, bF, bv, bb⟩ := ixb bb
 refine RStep.ofN (qae rfl rfl (qcz bh bv) bF (qaw bg bF bv) (ro (qb2 (i := ((i4 : Int)).toNat) (o := 0) r0 rfl bv rfl rfl ?_)))
 refine qaj rfl ?_
 refine qaf ?_ ?_ <;> intro aY
 refine ct aY (ct aY (qac rfl ?_))
 refine qaf ?_ ?_ <;> intro bH
 replace bb := ift (qc1 aY bH) bb
 refine qj6 (x := bz) (y := (32 : UInt8)) rfl rfl ?_
 obtain ⟨bU, bN, bw, bb⟩ := ixb bb
 refine RStep.ofN (qae rfl rfl (qcz bh bw) bN (qaw bg bN bw) ?_)
 refine qe8 (o := 0) (y := (bz + (32 : UInt8))) bU r0 rfl bw rfl (by (conv => whnf); exact ⟨rfl, rfl, (nl rfl), rfl, rfl, rfl⟩) ?_
 refine qan (qk5 w4 bA) ?_
 exact rd (i4 + 1, (bu.set (((i4 : Int)).toNat) (bz + (32 : UInt8)))) ⟨rfl, trivial⟩ rfl (pf rfl) lr (qup w4) ⟨⟨(by first | simpa using bh | exact fun _ => ⟨_, _, rfl⟩), ((bg).trans List.length_set.symm)⟩, bb⟩
 replace bb := qbd (qc2 aY bH) bb
 refine qan (qk5 w4 bA) ?_
 exact eR bb (_, _)
 refine cf aY (cf aY (qac rfl (cF ?_)))
 replace bb := qbd (qbh aY) bb
 refine qan (qk5 w4 bA) ?_
 exact eR bb (_, _)
 rw [lto w4, Jbu.eq_1] at bb
 refine cT ?_
 exact eM bb _
 rintro t4 ⟨bL, bo⟩ rfl j4
 refine ro (qfi bo r0 rfl rfl rfl ?_)
 exact eE hm

def JbT (c : UInt8) : Option (Bool) :=
  some ((decide ((c.toNat : Int) ≥ 97) && decide ((c.toNat : Int) ≤ 122)) || decide ((c.toNat : Int) = 95))
theorem Jds {c : UInt8} {K : Hp} {r : Bool}
    (hm : JbT c = some r)  :
    Fn Tryz.prog 203 [.int .u8 (c.toNat : Int)] K [] (fun v K' H' => v = .bool r ∧ H' = []) := by
 refine Fn.enter Tryz.func203 Tryz.call203 rfl fun F => ?_
 unfold JbT at hm
 refine qaj rfl ?_
 refine qaf ?_ ?_ <;> intro aV
 refine ct aV (ct aV ?_)
 refine qaf ?_ ?_ <;> intro aW
 refine ct aW (ct aW ?_)
 exact bE (((qco (qc1 aV aW))).symm) (eE hm)
 refine cf aW (qag (cf aW ?_))
 exact bE (qid (b := decide ((c.toNat : Int) = 95)) (qc2 aV aW)) (eE hm)
 refine cf aV (cf aV (cF (cF (qag (cF ?_)))))
 exact bE (qid (b := decide ((c.toNat : Int) = 95)) (qbh aV)) (eE hm)

def JbE (c : UInt8) : Option (Bool) :=
  some (decide ((c.toNat : Int) ≥ 48) && decide ((c.toNat : Int) ≤ 57))
theorem JcZ {c : UInt8} {K : Hp} {r : Bool}
    (hm : JbE c = some r)  :
    Fn Tryz.prog 204 [.int .u8 (c.toNat : Int)] K [] (fun v K' H' => v = .bool r ∧ H' = []) := by
 refine Fn.enter Tryz.func204 Tryz.call204 rfl fun F => ?_
 unfold JbE at hm
 refine qaj rfl ?_
 refine qaf ?_ ?_ <;> intro aV
 refine ct aV (ct aV ?_)
 exact bE (qc8 (b := decide ((c.toNat : Int) ≤ 57)) aV) (eE hm)
 refine cf aV (cf aV ?_)
 exact bE (((qbh aV)).symm) (eE hm)

def JaA (s : Str) : Nat → Str → Int → Option (Fl (Int × Str) (Str × Int))
  | 0, _, _ => none
  | aX + 1, ac, aV =>
    if decide (aV < (s.length : Int)) then
    (ix s aV).bind fun aW =>
    if decide ((aW.toNat : Int) = 34) then
    (chk (InI (aV + 1))).bind fun _ =>
    some (Fl.ret ((aV + 1), ac))
    else
    if decide ((aW.toNat : Int) = 92) then
    (chk (InI (aV + 1))).bind fun _ =>
    if decide ((aV + 1) = (s.length : Int)) then
    some (Fl.ret (0, ([] : Str)))
    else
    (ix s (aV + 1)).bind fun a8 =>
    (if decide ((a8.toNat : Int) ≠ 34) then (ix s (aV + 1)).bind fun a6 =>
    some (decide ((a6.toNat : Int) ≠ 92)) else some false).bind fun aZ =>
    if aZ then
    some (Fl.ret (0, ([] : Str)))
    else
    (ix s (aV + 1)).bind fun aY =>
    (chk (ac.length + ([aY] : Str).length ≤ lim)).bind fun _ =>
    (chk (InI ((aV + 1) + 1))).bind fun _ =>
    JaA s aX (ac ++ ([aY] : Str)) ((aV + 1) + 1)
    else
    if (decide ((aW.toNat : Int) < 32) || decide ((aW.toNat : Int) > 126)) then
    some (Fl.ret (0, ([] : Str)))
    else
    (chk (ac.length + ([aW] : Str).length ≤ lim)).bind fun _ =>
    (chk (InI (aV + 1))).bind fun _ =>
    JaA s aX (ac ++ ([aW] : Str)) (aV + 1)
    else
    some (Fl.go (ac, aV))
def Jcw (n : Nat) (s : Str) : Option (Int × Str) :=
  (JaA s n [] 1).bind fun s0 => s0.el some fun t0 =>
  some (0, ([] : Str))
theorem Jd8 {n : Nat} {s : Str} {K : Hp} {r : Int × Str}
    (hm : Jcw n s = some r)  :
    Fn Tryz.prog 205 [str s] K [] (fun v K' H' => v = .tuple #[.int .i64 r.1, str r.2] ∧ H' = []) := by
 refine Fn.enter Tryz.func205 Tryz.call205 rfl fun F => ?_
 unfold Jcw at hm
 obtain ⟨s0, aV, hm⟩ := bnd hm
 refine qjd eU 5 1 ?_
 refine lD (σ := (Str × Int) × Option Addr × Nat) (rg 2 56) [1] (fun _ => []) (fun (t0, aZ, a6) => [(4, .slice aZ t0.1.length a6), (5, .int .i64 t0.2)]) (fun (t0, aZ, a6) => [OwnL eU aZ 5 1 a6 t0.1]) (fun (t0, aZ, a6) => (0 < t0.1.length → Has aZ) ∧ True) (fun i0 (t0, aZ, a6) => JaA s i0 t0.1 t0.2 = some s0) (fun (t0, aZ, a6) => s0 = Fl.go t0) (fun i0 => i0) n ((_, _), _, _) aV (And.intro qe (And.intro ?_ ?_))
 clear aV
 rintro i0 ⟨⟨ac, bA⟩, bv, bp⟩ ⟨bg, _⟩ aV j0
 dsimp only at aV ⊢
 cases i0 with
 | zero => rw [JaA.eq_1] at aV; cases aV
 | succ i0 =>
  rw [JaA.eq_2] at aV
  refine ro (qa4 rfl ?_)
  refine cs rfl rfl aV ?_ ?_ <;> intro bM aV
  refine qam rfl ?_
  obtain ⟨bh, bz, bB, aV⟩ := ixb aV
  refine qa0 rfl bz bB ?_
  refine qam rfl ?_
  refine qag (cs rfl rfl aV ?_ ?_) <;> intro bI aV
  refine qba ⟨⟨[], false⟩, _, [], []⟩ (by kernel_rfl) ⟨Hp.Le.refl _, (pf rfl), ci0⟩ ?_
  refine ci aV fun aV => ?_
  refine qfi rfl r0 rfl rfl rfl ?_
  exact eE (er aV hm)
  refine qag (cs rfl rfl aV ?_ ?_) <;> intro bJ aV
  refine ci aV fun aV => ?_
  refine qaj rfl ?_
  refine ro (qa4 rfl (qag ?_))
  refine cS aV (fun aW aV => ?_) fun aW aV => ?_
  refine ct aW (ct aW (ct aW (ct aW (ct aW (ct aW (qac rfl (cT ?_)))))))
  exact eE (er aV hm)
  refine cf aW (cf aW ?_)
  obtain ⟨bK, bG, bC, aV⟩ := ixb aV
  refine qa0 rfl bG bC (cf aW (qbb (cf aW ?_)))
  obtain ⟨bH, a8, aV⟩ := bnd aV
  refine cS a8 (fun aX a8 => ?_) fun aX a8 => ?_
  refine ct aX (ct aX ?_)
  obtain ⟨bL, bF, bD, a8⟩ := ixb a8
  refine qa0 rfl bF bD (ct aX (qbb (cf aW (ct aX (cf aW (qac rfl ?_))))))
  refine qaf ?_ ?_ <;> intro bj
  replace aV := ift ((si a8).symm.trans bj) aV
  exact eE (er aV hm)
  replace aV := qbd ((si a8).symm.trans bj) aV
  obtain ⟨bb, bf, bc, aV⟩ := ixb aV
  refine qa0 rfl bf bc ?_
  refine bsO (len := 1) (enc := eU) (l := ([bb] : Str)) (cl := [.int .u8 (bb.toNat : Int)]) qcr rfl rfl (fun _ _ => rfl) rfl rfl rfl ?_ fun bu => ?_
  · conv => whnf
    refine cT ?_
    first | done | rfl
  obtain ⟨ba, aV⟩ := qax aV
  refine apE rfl r1 qcr (qaz rfl r0 rfl (fun _ => rfl) (fun _ => rfl)) ba ?_
  intro bt bo bn
  refine ci aV fun aV => ?_
  exact eR aV (_, (_, _), _, _)
  refine cf aX (cf aX (cf aX (cf aW (cf aX (cf aW (qac rfl (cF ?_)))))))
  replace aV := qbd (si a8).symm aV
  obtain ⟨bb, bf, bc, aV⟩ := ixb aV
  refine qa0 rfl bf bc ?_
  refine bsO (len := 1) (enc := eU) (l := ([bb] : Str)) (cl := [.int .u8 (bb.toNat : Int)]) qcr rfl rfl (fun _ _ => rfl) rfl rfl rfl ?_ fun bu => ?_
  · conv => whnf
    refine cT ?_
    first | done | rfl
  obtain ⟨ba, aV⟩ := qax aV
  refine apE rfl r1 qcr (qaz rfl r0 rfl (fun _ => rfl) (fun _ => rfl)) ba ?_
  intro bt bo bn
  refine ci aV fun aV => ?_
  exact eR aV (_, (_, _), _, _)
  refine qaj rfl ?_
  refine qaf ?_ ?_ <;> intro aY
  refine ct aY (ct aY (qac rfl (cT ?_)))
  replace aV := ift (qco aY) aV
  exact eE (er aV hm)
  refine cf aY (cf aY (qac rfl ?_))
  refine qaf ?_ ?_ <;> intro bw
  replace aV := ift (qi2 aY bw) aV
  exact eE (er aV hm)
  replace aV := qbd (qf1 aY bw) aV
  refine bsO (len := 1) (enc := eU) (l := ([bh] : Str)) (cl := [.int .u8 (bh.toNat : Int)]) qcr rfl rfl (fun _ _ => rfl) rfl rfl rfl ?_ fun bu => ?_
  · conv => whnf
    refine cT ?_
    first | done | rfl
  obtain ⟨ba, aV⟩ := qax aV
  refine apE rfl r1 qcr (qaz rfl r0 rfl (fun _ => rfl) (fun _ => rfl)) ba ?_
  intro bt bo bn
  refine ci aV fun aV => ?_
  exact eR aV (_, (_, _), _, _)
  refine cT ?_
  exact eM aV (_, _, _)
 rintro ⟨t0, aZ, a6⟩ ⟨bm, _⟩ rfl j0
 replace hm := elg hm
 exact eE hm

def Jas (s : Str) (prefixZ : Str) : Option (Bool) :=
  (if decide ((s.length : Int) ≥ (prefixZ.length : Int)) then (chk (0 ≤ (0 : Int) ∧ (0 : Int) ≤ (prefixZ.length : Int) ∧ (prefixZ.length : Int) ≤ (s.length : Int))).bind fun _ =>
  some (decide ((subL s (0 : Int) (prefixZ.length : Int)) = prefixZ)) else some false).bind fun aV =>
  some aV
theorem JbO {s : Str} {prefixZ : Str} {K : Hp} {r : Bool}
    (hm : Jas s prefixZ = some r)  :
    Fn Tryz.prog 128 [str s, str prefixZ] K [] (fun v K' H' => v = .bool r ∧ H' = []) := by
 refine Fn.enter Tryz.func128 Tryz.call128 rfl fun F => ?_
 unfold Jas at hm
 refine qaj rfl ?_
 refine ro (qa4 rfl (ro (qa4 rfl ?_)))
 obtain ⟨aY, aW, hm⟩ := bnd hm
 refine cS aW (fun aV aW => ?_) fun aV aW => ?_
 refine ct aV (ct aV (ro (qa4 rfl (ct aV ?_))))
 obtain ⟨aX, aW⟩ := qax aW
 refine RStep.ofN (qek (lo := none) (hi := (some (prefixZ.length : Int))) rfl aX (ct aV (ct aV (qaq (ct aV ?_)))))
 exact bE (si aW) (eE hm)
 refine cf aV (cf aV (cf aV (cf aV (cf aV (cf aV ?_)))))
 exact bE (si aW) (eE hm)

def JaB (s : Str) (prefixZ : Str) : Option (Bool) :=
  (Jas s prefixZ).bind fun x7 =>
  some x7
theorem Jbh {s : Str} {prefixZ : Str} {K : Hp} {r : Bool}
    (hm : JaB s prefixZ = some r)  :
    Fn Tryz.prog 75 [str s, str prefixZ] K [] (fun v K' H' => v = .bool r ∧ H' = []) := by
 refine Fn.enter Tryz.func75 Tryz.call75 rfl fun F => ?_
 unfold JaB at hm
 refine cb hm fun x7 q7 hm => cg0 (JbO q7 :) ?_
 exact eE hm

def Jbz (s : Str) : Nat → Int → Option (Int)
  | 0, _ => none
  | aX + 1, aV =>
    if decide (aV < (s.length : Int)) then
    (ix s aV).bind fun aW =>
    (JbT aW).bind fun aY =>
    (if aY then some true else (ix s aV).bind fun a8 =>
    (JbE a8).bind fun aZ =>
    some aZ).bind fun a6 =>
    if a6 then
    (chk (InI (aV + 1))).bind fun _ =>
    Jbz s aX (aV + 1)
    else
    some aV
    else
    some aV
def JbA (s : Str) : Nat → Int → Option (Int)
  | 0, _ => none
  | aW + 1, aV =>
    (if decide (aV < (s.length : Int)) then (ix s aV).bind fun aZ =>
    (JbE aZ).bind fun aY =>
    some aY else some false).bind fun aX =>
    if aX then
    (chk (InI (aV + 1))).bind fun _ =>
    JbA s aW (aV + 1)
    else
    some aV
def Ja5 (s : Str) : Nat → Nat → Option (Fl (Int × Int × Str) (Unit))
  | 0, _ => some (Fl.go ())
  | aW + 1, i5 =>
    (ix ([([61, 61] : Str), ([33, 61] : Str), ([60, 61] : Str), ([60] : Str), ([43] : Str), ([45] : Str), ([42] : Str), ([40] : Str), ([41] : Str), ([123] : Str), ([125] : Str), ([44] : Str), ([59] : Str), ([61] : Str)]) (i5 : Int)).bind fun aV =>
    (JaB s aV).bind fun aX =>
    if aX then
    some (Fl.ret (4, (aV.length : Int), aV))
    else
    Ja5 s aW (i5 + 1)
def Jb3 (n : Nat) (s : Str) : Option (Int × Int × Str) :=
  (ix s 0).bind fun aV =>
  (JbT aV).bind fun aX =>
  if aX then
  (Jbz s n 1).bind fun t1 =>
  (chk (0 ≤ (0 : Int) ∧ (0 : Int) ≤ t1 ∧ t1 ≤ (s.length : Int))).bind fun _ =>
  some (1, t1, (subL s (0 : Int) t1))
  else
  (JbE aV).bind fun aY =>
  if aY then
  (JbA s n 1).bind fun t3 =>
  if decide (t3 > 9) then
  some (0, 0, ([] : Str))
  else
  (chk (0 ≤ (0 : Int) ∧ (0 : Int) ≤ t3 ∧ t3 ≤ (s.length : Int))).bind fun _ =>
  some (2, t3, (subL s (0 : Int) t3))
  else
  if decide ((aV.toNat : Int) = 34) then
  (Jcw n s).bind fun aW =>
  some (3, aW.1, aW.2)
  else
  (chk (InI (14 : Int))).bind fun _ =>
  (Ja5 s (14 : Int).toNat 0).bind fun s5 => s5.el some fun t5 =>
  some (0, 0, ([] : Str))
theorem Jen {n : Nat} {s : Str} {K : Hp} {r : Int × Int × Str}
    (hm : Jb3 n s = some r)  :
    Fn Tryz.prog 148 [str s] K [] (fun v K' H' => v = .tuple #[.int .i64 r.1, .int .i64 r.2.1, str r.2.2] ∧ H' = []) := by
 refine Fn.enter Tryz.func148 Tryz.call148 rfl fun F => ?_
 unfold Jb3 at hm
 obtain ⟨bR, bm, bC, hm⟩ := ixb hm
 refine qa0 rfl bm bC ?_
 refine qam rfl ?_
 refine cb hm fun bM bo hm => cg0 (Jds bo :) ?_
 refine cs rfl rfl hm ?_ ?_ <;> intro bS hm
 obtain ⟨s1, aW, hm⟩ := bnd hm
 refine lD (σ := (Int)) ([5] ++ rg 16 18) [0] (fun _ => []) (fun t1 => [(5, .int .i64 t1)]) (fun _ => []) (fun _ => True) (fun i1 t1 => Jbz s i1 t1 = some s1) (fun t1 => t1 = s1) (fun i1 => i1) n _ aW (And.intro qe (And.intro ?_ ?_))
 clear aW
 rintro i1 bu _ aW j1
 conv at aW => whnf
 cases i1 with
 | zero => rw [Jbz.eq_1] at aW; cases aW
 | succ i1 =>
  rw [Jbz.eq_2] at aW
  refine qaj rfl ?_
  refine ro (qa4 rfl ?_)
  refine cS aW (fun aV aW => ?_) fun aV aW => ?_
  refine ct aV (ct aV ?_)
  obtain ⟨bK, bz, bD, aW⟩ := ixb aW
  refine qa0 rfl bz bD (ct aV ?_)
  refine cb aW fun ce bt aW => cg0 (Jds bt :) ?_
  refine ct aV ?_
  obtain ⟨bO, a8, aW⟩ := bnd aW
  refine cS a8 (fun aX a8 => ?_) fun aX a8 => ?_
  refine ct aX (ct aX (ct aX (ct aV (ct aX (ct aV (qac rfl (cT ?_)))))))
  replace aW := ift (si a8).symm aW
  refine qam rfl ?_
  refine ci aW fun aW => ?_
  exact eR aW (_, _)
  refine cf aX (cf aX ?_)
  obtain ⟨bQ, bJ, bh, a8⟩ := ixb a8
  refine qa0 rfl bJ bh (cf aX ?_)
  refine cb a8 fun bT bv a8 => cg0 (JcZ bv :) ?_
  refine ct aV (cf aX (ct aV (qac rfl ?_)))
  refine qaf ?_ ?_ <;> intro bf
  replace aW := ift ((si a8).symm.trans bf) aW
  refine qam rfl ?_
  refine ci aW fun aW => ?_
  exact eR aW (_, _)
  replace aW := qbd ((si a8).symm.trans bf) aW
  refine cT ?_
  exact eM aW _
  refine cf aV (cf aV (cf aV (cf aV (cf aV (cf aV (qac rfl (cF ?_)))))))
  refine cT ?_
  exact eM aW _
 rintro t1 _ rfl j1
 refine qba ⟨⟨[], false⟩, _, [], []⟩ (by kernel_rfl) ⟨Hp.Le.refl _, (pf rfl), ci0⟩ ?_
 obtain ⟨bG, hm⟩ := qax hm
 refine qek (lo := none) (hi := (some t1)) rfl bG ?_
 exact eE hm
 refine cb hm fun bU bB hm => cg0 (JcZ bB :) ?_
 refine cs rfl rfl hm ?_ ?_ <;> intro bN hm
 obtain ⟨s3, aZ, hm⟩ := bnd hm
 refine lD (σ := (Int)) ([5] ++ rg 41 12) [0] (fun _ => []) (fun t3 => [(5, .int .i64 t3)]) (fun _ => []) (fun _ => True) (fun i3 t3 => JbA s i3 t3 = some s3) (fun t3 => t3 = s3) (fun i3 => i3) n _ aZ (And.intro qe (And.intro ?_ ?_))
 clear aZ
 rintro i3 bA _ aZ j3
 conv at aZ => whnf
 cases i3 with
 | zero => rw [JbA.eq_1] at aZ; cases aZ
 | succ i3 =>
  rw [JbA.eq_2] at aZ
  refine qaj rfl ?_
  refine ro (qa4 rfl ?_)
  obtain ⟨bV, ba, aZ⟩ := bnd aZ
  refine cS ba (fun aY ba => ?_) fun aY ba => ?_
  refine ct aY (ct aY ?_)
  obtain ⟨ca, bw, bI, ba⟩ := ixb ba
  refine qa0 rfl bw bI (ct aY ?_)
  refine cb ba fun bY bn ba => cg0 (JcZ bn :) ?_
  refine ct aY (qac rfl ?_)
  refine qaf ?_ ?_ <;> intro bg
  replace aZ := ift ((si ba).symm.trans bg) aZ
  refine qam rfl ?_
  refine ci aZ fun aZ => ?_
  exact eR aZ (_, _)
  replace aZ := qbd ((si ba).symm.trans bg) aZ
  refine cT ?_
  exact eM aZ _
  refine cf aY (cf aY (cf aY (cf aY (qac rfl (cF ?_)))))
  replace aZ := qbd (si ba).symm aZ
  refine cT ?_
  exact eM aZ _
 rintro t3 _ rfl j3
 refine cs rfl rfl hm ?_ ?_ <;> intro bW hm
 exact eE hm
 refine qba ⟨⟨[], false⟩, _, [], []⟩ (by kernel_rfl) ⟨Hp.Le.refl _, (pf rfl), ci0⟩ ?_
 obtain ⟨bF, hm⟩ := qax hm
 refine qek (lo := none) (hi := (some t3)) rfl bF ?_
 exact eE hm
 refine qag (cs rfl rfl hm ?_ ?_) <;> intro bX hm
 refine cb hm fun bL bj hm => cg0 (Jd8 bj :) ?_
 exact eE hm
 refine bsO (len := 14) (enc := eS) (l := [([61, 61] : Str), ([33, 61] : Str), ([60, 61] : Str), ([60] : Str), ([43] : Str), ([45] : Str), ([42] : Str), ([40] : Str), ([41] : Str), ([123] : Str), ([125] : Str), ([44] : Str), ([59] : Str), ([61] : Str)]) (cl := [str ([61, 61] : Str), str ([33, 61] : Str), str ([60, 61] : Str), str ([60] : Str), str ([43] : Str), str ([45] : Str), str ([42] : Str), str ([40] : Str), str ([41] : Str), str ([123] : Str), str ([125] : Str), str ([44] : Str), str ([59] : Str), str ([61] : Str)]) qca rfl rfl (fun _ _ => rfl) rfl rfl rfl ?_ fun bZ => ?_
 · conv => whnf
   refine cT (cT (cT (cT (cT (cT (cT (cT ?_)))))))
   refine cT (cT (cT (cT (cT (cT ?_)))))
   first | done | rfl
 refine ro (qal rfl ?_)
 obtain ⟨bp, hm⟩ := qax hm
 obtain ⟨s5, a6, hm⟩ := bnd hm
 refine lD (σ := (Unit)) ([2,3,4,10] ++ rg 71 11) [0, 1] (fun i5 => [(71, .int .i64 (i5 : Int))]) (fun _ => []) (fun _ => []) (fun _ => True) (fun i5 _ => Ja5 s ((14 : Int).toNat - i5) i5 = some s5) (fun t5 => s5 = Fl.go t5) (fun i5 => (14 : Int).toNat - i5) 0 () a6 (And.intro qe (And.intro ?_ ?_))
 clear a6
 rintro i5 _ _ a6 j5
 conv at a6 => whnf
 refine qac rfl ?_
 refine qaf ?_ ?_ <;> intro w5
 rw [ltn (n := (14 : Int)) w5, Ja5.eq_2] at a6
 refine qam rfl ?_
 obtain ⟨bP, bc, bb, a6⟩ := ixb a6
 refine RStep.ofN (qae rfl rfl (qcz (fun _ => ⟨_, _, rfl⟩) bb) bc (qaw rfl bc bb) (ro (qb2 (i := ((i5 : Int)).toNat) (o := 0) r0 rfl bb rfl rfl ?_)))
 refine cb a6 fun cd bH a6 => cg0 (Jbh bH :) ?_
 refine cs rfl rfl a6 ?_ ?_ <;> intro cj a6
 refine ro (qa4 rfl ?_)
 exact eE (er a6 hm)
 refine qan (qk5 w5 bp) ?_
 exact eR a6 (_, ())
 rw [lto (n := (14 : Int)) w5, Ja5.eq_1] at a6
 refine cT ?_
 exact eM a6 _
 rintro t5 _ rfl j5
 replace hm := elg hm
 exact eE hm

def JbB (text : Str) : Nat → Int → Option (Int)
  | 0, _ => none
  | aW + 1, aV =>
    (if decide (aV < (text.length : Int)) then (ix text aV).bind fun aX =>
    some (decide ((aX.toNat : Int) ≠ 10)) else some false).bind fun aY =>
    if aY then
    (chk (InI (aV + 1))).bind fun _ =>
    JbB text aW (aV + 1)
    else
    some aV
def Jab (text : Str) (n : Nat) : Nat → (List Je) → Int → Int → Int → Option (Fl ((List Je) × Err) ((List Je) × Int × Int × Int))
  | 0, _, _, _, _ => none
  | aZ + 1, ac, aX, aW, aV =>
    if decide (aV < (text.length : Int)) then
    (ix text aV).bind fun am =>
    if decide ((am.toNat : Int) = 10) then
    (chk (InI (aV + 1))).bind fun _ =>
    (chk (InI (aX + 1))).bind fun _ =>
    Jab text n aZ ac (aX + 1) (aV + 1) (aV + 1)
    else
    if decide ((am.toNat : Int) = 32) then
    (chk (InI (aV + 1))).bind fun _ =>
    Jab text n aZ ac aX aW (aV + 1)
    else
    if decide ((am.toNat : Int) = 9) then
    (chk (InI (aV + 1))).bind fun _ =>
    Jab text n aZ ac aX aW (aV + 1)
    else
    if decide ((am.toNat : Int) = 13) then
    (chk (InI (aV + 1))).bind fun _ =>
    Jab text n aZ ac aX aW (aV + 1)
    else
    if decide ((am.toNat : Int) = 35) then
    (JbB text n aV).bind fun t3 =>
    Jab text n aZ ac aX aW t3
    else
    (chk (0 ≤ aV ∧ aV ≤ (text.length : Int) ∧ (text.length : Int) ≤ (text.length : Int))).bind fun _ =>
    (Jb3 n (subL text aV (text.length : Int))).bind fun aY =>
    if decide (aY.2.1 = 0) then
    some (Fl.ret ([], (some 2)))
    else
    (chk (InI (aV - aW))).bind fun _ =>
    (chk (InI ((aV - aW) + 1))).bind fun _ =>
    (chk (ac.length + [(⟨aY.1, aY.2.2, aX, ((aV - aW) + 1)⟩ : Je)].length ≤ lim)).bind fun _ =>
    (chk (InI (aV + aY.2.1))).bind fun _ =>
    Jab text n aZ (ac ++ [(⟨aY.1, aY.2.2, aX, ((aV - aW) + 1)⟩ : Je)]) aX aW (aV + aY.2.1)
    else
    some (Fl.go (ac, aX, aW, aV))
def JbP (n : Nat) (text : Str) : Option ((List Je) × Err) :=
  if decide ((text.length : Int) > 4096) then
  some ([], (some 5))
  else
  (Jab text n n [] 1 0 0).bind fun s0 => s0.el some fun t0 =>
  (chk (InI ((text.length : Int) - t0.2.2.1))).bind fun _ =>
  (chk (InI (((text.length : Int) - t0.2.2.1) + 1))).bind fun _ =>
  (chk (t0.1.length + ([(⟨5, ([] : Str), t0.2.1, (((text.length : Int) - t0.2.2.1) + 1)⟩ : Je)]).length ≤ lim)).bind fun _ =>
  some ((t0.1 ++ [(⟨5, ([] : Str), t0.2.1, (((text.length : Int) - t0.2.2.1) + 1)⟩ : Je)]), none)
theorem JdG {n : Nat} {text : Str} {K : Hp} {r : (List Je) × Err}
    (hm : JbP n text = some r)  :
    Fn Tryz.prog 96 [str text] K [] (fun v K' H' => ∃ ar_0 : Option Addr, ∃ cr_0 : Nat, v = .tuple #[.slice ar_0 r.1.length cr_0, qc3 48 r.2] ∧ (0 < r.1.length → Has ar_0) ∧ H' = [OwnL Je.enc ar_0 166 4 cr_0 r.1]) := by
 refine Fn.enter Tryz.func96 Tryz.call96 rfl fun F => ?_
 unfold JbP at hm
 refine ro (qa4 rfl ?_)
 refine cs rfl rfl hm ?_ ?_ <;> intro bM hm
 refine qas rfl ?_
 refine qcp Je.enc 166 4 ?_
 exact eE hm
 obtain ⟨s0, aV, hm⟩ := bnd hm
 refine qjd Je.enc 166 4 ?_
 refine lD (σ := ((List Je) × Int × Int × Int) × Option Addr × Nat) (rg 2 9 ++ rg 15 59) [1] (fun _ => []) (fun (t0, aX, aY) => [(4, .slice aX t0.1.length aY), (5, .int .i64 t0.2.1), (6, .int .i64 t0.2.2.1), (7, .int .i64 t0.2.2.2)]) (fun (t0, aX, aY) => [OwnL Je.enc aX 166 4 aY t0.1]) (fun (t0, aX, aY) => (0 < t0.1.length → Has aX) ∧ True) (fun i0 (t0, aX, aY) => Jab text n i0 t0.1 t0.2.1 t0.2.2.1 t0.2.2.2 = some s0) (fun (t0, aX, aY) => s0 = Fl.go t0) (fun i0 => i0) n ((_, _, _, _), _, _) aV (And.intro qe (And.intro ?_ ?_))
 clear aV
 rintro i0 ⟨⟨ac, ba, bb, a8⟩, bo, bn⟩ ⟨bh, _⟩ aV j0
 dsimp only at aV ⊢
 cases i0 with
 | zero => rw [Jab.eq_1] at aV; cases aV
 | succ i0 =>
  rw [Jab.eq_2] at aV
  refine ro (qa4 rfl ?_)
  refine cs rfl rfl aV ?_ ?_ <;> intro bU aV
  refine qam rfl ?_
  obtain ⟨am, bz, bD, aV⟩ := ixb aV
  refine qa0 rfl bz bD ?_
  refine qam rfl ?_
  refine qag (cs rfl rfl aV ?_ ?_) <;> intro bS aV
  refine ci aV fun aV => ?_
  obtain ⟨bv, aV⟩ := qax aV
  refine qan bv (cF (cT ?_))
  exact eR aV (_, (_, _, _, _), _, _)
  refine qag (cs rfl rfl aV ?_ ?_) <;> intro bf aV
  refine qac rfl (ct bf ?_)
  obtain ⟨bc, aV⟩ := qax aV
  refine qan bc (cF (cT ?_))
  exact eR aV (_, (_, _, _, _), _, _)
  refine qag (cs rfl rfl aV ?_ ?_) <;> intro bf aV
  refine qac rfl (ct bf ?_)
  obtain ⟨bc, aV⟩ := qax aV
  refine qan bc (cF (cT ?_))
  exact eR aV (_, (_, _, _, _), _, _)
  refine qag (cs rfl rfl aV ?_ ?_) <;> intro bf aV
  obtain ⟨bc, aV⟩ := qax aV
  refine qan bc (cF (cT ?_))
  exact eR aV (_, (_, _, _, _), _, _)
  refine qag (cs rfl rfl aV ?_ ?_) <;> intro bV aV
  obtain ⟨s3, aZ, aV⟩ := bnd aV
  refine lD (σ := (Int)) ([7] ++ rg 37 12) [0, 1] (fun _ => []) (fun t3 => [(7, .int .i64 t3)]) (fun _ => []) (fun _ => True) (fun i3 t3 => JbB text i3 t3 = some s3) (fun t3 => t3 = s3) (fun i3 => i3) n _ aZ (And.intro qe (And.intro ?_ ?_))
  clear aZ
  rintro i3 bC _ aZ j3
  conv at aZ => whnf
  cases i3 with
  | zero => rw [JbB.eq_1] at aZ; cases aZ
  | succ i3 =>
   rw [JbB.eq_2] at aZ
   refine qaj rfl ?_
   refine ro (qa4 rfl ?_)
   obtain ⟨bI, a6, aZ⟩ := bnd aZ
   refine cS a6 (fun aW a6 => ?_) fun aW a6 => ?_
   refine ct aW (ct aW ?_)
   obtain ⟨bP, bA, bF, a6⟩ := ixb a6
   refine qa0 rfl bA bF (ct aW (qbb (ct aW (qac rfl ?_))))
   refine qaf ?_ ?_ <;> intro bm
   replace aZ := ift ((si a6).symm.trans bm) aZ
   refine qam rfl ?_
   refine ci aZ fun aZ => ?_
   exact eR aZ (_, _)
   replace aZ := qbd ((si a6).symm.trans bm) aZ
   refine cT ?_
   exact eM aZ _
   refine cf aW (cf aW (cf aW (cf aW (qac rfl (cF ?_)))))
   replace aZ := qbd (si a6).symm aZ
   refine cT ?_
   exact eM aZ _
  rintro t3 _ rfl j3
  refine cF (cT ?_)
  exact eR aV (_, (_, _, _, _), _, _)
  obtain ⟨bG, aV⟩ := qax aV
  refine RStep.ofN (qek (lo := (some a8)) (hi := none) rfl bG ?_)
  refine cb aV fun bg bt aV => cg0 (Jen bt :) ?_
  refine qag (cs rfl rfl aV ?_ ?_) <;> intro bL aV
  refine qas rfl ?_
  refine qcp Je.enc 166 4 ?_
  exact eE (er aV hm)
  refine ci aV fun aV => ?_
  obtain ⟨bw, aV⟩ := qax aV
  refine qan bw (qak rfl rfl (cT (cT (cT (cT ?_)))))
  refine bsO (len := 1) (enc := Je.enc) (l := [(⟨bg.1, bg.2.2, ba, ((a8 - bb) + 1)⟩ : Je)]) (cl := [.int .i64 bg.1, str bg.2.2, .int .i64 ba, .int .i64 ((a8 - bb) + 1)]) qm8 rfl rfl (fun _ _ => rfl) rfl rfl rfl ?_ fun bR => ?_
  · conv => whnf
    refine cT ?_
    first | done | rfl
  obtain ⟨bp, aV⟩ := qax aV
  refine apE rfl r1 qm8 (qaz rfl r0 rfl (fun _ => rfl) (fun _ => rfl)) bp ?_
  intro bK bQ bJ
  refine ci aV fun aV => ?_
  exact eR aV (_, (_, _, _, _), _, _)
  refine cT ?_
  exact eM aV (_, _, _)
 rintro ⟨t0, aX, aY⟩ ⟨bj, _⟩ rfl j0
 replace hm := elg hm
 refine ro (qa4 rfl ?_)
 refine ci hm fun hm => ?_
 obtain ⟨bu, hm⟩ := qax hm
 refine qan bu (qak rfl rfl (cT (cT (cT (cT ?_)))))
 refine bsO (len := 1) (enc := Je.enc) (l := [(⟨5, ([] : Str), t0.2.1, (((text.length : Int) - t0.2.2.1) + 1)⟩ : Je)]) (cl := [.int .i64 5, str ([] : Str), .int .i64 t0.2.1, .int .i64 (((text.length : Int) - t0.2.2.1) + 1)]) qm8 rfl rfl (fun _ _ => rfl) rfl rfl rfl ?_ fun bT => ?_
 · conv => whnf
   refine cT ?_
   first | done | rfl
 obtain ⟨bB, hm⟩ := qax hm
 refine apE rfl r1 qm8 (qaz rfl r0 rfl (fun _ => rfl) (fun _ => rfl)) bB ?_
 intro bO bN bH
 exact eE hm

def Jr (p : Jb) : Option (Bool) :=
  some (decide (p.line = 0))
theorem Jx {p : Jb} {b0 : Nat} {aa : Option Addr} {ab : Nat} {K : Hp} {r : Bool}
    (hm : Jr p = some r) (ae : (0 < p.list.length → Has aa)) :
    Fn Tryz.prog 98 [.pointer (some ⟨b0, 0, none⟩)] K [Cells b0 163 [.slice aa p.list.length ab, .int .i64 p.atZ, .int .i64 p.line], OwnL Je.enc aa 166 4 ab p.list] (fun v K' H' => v = .bool r ∧ H' = [Cells b0 163 [.slice aa p.list.length ab, .int .i64 p.atZ, .int .i64 p.line], OwnL Je.enc aa 166 4 ab p.list]) := by
 refine Fn.enter Tryz.func98 Tryz.call98 rfl fun F => ?_
 unfold Jr at hm
 refine qah (fa rfl (ro (ld r0 rfl rfl (qag ?_))))
 exact eE hm

def JE (p : Jb) : Option (Je) :=
  (ix p.list p.atZ).bind fun aV =>
  some aV
theorem JS {p : Jb} {b0 : Nat} {aa : Option Addr} {ab : Nat} {K : Hp} {r : Je}
    (hm : JE p = some r) (ae : (0 < p.list.length → Has aa)) :
    Fn Tryz.prog 99 [.pointer (some ⟨b0, 0, none⟩)] K [Cells b0 163 [.slice aa p.list.length ab, .int .i64 p.atZ, .int .i64 p.line], OwnL Je.enc aa 166 4 ab p.list] (fun v K' H' => v = .agg #[.int .i64 r.Ab, str r.Ac, .int .i64 r.Ad, .int .i64 r.Column] ∧ H' = [Cells b0 163 [.slice aa p.list.length ab, .int .i64 p.atZ, .int .i64 p.line], OwnL Je.enc aa 166 4 ab p.list]) := by
 refine Fn.enter Tryz.func99 Tryz.call99 rfl fun F => ?_
 unfold JE at hm
 refine qai rfl fun b2 => ?_
 refine qba ⟨⟨[], true⟩, _, [], []⟩ (by kernel_rfl) ⟨Hp.Le.refl _, (pf rfl), ci0⟩ ?_
 refine qah (fa rfl ?_)
 refine ld r1 rfl rfl ?_
 refine qah (fa rfl ?_)
 refine ld r1 rfl rfl ?_
 obtain ⟨aX, aW, aV, hm⟩ := ixb hm
 refine qae rfl rfl (qcz ae aV) aW (qaw rfl aW aV) ?_
 refine qj8 (i := (p.atZ).toNat) r2 rfl aV rfl rfl ?_
 refine qaa r0 rfl ⟨rfl, rfl, (nl rfl), ?_⟩
 refine qk (pf rfl) ?_
 exact ro (qab r0 rfl (nl rfl) (eE hm))

def Jy (p : Jb) (kind : Int) (text : Str) : Option (Bool) :=
  (JE p).bind fun x9 =>
  some (decide (x9.Ab = kind) && decide (x9.Ac = text))
theorem JI {p : Jb} {kind : Int} {text : Str} {b0 : Nat} {aa : Option Addr} {ab : Nat} {K : Hp} {r : Bool}
    (hm : Jy p kind text = some r) (ae : (0 < p.list.length → Has aa)) :
    Fn Tryz.prog 149 [.pointer (some ⟨b0, 0, none⟩), .int .i64 kind, str text] K [Cells b0 163 [.slice aa p.list.length ab, .int .i64 p.atZ, .int .i64 p.line], OwnL Je.enc aa 166 4 ab p.list] (fun v K' H' => v = .bool r ∧ H' = [Cells b0 163 [.slice aa p.list.length ab, .int .i64 p.atZ, .int .i64 p.line], OwnL Je.enc aa 166 4 ab p.list]) := by
 refine Fn.enter Tryz.func149 Tryz.call149 rfl fun F => ?_
 unfold Jy at hm
 refine cb hm fun x9 q9 hm => cgx (JS q9 :) ?_
 refine qai rfl fun b7 => ?_
 refine qaa r0 rfl ⟨rfl, rfl, (nl rfl), ?_⟩
 refine qaj rfl ?_
 refine fa rfl (ro (ld r0 rfl rfl (qag ?_)))
 refine qaf ?_ ?_ <;> intro aV
 refine fa rfl (ct aV (ro (ld r0 rfl rfl (ct aV (ct aV (qaq (ct aV ?_)))))))
 exact bE (qc8 (b := decide (x9.Ac = text)) aV) (eE hm)
 refine cf aV (cf aV (cf aV (cf aV ?_)))
 exact bE (((qbh aV)).symm) (eE hm)

def J2 (p : Jb) : Option (Jb) :=
  if decide (p.line = 0) then
  (JE p).bind fun x9 =>
  some (⟨p.list, p.atZ, x9.Ad⟩ : Jb)
  else
  some p
theorem Jat {p : Jb} {b0 : Nat} {aa : Option Addr} {ab : Nat} {K : Hp} {r : Jb}
    (hm : J2 p = some r) (ae : (0 < p.list.length → Has aa)) :
    Fn Tryz.prog 100 [.pointer (some ⟨b0, 0, none⟩)] K [Cells b0 163 [.slice aa p.list.length ab, .int .i64 p.atZ, .int .i64 p.line], OwnL Je.enc aa 166 4 ab p.list] (fun v K' H' => ∃ ar_0 : Option Addr, ∃ cr_0 : Nat, v = .tuple #[] ∧ (0 < r.list.length → Has ar_0) ∧ H' = [Cells b0 163 [.slice ar_0 r.list.length cr_0, .int .i64 r.atZ, .int .i64 r.line], OwnL Je.enc ar_0 166 4 cr_0 r.list]) := by
 refine Fn.enter Tryz.func100 Tryz.call100 rfl fun F => ?_
 unfold J2 at hm
 refine qah (fa rfl (ro (ld r0 rfl rfl (qag ?_))))
 refine cs rfl rfl hm ?_ ?_ <;> intro w6 hm
 refine cb hm fun x9 q9 hm => cgx (JS q9 :) ?_
 refine Jdt rfl rfl rfl rfl ?_
 refine qah (fa rfl ?_)
 refine qaa r0 rfl ⟨rfl, rfl, (nl rfl), ?_⟩
 exact eE hm
 exact eE hm

def Jm (p : Jb) : Option (Je × Jb) :=
  (JE p).bind fun x5 =>
  (chk (InI ((p.list.length : Int) - 1))).bind fun _ =>
  if decide (p.atZ < ((p.list.length : Int) - 1)) then
  (chk (InI (p.atZ + 1))).bind fun _ =>
  some (x5, (⟨p.list, (p.atZ + 1), p.line⟩ : Jb))
  else
  some (x5, p)
theorem Jo {p : Jb} {b0 : Nat} {aa : Option Addr} {ab : Nat} {K : Hp} {r : Je × Jb}
    (hm : Jm p = some r) (ae : (0 < p.list.length → Has aa)) :
    Fn Tryz.prog 206 [.pointer (some ⟨b0, 0, none⟩)] K [Cells b0 163 [.slice aa p.list.length ab, .int .i64 p.atZ, .int .i64 p.line], OwnL Je.enc aa 166 4 ab p.list] (fun v K' H' => ∃ ar_0 : Option Addr, ∃ cr_0 : Nat, v = .agg #[.int .i64 r.1.Ab, str r.1.Ac, .int .i64 r.1.Ad, .int .i64 r.1.Column] ∧ (0 < r.2.list.length → Has ar_0) ∧ H' = [Cells b0 163 [.slice ar_0 r.2.list.length cr_0, .int .i64 r.2.atZ, .int .i64 r.2.line], OwnL Je.enc ar_0 166 4 cr_0 r.2.list]) := by
 refine Fn.enter Tryz.func206 Tryz.call206 rfl fun F => ?_
 unfold Jm at hm
 refine qai rfl fun b2 => ?_
 refine cb hm fun x5 q5 hm => cgx (JS q5 :) ?_
 refine qai rfl fun b3 => ?_
 refine qaa r0 rfl ⟨rfl, rfl, (nl rfl), ?_⟩
 refine qba ⟨⟨[], false⟩, _, [(_, _)], []⟩ (by kernel_rfl) ⟨Hp.Le.refl _, (sc [1] rfl), ci0⟩ ?_
 refine qah (fa rfl (qap m0 rfl rfl (qah (fa rfl (qap m0 rfl rfl (qci rfl ?_))))))
 refine ci hm fun hm => ?_
 refine cs rfl rfl hm ?_ ?_ <;> intro aW hm
 refine qah (fa rfl (ro (ld r1 rfl rfl ?_)))
 obtain ⟨aV, hm⟩ := qax hm
 refine qan aV (qah (fa rfl ?_))
 refine qaa r1 rfl ⟨rfl, rfl, (nl rfl), ?_⟩
 refine ro (qab r1 rfl (nl rfl) ?_)
 refine qaa r3 rfl ⟨rfl, rfl, (nl rfl), ?_⟩
 exact ro (qab r0 rfl (nl rfl) (eE hm))
 refine ro (qab r0 rfl (nl rfl) ?_)
 refine qaa r3 rfl ⟨rfl, rfl, (nl rfl), ?_⟩
 exact ro (qab r0 rfl (nl rfl) (eE hm))

def JaF (v' : Str) : List Str → Nat → Option (Fl (Int) (Unit))
  | [], _ => some (Fl.go ())
  | e0 :: aV, i0 =>
    if decide (v' = e0) then
    some (Fl.ret (i0 : Int))
    else
    JaF v' aV (i0 + 1)
def Jb4 (s : (List Str)) (v' : Str) : Option (Int) :=
  (chk (s.length ≤ qa1)).bind fun _ =>
  (JaF v' s 0).bind fun s0 => s0.el some fun t0 =>
  some (-1)
theorem JdJ {s : (List Str)} {v' : Str} {aa : Option Addr} {ab : Nat} {n0 : Nat} {K : Hp} {r : Int}
    (hm : Jb4 s v' = some r) (hX : RdC eS K aa ab 1 s ∧ n0 = s.length) :
    Fn Tryz.prog 88 [.slice aa n0 ab, str v'] K [] (fun v K' H' => v = .int .i64 r ∧ H' = []) := by
 obtain ⟨ae, aX⟩ := hX
 subst aX
 refine Fn.enter Tryz.func88 Tryz.call88 rfl fun F => ?_
 unfold Jb4 at hm
 refine ro (qal rfl ?_)
 obtain ⟨aY, hm⟩ := qax hm
 obtain ⟨s0, aV, hm⟩ := bnd hm
 refine lD (σ := (Unit)) ([4,5] ++ rg 8 11) [0] (fun i0 => [(8, .int .i64 (i0 : Int))]) (fun _ => []) (fun _ => []) (fun _ => True) (fun i0 _ => JaF v' (s.drop i0) i0 = some s0) (fun t0 => s0 = Fl.go t0) (fun i0 => s.length - i0) 0 () aV (And.intro qe (And.intro ?_ ?_))
 clear aV
 rintro i0 _ _ aV j0
 conv at aV => whnf
 refine qac rfl ?_
 refine qaf ?_ ?_ <;> intro w0
 obtain ⟨e0, aW, aZ⟩ := ltx w0
 rw [aZ, JaF.eq_2] at aV
 refine qam rfl ?_
 refine RStep.ofN (qae rfl rfl (qea ae.rd aW) (nn _) (qbp aW) (ro (qb1 i0 0 _ _ ae.rd rfl (mp aW) rfl rfl (qaq ?_))))
 refine cs rfl rfl aV ?_ ?_ <;> intro a6 aV
 exact eE (er aV hm)
 refine qan (qbu aW aY) ?_
 exact eR aV (_, ())
 rw [lty w0, JaF.eq_1] at aV
 refine cT ?_
 exact eM aV _
 rintro t0 _ rfl j0
 replace hm := elg hm
 exact eE hm

def JQ (s : (List Str)) (v' : Str) : Option (Bool) :=
  (Jb4 s v').bind fun x7 =>
  some (decide (x7 ≥ 0))
theorem JY {s : (List Str)} {v' : Str} {aa : Option Addr} {ab : Nat} {n0 : Nat} {K : Hp} {r : Bool}
    (hm : JQ s v' = some r) (hX : RdC eS K aa ab 1 s ∧ n0 = s.length) :
    Fn Tryz.prog 53 [.slice aa n0 ab, str v'] K [] (fun v K' H' => v = .bool r ∧ H' = []) := by
 obtain ⟨ae, aV⟩ := hX
 subst aV
 refine Fn.enter Tryz.func53 Tryz.call53 rfl fun F => ?_
 unfold JQ at hm
 refine cb hm fun x7 q7 hm => cgx (JdJ q7 :) ?_
 exact eE hm

def Jbc (s : Str) : Option (Bool) :=
  (JQ gkw0 s).bind fun x5 =>
  some x5
theorem JcH {s : Str} {K : Hp} {r : Bool}
    (hm : Jbc s = some r) (hG : GG K) :
    Fn Tryz.prog 208 [str s] K [] (fun v K' H' => v = .bool r ∧ H' = []) := by
 obtain ⟨aY, aZ, aW, gn_, aV, aX⟩ := gg5 hG
 subst gn_
 refine Fn.enter Tryz.func208 Tryz.call208 rfl fun F => ?_
 unfold Jbc at hm
 refine ro (qnk aV rfl ?_)
 refine cb hm fun x5 q5 hm => cgx (JY q5 :) ?_
 exact eE hm

def JF (p : Jb) (text : Str) : Option (Jb) :=
  (Jy p 4 text).bind fun x6 =>
  if (!x6) then
  (J2 p).bind fun x9 =>
  some x9
  else
  (Jm p).bind fun aV =>
  some aV.2
theorem JN {p : Jb} {text : Str} {b0 : Nat} {aa : Option Addr} {ab : Nat} {K : Hp} {r : Jb}
    (hm : JF p text = some r) (ae : (0 < p.list.length → Has aa)) :
    Fn Tryz.prog 211 [.pointer (some ⟨b0, 0, none⟩), str text] K [Cells b0 163 [.slice aa p.list.length ab, .int .i64 p.atZ, .int .i64 p.line], OwnL Je.enc aa 166 4 ab p.list] (fun v K' H' => ∃ ar_0 : Option Addr, ∃ cr_0 : Nat, v = .tuple #[] ∧ (0 < r.list.length → Has ar_0) ∧ H' = [Cells b0 163 [.slice ar_0 r.list.length cr_0, .int .i64 r.atZ, .int .i64 r.line], OwnL Je.enc ar_0 166 4 cr_0 r.list]) := by
 refine Fn.enter Tryz.func211 Tryz.call211 rfl fun F => ?_
 unfold JF at hm
 refine cb hm fun x6 q6 hm => cgx (JI q6 :) ?_
 refine qav ?_
 refine cs rfl rfl hm ?_ ?_ <;> intro w7 hm
 refine cb hm fun x9 q9 hm => ckx (Jat q9 :) ?_
 rintro _ _ _ ⟨a6, aY, rfl, a8, rfl⟩
 exact eE hm
 refine cb hm fun ba aZ hm => ckx (Jo aZ :) ?_
 rintro _ _ _ ⟨aV, aX, rfl, aW, rfl⟩
 exact eE hm

def Jak (kind : Int) (text : Str) (a : Ja) (b : Ja) : Option (Ja) :=
  some (⟨kind, text, [a, b], a.Ad⟩ : Ja)
theorem Jby {kind : Int} {text : Str} {a : Ja} {b : Ja} {ar : Option Addr} {au : Nat} {aF : Option Addr} {aG : Nat} {K : Hp} {r : Ja}
    (hm : Jak kind text a b = some r) (hX : LiC Ja.R K ar au 4 a.Aa ∧ LiC Ja.R K aF aG 4 b.Aa) :
    Fn Tryz.prog 254 [.int .i64 kind, str text, .agg #[.int .i64 a.Ab, str a.Ac, .slice ar a.Aa.length au, .int .i64 a.Ad], .agg #[.int .i64 b.Ab, str b.Ac, .slice aF b.Aa.length aG, .int .i64 b.Ad]] K [] (fun v K' H' => ∃ ar_0 : Option Addr, ∃ cr_0 : Nat, ∃ sr_0 : List (List Value), v = .agg #[.int .i64 r.Ab, str r.Ac, .slice ar_0 r.Aa.length cr_0, .int .i64 r.Ad] ∧ (0 < r.Aa.length → Has ar_0) ∧ LR Ja.R K' sr_0 r.Aa ∧ H' = [OwnA ar_0 117 4 cr_0 sr_0]) := by
 obtain ⟨aW, aV⟩ := hX
 refine Fn.enter Tryz.func254 Tryz.call254 rfl fun F => ?_
 unfold Jak at hm
 refine qar ?_
 intro b6
 refine qar ?_
 intro b7
 refine qai rfl fun b8 => ?_
 refine fa rfl (ro (ld r2 rfl rfl (ro (qab r2 rfl (nl rfl) (ro (qab r1 rfl (nl rfl) ?_))))))
 refine qmg (R := Ja.R) (len := 2) (l := [a, b]) (css := [[.int .i64 a.Ab, str a.Ac, .slice ar a.Aa.length au, .int .i64 a.Ad], [.int .i64 b.Ab, str b.Ac, .slice aF b.Aa.length aG, .int .i64 b.Ad]]) (cl := [.int .i64 a.Ab, str a.Ac, .slice ar a.Aa.length au, .int .i64 a.Ad, .int .i64 b.Ab, str b.Ac, .slice aF b.Aa.length aG, .int .i64 b.Ad]) Ja.R_ok qb3 rfl rfl (LR.snoc (LR.snoc LR.nil (Ja.of (x := a) ⟨ar, au, rfl, aW⟩)) (Ja.of (x := b) ⟨aF, aG, rfl, aV⟩)) rfl rfl rfl ?_ fun aX => ?_
 · conv => whnf
   refine cT (cT ?_)
   first | done | rfl
 refine qak rfl rfl (cT (cT (cT (cT ?_))))
 refine qaa r1 rfl ⟨rfl, rfl, (nl rfl), ?_⟩
 obtain rfl := si hm
 exact ro (qab r0 rfl (nl rfl) (en lr ⟨(some ⟨aX, 0, none⟩), 2, ([[.int .i64 a.Ab, str a.Ac, .slice ar a.Aa.length au, .int .i64 a.Ad], [.int .i64 b.Ab, str b.Ac, .slice aF b.Aa.length aG, .int .i64 b.Ad]]), rfl, (fun _ => ⟨_, _, rfl⟩), (show LR Ja.R _ [[.int .i64 a.Ab, str a.Ac, .slice ar a.Aa.length au, .int .i64 a.Ad], [.int .i64 b.Ab, str b.Ac, .slice aF b.Aa.length aG, .int .i64 b.Ad]] [a, b] from (LR.snoc (LR.snoc LR.nil (Ja.of (x := a) ⟨ar, au, rfl, aW⟩)) (Ja.of (x := b) ⟨aF, aG, rfl, aV⟩))), rfl⟩ (sc [1,3] rfl)))

def J9 (kind : Int) (text : Str) : Option (Bool) :=
  if decide (text = ([61, 61] : Str)) then
  some (decide (kind = 4))
  else
  if decide (text = ([33, 61] : Str)) then
  some (decide (kind = 4))
  else
  if decide (text = ([60] : Str)) then
  some (decide (kind = 4))
  else
  if decide (text = ([60, 61] : Str)) then
  some (decide (kind = 4))
  else
  if decide (text = ([115, 116, 97, 114, 116, 115] : Str)) then
  some (decide (kind = 1))
  else
  if decide (text = ([101, 110, 100, 115] : Str)) then
  some (decide (kind = 1))
  else
  if decide (text = ([99, 111, 110, 116, 97, 105, 110, 115] : Str)) then
  some (decide (kind = 1))
  else
  some false
theorem Jcu {kind : Int} {text : Str} {K : Hp} {r : Bool}
    (hm : J9 kind text = some r)  :
    Fn Tryz.prog 257 [.int .i64 kind, str text] K [] (fun v K' H' => v = .bool r ∧ H' = []) := by
 refine Fn.enter Tryz.func257 Tryz.call257 rfl fun F => ?_
 unfold J9 at hm
 refine qam rfl ?_
 refine qaq (cs rfl rfl hm ?_ ?_) <;> intro w6 hm
 refine qac rfl (ct w6 (qag ?_))
 exact eE hm
 refine qaq (cs rfl rfl hm ?_ ?_) <;> intro w6 hm
 refine qac rfl (ct w6 (qag ?_))
 exact eE hm
 refine qaq (cs rfl rfl hm ?_ ?_) <;> intro w6 hm
 refine qac rfl (ct w6 (qag ?_))
 exact eE hm
 refine qaq (cs rfl rfl hm ?_ ?_) <;> intro w6 hm
 refine qag ?_
 exact eE hm
 refine qaq (cs rfl rfl hm ?_ ?_) <;> intro aV hm
 refine qac rfl (ct aV (qag ?_))
 exact eE hm
 refine qaq (cs rfl rfl hm ?_ ?_) <;> intro aV hm
 refine qac rfl (ct aV (qag ?_))
 exact eE hm
 refine qaq (cs rfl rfl hm ?_ ?_) <;> intro aV hm
 refine qag ?_
 exact eE hm
 exact eE hm

def J3 (ak : (Jb → Option (Ja × Jb))) : Nat → (List Ja) → Jb → Option ((List Ja) × Jb)
  | 0, _, _ => none
  | aY + 1, ac, aW =>
    (Jr aW).bind fun x9 =>
    if x9 then
    (ak aW).bind fun aV =>
    (chk (ac.length + [aV.1].length ≤ lim)).bind fun _ =>
    (Jr aV.2).bind fun a6 =>
    if (!a6) then
    some ((ac ++ [aV.1]), aV.2)
    else
    (Jy aV.2 4 ([44] : Str)).bind fun aZ =>
    if aZ then
    (Jm aV.2).bind fun am =>
    J3 ak aY (ac ++ [aV.1]) am.2
    else
    (JF aV.2 ([41] : Str)).bind fun aX =>
    some ((ac ++ [aV.1]), aX)
    else
    some (ac, aW)
def Ja1 (ak : (Jb → Option (Ja × Jb))) (n : Nat) (p : Jb) : Option ((List Ja) × Jb) :=
  (Jy p 4 ([41] : Str)).bind fun x5 =>
  if x5 then
  (Jm p).bind fun x7 =>
  some ([], x7.2)
  else
  (J3 ak n [] p).bind fun t0 =>
  some (t0.1, t0.2)
theorem Jc7 {ak : (Jb → Option (Ja × Jb))} (ihrec0_0 : ∀ {p : Jb} {b0 : Nat} {aa : Option Addr} {ab : Nat} {K : Hp} {r : Ja × Jb} (hm : ak p = some r) (hX : (0 < p.list.length → Has aa) ∧ GG K), Fn Tryz.prog 236 [.pointer (some ⟨b0, 0, none⟩)] K [Cells b0 163 [.slice aa p.list.length ab, .int .i64 p.atZ, .int .i64 p.line], OwnL Je.enc aa 166 4 ab p.list] (fun v K' H' => ∃ ar_0 : Option Addr, ∃ cr_0 : Nat, ∃ sr_0 : List (List Value), ∃ ar_1 : Option Addr, ∃ cr_1 : Nat, v = .agg #[.int .i64 r.1.Ab, str r.1.Ac, .slice ar_0 r.1.Aa.length cr_0, .int .i64 r.1.Ad] ∧ (0 < r.1.Aa.length → Has ar_0) ∧ LR Ja.R K' sr_0 r.1.Aa ∧ (0 < r.2.list.length → Has ar_1) ∧ H' = [OwnA ar_0 117 4 cr_0 sr_0, Cells b0 163 [.slice ar_1 r.2.list.length cr_1, .int .i64 r.2.atZ, .int .i64 r.2.line], OwnL Je.enc ar_1 166 4 cr_1 r.2.list])) {n : Nat} {p : Jb} {b0 : Nat} {aa : Option Addr} {ab : Nat} {K : Hp} {r : (List Ja) × Jb}
    (hm : Ja1 ak n p = some r) (hX : (0 < p.list.length → Has aa) ∧ GG K) :
    Fn Tryz.prog 276 [.pointer (some ⟨b0, 0, none⟩)] K [Cells b0 163 [.slice aa p.list.length ab, .int .i64 p.atZ, .int .i64 p.line], OwnL Je.enc aa 166 4 ab p.list] (fun v K' H' => ∃ ar_0 : Option Addr, ∃ cr_0 : Nat, ∃ sr_0 : List (List Value), ∃ ar_1 : Option Addr, ∃ cr_1 : Nat, v = .slice ar_0 r.1.length cr_0 ∧ (0 < r.1.length → Has ar_0) ∧ LR Ja.R K' sr_0 r.1 ∧ (0 < r.2.list.length → Has ar_1) ∧ H' = [OwnA ar_0 117 4 cr_0 sr_0, Cells b0 163 [.slice ar_1 r.2.list.length cr_1, .int .i64 r.2.atZ, .int .i64 r.2.line], OwnL Je.enc ar_1 166 4 cr_1 r.2.list]) := by
 obtain ⟨ae, hG⟩ := hX
 refine Fn.enter Tryz.func276 Tryz.call276 rfl fun F => ?_
 unfold Ja1 at hm
 refine cb hm fun x5 q5 hm => cgx (JI q5 :) ?_
 refine cs rfl rfl hm ?_ ?_ <;> intro w5 hm
 refine cb hm fun x7 q7 hm => ckx (Jo q7 :) ?_
 rintro _ _ _ ⟨bX, bS, rfl, bW, rfl⟩
 refine qcp (fun _ : Ja => []) 117 4 ?_
 exact eE hm
 obtain ⟨s0, aX, hm⟩ := bnd hm
 refine qjd (fun _ : Ja => []) 117 4 ?_
 refine lC (σ := ((List Ja) × Jb) × Option Addr × Nat × List (List Value) × Option Addr × Nat) ([3] ++ rg 8 16) [3] (fun _ => []) (fun (t0, aY, bb, aZ, aV, aW) => [(3, .slice aY t0.1.length bb)]) (fun (t0, aY, bb, aZ, aV, aW) => [OwnA aY 117 4 bb aZ, Cells b0 163 [.slice aV t0.2.list.length aW, .int .i64 t0.2.atZ, .int .i64 t0.2.line], OwnL Je.enc aV 166 4 aW t0.2.list]) (fun zz K1 => match zz with | (t0, aY, bb, aZ, aV, aW) => LR Ja.R K1 aZ t0.1 ∧ (0 < t0.1.length → Has aY) ∧ (0 < t0.2.list.length → Has aV)) (fun i0 (t0, aY, bb, aZ, aV, aW) => J3 ak i0 t0.1 t0.2 = some s0) (fun (t0, aY, bb, aZ, aV, aW) => t0 = s0) (fun i0 => i0) n ((_, _), _, _, _, _, _) aX (And.intro qe (And.intro ?_ ?_))
 clear aX
 rintro i0 ⟨⟨ac, bO⟩, bC, bz, bK, bo, bp⟩ cj cw ⟨bg, bt, bm⟩ aX j0
 dsimp only at aX ⊢
 cases i0 with
 | zero => rw [J3.eq_1] at aX; cases aX
 | succ i0 =>
  rw [J3.eq_2] at aX
  refine cb aX fun x9 q9 aX => cgx (Jx q9 :) ?_
  refine cs rfl rfl aX ?_ ?_ <;> intro w9 aX
  refine qam rfl ?_
  refine cb aX fun bc bP aX => cfx (ihrec0_0 bP :) ?_
  rintro _ bZ _ bV ⟨a8, a6, bI, bu, bA, rfl, bv, bh, bM, rfl⟩
  refine qoc Ja.R_ok r0 bh fun bj bf ba => ?_
  refine qmg (R := Ja.R) (len := 1) (l := [bc.1]) (css := [[.int .i64 bc.1.Ab, str bc.1.Ac, .slice a8 bc.1.Aa.length a6, .int .i64 bc.1.Ad]]) (cl := [.int .i64 bc.1.Ab, str bc.1.Ac, .slice a8 bc.1.Aa.length a6, .int .i64 bc.1.Ad]) Ja.R_ok qb3 rfl rfl (LR.snoc LR.nil (Ja.of (x := bc.1) ⟨a8, a6, rfl, ba⟩)) rfl rfl rfl ?_ fun ca => ?_
  · conv => whnf
    refine cT ?_
    first | done | rfl
  obtain ⟨bN, aX⟩ := qax aX
  refine qtp r3 (LR.mono Ja.R_ok (bV.trans bf) bg) rfl qb3 (qdj rfl r0 rfl Ja.R_ok (show LR Ja.R _ [[.int .i64 bc.1.Ab, str bc.1.Ac, .slice a8 bc.1.Aa.length a6, .int .i64 bc.1.Ad]] [bc.1] from (LR.snoc LR.nil (Ja.of (x := bc.1) ⟨a8, a6, rfl, ba⟩)))) (show LR Ja.R _ [[.int .i64 bc.1.Ab, str bc.1.Ac, .slice a8 bc.1.Aa.length a6, .int .i64 bc.1.Ad]] [bc.1] from (LR.snoc LR.nil (Ja.of (x := bc.1) ⟨a8, a6, rfl, ba⟩))) bN ?_
  intro ce cd cu r_14 cq
  refine cb aX fun cy bU aX => cgx (Jx bU :) ?_
  refine qav ?_
  refine cs rfl rfl aX ?_ ?_ <;> intro cr aX
  refine cF (cT ?_)
  exact eM aX (_, _, _, _, _, _)
  refine cb aX fun cp bQ aX => cgx (JI bQ :) ?_
  refine cs rfl rfl aX ?_ ?_ <;> intro cz aX
  refine cb aX fun am bR aX => ckx (Jo bR :) ?_
  rintro _ _ _ ⟨bH, bL, rfl, bD, rfl⟩
  refine cT ?_
  exact eR aX (_, (_, _), _, _, _, _, _)
  refine cb aX fun cm bT aX => ckx (JN bT :) ?_
  rintro _ _ _ ⟨bB, bw, rfl, bJ, rfl⟩
  refine cF (cT ?_)
  exact eM aX (_, _, _, _, _, _)
  refine cT ?_
  exact eM aX (_, _, _, _, _, _)
 rintro ⟨t0, aY, bb, aZ, aV, aW⟩ cn bY ⟨bG, bF, bn⟩ rfl j0
 exact eE hm

def Jbi (ak : (Jb → Option (Ja × Jb))) (n : Nat) (p : Jb) : Option (Ja × Jb) :=
  (JE p).bind fun x6 =>
  if decide (x6.Ab = 2) then
  (Jm p).bind fun ba =>
  some ((⟨20, x6.Ac, [], x6.Ad⟩ : Ja), ba.2)
  else
  if decide (x6.Ab = 3) then
  (Jm p).bind fun bj =>
  some ((⟨21, x6.Ac, [], x6.Ad⟩ : Ja), bj.2)
  else
  (Jy p 1 ([116, 114, 117, 101] : Str)).bind fun bf =>
  if bf then
  (Jm p).bind fun aX =>
  some ((⟨22, x6.Ac, [], x6.Ad⟩ : Ja), aX.2)
  else
  (Jy p 1 ([102, 97, 108, 115, 101] : Str)).bind fun bc =>
  if bc then
  (Jm p).bind fun aX =>
  some ((⟨22, x6.Ac, [], x6.Ad⟩ : Ja), aX.2)
  else
  (if decide (x6.Ab = 1) then (Jbc x6.Ac).bind fun bn =>
  some (!bn) else some false).bind fun aY =>
  if aY then
  (Jm p).bind fun aW =>
  (Jy aW.2 4 ([40] : Str)).bind fun bg =>
  if bg then
  (Jm aW.2).bind fun a8 =>
  (Ja1 ak n a8.2).bind fun aZ =>
  some ((⟨24, x6.Ac, aZ.1, x6.Ad⟩ : Ja), aZ.2)
  else
  some ((⟨23, x6.Ac, [], x6.Ad⟩ : Ja), aW.2)
  else
  (Jy p 4 ([40] : Str)).bind fun aH =>
  if aH then
  (Jm p).bind fun bh =>
  (ak bh.2).bind fun aV =>
  (Jr aV.2).bind fun a6 =>
  if a6 then
  (JF aV.2 ([41] : Str)).bind fun bb =>
  some (aV.1, bb)
  else
  some (aV.1, aV.2)
  else
  (J2 p).bind fun bm =>
  some ((⟨0, x6.Ac, [], x6.Ad⟩ : Ja), bm)
theorem JcI {ak : (Jb → Option (Ja × Jb))} (ihrec0_0 : ∀ {p : Jb} {b0 : Nat} {aa : Option Addr} {ab : Nat} {K : Hp} {r : Ja × Jb} (hm : ak p = some r) (hX : (0 < p.list.length → Has aa) ∧ GG K), Fn Tryz.prog 236 [.pointer (some ⟨b0, 0, none⟩)] K [Cells b0 163 [.slice aa p.list.length ab, .int .i64 p.atZ, .int .i64 p.line], OwnL Je.enc aa 166 4 ab p.list] (fun v K' H' => ∃ ar_0 : Option Addr, ∃ cr_0 : Nat, ∃ sr_0 : List (List Value), ∃ ar_1 : Option Addr, ∃ cr_1 : Nat, v = .agg #[.int .i64 r.1.Ab, str r.1.Ac, .slice ar_0 r.1.Aa.length cr_0, .int .i64 r.1.Ad] ∧ (0 < r.1.Aa.length → Has ar_0) ∧ LR Ja.R K' sr_0 r.1.Aa ∧ (0 < r.2.list.length → Has ar_1) ∧ H' = [OwnA ar_0 117 4 cr_0 sr_0, Cells b0 163 [.slice ar_1 r.2.list.length cr_1, .int .i64 r.2.atZ, .int .i64 r.2.line], OwnL Je.enc ar_1 166 4 cr_1 r.2.list])) {n : Nat} {p : Jb} {b0 : Nat} {aa : Option Addr} {ab : Nat} {K : Hp} {r : Ja × Jb}
    (hm : Jbi ak n p = some r) (hX : (0 < p.list.length → Has aa) ∧ GG K) :
    Fn Tryz.prog 275 [.pointer (some ⟨b0, 0, none⟩)] K [Cells b0 163 [.slice aa p.list.length ab, .int .i64 p.atZ, .int .i64 p.line], OwnL Je.enc aa 166 4 ab p.list] (fun v K' H' => ∃ ar_0 : Option Addr, ∃ cr_0 : Nat, ∃ sr_0 : List (List Value), ∃ ar_1 : Option Addr, ∃ cr_1 : Nat, v = .agg #[.int .i64 r.1.Ab, str r.1.Ac, .slice ar_0 r.1.Aa.length cr_0, .int .i64 r.1.Ad] ∧ (0 < r.1.Aa.length → Has ar_0) ∧ LR Ja.R K' sr_0 r.1.Aa ∧ (0 < r.2.list.length → Has ar_1) ∧ H' = [OwnA ar_0 117 4 cr_0 sr_0, Cells b0 163 [.slice ar_1 r.2.list.length cr_1, .int .i64 r.2.atZ, .int .i64 r.2.line], OwnL Je.enc ar_1 166 4 cr_1 r.2.list]) := by
 obtain ⟨ae, hG⟩ := hX
 refine Fn.enter Tryz.func275 Tryz.call275 rfl fun F => ?_
 unfold Jbi at hm
 refine qai rfl fun b2 => ?_
 refine cb hm fun x6 q6 hm => cgx (JS q6 :) ?_
 refine qai rfl fun b3 => ?_
 refine qaa r0 rfl ⟨rfl, rfl, (nl rfl), ?_⟩
 refine fa rfl (ro (ld r0 rfl rfl (fa rfl (ro (ld r0 rfl rfl (qak rfl rfl (cT (cT ?_))))))))
 refine qai rfl fun b4 => ?_
 refine qaa r0 rfl ⟨rfl, rfl, (nl rfl), ?_⟩
 refine qam rfl ?_
 refine fa rfl (ro (ld r1 rfl rfl (qag ?_)))
 refine cs rfl rfl hm ?_ ?_ <;> intro cI hm
 refine fa rfl ?_
 refine qaa r0 rfl ⟨rfl, rfl, (nl rfl), ?_⟩
 refine cb hm fun cQ cd hm => ckx (Jo cd :) ?_
 rintro _ _ _ ⟨bC, bM, rfl, bR, rfl⟩
 refine ro (qab r2 rfl (nl rfl) ?_)
 refine qaa r4 rfl ⟨rfl, rfl, (nl rfl), ?_⟩
 refine ro (qab r0 rfl (nl rfl) ?_)
 refine qcp (fun _ : Ja => []) 117 4 ?_
 exact eE hm
 refine fa rfl (ro (ld r1 rfl rfl (qag ?_)))
 refine cs rfl rfl hm ?_ ?_ <;> intro cH hm
 refine fa rfl ?_
 refine qaa r0 rfl ⟨rfl, rfl, (nl rfl), ?_⟩
 refine cb hm fun cL cA hm => ckx (Jo cA :) ?_
 rintro _ _ _ ⟨bu, bw, rfl, bP, rfl⟩
 refine ro (qab r2 rfl (nl rfl) ?_)
 refine qaa r4 rfl ⟨rfl, rfl, (nl rfl), ?_⟩
 refine ro (qab r0 rfl (nl rfl) ?_)
 refine qcp (fun _ : Ja => []) 117 4 ?_
 exact eE hm
 refine cb hm fun cV cn hm => cgx (JI cn :) ?_
 refine cs rfl rfl hm ?_ ?_ <;> intro bB hm
 refine qac rfl (ct bB (fa rfl ?_))
 refine qaa r2 rfl ⟨rfl, rfl, (nl rfl), ?_⟩
 refine cb hm fun cp ba hm => ckx (Jo ba :) ?_
 rintro _ _ _ ⟨a8, a6, rfl, aZ, rfl⟩
 refine ro (qab r2 rfl (nl rfl) ?_)
 refine qaa r4 rfl ⟨rfl, rfl, (nl rfl), ?_⟩
 refine ro (qab r0 rfl (nl rfl) ?_)
 refine qcp (fun _ : Ja => []) 117 4 ?_
 exact eE hm
 refine cb hm fun c5 cu hm => cgx (JI cu :) ?_
 refine cs rfl rfl hm ?_ ?_ <;> intro bB hm
 refine fa rfl ?_
 refine qaa r2 rfl ⟨rfl, rfl, (nl rfl), ?_⟩
 refine cb hm fun cp ba hm => ckx (Jo ba :) ?_
 rintro _ _ _ ⟨a8, a6, rfl, aZ, rfl⟩
 refine ro (qab r2 rfl (nl rfl) ?_)
 refine qaa r4 rfl ⟨rfl, rfl, (nl rfl), ?_⟩
 refine ro (qab r0 rfl (nl rfl) ?_)
 refine qcp (fun _ : Ja => []) 117 4 ?_
 exact eE hm
 obtain ⟨bb, aW, hm⟩ := bnd hm
 refine jR (σ := Bool) (rg 36 10) (fun aX => [(36, .bool aX)]) (fun aX => aX = bb) ?_ ?_
 replace aW := bsm aW
 refine qaj rfl ?_
 refine fa rfl (ro (ld r3 rfl rfl (qag ?_)))
 obtain ⟨cO, aY, aW⟩ := bnd aW
 refine cS aY (fun aV aY => ?_) fun aV aY => ?_
 refine fa rfl (ct aV (ro (ld r3 rfl rfl (ct aV ?_))))
 refine cb aY fun c6 cy aY => cgx (JcH cy :) ?_
 refine ct aV (qav (ct aV ?_))
 exact eMq aW _ ⟨bq (si aY), trivial⟩
 refine cf aV (cf aV (cf aV (cf aV ?_)))
 exact eMq aW _ ⟨bq (si aY), trivial⟩
 rintro aX rfl cm
 refine cs rfl rfl hm ?_ ?_ <;> intro cZ hm
 refine fa rfl ?_
 refine qaa r2 rfl ⟨rfl, rfl, (nl rfl), ?_⟩
 refine cb hm fun c9 cz hm => ckx (Jo cz :) ?_
 rintro _ _ _ ⟨bH, bo, rfl, bj, rfl⟩
 refine cb hm fun cK cq hm => cgx (JI cq :) ?_
 refine cs rfl rfl hm ?_ ?_ <;> intro cN hm
 refine cb hm fun cP cC hm => ckx (Jo cC :) ?_
 rintro _ _ _ ⟨bg, bh, rfl, bF, rfl⟩
 refine fa rfl ?_
 refine qaa r2 rfl ⟨rfl, rfl, (nl rfl), ?_⟩
 refine cb hm fun cW ce hm => cfx (Jc7 ihrec0_0 ce :) ?_
 rintro _ cM _ cG ⟨bQ, bn, bf, bG, bK, rfl, bL, bN, bD, rfl⟩
 refine fa rfl ?_
 refine qaa r3 rfl ⟨rfl, rfl, (nl rfl), ?_⟩
 refine ro (qab r0 rfl (nl rfl) ?_)
 refine qaa r5 rfl ⟨rfl, rfl, (nl rfl), ?_⟩
 exact ro (qab r0 rfl (nl rfl) (eE hm))
 refine ro (qab r2 rfl (nl rfl) ?_)
 refine qaa r4 rfl ⟨rfl, rfl, (nl rfl), ?_⟩
 refine ro (qab r0 rfl (nl rfl) ?_)
 refine qcp (fun _ : Ja => []) 117 4 ?_
 exact eE hm
 refine cb hm fun aH ca hm => cgx (JI ca :) ?_
 refine cs rfl rfl hm ?_ ?_ <;> intro cR hm
 refine cb hm fun cX cB hm => ckx (Jo cB :) ?_
 rintro _ _ _ ⟨bz, bm, rfl, bt, rfl⟩
 refine cb hm fun cD cw hm => cfx (ihrec0_0 cw :) ?_
 rintro _ da _ c8 ⟨bA, bc, bY, bS, bI, rfl, bv, bp, bV, rfl⟩
 refine qaa r3 rfl ⟨rfl, rfl, (nl rfl), ?_⟩
 refine cb hm fun cY cr hm => cgx (Jx cr :) ?_
 refine cs rfl rfl hm ?_ ?_ <;> intro cU hm
 refine cb hm fun c4 bZ hm => ckx (JN bZ :) ?_
 rintro _ _ _ ⟨bT, bO, rfl, bJ, rfl⟩
 refine ro (qab r2 rfl (nl rfl) ?_)
 refine qaa r5 rfl ⟨rfl, rfl, (nl rfl), ?_⟩
 exact ro (qab r0 rfl (nl rfl) (eE hm))
 refine ro (qab r2 rfl (nl rfl) ?_)
 refine qaa r5 rfl ⟨rfl, rfl, (nl rfl), ?_⟩
 exact ro (qab r0 rfl (nl rfl) (eE hm))
 refine cb hm fun cJ cj hm => ckx (Jat cj :) ?_
 rintro _ _ _ ⟨bX, bW, rfl, bU, rfl⟩
 refine ro (qab r2 rfl (nl rfl) ?_)
 refine qaa r4 rfl ⟨rfl, rfl, (nl rfl), ?_⟩
 refine ro (qab r0 rfl (nl rfl) ?_)
 refine qcp (fun _ : Ja => []) 117 4 ?_
 exact eE hm

def Jau (ak : (Jb → Option (Ja × Jb))) (n : Nat) : Nat → Ja → Jb → Option (Ja × Jb)
  | 0, _, _ => none
  | aY + 1, ac, aV =>
    (Jr aV).bind fun x7 =>
    (if x7 then (Jy aV 4 ([42] : Str)).bind fun aX =>
    some aX else some false).bind fun aZ =>
    if aZ then
    (Jm aV).bind fun a8 =>
    (Jbi ak n a8.2).bind fun aW =>
    (Jak 19 ([] : Str) ac aW.1).bind fun a6 =>
    Jau ak n aY a6 aW.2
    else
    some (ac, aV)
def JaD (ak : (Jb → Option (Ja × Jb))) (n : Nat) (p : Jb) : Option (Ja × Jb) :=
  (Jbi ak n p).bind fun x5 =>
  (Jau ak n n x5.1 x5.2).bind fun t0 =>
  some (t0.1, t0.2)
theorem Jb5 {ak : (Jb → Option (Ja × Jb))} (ihrec0_0 : ∀ {p : Jb} {b0 : Nat} {aa : Option Addr} {ab : Nat} {K : Hp} {r : Ja × Jb} (hm : ak p = some r) (hX : (0 < p.list.length → Has aa) ∧ GG K), Fn Tryz.prog 236 [.pointer (some ⟨b0, 0, none⟩)] K [Cells b0 163 [.slice aa p.list.length ab, .int .i64 p.atZ, .int .i64 p.line], OwnL Je.enc aa 166 4 ab p.list] (fun v K' H' => ∃ ar_0 : Option Addr, ∃ cr_0 : Nat, ∃ sr_0 : List (List Value), ∃ ar_1 : Option Addr, ∃ cr_1 : Nat, v = .agg #[.int .i64 r.1.Ab, str r.1.Ac, .slice ar_0 r.1.Aa.length cr_0, .int .i64 r.1.Ad] ∧ (0 < r.1.Aa.length → Has ar_0) ∧ LR Ja.R K' sr_0 r.1.Aa ∧ (0 < r.2.list.length → Has ar_1) ∧ H' = [OwnA ar_0 117 4 cr_0 sr_0, Cells b0 163 [.slice ar_1 r.2.list.length cr_1, .int .i64 r.2.atZ, .int .i64 r.2.line], OwnL Je.enc ar_1 166 4 cr_1 r.2.list])) {n : Nat} {p : Jb} {b0 : Nat} {aa : Option Addr} {ab : Nat} {K : Hp} {r : Ja × Jb}
    (hm : JaD ak n p = some r) (hX : (0 < p.list.length → Has aa) ∧ GG K) :
    Fn Tryz.prog 274 [.pointer (some ⟨b0, 0, none⟩)] K [Cells b0 163 [.slice aa p.list.length ab, .int .i64 p.atZ, .int .i64 p.line], OwnL Je.enc aa 166 4 ab p.list] (fun v K' H' => ∃ ar_0 : Option Addr, ∃ cr_0 : Nat, ∃ sr_0 : List (List Value), ∃ ar_1 : Option Addr, ∃ cr_1 : Nat, v = .agg #[.int .i64 r.1.Ab, str r.1.Ac, .slice ar_0 r.1.Aa.length cr_0, .int .i64 r.1.Ad] ∧ (0 < r.1.Aa.length → Has ar_0) ∧ LR Ja.R K' sr_0 r.1.Aa ∧ (0 < r.2.list.length → Has ar_1) ∧ H' = [OwnA ar_0 117 4 cr_0 sr_0, Cells b0 163 [.slice ar_1 r.2.list.length cr_1, .int .i64 r.2.atZ, .int .i64 r.2.line], OwnL Je.enc ar_1 166 4 cr_1 r.2.list]) := by
 obtain ⟨ae, hG⟩ := hX
 refine Fn.enter Tryz.func274 Tryz.call274 rfl fun F => ?_
 unfold JaD at hm
 refine qai rfl fun b2 => ?_
 refine cb hm fun x5 q5 hm => cfx (JcI ihrec0_0 q5 :) ?_
 rintro _ K5 _ l5 ⟨ca, cm, bV, ce, cp, rfl, cn, bZ, bY, rfl⟩
 refine qai rfl fun b3 => ?_
 refine qaa r0 rfl ⟨rfl, rfl, (nl rfl), ?_⟩
 obtain ⟨s0, a6, hm⟩ := bnd hm
 refine lC (σ := (Ja × Jb) × Option Addr × Nat × List (List Value) × Option Addr × Nat) (rg 6 12) [4, 5] (fun _ => []) (fun _ => []) (fun (t0, aW, aX, aY, aV, aZ) => [Cells b3 117 [.int .i64 t0.1.Ab, str t0.1.Ac, .slice aW t0.1.Aa.length aX, .int .i64 t0.1.Ad], OwnA aW 117 4 aX aY, Cells b0 163 [.slice aV t0.2.list.length aZ, .int .i64 t0.2.atZ, .int .i64 t0.2.line], OwnL Je.enc aV 166 4 aZ t0.2.list]) (fun zz K1 => match zz with | (t0, aW, aX, aY, aV, aZ) => (0 < t0.1.Aa.length → Has aW) ∧ LR Ja.R K1 aY t0.1.Aa ∧ (0 < t0.2.list.length → Has aV)) (fun i0 (t0, aW, aX, aY, aV, aZ) => Jau ak n i0 t0.1 t0.2 = some s0) (fun (t0, aW, aX, aY, aV, aZ) => t0 = s0) (fun i0 => i0) n ((_, _), _, _, _, _, _) a6 (And.intro qe (And.intro ?_ ?_))
 clear a6
 rintro i0 ⟨⟨ac, bU⟩, bv, bt, bz, bu, bw⟩ cu cH ⟨bB, bb, bo⟩ a6 j0
 dsimp only at a6 ⊢
 cases i0 with
 | zero => rw [Jau.eq_1] at a6; cases a6
 | succ i0 =>
  rw [Jau.eq_2] at a6
  refine qaj rfl ?_
  refine cb a6 fun x7 q7 a6 => cgx (Jx q7 :) ?_
  obtain ⟨cC, bc, a6⟩ := bnd a6
  refine cS bc (fun ba bc => ?_) fun ba bc => ?_
  refine ct ba ?_
  refine cb bc fun cG cq bc => cgx (JI cq :) ?_
  refine ct ba (qac rfl ?_)
  refine qaf ?_ ?_ <;> intro bD
  replace a6 := ift ((si bc).symm.trans bD) a6
  refine qam rfl ?_
  refine cb a6 fun cy bW a6 => ckx (Jo bW :) ?_
  rintro _ _ _ ⟨bT, bS, rfl, bP, rfl⟩
  refine qa6 ⟨⟨[], false⟩, _, [(_, _)], []⟩ 3 rfl (by kernel_rfl) ⟨Hp.Le.refl _, (sc [2] rfl), ci0⟩ ?_
  refine qcg m0 rfl (nl rfl) ?_
  refine cb a6 fun cI bX a6 => cfx (JcI ihrec0_0 bX :) ?_
  rintro _ cw _ cd ⟨bM, bF, bH, bG, bO, rfl, bL, bf, bI, rfl⟩
  refine qk (sc [3] rfl) ?_
  refine qmf Tryz.call254 Ja.R_ok r4 (LR.mono Ja.R_ok cd bb) fun bn a8 bm => ?_
  refine qmf Tryz.call254 Ja.R_ok r0 (LR.mono Ja.R_ok a8 bf) fun bj bh bg => ?_
  refine cb a6 fun cA cj a6 => cfx (Jby cj :) ?_
  rintro _ cD _ cz ⟨bJ, bR, bK, rfl, bQ, bN, rfl⟩
  refine ⟨⟨Hp.emp_le _, (pf rfl), ci0⟩, ?_⟩
  refine qaa r3 rfl ⟨rfl, rfl, (nl rfl), ?_⟩
  refine ⟨⟨Hp.emp_le _, (pf rfl), ci0⟩, ?_⟩
  exact eR a6 (_, (_, _), _, _, _, _, _)
  replace a6 := qbd ((si bc).symm.trans bD) a6
  refine cT ?_
  exact eM a6 (_, _, _, _, _, _)
  refine cf ba (cf ba (qac rfl (cF ?_)))
  replace a6 := qbd (si bc).symm a6
  refine cT ?_
  exact eM a6 (_, _, _, _, _, _)
 rintro ⟨t0, aW, aX, aY, aV, aZ⟩ cB cr ⟨bC, bA, bp⟩ rfl j0
 refine ro (qab r0 rfl (nl rfl) ?_)
 refine qaa r4 rfl ⟨rfl, rfl, (nl rfl), ?_⟩
 exact ro (qab r0 rfl (nl rfl) (eE hm))

def Jac (ak : (Jb → Option (Ja × Jb))) (n : Nat) : Nat → Ja → Jb → Option (Fl (Ja × Jb) (Ja × Jb))
  | 0, _, _ => none
  | aY + 1, ac, aV =>
    (Jr aV).bind fun x7 =>
    if x7 then
    (Jy aV 4 ([43] : Str)).bind fun ba =>
    if ba then
    (Jm aV).bind fun bc =>
    (JaD ak n bc.2).bind fun aX =>
    (Jak 17 ([] : Str) ac aX.1).bind fun bb =>
    Jac ak n aY bb aX.2
    else
    (Jy aV 4 ([45] : Str)).bind fun aZ =>
    if aZ then
    (Jm aV).bind fun a8 =>
    (JaD ak n a8.2).bind fun aW =>
    (Jak 18 ([] : Str) ac aW.1).bind fun a6 =>
    Jac ak n aY a6 aW.2
    else
    some (Fl.ret (ac, aV))
    else
    some (Fl.go (ac, aV))
def Jbo (ak : (Jb → Option (Ja × Jb))) (n : Nat) (p : Jb) : Option (Ja × Jb) :=
  (JaD ak n p).bind fun x5 =>
  (Jac ak n n x5.1 x5.2).bind fun s0 => s0.el some fun t0 =>
  some (t0.1, t0.2)
theorem JcR {ak : (Jb → Option (Ja × Jb))} (ihrec0_0 : ∀ {p : Jb} {b0 : Nat} {aa : Option Addr} {ab : Nat} {K : Hp} {r : Ja × Jb} (hm : ak p = some r) (hX : (0 < p.list.length → Has aa) ∧ GG K), Fn Tryz.prog 236 [.pointer (some ⟨b0, 0, none⟩)] K [Cells b0 163 [.slice aa p.list.length ab, .int .i64 p.atZ, .int .i64 p.line], OwnL Je.enc aa 166 4 ab p.list] (fun v K' H' => ∃ ar_0 : Option Addr, ∃ cr_0 : Nat, ∃ sr_0 : List (List Value), ∃ ar_1 : Option Addr, ∃ cr_1 : Nat, v = .agg #[.int .i64 r.1.Ab, str r.1.Ac, .slice ar_0 r.1.Aa.length cr_0, .int .i64 r.1.Ad] ∧ (0 < r.1.Aa.length → Has ar_0) ∧ LR Ja.R K' sr_0 r.1.Aa ∧ (0 < r.2.list.length → Has ar_1) ∧ H' = [OwnA ar_0 117 4 cr_0 sr_0, Cells b0 163 [.slice ar_1 r.2.list.length cr_1, .int .i64 r.2.atZ, .int .i64 r.2.line], OwnL Je.enc ar_1 166 4 cr_1 r.2.list])) {n : Nat} {p : Jb} {b0 : Nat} {aa : Option Addr} {ab : Nat} {K : Hp} {r : Ja × Jb}
    (hm : Jbo ak n p = some r) (hX : (0 < p.list.length → Has aa) ∧ GG K) :
    Fn Tryz.prog 271 [.pointer (some ⟨b0, 0, none⟩)] K [Cells b0 163 [.slice aa p.list.length ab, .int .i64 p.atZ, .int .i64 p.line], OwnL Je.enc aa 166 4 ab p.list] (fun v K' H' => ∃ ar_0 : Option Addr, ∃ cr_0 : Nat, ∃ sr_0 : List (List Value), ∃ ar_1 : Option Addr, ∃ cr_1 : Nat, v = .agg #[.int .i64 r.1.Ab, str r.1.Ac, .slice ar_0 r.1.Aa.length cr_0, .int .i64 r.1.Ad] ∧ (0 < r.1.Aa.length → Has ar_0) ∧ LR Ja.R K' sr_0 r.1.Aa ∧ (0 < r.2.list.length → Has ar_1) ∧ H' = [OwnA ar_0 117 4 cr_0 sr_0, Cells b0 163 [.slice ar_1 r.2.list.length cr_1, .int .i64 r.2.atZ, .int .i64 r.2.line], OwnL Je.enc ar_1 166 4 cr_1 r.2.list]) := by
 obtain ⟨ae, hG⟩ := hX
 refine Fn.enter Tryz.func271 Tryz.call271 rfl fun F => ?_
 unfold Jbo at hm
 refine qai rfl fun b2 => ?_
 refine cb hm fun x5 q5 hm => cfx (Jb5 ihrec0_0 q5 :) ?_
 rintro _ K5 _ l5 ⟨cK, cQ, cB, cN, cU, rfl, cR, cI, cH, rfl⟩
 refine qai rfl fun b3 => ?_
 refine qaa r0 rfl ⟨rfl, rfl, (nl rfl), ?_⟩
 obtain ⟨s0, aX, hm⟩ := bnd hm
 refine lC (σ := (Ja × Jb) × Option Addr × Nat × List (List Value) × Option Addr × Nat) (rg 6 21) [4, 5] (fun _ => []) (fun _ => []) (fun (t0, aW, aY, aZ, aV, a6) => [Cells b3 117 [.int .i64 t0.1.Ab, str t0.1.Ac, .slice aW t0.1.Aa.length aY, .int .i64 t0.1.Ad], OwnA aW 117 4 aY aZ, Cells b0 163 [.slice aV t0.2.list.length a6, .int .i64 t0.2.atZ, .int .i64 t0.2.line], OwnL Je.enc aV 166 4 a6 t0.2.list]) (fun zz K1 => match zz with | (t0, aW, aY, aZ, aV, a6) => (0 < t0.1.Aa.length → Has aW) ∧ LR Ja.R K1 aZ t0.1.Aa ∧ (0 < t0.2.list.length → Has aV)) (fun i0 (t0, aW, aY, aZ, aV, a6) => Jac ak n i0 t0.1 t0.2 = some s0) (fun (t0, aW, aY, aZ, aV, a6) => s0 = Fl.go t0) (fun i0 => i0) n ((_, _), _, _, _, _, _) aX (And.intro qe (And.intro ?_ ?_))
 clear aX
 rintro i0 ⟨⟨ac, cA⟩, bC, bA, bF, bB, bD⟩ cZ dj ⟨bH, a8, bw⟩ aX j0
 dsimp only at aX ⊢
 cases i0 with
 | zero => rw [Jac.eq_1] at aX; cases aX
 | succ i0 =>
  rw [Jac.eq_2] at aX
  refine cb aX fun x7 q7 aX => cgx (Jx q7 :) ?_
  refine cs rfl rfl aX ?_ ?_ <;> intro w7 aX
  refine qam rfl ?_
  refine qam rfl ?_
  refine cb aX fun de cP aX => cgx (JI cP :) ?_
  refine cs rfl rfl aX ?_ ?_ <;> intro w9 aX
  refine cb aX fun c8 cD aX => ckx (Jo cD :) ?_
  rintro _ _ _ ⟨cz, cy, rfl, cr, rfl⟩
  refine qa6 ⟨⟨[], false⟩, _, [(_, _)], []⟩ 3 rfl (by kernel_rfl) ⟨Hp.Le.refl _, (sc [2] rfl), ci0⟩ ?_
  refine qcg m0 rfl (nl rfl) ?_
  refine cb aX fun dk cG aX => cfx (Jb5 ihrec0_0 cG :) ?_
  rintro _ c6 _ cL ⟨cd, bL, bP, bN, cn, rfl, bX, bf, bT, rfl⟩
  refine qk (sc [3] rfl) ?_
  refine qmf Tryz.call254 Ja.R_ok r4 (LR.mono Ja.R_ok cL a8) fun bv ba bu => ?_
  refine qmf Tryz.call254 Ja.R_ok r0 (LR.mono Ja.R_ok ba bf) fun bo bm bj => ?_
  refine cb aX fun da cO aX => cfx (Jby cO :) ?_
  rintro _ di _ c9 ⟨bU, cw, bW, rfl, cu, cj, rfl⟩
  refine ⟨⟨Hp.emp_le _, (pf rfl), ci0⟩, ?_⟩
  refine qaa r3 rfl ⟨rfl, rfl, (nl rfl), ?_⟩
  refine ⟨⟨Hp.emp_le _, (pf rfl), ci0⟩, ?_⟩
  exact eR aX (_, (_, _), _, _, _, _, _)
  refine cb aX fun df cC aX => cgx (JI cC :) ?_
  refine cs rfl rfl aX ?_ ?_ <;> intro dl aX
  refine cb aX fun dh cJ aX => ckx (Jo cJ :) ?_
  rintro _ _ _ ⟨cp, bM, rfl, bV, rfl⟩
  refine qa6 ⟨⟨[], false⟩, _, [(_, _)], []⟩ 3 rfl (by kernel_rfl) ⟨Hp.Le.refl _, (sc [2] rfl), ci0⟩ ?_
  refine qcg m0 rfl (nl rfl) ?_
  refine cb aX fun dg cW aX => cfx (Jb5 ihrec0_0 cW :) ?_
  rintro _ c4 _ cV ⟨ca, bY, bQ, bJ, bO, rfl, ce, bh, cm, rfl⟩
  refine qk (sc [3] rfl) ?_
  refine qmf Tryz.call254 Ja.R_ok r4 (LR.mono Ja.R_ok cV a8) fun bt bb bc => ?_
  refine qmf Tryz.call254 Ja.R_ok r0 (LR.mono Ja.R_ok bb bh) fun bp bn bg => ?_
  refine cb aX fun c5 cM aX => cfx (Jby cM :) ?_
  rintro _ cY _ db ⟨bZ, bS, bR, rfl, cq, bK, rfl⟩
  refine ⟨⟨Hp.emp_le _, (pf rfl), ci0⟩, ?_⟩
  refine qaa r3 rfl ⟨rfl, rfl, (nl rfl), ?_⟩
  refine ⟨⟨Hp.emp_le _, (pf rfl), ci0⟩, ?_⟩
  exact eR aX (_, (_, _), _, _, _, _, _)
  refine ro (qab r2 rfl (nl rfl) ?_)
  refine qaa r4 rfl ⟨rfl, rfl, (nl rfl), ?_⟩
  exact ro (qab r0 rfl (nl rfl) (eE (er aX hm)))
  refine cT ?_
  exact eM aX (_, _, _, _, _, _)
 rintro ⟨t0, aW, aY, aZ, aV, a6⟩ dc cX ⟨bI, bG, bz⟩ rfl j0
 replace hm := elg hm
 refine ro (qab r0 rfl (nl rfl) ?_)
 refine qaa r4 rfl ⟨rfl, rfl, (nl rfl), ?_⟩
 exact ro (qab r0 rfl (nl rfl) (eE hm))

def JbC (ak : (Jb → Option (Ja × Jb))) (n : Nat) (p : Jb) : Option (Ja × Jb) :=
  (Jbo ak n p).bind fun x6 =>
  (JE x6.2).bind fun x8 =>
  (Jr x6.2).bind fun aW =>
  (if aW then (J9 x8.Ab x8.Ac).bind fun aZ =>
  some aZ else some false).bind fun a6 =>
  if a6 then
  (Jm x6.2).bind fun aY =>
  (Jbo ak n aY.2).bind fun aV =>
  (Jak 16 x8.Ac x6.1 aV.1).bind fun aX =>
  some (aX, aV.2)
  else
  some (x6.1, x6.2)
theorem Jdz {ak : (Jb → Option (Ja × Jb))} (ihrec0_0 : ∀ {p : Jb} {b0 : Nat} {aa : Option Addr} {ab : Nat} {K : Hp} {r : Ja × Jb} (hm : ak p = some r) (hX : (0 < p.list.length → Has aa) ∧ GG K), Fn Tryz.prog 236 [.pointer (some ⟨b0, 0, none⟩)] K [Cells b0 163 [.slice aa p.list.length ab, .int .i64 p.atZ, .int .i64 p.line], OwnL Je.enc aa 166 4 ab p.list] (fun v K' H' => ∃ ar_0 : Option Addr, ∃ cr_0 : Nat, ∃ sr_0 : List (List Value), ∃ ar_1 : Option Addr, ∃ cr_1 : Nat, v = .agg #[.int .i64 r.1.Ab, str r.1.Ac, .slice ar_0 r.1.Aa.length cr_0, .int .i64 r.1.Ad] ∧ (0 < r.1.Aa.length → Has ar_0) ∧ LR Ja.R K' sr_0 r.1.Aa ∧ (0 < r.2.list.length → Has ar_1) ∧ H' = [OwnA ar_0 117 4 cr_0 sr_0, Cells b0 163 [.slice ar_1 r.2.list.length cr_1, .int .i64 r.2.atZ, .int .i64 r.2.line], OwnL Je.enc ar_1 166 4 cr_1 r.2.list])) {n : Nat} {p : Jb} {b0 : Nat} {aa : Option Addr} {ab : Nat} {K : Hp} {r : Ja × Jb}
    (hm : JbC ak n p = some r) (hX : (0 < p.list.length → Has aa) ∧ GG K) :
    Fn Tryz.prog 267 [.pointer (some ⟨b0, 0, none⟩)] K [Cells b0 163 [.slice aa p.list.length ab, .int .i64 p.atZ, .int .i64 p.line], OwnL Je.enc aa 166 4 ab p.list] (fun v K' H' => ∃ ar_0 : Option Addr, ∃ cr_0 : Nat, ∃ sr_0 : List (List Value), ∃ ar_1 : Option Addr, ∃ cr_1 : Nat, v = .agg #[.int .i64 r.1.Ab, str r.1.Ac, .slice ar_0 r.1.Aa.length cr_0, .int .i64 r.1.Ad] ∧ (0 < r.1.Aa.length → Has ar_0) ∧ LR Ja.R K' sr_0 r.1.Aa ∧ (0 < r.2.list.length → Has ar_1) ∧ H' = [OwnA ar_0 117 4 cr_0 sr_0, Cells b0 163 [.slice ar_1 r.2.list.length cr_1, .int .i64 r.2.atZ, .int .i64 r.2.line], OwnL Je.enc ar_1 166 4 cr_1 r.2.list]) := by
 obtain ⟨ae, hG⟩ := hX
 refine Fn.enter Tryz.func267 Tryz.call267 rfl fun F => ?_
 unfold JbC at hm
 refine qai rfl fun b2 => ?_
 refine cb hm fun x6 q6 hm => cfx (JcR ihrec0_0 q6 :) ?_
 rintro _ K6 _ l6 ⟨bN, bH, bI, bJ, bM, rfl, bG, bf, bL, rfl⟩
 refine qai rfl fun b3 => ?_
 refine qaa r0 rfl ⟨rfl, rfl, (nl rfl), ?_⟩
 refine cb hm fun x8 q8 hm => cgx (JS q8 :) ?_
 refine qai rfl fun b4 => ?_
 refine qaa r0 rfl ⟨rfl, rfl, (nl rfl), ?_⟩
 refine qaj rfl ?_
 refine cb hm fun bW bR hm => cgx (Jx bR :) ?_
 obtain ⟨bY, aY, hm⟩ := bnd hm
 refine cS aY (fun aV aY => ?_) fun aV aY => ?_
 refine fa rfl (ct aV (ro (ld r2 rfl rfl (ct aV (fa rfl (ct aV (ro (ld r2 rfl rfl (ct aV ?_)))))))))
 refine cb aY fun bX bQ aY => cg0 (Jcu bQ :) ?_
 refine ct aV (qac rfl ?_)
 refine qaf ?_ ?_ <;> intro bu
 replace hm := ift ((si aY).symm.trans bu) hm
 refine cb hm fun bS bO hm => ckx (Jo bO :) ?_
 rintro _ _ _ ⟨bg, bC, rfl, bp, rfl⟩
 refine qba ⟨⟨[], false⟩, _, [(_, _), (_, _)], []⟩ (by kernel_rfl) ⟨Hp.Le.refl _, (sc [2,2] rfl), ci0⟩ ?_
 refine fa rfl (qap m0 rfl rfl (qcg m1 rfl (nl rfl) ?_))
 refine cb hm fun bZ bK hm => cfx (JcR ihrec0_0 bK :) ?_
 rintro _ bV _ bc ⟨bn, bt, bv, bw, bj, rfl, bB, bb, bm, rfl⟩
 refine qk (sc [3,3] rfl) ?_
 refine qmf Tryz.call254 Ja.R_ok r5 (LR.mono Ja.R_ok bc bf) fun a8 aW aZ => ?_
 refine qmf Tryz.call254 Ja.R_ok r0 (LR.mono Ja.R_ok aW bb) fun ba aX a6 => ?_
 refine cb hm fun bU bP hm => cfx (Jby bP :) ?_
 rintro _ bT _ bD ⟨bh, bF, bz, rfl, bA, bo, rfl⟩
 refine ⟨⟨(((bc.trans aW).trans aX).trans bD), (sc [3,3] rfl), ci0⟩, ?_⟩
 refine qaa r5 rfl ⟨rfl, rfl, (nl rfl), ?_⟩
 refine ⟨⟨(((bc.trans aW).trans aX).trans bD), (sc [4,4] rfl), ci0⟩, ?_⟩
 exact ro (qab r0 rfl (nl rfl) (eE hm))
 replace hm := qbd ((si aY).symm.trans bu) hm
 refine ro (qab r3 rfl (nl rfl) ?_)
 refine qaa r5 rfl ⟨rfl, rfl, (nl rfl), ?_⟩
 exact ro (qab r0 rfl (nl rfl) (eE hm))
 refine cf aV (cf aV (cf aV (cf aV (cf aV (qac rfl (cF ?_))))))
 replace hm := qbd (si aY).symm hm
 refine ro (qab r3 rfl (nl rfl) ?_)
 refine qaa r5 rfl ⟨rfl, rfl, (nl rfl), ?_⟩
 exact ro (qab r0 rfl (nl rfl) (eE hm))

def JaL (ak : (Jb → Option (Ja × Jb))) : Nat → Jb → Option (Ja × Jb)
  | 0, _ => none
  | n + 1, p =>
    (Jy p 1 ([110, 111, 116] : Str)).bind fun x5 =>
    if x5 then
    (Jm p).bind fun x7 =>
    ((JaL ak n) x7.2).bind fun aV =>
    some ((⟨15, ([] : Str), [aV.1], x7.1.Ad⟩ : Ja), aV.2)
    else
    (JbC ak n p).bind fun aW =>
    some (aW.1, aW.2)
theorem JcS {ak : (Jb → Option (Ja × Jb))} (ihrec0_0 : ∀ {p : Jb} {b0 : Nat} {aa : Option Addr} {ab : Nat} {K : Hp} {r : Ja × Jb} (hm : ak p = some r) (hX : (0 < p.list.length → Has aa) ∧ GG K), Fn Tryz.prog 236 [.pointer (some ⟨b0, 0, none⟩)] K [Cells b0 163 [.slice aa p.list.length ab, .int .i64 p.atZ, .int .i64 p.line], OwnL Je.enc aa 166 4 ab p.list] (fun v K' H' => ∃ ar_0 : Option Addr, ∃ cr_0 : Nat, ∃ sr_0 : List (List Value), ∃ ar_1 : Option Addr, ∃ cr_1 : Nat, v = .agg #[.int .i64 r.1.Ab, str r.1.Ac, .slice ar_0 r.1.Aa.length cr_0, .int .i64 r.1.Ad] ∧ (0 < r.1.Aa.length → Has ar_0) ∧ LR Ja.R K' sr_0 r.1.Aa ∧ (0 < r.2.list.length → Has ar_1) ∧ H' = [OwnA ar_0 117 4 cr_0 sr_0, Cells b0 163 [.slice ar_1 r.2.list.length cr_1, .int .i64 r.2.atZ, .int .i64 r.2.line], OwnL Je.enc ar_1 166 4 cr_1 r.2.list])) : ∀ {n : Nat} {p : Jb} {b0 : Nat} {aa : Option Addr} {ab : Nat} {K : Hp} {r : Ja × Jb}
    (hm : JaL ak n p = some r) (hX : (0 < p.list.length → Has aa) ∧ GG K),
    Fn Tryz.prog 261 [.pointer (some ⟨b0, 0, none⟩)] K [Cells b0 163 [.slice aa p.list.length ab, .int .i64 p.atZ, .int .i64 p.line], OwnL Je.enc aa 166 4 ab p.list] (fun v K' H' => ∃ ar_0 : Option Addr, ∃ cr_0 : Nat, ∃ sr_0 : List (List Value), ∃ ar_1 : Option Addr, ∃ cr_1 : Nat, v = .agg #[.int .i64 r.1.Ab, str r.1.Ac, .slice ar_0 r.1.Aa.length cr_0, .int .i64 r.1.Ad] ∧ (0 < r.1.Aa.length → Has ar_0) ∧ LR Ja.R K' sr_0 r.1.Aa ∧ (0 < r.2.list.length → Has ar_1) ∧ H' = [OwnA ar_0 117 4 cr_0 sr_0, Cells b0 163 [.slice ar_1 r.2.list.length cr_1, .int .i64 r.2.atZ, .int .i64 r.2.line], OwnL Je.enc ar_1 166 4 cr_1 r.2.list]) := by
 intro n
 induction n with
 | zero =>
   intro p b0 aa ab K r hm hX
   rw [JaL.eq_1] at hm; cases hm
 | succ n ih =>
   intro p b0 aa ab K r hm hX
   obtain ⟨ae, hG⟩ := hX
   refine Fn.enter Tryz.func261 Tryz.call261 rfl fun F => ?_
   rw [JaL.eq_2] at hm
   refine qai rfl fun b2 => ?_
   refine cb hm fun x5 q5 hm => cgx (JI q5 :) ?_
   refine cs rfl rfl hm ?_ ?_ <;> intro w5 hm
   refine cb hm fun x7 q7 hm => ckx (Jo q7 :) ?_
   rintro _ _ _ ⟨bB, bC, rfl, bz, rfl⟩
   refine qai rfl fun b3 => ?_
   refine qaa r0 rfl ⟨rfl, rfl, (nl rfl), ?_⟩
   refine qba ⟨⟨[], false⟩, _, [(_, _)], []⟩ (by kernel_rfl) ⟨Hp.Le.refl _, (pf rfl), ci0⟩ ?_
   refine fa rfl (qap m0 rfl rfl ?_)
   refine cb hm fun aW bA hm => cfx (ih bA :) ?_
   rintro _ bI _ bf ⟨aX, aY, bp, ba, a8, rfl, bt, a6, bc, rfl⟩
   refine qk (sc [3] rfl) ?_
   refine qoc Ja.R_ok r0 a6 fun bb aV aZ => ?_
   refine qmg (R := Ja.R) (len := 1) (l := [aW.1]) (css := [[.int .i64 aW.1.Ab, str aW.1.Ac, .slice aX aW.1.Aa.length aY, .int .i64 aW.1.Ad]]) (cl := [.int .i64 aW.1.Ab, str aW.1.Ac, .slice aX aW.1.Aa.length aY, .int .i64 aW.1.Ad]) Ja.R_ok qb3 rfl rfl (LR.snoc LR.nil (Ja.of (x := aW.1) ⟨aX, aY, rfl, aZ⟩)) rfl rfl rfl ?_ fun bD => ?_
   · conv => whnf
     refine cT ?_
     first | done | rfl
   refine ⟨⟨(bf.trans aV), (sc [3] rfl), ci0⟩, ?_⟩
   refine qak rfl rfl (cT (cT (cT ?_)))
   refine qaa r4 rfl ⟨rfl, rfl, (nl rfl), ?_⟩
   refine ⟨⟨(bf.trans aV), (sc [4] rfl), ci0⟩, ?_⟩
   obtain rfl := si hm
   exact ro (qab r0 rfl (nl rfl) (en (bf.trans aV) ⟨(some ⟨bD, 0, none⟩), 1, ([[.int .i64 aW.1.Ab, str aW.1.Ac, .slice aX aW.1.Aa.length aY, .int .i64 aW.1.Ad]]), ba, a8, rfl, (fun _ => ⟨_, _, rfl⟩), (show LR Ja.R _ [[.int .i64 aW.1.Ab, str aW.1.Ac, .slice aX aW.1.Aa.length aY, .int .i64 aW.1.Ad]] [aW.1] from (LR.snoc LR.nil (Ja.of (x := aW.1) ⟨aX, aY, rfl, aZ⟩))), bc, rfl⟩ (sc [1,1,1,2] rfl)))
   refine cb hm fun bH bw hm => cfx (Jdz ihrec0_0 bw :) ?_
   rintro _ bF _ bG ⟨bo, bg, bn, bj, bm, rfl, bu, bh, bv, rfl⟩
   refine qaa r3 rfl ⟨rfl, rfl, (nl rfl), ?_⟩
   exact ro (qab r0 rfl (nl rfl) (eE hm))

def Jav (ak : (Jb → Option (Ja × Jb))) (n : Nat) : Nat → Ja → Jb → Option (Ja × Jb)
  | 0, _, _ => none
  | aY + 1, ac, aV =>
    (Jr aV).bind fun x7 =>
    (if x7 then (Jy aV 1 ([97, 110, 100] : Str)).bind fun aX =>
    some aX else some false).bind fun aZ =>
    if aZ then
    (Jm aV).bind fun a8 =>
    (JaL ak n a8.2).bind fun aW =>
    (Jak 14 ([] : Str) ac aW.1).bind fun a6 =>
    Jav ak n aY a6 aW.2
    else
    some (ac, aV)
def Jbj (ak : (Jb → Option (Ja × Jb))) (n : Nat) (p : Jb) : Option (Ja × Jb) :=
  (JaL ak n p).bind fun x5 =>
  (Jav ak n n x5.1 x5.2).bind fun t0 =>
  some (t0.1, t0.2)
theorem JcJ {ak : (Jb → Option (Ja × Jb))} (ihrec0_0 : ∀ {p : Jb} {b0 : Nat} {aa : Option Addr} {ab : Nat} {K : Hp} {r : Ja × Jb} (hm : ak p = some r) (hX : (0 < p.list.length → Has aa) ∧ GG K), Fn Tryz.prog 236 [.pointer (some ⟨b0, 0, none⟩)] K [Cells b0 163 [.slice aa p.list.length ab, .int .i64 p.atZ, .int .i64 p.line], OwnL Je.enc aa 166 4 ab p.list] (fun v K' H' => ∃ ar_0 : Option Addr, ∃ cr_0 : Nat, ∃ sr_0 : List (List Value), ∃ ar_1 : Option Addr, ∃ cr_1 : Nat, v = .agg #[.int .i64 r.1.Ab, str r.1.Ac, .slice ar_0 r.1.Aa.length cr_0, .int .i64 r.1.Ad] ∧ (0 < r.1.Aa.length → Has ar_0) ∧ LR Ja.R K' sr_0 r.1.Aa ∧ (0 < r.2.list.length → Has ar_1) ∧ H' = [OwnA ar_0 117 4 cr_0 sr_0, Cells b0 163 [.slice ar_1 r.2.list.length cr_1, .int .i64 r.2.atZ, .int .i64 r.2.line], OwnL Je.enc ar_1 166 4 cr_1 r.2.list])) {n : Nat} {p : Jb} {b0 : Nat} {aa : Option Addr} {ab : Nat} {K : Hp} {r : Ja × Jb}
    (hm : Jbj ak n p = some r) (hX : (0 < p.list.length → Has aa) ∧ GG K) :
    Fn Tryz.prog 253 [.pointer (some ⟨b0, 0, none⟩)] K [Cells b0 163 [.slice aa p.list.length ab, .int .i64 p.atZ, .int .i64 p.line], OwnL Je.enc aa 166 4 ab p.list] (fun v K' H' => ∃ ar_0 : Option Addr, ∃ cr_0 : Nat, ∃ sr_0 : List (List Value), ∃ ar_1 : Option Addr, ∃ cr_1 : Nat, v = .agg #[.int .i64 r.1.Ab, str r.1.Ac, .slice ar_0 r.1.Aa.length cr_0, .int .i64 r.1.Ad] ∧ (0 < r.1.Aa.length → Has ar_0) ∧ LR Ja.R K' sr_0 r.1.Aa ∧ (0 < r.2.list.length → Has ar_1) ∧ H' = [OwnA ar_0 117 4 cr_0 sr_0, Cells b0 163 [.slice ar_1 r.2.list.length cr_1, .int .i64 r.2.atZ, .int .i64 r.2.line], OwnL Je.enc ar_1 166 4 cr_1 r.2.list]) := by
 obtain ⟨ae, hG⟩ := hX
 refine Fn.enter Tryz.func253 Tryz.call253 rfl fun F => ?_
 unfold Jbj at hm
 refine qai rfl fun b2 => ?_
 refine cb hm fun x5 q5 hm => cfx (JcS ihrec0_0 q5 :) ?_
 rintro _ K5 _ l5 ⟨ca, cm, bV, ce, cp, rfl, cn, bZ, bY, rfl⟩
 refine qai rfl fun b3 => ?_
 refine qaa r0 rfl ⟨rfl, rfl, (nl rfl), ?_⟩
 obtain ⟨s0, a6, hm⟩ := bnd hm
 refine lC (σ := (Ja × Jb) × Option Addr × Nat × List (List Value) × Option Addr × Nat) (rg 6 12) [4, 5] (fun _ => []) (fun _ => []) (fun (t0, aW, aX, aY, aV, aZ) => [Cells b3 117 [.int .i64 t0.1.Ab, str t0.1.Ac, .slice aW t0.1.Aa.length aX, .int .i64 t0.1.Ad], OwnA aW 117 4 aX aY, Cells b0 163 [.slice aV t0.2.list.length aZ, .int .i64 t0.2.atZ, .int .i64 t0.2.line], OwnL Je.enc aV 166 4 aZ t0.2.list]) (fun zz K1 => match zz with | (t0, aW, aX, aY, aV, aZ) => (0 < t0.1.Aa.length → Has aW) ∧ LR Ja.R K1 aY t0.1.Aa ∧ (0 < t0.2.list.length → Has aV)) (fun i0 (t0, aW, aX, aY, aV, aZ) => Jav ak n i0 t0.1 t0.2 = some s0) (fun (t0, aW, aX, aY, aV, aZ) => t0 = s0) (fun i0 => i0) n ((_, _), _, _, _, _, _) a6 (And.intro qe (And.intro ?_ ?_))
 clear a6
 rintro i0 ⟨⟨ac, bU⟩, bv, bt, bz, bu, bw⟩ cu cH ⟨bB, bb, bo⟩ a6 j0
 dsimp only at a6 ⊢
 cases i0 with
 | zero => rw [Jav.eq_1] at a6; cases a6
 | succ i0 =>
  rw [Jav.eq_2] at a6
  refine qaj rfl ?_
  refine cb a6 fun x7 q7 a6 => cgx (Jx q7 :) ?_
  obtain ⟨cC, bc, a6⟩ := bnd a6
  refine cS bc (fun ba bc => ?_) fun ba bc => ?_
  refine ct ba ?_
  refine cb bc fun cG cq bc => cgx (JI cq :) ?_
  refine ct ba (qac rfl ?_)
  refine qaf ?_ ?_ <;> intro bD
  replace a6 := ift ((si bc).symm.trans bD) a6
  refine qam rfl ?_
  refine cb a6 fun cy bW a6 => ckx (Jo bW :) ?_
  rintro _ _ _ ⟨bT, bS, rfl, bP, rfl⟩
  refine qa6 ⟨⟨[], false⟩, _, [(_, _)], []⟩ 3 rfl (by kernel_rfl) ⟨Hp.Le.refl _, (sc [2] rfl), ci0⟩ ?_
  refine qcg m0 rfl (nl rfl) ?_
  refine cb a6 fun cI bX a6 => cfx (JcS ihrec0_0 bX :) ?_
  rintro _ cw _ cd ⟨bM, bF, bH, bG, bO, rfl, bL, bf, bI, rfl⟩
  refine qk (sc [3] rfl) ?_
  refine qmf Tryz.call254 Ja.R_ok r4 (LR.mono Ja.R_ok cd bb) fun bn a8 bm => ?_
  refine qmf Tryz.call254 Ja.R_ok r0 (LR.mono Ja.R_ok a8 bf) fun bj bh bg => ?_
  refine cb a6 fun cA cj a6 => cfx (Jby cj :) ?_
  rintro _ cD _ cz ⟨bJ, bR, bK, rfl, bQ, bN, rfl⟩
  refine ⟨⟨Hp.emp_le _, (pf rfl), ci0⟩, ?_⟩
  refine qaa r3 rfl ⟨rfl, rfl, (nl rfl), ?_⟩
  refine ⟨⟨Hp.emp_le _, (pf rfl), ci0⟩, ?_⟩
  exact eR a6 (_, (_, _), _, _, _, _, _)
  replace a6 := qbd ((si bc).symm.trans bD) a6
  refine cT ?_
  exact eM a6 (_, _, _, _, _, _)
  refine cf ba (cf ba (qac rfl (cF ?_)))
  replace a6 := qbd (si bc).symm a6
  refine cT ?_
  exact eM a6 (_, _, _, _, _, _)
 rintro ⟨t0, aW, aX, aY, aV, aZ⟩ cB cr ⟨bC, bA, bp⟩ rfl j0
 refine ro (qab r0 rfl (nl rfl) ?_)
 refine qaa r4 rfl ⟨rfl, rfl, (nl rfl), ?_⟩
 exact ro (qab r0 rfl (nl rfl) (eE hm))

def Jaw (rec_ : (Jb → Option (Ja × Jb))) (n : Nat) : Nat → Ja → Jb → Option (Ja × Jb)
  | 0, _, _ => none
  | aY + 1, ac, aV =>
    (Jr aV).bind fun x7 =>
    (if x7 then (Jy aV 1 ([111, 114] : Str)).bind fun aX =>
    some aX else some false).bind fun aZ =>
    if aZ then
    (Jm aV).bind fun a8 =>
    (Jbj rec_ n a8.2).bind fun aW =>
    (Jak 13 ([] : Str) ac aW.1).bind fun a6 =>
    Jaw rec_ n aY a6 aW.2
    else
    some (ac, aV)
def JT : Nat → Jb → Option (Ja × Jb)
  | 0, _ => none
  | n + 1, p =>
    (Jbj (JT n) n p).bind fun x5 =>
    (Jaw (JT n) n n x5.1 x5.2).bind fun t0 =>
    some (t0.1, t0.2)
theorem Jb6 : ∀ {n : Nat} {p : Jb} {b0 : Nat} {aa : Option Addr} {ab : Nat} {K : Hp} {r : Ja × Jb}
    (hm : JT n p = some r) (hX : (0 < p.list.length → Has aa) ∧ GG K),
    Fn Tryz.prog 236 [.pointer (some ⟨b0, 0, none⟩)] K [Cells b0 163 [.slice aa p.list.length ab, .int .i64 p.atZ, .int .i64 p.line], OwnL Je.enc aa 166 4 ab p.list] (fun v K' H' => ∃ ar_0 : Option Addr, ∃ cr_0 : Nat, ∃ sr_0 : List (List Value), ∃ ar_1 : Option Addr, ∃ cr_1 : Nat, v = .agg #[.int .i64 r.1.Ab, str r.1.Ac, .slice ar_0 r.1.Aa.length cr_0, .int .i64 r.1.Ad] ∧ (0 < r.1.Aa.length → Has ar_0) ∧ LR Ja.R K' sr_0 r.1.Aa ∧ (0 < r.2.list.length → Has ar_1) ∧ H' = [OwnA ar_0 117 4 cr_0 sr_0, Cells b0 163 [.slice ar_1 r.2.list.length cr_1, .int .i64 r.2.atZ, .int .i64 r.2.line], OwnL Je.enc ar_1 166 4 cr_1 r.2.list]) := by
 intro n
 induction n with
 | zero =>
   intro p b0 aa ab K r hm hX
   rw [JT.eq_1] at hm; cases hm
 | succ n ih =>
   intro p b0 aa ab K r hm hX
   obtain ⟨ae, hG⟩ := hX
   refine Fn.enter Tryz.func236 Tryz.call236 rfl fun F => ?_
   rw [JT.eq_2] at hm
   refine qai rfl fun b2 => ?_
   refine cb hm fun x5 q5 hm => cfx (JcJ ih q5 :) ?_
   rintro _ K5 _ l5 ⟨ca, cm, bV, ce, cp, rfl, cn, bZ, bY, rfl⟩
   refine qai rfl fun b3 => ?_
   refine qaa r0 rfl ⟨rfl, rfl, (nl rfl), ?_⟩
   obtain ⟨s0, a6, hm⟩ := bnd hm
   refine lC (σ := (Ja × Jb) × Option Addr × Nat × List (List Value) × Option Addr × Nat) (rg 6 12) [4, 5] (fun _ => []) (fun _ => []) (fun (t0, aW, aX, aY, aV, aZ) => [Cells b3 117 [.int .i64 t0.1.Ab, str t0.1.Ac, .slice aW t0.1.Aa.length aX, .int .i64 t0.1.Ad], OwnA aW 117 4 aX aY, Cells b0 163 [.slice aV t0.2.list.length aZ, .int .i64 t0.2.atZ, .int .i64 t0.2.line], OwnL Je.enc aV 166 4 aZ t0.2.list]) (fun zz K1 => match zz with | (t0, aW, aX, aY, aV, aZ) => (0 < t0.1.Aa.length → Has aW) ∧ LR Ja.R K1 aY t0.1.Aa ∧ (0 < t0.2.list.length → Has aV)) (fun i0 (t0, aW, aX, aY, aV, aZ) => Jaw (JT n) n i0 t0.1 t0.2 = some s0) (fun (t0, aW, aX, aY, aV, aZ) => t0 = s0) (fun i0 => i0) n ((_, _), _, _, _, _, _) a6 (And.intro qe (And.intro ?_ ?_))
   clear a6
   rintro i0 ⟨⟨ac, bU⟩, bv, bt, bz, bu, bw⟩ cu cH ⟨bB, bb, bo⟩ a6 j0
   dsimp only at a6 ⊢
   cases i0 with
   | zero => rw [Jaw.eq_1] at a6; cases a6
   | succ i0 =>
    rw [Jaw.eq_2] at a6
    refine qaj rfl ?_
    refine cb a6 fun x7 q7 a6 => cgx (Jx q7 :) ?_
    obtain ⟨cB, bc, a6⟩ := bnd a6
    refine cS bc (fun ba bc => ?_) fun ba bc => ?_
    refine ct ba ?_
    refine cb bc fun cG cq bc => cgx (JI cq :) ?_
    refine ct ba (qac rfl ?_)
    refine qaf ?_ ?_ <;> intro bD
    replace a6 := ift ((si bc).symm.trans bD) a6
    refine qam rfl ?_
    refine cb a6 fun cy bW a6 => ckx (Jo bW :) ?_
    rintro _ _ _ ⟨bT, bS, rfl, bP, rfl⟩
    refine qa6 ⟨⟨[], false⟩, _, [(_, _)], []⟩ 3 rfl (by kernel_rfl) ⟨Hp.Le.refl _, (sc [2] rfl), ci0⟩ ?_
    refine qcg m0 rfl (nl rfl) ?_
    refine cb a6 fun cI bX a6 => cfx (JcJ ih bX :) ?_
    rintro _ cw _ cd ⟨bM, bF, bH, bG, bO, rfl, bL, bf, bI, rfl⟩
    refine qk (sc [3] rfl) ?_
    refine qmf Tryz.call254 Ja.R_ok r4 (LR.mono Ja.R_ok cd bb) fun bn a8 bm => ?_
    refine qmf Tryz.call254 Ja.R_ok r0 (LR.mono Ja.R_ok a8 bf) fun bj bh bg => ?_
    refine cb a6 fun cA cj a6 => cfx (Jby cj :) ?_
    rintro _ cD _ cz ⟨bJ, bR, bK, rfl, bQ, bN, rfl⟩
    refine ⟨⟨Hp.emp_le _, (pf rfl), ci0⟩, ?_⟩
    refine qaa r3 rfl ⟨rfl, rfl, (nl rfl), ?_⟩
    refine ⟨⟨Hp.emp_le _, (pf rfl), ci0⟩, ?_⟩
    exact eR a6 (_, (_, _), _, _, _, _, _)
    replace a6 := qbd ((si bc).symm.trans bD) a6
    refine cT ?_
    exact eM a6 (_, _, _, _, _, _)
    refine cf ba (cf ba (qac rfl (cF ?_)))
    replace a6 := qbd (si bc).symm a6
    refine cT ?_
    exact eM a6 (_, _, _, _, _, _)
   rintro ⟨t0, aW, aX, aY, aV, aZ⟩ cC cr ⟨bC, bA, bp⟩ rfl j0
   refine ro (qab r0 rfl (nl rfl) ?_)
   refine qaa r4 rfl ⟨rfl, rfl, (nl rfl), ?_⟩
   exact ro (qab r0 rfl (nl rfl) (eE hm))
