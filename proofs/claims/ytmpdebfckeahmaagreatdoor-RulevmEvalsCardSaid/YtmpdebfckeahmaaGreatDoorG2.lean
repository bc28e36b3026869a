/- Functions of the program: mirrors, and that a call returns what the mirror says. Printed by gen.py. -/
import Derived.Test.YtmpdebfckeahmaaGreatDoorG1
set_option linter.unusedVariables false
set_option linter.unusedSimpArgs false
open Go Go.SL Go.Proofs
noncomputable section
set_option maxRecDepth 1000000
set_option maxHeartbeats 8000000
def JS (op : Str) (a : Jd) (b : Jd) : Option (Jd × Bool) :=
  if decide (a.kind ≠ b.kind) then
  some ((⟨0, 0, ([] : Str), false⟩ : Jd), false)
  else
  if decide (op = ([43] : Str)) then
  if decide (a.kind = 1) then
  (chk (a.s.length + b.s.length ≤ lim)).bind fun _ =>
  (JaA (a.s ++ b.s)).bind fun a8 =>
  some (a8, true)
  else
  (chk (InI (a.n + b.n))).bind fun _ =>
  (JbH (a.n + b.n)).bind fun aY =>
  some (aY, decide (a.kind = 2))
  else
  if decide (op = ([45] : Str)) then
  (chk (InI (a.n - b.n))).bind fun _ =>
  (JbH (a.n - b.n)).bind fun a6 =>
  some (a6, decide (a.kind = 2))
  else
  if decide (op = ([42] : Str)) then
  if (!decide (a.kind = 2)) then
  some ((⟨0, 0, ([] : Str), false⟩ : Jd), false)
  else
  (JcM a.n b.n).bind fun aX =>
  some (aX, true)
  else
  if decide (op = ([61, 61] : Str)) then
  (JaC (decide (a.kind = b.kind) && (decide (a.n = b.n) && (decide (a.s = b.s) && (a.At == b.At))))).bind fun aW =>
  some (aW, true)
  else
  if decide (op = ([33, 61] : Str)) then
  (JaC (!(decide (a.kind = b.kind) && (decide (a.n = b.n) && (decide (a.s = b.s) && (a.At == b.At)))))).bind fun bd =>
  some (bd, true)
  else
  if decide (op = ([60] : Str)) then
  (JaC (decide (a.n < b.n))).bind fun aZ =>
  some (aZ, decide (a.kind = 2))
  else
  if decide (op = ([60, 61] : Str)) then
  (JaC (decide (a.n ≤ b.n))).bind fun ba =>
  some (ba, decide (a.kind = 2))
  else
  if decide (op = ([115, 116, 97, 114, 116, 115] : Str)) then
  (J2 a.s b.s).bind fun bb =>
  (JaC bb).bind fun bc =>
  some (bc, decide (a.kind = 1))
  else
  if decide (op = ([101, 110, 100, 115] : Str)) then
  (Jb8 a.s b.s).bind fun aT =>
  (JaC aT).bind fun aV =>
  some (aV, decide (a.kind = 1))
  else
  (qdo a.s b.s).bind fun aU =>
  (JaC aU).bind fun aS =>
  some (aS, decide (a.kind = 1))
theorem JdY {op : Str} {a : Jd} {b : Jd} {K : Hp} {r : Jd × Bool}
    (hm : JS op a b = some r) (hG : GG K) :
    Fn Tryz.prog 67 [str op, .agg #[.int .i64 a.kind, .int .i64 a.n, str a.s, .bool a.At], .agg #[.int .i64 b.kind, .int .i64 b.n, str b.s, .bool b.At]] K [] (fun v K' H' => v = .tuple #[.agg #[.int .i64 r.1.kind, .int .i64 r.1.n, str r.1.s, .bool r.1.At], .bool r.2] ∧ H' = []) := by
 refine Fn.enter Tryz.func67 Tryz.call67 rfl fun F => ?_
 unfold JS at hm
 refine qaq ?_
 intro b4
 refine qaq ?_
 intro b5
 refine qal rfl fun b6 => ?_
 refine fa rfl (ro (ld r2 rfl rfl (fa rfl (ro (ld r1 rfl rfl (qa2 ?_))))))
 refine cs rfl rfl hm ?_ ?_ <;> intro bJ hm
 refine qak rfl rfl ?_
 refine qaa r0 rfl ⟨rfl, rfl, (nl rfl), ?_⟩
 exact ro (qae r0 rfl (nl rfl) (eE hm))
 refine qau ⟨⟨[], false⟩, _, [(_, _)], []⟩ (by kernel_rfl) ⟨Hp.Le.refl _, (sc [2] rfl), ci0⟩ ?_
 refine fa rfl (qan m0 rfl rfl (qad (fa rfl (qan m0 rfl rfl (qad ?_)))))
 refine qai rfl ?_
 refine qam (cs rfl rfl hm ?_ ?_) <;> intro bz hm
 refine cs rfl rfl hm ?_ ?_ <;> intro bC hm
 refine fa rfl (ro (ld r2 rfl rfl (fa rfl (ro (ld r1 rfl rfl ?_)))))
 obtain ⟨bc, hm⟩ := qay hm
 refine qbk bc ?_
 refine cb hm fun bu ba hm => cg0 (Jaj ba :) ?_
 refine qaa r0 rfl ⟨rfl, rfl, (nl rfl), ?_⟩
 exact ro (qae r0 rfl (nl rfl) (eE hm))
 refine fa rfl (ro (ld r2 rfl rfl (fa rfl (ro (ld r1 rfl rfl ?_)))))
 refine ci hm fun hm => ?_
 refine cb hm fun bH bf hm => cg0 (Jbo bf :) ?_
 refine qaa r0 rfl ⟨rfl, rfl, (nl rfl), ?_⟩
 exact ro (qae r0 rfl (nl rfl) (eE hm))
 refine qam (cs rfl rfl hm ?_ ?_) <;> intro bF hm
 refine fa rfl (ro (ld r2 rfl rfl (fa rfl (ro (ld r1 rfl rfl ?_)))))
 refine ci hm fun hm => ?_
 refine cb hm fun bt a8 hm => cg0 (Jbo a8 :) ?_
 refine qaa r0 rfl ⟨rfl, rfl, (nl rfl), ?_⟩
 exact ro (qae r0 rfl (nl rfl) (eE hm))
 refine qam (cs rfl rfl hm ?_ ?_) <;> intro bp hm
 refine qa1 ?_
 refine cs rfl rfl hm ?_ ?_ <;> intro bN hm
 refine qak rfl rfl ?_
 refine qaa r0 rfl ⟨rfl, rfl, (nl rfl), ?_⟩
 exact ro (qae r0 rfl (nl rfl) (eE hm))
 refine fa rfl (ro (ld r2 rfl rfl (fa rfl (ro (ld r1 rfl rfl ?_)))))
 refine cb hm fun bA aW hm => cg0 (Je2 aW :) ?_
 refine qaa r0 rfl ⟨rfl, rfl, (nl rfl), ?_⟩
 exact ro (qae r0 rfl (nl rfl) (eE hm))
 refine qam (cs rfl rfl hm ?_ ?_) <;> intro bG hm
 refine ro (qae r2 rfl (nl rfl) (ro (qae r1 rfl (nl rfl) ?_)))
 refine qs8 (b := (decide (a.kind = b.kind) && (decide (a.n = b.n) && (decide (a.s = b.s) && (a.At == b.At))))) rfl (by kernel_rfl) (by kernel_rfl) (by kernel_rfl) rfl ?_
 refine cb hm fun bn a6 hm => cg0 (Jaq a6 :) ?_
 refine qaa r0 rfl ⟨rfl, rfl, (nl rfl), ?_⟩
 exact ro (qae r0 rfl (nl rfl) (eE hm))
 refine qam (cs rfl rfl hm ?_ ?_) <;> intro br hm
 refine ro (qae r2 rfl (nl rfl) (ro (qae r1 rfl (nl rfl) ?_)))
 refine qo4 (b := (decide (a.kind = b.kind) && (decide (a.n = b.n) && (decide (a.s = b.s) && (a.At == b.At))))) rfl (by kernel_rfl) (by kernel_rfl) (by kernel_rfl) rfl ?_
 refine cb hm fun bK bg hm => cg0 (Jaq bg :) ?_
 refine qaa r0 rfl ⟨rfl, rfl, (nl rfl), ?_⟩
 exact ro (qae r0 rfl (nl rfl) (eE hm))
 refine qam (cs rfl rfl hm ?_ ?_) <;> intro bB hm
 refine fa rfl (ro (ld r2 rfl rfl (fa rfl (ro (ld r1 rfl rfl ?_)))))
 refine cb hm fun bL bh hm => cg0 (Jaq bh :) ?_
 refine qaa r0 rfl ⟨rfl, rfl, (nl rfl), ?_⟩
 exact ro (qae r0 rfl (nl rfl) (eE hm))
 refine qam (cs rfl rfl hm ?_ ?_) <;> intro bo hm
 refine fa rfl (ro (ld r2 rfl rfl (fa rfl (ro (ld r1 rfl rfl ?_)))))
 refine cb hm fun bO bj hm => cg0 (Jaq bj :) ?_
 refine qaa r0 rfl ⟨rfl, rfl, (nl rfl), ?_⟩
 exact ro (qae r0 rfl (nl rfl) (eE hm))
 refine qam (cs rfl rfl hm ?_ ?_) <;> intro bD hm
 refine fa rfl (ro (ld r2 rfl rfl (fa rfl (ro (ld r1 rfl rfl ?_)))))
 refine cb hm fun bI aZ hm => cg0 (Jbn aZ :) ?_
 refine cb hm fun bM aX hm => cg0 (Jaq aX :) ?_
 refine qaa r0 rfl ⟨rfl, rfl, (nl rfl), ?_⟩
 exact ro (qae r0 rfl (nl rfl) (eE hm))
 refine qam (cs rfl rfl hm ?_ ?_) <;> intro bw hm
 refine fa rfl (ro (ld r2 rfl rfl (fa rfl (ro (ld r1 rfl rfl ?_)))))
 refine cb hm fun bb aS hm => cg0 (JeE aS :) ?_
 refine cb hm fun bd aT hm => cg0 (Jaq aT :) ?_
 refine qaa r0 rfl ⟨rfl, rfl, (nl rfl), ?_⟩
 exact ro (qae r0 rfl (nl rfl) (eE hm))
 refine fa rfl (ro (ld r2 rfl rfl (fa rfl (ro (ld r1 rfl rfl ?_)))))
 refine cb hm fun bm aU hm => cg0 (qli aU (gg3 hG)) ?_
 refine cb hm fun aY aV hm => cg0 (Jaq aV :) ?_
 refine qaa r0 rfl ⟨rfl, rfl, (nl rfl), ?_⟩
 exact ro (qae r0 rfl (nl rfl) (eE hm))

def qb2 (c : UInt8) : Option (Bool) :=
  if (decide ((c.toNat : Int) ≥ 48) && decide ((c.toNat : Int) ≤ 57)) then
  some true
  else
  if (decide ((c.toNat : Int) ≥ 97) && decide ((c.toNat : Int) ≤ 122)) then
  some true
  else
  if (decide ((c.toNat : Int) ≥ 65) && decide ((c.toNat : Int) ≤ 90)) then
  some true
  else
  (qim ([33, 35, 36, 37, 38, 39, 42, 43, 45, 46, 94, 95, 96, 124, 126] : Str) c).bind fun aS =>
  some (decide (aS ≥ 0))
theorem qf8 {c : UInt8} {K : Hp} {r : Bool}
    (hm : qb2 c = some r)  :
    Fn Tryz.prog 213 [.int .u8 (c.toNat : Int)] K [] (fun v K' H' => v = .bool r ∧ H' = []) := by
 refine Fn.enter Tryz.func213 Tryz.call213 rfl fun F => ?_
 unfold qb2 at hm
 refine qai rfl ?_
 refine jR (σ := Unit) (rg 3 7) (fun _ => [(3, .bool (decide ((c.toNat : Int) ≥ 48) && decide ((c.toNat : Int) ≤ 57)))]) (fun aX => True) ?_ ?_
 refine qah rfl ?_
 refine qag ?_ ?_ <;> intro aU
 refine ct aU (ct aU ?_)
 exact eMt () ⟨bq (qbw (b := decide ((c.toNat : Int) ≤ 57)) aU), trivial⟩
 refine cf aU (cf aU ?_)
 exact eMt () ⟨bq (((qa0 aU)).symm), trivial⟩
 rintro _ _ aY
 refine cs rfl rfl hm ?_ ?_ <;> intro w3 hm
 refine qaf rfl (ct w3 ?_)
 exact eE hm
 refine qah rfl ?_
 refine qag ?_ ?_ <;> intro aT
 refine ct aT (ct aT (qaf rfl ?_))
 refine qag ?_ ?_ <;> intro w3
 replace hm := ift (qby aT w3) hm
 refine qaf rfl (ct w3 ?_)
 exact eE hm
 replace hm := qa6 (qb8 aT w3) hm
 refine qah rfl ?_
 refine qag ?_ ?_ <;> intro aS
 refine ct aS (ct aS (qaf rfl ?_))
 refine qag ?_ ?_ <;> intro w3
 replace hm := ift (qby aS w3) hm
 exact eE hm
 replace hm := qa6 (qb8 aS w3) hm
 refine cb hm fun aW aV hm => cg0 (qnc aV) ?_
 exact eE hm
 refine cf aS (cf aS (qaf rfl (cF ?_)))
 replace hm := qa6 (qa0 aS) hm
 refine cb hm fun aW aV hm => cg0 (qnc aV) ?_
 exact eE hm
 refine cf aT (cf aT (qaf rfl (cF ?_)))
 replace hm := qa6 (qa0 aT) hm
 refine qah rfl ?_
 refine qag ?_ ?_ <;> intro aS
 refine ct aS (ct aS (qaf rfl ?_))
 refine qag ?_ ?_ <;> intro w3
 replace hm := ift (qby aS w3) hm
 exact eE hm
 replace hm := qa6 (qb8 aS w3) hm
 refine cb hm fun aW aV hm => cg0 (qnc aV) ?_
 exact eE hm
 refine cf aS (cf aS (qaf rfl (cF ?_)))
 replace hm := qa6 (qa0 aS) hm
 refine cb hm fun aW aV hm => cg0 (qnc aV) ?_
 exact eE hm

def syntax_Token_L0 : List UInt8 → Nat → Option (Fl (Bool) (Unit))
  | [], _ => some (Fl.go ())
  | e0 :: aT, i0 =>
    (qb2 e0).bind fun aS =>
    if (!aS) then
    some (Fl.ret false)
    else
    syntax_Token_L0 aT (i0 + 1)
def qcd (s : Str) : Option (Bool) :=
  (chk (s.length ≤ qax)).bind fun _ =>
  (syntax_Token_L0 s 0).bind fun s0 => s0.el some fun t0 =>
  some (decide (s ≠ ([] : Str)))
theorem qf9 {s : Str} {K : Hp} {r : Bool}
    (hm : qcd s = some r)  :
    Fn Tryz.prog 183 [str s] K [] (fun v K' H' => v = .bool r ∧ H' = []) := by
 refine Fn.enter Tryz.func183 Tryz.call183 rfl fun F => ?_
 unfold qcd at hm
 refine ro (qat rfl ?_)
 obtain ⟨aV, hm⟩ := qay hm
 obtain ⟨s0, aS, hm⟩ := bnd hm
 refine lD (σ := (Unit)) ([2,3] ++ rg 6 9) [0] (fun i0 => [(6, .int .i64 (i0 : Int))]) (fun _ => []) (fun _ => []) (fun _ => True) (fun i0 _ => syntax_Token_L0 (s.drop i0) i0 = some s0) (fun t0 => s0 = Fl.go t0) (fun i0 => s.length - i0) 0 () aS (And.intro qe (And.intro ?_ ?_))
 clear aS
 rintro i0 _ _ aS j0
 conv at aS => whnf
 refine qaf rfl ?_
 refine qag ?_ ?_ <;> intro w0
 obtain ⟨e0, aT, aW⟩ := ltx w0
 rw [aW, syntax_Token_L0.eq_2] at aS
 refine qai rfl ?_
 refine qaz rfl (nn _) aT ?_
 refine cb aS fun aX aU aS => cg0 (qf8 aU :) ?_
 refine qa1 ?_
 refine cs rfl rfl aS ?_ ?_ <;> intro aY aS
 exact eE (er aS hm)
 refine qar (qbu aT aV) ?_
 exact eR aS (_, ())
 rw [lty w0, syntax_Token_L0.eq_1] at aS
 refine cT ?_
 exact eM aS _
 rintro t0 _ rfl j0
 replace hm := elg hm
 refine qb4 ?_
 exact eE hm

def JdZ (s : Str) : Option (Str × Err) :=
  (qcd s).bind fun x5 =>
  if (!x5) then
  some (([] : Str), (some 8))
  else
  if decide ((s.length : Int) > 64) then
  some (([] : Str), (some 5))
  else
  (Jcd s).bind fun aS =>
  some (aS, none)
theorem Jf5 {s : Str} {K : Hp} {r : Str × Err}
    (hm : JdZ s = some r)  :
    Fn Tryz.prog 150 [str s] K [] (fun v K' H' => v = .tuple #[str r.1, qde 87 r.2] ∧ H' = []) := by
 refine Fn.enter Tryz.func150 Tryz.call150 rfl fun F => ?_
 unfold JdZ at hm
 refine cb hm fun x5 q5 hm => cg0 (qf9 q5 :) ?_
 refine qa1 ?_
 refine cs rfl rfl hm ?_ ?_ <;> intro w6 hm
 refine qa7 rfl ?_
 exact eE hm
 refine ro (qat rfl ?_)
 refine cs rfl rfl hm ?_ ?_ <;> intro aU hm
 refine qa7 rfl ?_
 exact eE hm
 refine cb hm fun aT aS hm => cg0 (JcL aS :) ?_
 exact eE hm

def Jbi : List UInt8 → Nat → Option (Fl (Bool) (Unit))
  | [], _ => some (Fl.go ())
  | e0 :: aU, i0 =>
    (if decide ((e0.toNat : Int) < 32) then some (decide ((e0.toNat : Int) ≠ 9)) else some false).bind fun aS =>
    (if aS then some true else some (decide ((e0.toNat : Int) = 127))).bind fun aT =>
    if aT then
    some (Fl.ret true)
    else
    Jbi aU (i0 + 1)
def Jc7 (s : Str) : Option (Bool) :=
  (chk (s.length ≤ qax)).bind fun _ =>
  (Jbi s 0).bind fun s0 => s0.el some fun t0 =>
  some false
theorem Jfo {s : Str} {K : Hp} {r : Bool}
    (hm : Jc7 s = some r)  :
    Fn Tryz.prog 184 [str s] K [] (fun v K' H' => v = .bool r ∧ H' = []) := by
 refine Fn.enter Tryz.func184 Tryz.call184 rfl fun F => ?_
 unfold Jc7 at hm
 refine ro (qat rfl ?_)
 obtain ⟨aZ, hm⟩ := qay hm
 obtain ⟨s0, aU, hm⟩ := bnd hm
 refine lD (σ := (Unit)) ([2,3] ++ rg 6 20) [0] (fun i0 => [(6, .int .i64 (i0 : Int))]) (fun _ => []) (fun _ => []) (fun _ => True) (fun i0 _ => Jbi (s.drop i0) i0 = some s0) (fun t0 => s0 = Fl.go t0) (fun i0 => s.length - i0) 0 () aU (And.intro qe (And.intro ?_ ?_))
 clear aU
 rintro i0 _ _ aU j0
 conv at aU => whnf
 refine qaf rfl ?_
 refine qag ?_ ?_ <;> intro w0
 obtain ⟨e0, aX, a6⟩ := ltx w0
 rw [a6, Jbi.eq_2] at aU
 refine qai rfl ?_
 refine qah rfl ?_
 refine qaz rfl (nn _) aX ?_
 obtain ⟨ba, aW, aU⟩ := bnd aU
 refine cS aW (fun aT aW => ?_) fun aT aW => ?_
 refine ct aT (ct aT (qaz rfl (nn _) aX (ct aT (qa2 (ct aT ?_)))))
 obtain ⟨a8, aV, aU⟩ := bnd aU
 refine qag ?_ ?_ <;> intro aS
 replace aV := ift ((si aW).symm.trans aS) aV
 refine ct aS (ct aS (ct aS (ct aS (qaf rfl (cT ?_)))))
 replace aU := ift (si aV).symm aU
 exact eE (er aU hm)
 replace aV := qa6 ((si aW).symm.trans aS) aV
 refine cf aS (cf aS (qaz rfl (nn _) aX (cf aS (qad (cf aS (qaf rfl ?_))))))
 refine qag ?_ ?_ <;> intro aY
 replace aU := ift ((si aV).symm.trans aY) aU
 exact eE (er aU hm)
 replace aU := qa6 ((si aV).symm.trans aY) aU
 refine qar (qbu aX aZ) ?_
 exact eR aU (_, ())
 refine cf aT (cf aT (cf aT (cf aT ?_)))
 obtain ⟨a8, aV, aU⟩ := bnd aU
 replace aV := qa6 (si aW).symm aV
 refine cF (cF (cF (qaz rfl (nn _) aX (cF (qad (cF (qaf rfl ?_)))))))
 refine qag ?_ ?_ <;> intro aY
 replace aU := ift ((si aV).symm.trans aY) aU
 exact eE (er aU hm)
 replace aU := qa6 ((si aV).symm.trans aY) aU
 refine qar (qbu aX aZ) ?_
 exact eR aU (_, ())
 rw [lty w0, Jbi.eq_1] at aU
 refine cT ?_
 exact eM aU _
 rintro t0 _ rfl j0
 replace hm := elg hm
 exact eE hm

def JdD (s : Str) : Option (Str × Err) :=
  (Jc7 s).bind fun x5 =>
  if x5 then
  some (([] : Str), (some 2))
  else
  (qkt s ([32, 9] : Str)).bind fun x8 =>
  if decide ((x8.length : Int) > 2048) then
  some (([] : Str), (some 5))
  else
  some (x8, none)
theorem JfI {s : Str} {K : Hp} {r : Str × Err}
    (hm : JdD s = some r)  :
    Fn Tryz.prog 151 [str s] K [] (fun v K' H' => v = .tuple #[str r.1, qde 87 r.2] ∧ H' = []) := by
 refine Fn.enter Tryz.func151 Tryz.call151 rfl fun F => ?_
 unfold JdD at hm
 refine cb hm fun x5 q5 hm => cg0 (Jfo q5 :) ?_
 refine cs rfl rfl hm ?_ ?_ <;> intro w5 hm
 refine qa7 rfl ?_
 exact eE hm
 refine cb hm fun x8 q8 hm => cg0 (qvu q8) ?_
 refine ro (qat rfl ?_)
 refine cs rfl rfl hm ?_ ?_ <;> intro aS hm
 refine qa7 rfl ?_
 exact eE hm
 exact eE hm

def Jbt (x12 : Str) (value : Str) : List Je → Nat → (List Je) → Bool → Option ((List Je) × Bool)
  | [], _, ac, aS => some (ac, aS)
  | e0 :: aT, i0, ac, aS =>
    (Jcd e0.Name).bind fun aU =>
    if decide (aU ≠ x12) then
    (chk (ac.length + [e0].length ≤ lim)).bind fun _ =>
    Jbt x12 value aT (i0 + 1) (ac ++ [e0]) aS
    else
    if (!aS) then
    (chk (ac.length + [(⟨x12, value⟩ : Je)].length ≤ lim)).bind fun _ =>
    Jbt x12 value aT (i0 + 1) (ac ++ [(⟨x12, value⟩ : Je)]) true
    else
    Jbt x12 value aT (i0 + 1) ac aS
def Jer (f : (List Je)) (name : Str) (value : Str) : Option ((List Je)) :=
  (Jcd name).bind fun aS =>
  (chk (f.length ≤ qax)).bind fun _ =>
  (Jbt aS value f 0 [] false).bind fun t0 =>
  if (!t0.2) then
  (chk (t0.1.length + [(⟨aS, value⟩ : Je)].length ≤ lim)).bind fun _ =>
  some (t0.1 ++ [(⟨aS, value⟩ : Je)])
  else
  some t0.1
theorem Jgk {f : (List Je)} {name : Str} {value : Str} {aa : Option Addr} {ab : Nat} {n0 : Nat} {K : Hp} {r : (List Je)}
    (hm : Jer f name value = some r) (hX : RdC Je.enc K aa ab 2 f ∧ n0 = f.length) :
    Fn Tryz.prog 152 [.slice aa n0 ab, str name, str value] K [] (fun v K' H' => ∃ ar_0 : Option Addr, ∃ cr_0 : Nat, v = .slice ar_0 r.length cr_0 ∧ (0 < r.length → Has ar_0) ∧ H' = [OwnL Je.enc ar_0 77 2 cr_0 r]) := by
 obtain ⟨ae, bg⟩ := hX
 subst bg
 refine Fn.enter Tryz.func152 Tryz.call152 rfl fun F => ?_
 unfold Jer at hm
 refine cb hm fun aW bd hm => cg0 (JcL bd :) ?_
 refine ro (qaj rfl ?_)
 obtain ⟨aX, hm⟩ := qay hm
 obtain ⟨s0, aU, hm⟩ := bnd hm
 refine qkc Je.enc 77 2 ?_
 refine lD (σ := ((List Je) × Bool) × Option Addr × Nat) ([7,8,10] ++ rg 15 24) [1] (fun i0 => [(15, .int .i64 (i0 : Int))]) (fun (t0, aS, aT) => [(7, .slice aS t0.1.length aT), (8, .bool t0.2)]) (fun (t0, aS, aT) => [OwnL Je.enc aS 77 2 aT t0.1]) (fun (t0, aS, aT) => (0 < t0.1.length → Has aS) ∧ True) (fun i0 (t0, aS, aT) => Jbt aW value (f.drop i0) i0 t0.1 t0.2 = some s0) (fun (t0, aS, aT) => t0 = s0) (fun i0 => f.length - i0) 0 ((_, _), _, _) aU (And.intro qe (And.intro ?_ ?_))
 clear aU
 rintro i0 ⟨⟨ac, ba⟩, a8, a6⟩ ⟨aY, _⟩ aU j0
 dsimp only at aU ⊢
 refine qaf rfl ?_
 refine qag ?_ ?_ <;> intro w0
 obtain ⟨e0, aV, bj⟩ := ltx w0
 rw [bj, Jbt.eq_2] at aU
 refine qai rfl ?_
 refine RStep.ofN (qac rfl rfl (qcc ae.rd aV) (nn _) (qbg aV) (ro (qap i0 _ ae.rd rfl (mp aV) rfl ?_)))
 refine qal rfl fun bn => ?_
 refine qaa r0 rfl ⟨rfl, rfl, (nl rfl), ?_⟩
 refine qai rfl ?_
 refine fa rfl (ro (ld r0 rfl rfl ?_))
 refine cb aU fun bw bb aU => cg0 (JcL bb :) ?_
 refine qb4 (cs rfl rfl aU ?_ ?_) <;> intro bF aU
 refine ro (qae r0 rfl (nl rfl) ?_)
 refine bsO (len := 1) (enc := Je.enc) (l := [e0]) (cl := [str e0.Name, str e0.Value]) qi0 rfl rfl (fun _ _ => rfl) rfl rfl rfl ?_ fun bt => ?_
 · conv => whnf
   refine cT ?_
   first | done | rfl
 obtain ⟨bc, aU⟩ := qay aU
 refine apE rfl r2 qi0 (qa4 rfl r0 rfl (fun _ => rfl) (fun _ => rfl)) bc ?_
 intro bu bz bD
 refine qar (qbu aV aX) ?_
 exact eR aU (_, (_, _), _, _)
 refine qa1 ?_
 refine cs rfl rfl aU ?_ ?_ <;> intro bo aU
 refine qak rfl rfl (cT (cT ?_))
 refine bsO (len := 1) (enc := Je.enc) (l := [(⟨aW, value⟩ : Je)]) (cl := [str aW, str value]) qi0 rfl rfl (fun _ _ => rfl) rfl rfl rfl ?_ fun bp => ?_
 · conv => whnf
   refine cT ?_
   first | done | rfl
 obtain ⟨bh, aU⟩ := qay aU
 refine apE rfl r2 qi0 (qa4 rfl r0 rfl (fun _ => rfl) (fun _ => rfl)) bh ?_
 intro bC bA bH
 refine qar (qbu aV aX) ?_
 exact eR aU (_, (_, _), _, _)
 refine qar (qbu aV aX) ?_
 exact eR aU (_, (_, _), _, _)
 rw [lty w0, Jbt.eq_1] at aU
 refine cT ?_
 exact eM aU (_, _, _)
 rintro ⟨t0, aS, aT⟩ ⟨aZ, _⟩ rfl j0
 refine qa1 ?_
 refine cs rfl rfl hm ?_ ?_ <;> intro br hm
 refine qak rfl rfl (cT (cT ?_))
 refine bsO (len := 1) (enc := Je.enc) (l := [(⟨aW, value⟩ : Je)]) (cl := [str aW, str value]) qi0 rfl rfl (fun _ _ => rfl) rfl rfl rfl ?_ fun bB => ?_
 · conv => whnf
   refine cT ?_
   first | done | rfl
 obtain ⟨bf, hm⟩ := qay hm
 refine apE rfl r1 qi0 (qa4 rfl r0 rfl (fun _ => rfl) (fun _ => rfl)) bf ?_
 intro bI bm bG
 exact eE hm
 exact eE hm

def Jbd (r' : Jh) (s : Str) (x : Jd) : Option (Err × Jh) :=
  (cutM s ([58] : Str)).bind fun aU =>
  (JdZ aU.2.1).bind fun aS =>
  if aS.2.isSome then
  some ((some 8), r')
  else
  if decide (aU.1 = ([118, 97, 114, 121] : Str)) then
  (JP r'.Vary aS.1).bind fun aV =>
  if (!aV) then
  (chk (r'.Vary.length + [aS.1].length ≤ lim)).bind fun _ =>
  some (none, (⟨r'.Ae, r'.Af, r'.Ag, (r'.Vary ++ [aS.1]), r'.Ah, r'.TTL, r'.Ai, r'.Aj, r'.Ak, r'.Al⟩ : Jh))
  else
  some (none, r')
  else
  (JdD x.s).bind fun aT =>
  if aT.2.isSome then
  some (aT.2, r')
  else
  (Jer r'.Ag aS.1 aT.1).bind fun aW =>
  some (none, (⟨r'.Ae, r'.Af, aW, r'.Vary, r'.Ah, r'.TTL, r'.Ai, r'.Aj, r'.Ak, r'.Al⟩ : Jh))
theorem Jd0 {r' : Jh} {s : Str} {x : Jd} {b0 : Nat} {aa : Option Addr} {ab : Nat} {aj : Option Addr} {am : Nat} {ak : Option Addr} {an : Nat} {aQ : TypeId} {aI aP : List Value} {K : Hp} {r : Err × Jh}
    (hm : Jbd r' s x = some r) (hX : (0 < r'.Ag.length → Has aa) ∧ (0 < r'.Vary.length → Has aj) ∧ (0 < r'.Ah.length → Has ak) ∧ GG K) :
    Fn Tryz.prog 114 [.pointer (some ⟨b0, aI.length + 0, none⟩), str s, .agg #[.int .i64 x.kind, .int .i64 x.n, str x.s, .bool x.At]] K [qfb b0 aQ aI aP [str r'.Ae, str r'.Af, .slice aa r'.Ag.length ab, .slice aj r'.Vary.length am, .slice ak r'.Ah.length an, .int .i64 r'.TTL, .int .i64 r'.Ai, .int .i64 r'.Aj, .bool r'.Ak, .bool r'.Al], OwnL Je.enc aa 77 2 ab r'.Ag, OwnL eS aj 9 1 am r'.Vary, OwnL eS ak 9 1 an r'.Ah] (fun v K' H' => ∃ ar_0 : Option Addr, ∃ cr_0 : Nat, ∃ ar_1 : Option Addr, ∃ cr_1 : Nat, ∃ ar_2 : Option Addr, ∃ cr_2 : Nat, v = qde 87 r.1 ∧ (0 < r.2.Ag.length → Has ar_0) ∧ (0 < r.2.Vary.length → Has ar_1) ∧ (0 < r.2.Ah.length → Has ar_2) ∧ H' = [qfb b0 aQ aI aP [str r.2.Ae, str r.2.Af, .slice ar_0 r.2.Ag.length cr_0, .slice ar_1 r.2.Vary.length cr_1, .slice ar_2 r.2.Ah.length cr_2, .int .i64 r.2.TTL, .int .i64 r.2.Ai, .int .i64 r.2.Aj, .bool r.2.Ak, .bool r.2.Al], OwnL Je.enc ar_0 77 2 cr_0 r.2.Ag, OwnL eS ar_1 9 1 cr_1 r.2.Vary, OwnL eS ar_2 9 1 cr_2 r.2.Ah]) := by
 obtain ⟨ae, bb, aY, hG⟩ := hX
 refine Fn.enter Tryz.func114 Tryz.call114 rfl fun F => ?_
 unfold Jbd at hm
 refine qaq ?_
 intro b5
 refine cb hm fun bn bd hm => cg0 (qt6 bd (gg3 hG)) ?_
 refine cb hm fun aU bh hm => cg0 (Jf5 bh :) ?_
 refine qbo rfl ?_
 refine cs rfl rfl hm ?_ ?_ <;> intro bt hm
 refine qa7 rfl ?_
 exact eE hm
 refine qam (cs rfl rfl hm ?_ ?_) <;> intro bB hm
 refine qao ?_
 refine qcu (j' := 3) rfl rfl ?_
 refine ro (ld r1 rfl (qjh rfl) ?_)
 refine cb hm fun bp bf hm => ck0 (Fn.lend Tryz.call113 (fun a8 aW aT => (Jai (v' := aU.1) bf ⟨aT, rfl⟩)) (by exact fun _ _ _ _ h => h)) ?_
 rintro _ _ _ ⟨_, rfl, rfl, rfl⟩
 refine qa1 ?_
 refine cs rfl rfl hm ?_ ?_ <;> intro bC hm
 refine qao ?_
 refine qcu (j' := 3) rfl rfl ?_
 refine ro (ld r2 rfl (qjh rfl) ?_)
 refine bsO (len := 1) (enc := eS) (l := [aU.1]) (cl := [str aU.1]) qdf rfl rfl (fun _ _ => rfl) rfl rfl rfl ?_ fun bw => ?_
 · conv => whnf
   refine cT ?_
   first | done | rfl
 obtain ⟨bg, hm⟩ := qay hm
 refine apE rfl r1 qdf (qa4 rfl r0 rfl (fun _ => rfl) (fun _ => rfl)) bg ?_
 intro bu bz br
 refine qao ?_
 refine qcu (j' := 3) rfl rfl ?_
 refine qdz r3 rfl ?_
 refine ⟨rfl, rfl, (nl rfl), ?_⟩
 exact eE hm
 exact eE hm
 refine fa rfl (ro (ld r0 rfl rfl ?_))
 refine cb hm fun bm bc hm => cg0 (JfI bc :) ?_
 refine qbo rfl ?_
 refine cs rfl rfl hm ?_ ?_ <;> intro bo hm
 exact eE hm
 refine qao ?_
 refine qcu (j' := 2) rfl rfl ?_
 refine ro (ld r1 rfl (qjh rfl) ?_)
 refine cb hm fun bA bj hm => ck0 (Fn.lend Tryz.call152 (fun aV aX aS => (Jgk (name := aU.1) (value := bm.1) bj ⟨aS, rfl⟩)) (by exact fun _ _ _ _ h => h)) ?_
 rintro _ _ _ ⟨_, rfl, aZ, a6, rfl, ba, rfl⟩
 refine qao ?_
 refine qcu (j' := 2) rfl rfl ?_
 refine qdz r3 rfl ?_
 refine ⟨rfl, rfl, (nl rfl), ?_⟩
 exact eE hm

def Ja1 (r' : Jh) (s : Str) (x : Jd) : Option (Err × Jh) :=
  (((if (decide (s = ([112, 97, 115, 115] : Str)) || decide (s = ([116, 111, 107, 101, 110] : Str))) then some true else (J2 s ([118, 97, 114, 121, 58] : Str)).bind fun aW =>
  some aW).bind fun aT =>
  if aT then
  some 0
  else
  if (decide (s = ([116, 116, 108] : Str)) || decide (s = ([100, 101, 110, 121] : Str))) then
  some 2
  else
  some 1 : Option (Int))).bind fun aS =>
  if decide (x.kind ≠ aS) then
  some ((some 9), r')
  else
  if decide (s = ([112, 97, 116, 104] : Str)) then
  some (none, (⟨x.s, r'.Af, r'.Ag, r'.Vary, r'.Ah, r'.TTL, r'.Ai, r'.Aj, r'.Ak, r'.Al⟩ : Jh))
  else
  if decide (s = ([113, 117, 101, 114, 121] : Str)) then
  some (none, (⟨r'.Ae, x.s, r'.Ag, r'.Vary, r'.Ah, r'.TTL, r'.Ai, r'.Aj, r'.Ak, r'.Al⟩ : Jh))
  else
  if decide (s = ([116, 97, 103] : Str)) then
  (JP r'.Ah x.s).bind fun aV =>
  if (!aV) then
  (chk (r'.Ah.length + [x.s].length ≤ lim)).bind fun _ =>
  some (none, (⟨r'.Ae, r'.Af, r'.Ag, r'.Vary, (r'.Ah ++ [x.s]), r'.TTL, r'.Ai, r'.Aj, r'.Ak, r'.Al⟩ : Jh))
  else
  some (none, r')
  else
  if decide (s = ([116, 116, 108] : Str)) then
  some (none, (⟨r'.Ae, r'.Af, r'.Ag, r'.Vary, r'.Ah, (max 0 x.n), r'.Ai, r'.Aj, r'.Ak, r'.Al⟩ : Jh))
  else
  if decide (s = ([100, 101, 110, 121] : Str)) then
  if (decide (x.n < 400) || decide (x.n > 499)) then
  some (none, (⟨r'.Ae, r'.Af, r'.Ag, r'.Vary, r'.Ah, r'.TTL, 403, r'.Aj, r'.Ak, r'.Al⟩ : Jh))
  else
  some (none, (⟨r'.Ae, r'.Af, r'.Ag, r'.Vary, r'.Ah, r'.TTL, x.n, r'.Aj, r'.Ak, r'.Al⟩ : Jh))
  else
  if decide (s = ([112, 97, 115, 115] : Str)) then
  some (none, (⟨r'.Ae, r'.Af, r'.Ag, r'.Vary, r'.Ah, r'.TTL, r'.Ai, r'.Aj, true, r'.Al⟩ : Jh))
  else
  if decide (s = ([116, 111, 107, 101, 110] : Str)) then
  some (none, (⟨r'.Ae, r'.Af, r'.Ag, r'.Vary, r'.Ah, r'.TTL, r'.Ai, r'.Aj, r'.Ak, true⟩ : Jh))
  else
  (Jbd r' s x).bind fun aU =>
  some (aU.1, aU.2)
theorem Jdg {r' : Jh} {s : Str} {x : Jd} {b0 : Nat} {aa : Option Addr} {ab : Nat} {aj : Option Addr} {am : Nat} {ak : Option Addr} {an : Nat} {aQ : TypeId} {aI aP : List Value} {K : Hp} {r : Err × Jh}
    (hm : Ja1 r' s x = some r) (hX : (0 < r'.Ag.length → Has aa) ∧ (0 < r'.Vary.length → Has aj) ∧ (0 < r'.Ah.length → Has ak) ∧ GG K) :
    Fn Tryz.prog 70 [.pointer (some ⟨b0, aI.length + 0, none⟩), str s, .agg #[.int .i64 x.kind, .int .i64 x.n, str x.s, .bool x.At]] K [qfb b0 aQ aI aP [str r'.Ae, str r'.Af, .slice aa r'.Ag.length ab, .slice aj r'.Vary.length am, .slice ak r'.Ah.length an, .int .i64 r'.TTL, .int .i64 r'.Ai, .int .i64 r'.Aj, .bool r'.Ak, .bool r'.Al], OwnL Je.enc aa 77 2 ab r'.Ag, OwnL eS aj 9 1 am r'.Vary, OwnL eS ak 9 1 an r'.Ah] (fun v K' H' => ∃ ar_0 : Option Addr, ∃ cr_0 : Nat, ∃ ar_1 : Option Addr, ∃ cr_1 : Nat, ∃ ar_2 : Option Addr, ∃ cr_2 : Nat, v = qde 87 r.1 ∧ (0 < r.2.Ag.length → Has ar_0) ∧ (0 < r.2.Vary.length → Has ar_1) ∧ (0 < r.2.Ah.length → Has ar_2) ∧ H' = [qfb b0 aQ aI aP [str r.2.Ae, str r.2.Af, .slice ar_0 r.2.Ag.length cr_0, .slice ar_1 r.2.Vary.length cr_1, .slice ar_2 r.2.Ah.length cr_2, .int .i64 r.2.TTL, .int .i64 r.2.Ai, .int .i64 r.2.Aj, .bool r.2.Ak, .bool r.2.Al], OwnL Je.enc ar_0 77 2 cr_0 r.2.Ag, OwnL eS ar_1 9 1 cr_1 r.2.Vary, OwnL eS ar_2 9 1 cr_2 r.2.Ah]) := by
 obtain ⟨ae, bt, bh, hG⟩ := hX
 refine Fn.enter Tryz.func70 Tryz.call70 rfl fun F => ?_
 unfold Ja1 at hm
 refine qaq ?_
 intro b5
 obtain ⟨ba, aS, hm⟩ := bnd hm
 refine jD (σ := (Int)) (rg 7 19) [0, 1, 2, 3, 4, 5] (fun aZ => [(7, .int .i64 aZ)]) (fun aZ => []) (fun aZ => aZ = ba) (And.intro ?_ ?_)
 refine qai rfl ?_
 obtain ⟨bb, aU, aS⟩ := bnd aS
 refine jR (σ := Bool) (rg 8 11) (fun a6 => [(8, .bool a6)]) (fun a6 => a6 = bb) ?_ ?_
 replace aU := bsm aU
 refine qah rfl ?_
 refine qam ?_
 refine qag ?_ ?_ <;> intro aV
 refine ct aV (ct aV ?_)
 obtain ⟨bG, aY, aU⟩ := bnd aU
 replace aY := ift (qcj aV) aY
 refine cT (cT (cT ?_))
 exact eMq aU _ ⟨bq (si aY), trivial⟩
 refine cf aV (qam (cf aV ?_))
 obtain ⟨bG, aY, aU⟩ := bnd aU
 refine qag ?_ ?_ <;> intro aX
 replace aY := ift (qf0 aV aX) aY
 refine ct aX (ct aX ?_)
 exact eMq aU _ ⟨bq (si aY), trivial⟩
 replace aY := qa6 (qee aV aX) aY
 refine cf aX ?_
 refine cb aY fun bW bD aY => cg0 (Jbn bD :) ?_
 refine cf aX ?_
 exact eMq aU _ ⟨bq (si aY), trivial⟩
 rintro a6 rfl bF
 refine cs rfl rfl aS ?_ ?_ <;> intro w8 aS
 exact eM aS _
 refine qah rfl ?_
 refine qam ?_
 refine qag ?_ ?_ <;> intro aW
 refine ct aW (ct aW (qaf rfl (cT ?_)))
 replace aS := ift (qcj aW) aS
 exact eM aS _
 refine cf aW (qam (cf aW (qaf rfl ?_)))
 refine qag ?_ ?_ <;> intro br
 replace aS := ift (qf0 aW br) aS
 exact eM aS _
 replace aS := qa6 (qee aW br) aS
 exact eM aS _
 rintro aZ rfl bI
 refine fa rfl (ro (ld r0 rfl rfl (qa2 ?_)))
 refine cs rfl rfl hm ?_ ?_ <;> intro bO hm
 refine qa7 rfl ?_
 exact eE hm
 refine qai rfl ?_
 refine qam (cs rfl rfl hm ?_ ?_) <;> intro bT hm
 refine fa rfl (ro (ld r0 rfl rfl (qao ?_)))
 refine qcu (j' := 0) rfl rfl ?_
 refine qdz r1 rfl ?_
 refine ⟨rfl, rfl, (nl rfl), ?_⟩
 exact eE hm
 refine qam (cs rfl rfl hm ?_ ?_) <;> intro bL hm
 refine fa rfl (ro (ld r0 rfl rfl (qao ?_)))
 refine qcu (j' := 1) rfl rfl ?_
 refine qdz r1 rfl ?_
 refine ⟨rfl, rfl, (nl rfl), ?_⟩
 exact eE hm
 refine qam (cs rfl rfl hm ?_ ?_) <;> intro bM hm
 refine qau ⟨⟨[], false⟩, _, [(_, _), (_, _)], []⟩ (by kernel_rfl) ⟨Hp.Le.refl _, (sc [1,0] rfl), ci0⟩ ?_
 refine qao ?_
 refine qcu (j' := 4) rfl rfl ?_
 refine qan m0 rfl (qjh rfl) (fa rfl (qan m1 rfl rfl ?_))
 refine cb hm fun bJ bC hm => ck0 (Fn.lend Tryz.call113 (fun bu bc a8 => (Jai (v' := x.s) bC ⟨a8, rfl⟩)) (by exact fun _ _ _ _ h => h)) ?_
 rintro _ _ _ ⟨_, rfl, rfl, rfl⟩
 refine qk (sc [2,1] rfl) ?_
 refine qa1 ?_
 refine cs rfl rfl hm ?_ ?_ <;> intro bV hm
 refine qbx ⟨⟨[], false⟩, _, [(_, _), (_, _)], []⟩ 9 rfl (by kernel_rfl) ⟨Hp.Le.refl _, (sc [2,1] rfl), ci0⟩ ?_
 refine qao ?_
 refine qcu (j' := 4) rfl rfl ?_
 refine qan m0 rfl (qjh rfl) (fa rfl (qan m1 rfl rfl ?_))
 refine bsO (len := 1) (enc := eS) (l := [x.s]) (cl := [str x.s]) qdf rfl rfl (fun _ _ => rfl) rfl rfl rfl ?_ fun bU => ?_
 · conv => whnf
   refine cT ?_
   first | done | rfl
 refine qk (sc [3,2] rfl) ?_
 obtain ⟨bH, hm⟩ := qay hm
 refine apE rfl r1 qdf (qa4 rfl r0 rfl (fun _ => rfl) (fun _ => rfl)) bH ?_
 intro bX bQ bP
 refine qk (sc [3,2] rfl) ?_
 refine qao ?_
 refine qcu (j' := 4) rfl rfl ?_
 refine qdz r3 rfl ?_
 refine ⟨rfl, rfl, (nl rfl), ?_⟩
 refine ⟨⟨Hp.emp_le _, (pf rfl), ci0⟩, ?_⟩
 exact eE hm
 exact eE hm
 refine qam (cs rfl rfl hm ?_ ?_) <;> intro bR hm
 refine fa rfl (ro (ld r0 rfl rfl (ro (qcl (qao ?_)))))
 refine qcu (j' := 5) rfl rfl ?_
 refine qdz r1 rfl ?_
 refine ⟨rfl, rfl, (nl rfl), ?_⟩
 exact eE hm
 refine qam (cs rfl rfl hm ?_ ?_) <;> intro bK hm
 refine fa rfl (ro (ld r0 rfl rfl (qao ?_)))
 refine qcu (j' := 6) rfl rfl ?_
 refine qdz r1 rfl ?_
 refine ⟨rfl, rfl, (nl rfl), ?_⟩
 refine qah rfl ?_
 refine fa rfl (ro (ld r1 rfl rfl ?_))
 refine qag ?_ ?_ <;> intro aT
 refine ct aT (ct aT (ct aT (qaf rfl (cT ?_))))
 replace hm := ift (qcj aT) hm
 refine qao ?_
 refine qcu (j' := 6) rfl rfl ?_
 refine qdz r0 rfl ?_
 refine ⟨rfl, rfl, (nl rfl), ?_⟩
 exact eE hm
 refine fa rfl (cf aT (ro (ld r1 rfl rfl (cf aT (cf aT (qaf rfl ?_))))))
 refine qag ?_ ?_ <;> intro bo
 replace hm := ift (qf0 aT bo) hm
 refine qao ?_
 refine qcu (j' := 6) rfl rfl ?_
 refine qdz r0 rfl ?_
 refine ⟨rfl, rfl, (nl rfl), ?_⟩
 exact eE hm
 replace hm := qa6 (qee aT bo) hm
 exact eE hm
 refine qam (cs rfl rfl hm ?_ ?_) <;> intro bN hm
 refine qao ?_
 refine qcu (j' := 8) rfl rfl ?_
 refine qdz r1 rfl ?_
 refine ⟨rfl, rfl, (nl rfl), ?_⟩
 exact eE hm
 refine qam (cs rfl rfl hm ?_ ?_) <;> intro bA hm
 refine qao ?_
 refine qcu (j' := 9) rfl rfl ?_
 refine qdz r1 rfl ?_
 refine ⟨rfl, rfl, (nl rfl), ?_⟩
 exact eE hm
 refine ro (qae r0 rfl (nl rfl) ?_)
 refine cb hm fun bS bB hm => ckx (Jd0 bB :) ?_
 rintro _ _ _ ⟨bm, bf, bz, bg, bj, bd, rfl, bn, bw, bp, rfl⟩
 exact eE hm

def JcT (m : Jf) (atZ : Int) (x : Jj) : Option (Int × Err × Jf) :=
  (chk (InI (m.result.Aj + 1))).bind fun _ =>
  if decide ((m.result.Aj + 1) > m.most) then
  some (0, (some 13), (⟨m.Ar, m.most, (⟨m.result.Ae, m.result.Af, m.result.Ag, m.result.Vary, m.result.Ah, m.result.TTL, m.result.Ai, (m.result.Aj + 1), m.result.Ak, m.result.Al⟩ : Jh), m.stack, m.Ap⟩ : Jf))
  else
  (chk (InI (atZ + 1))).bind fun _ =>
  if decide (x.Op = 1) then
  (JbH x.N).bind fun bu =>
  (Jaf (⟨m.Ar, m.most, (⟨m.result.Ae, m.result.Af, m.result.Ag, m.result.Vary, m.result.Ah, m.result.TTL, m.result.Ai, (m.result.Aj + 1), m.result.Ak, m.result.Al⟩ : Jh), m.stack, m.Ap⟩ : Jf) bu false).bind fun bg =>
  some ((atZ + 1), bg.1, (⟨m.Ar, bg.2.most, bg.2.result, bg.2.stack, bg.2.Ap⟩ : Jf))
  else
  if decide (x.Op = 2) then
  (JaA x.S).bind fun br =>
  (Jaf (⟨m.Ar, m.most, (⟨m.result.Ae, m.result.Af, m.result.Ag, m.result.Vary, m.result.Ah, m.result.TTL, m.result.Ai, (m.result.Aj + 1), m.result.Ak, m.result.Al⟩ : Jh), m.stack, m.Ap⟩ : Jf) br false).bind fun bf =>
  some ((atZ + 1), bf.1, (⟨m.Ar, bf.2.most, bf.2.result, bf.2.stack, bf.2.Ap⟩ : Jf))
  else
  if decide (x.Op = 3) then
  (ix m.Ap x.N).bind fun bp =>
  (Jaf (⟨m.Ar, m.most, (⟨m.result.Ae, m.result.Af, m.result.Ag, m.result.Vary, m.result.Ah, m.result.TTL, m.result.Ai, (m.result.Aj + 1), m.result.Ak, m.result.Al⟩ : Jh), m.stack, m.Ap⟩ : Jf) bp false).bind fun bd =>
  some ((atZ + 1), bd.1, (⟨m.Ar, bd.2.most, bd.2.result, bd.2.stack, bd.2.Ap⟩ : Jf))
  else
  if decide (x.Op = 5) then
  (Jam x.S m.Ar).bind fun bt =>
  (Jaf (⟨m.Ar, m.most, (⟨m.result.Ae, m.result.Af, m.result.Ag, m.result.Vary, m.result.Ah, m.result.TTL, m.result.Ai, (m.result.Aj + 1), m.result.Ak, m.result.Al⟩ : Jh), m.stack, m.Ap⟩ : Jf) bt false).bind fun bh =>
  some ((atZ + 1), bh.1, (⟨m.Ar, bh.2.most, bh.2.result, bh.2.stack, bh.2.Ap⟩ : Jf))
  else
  if decide (x.Op = 4) then
  (Jan (⟨m.Ar, m.most, (⟨m.result.Ae, m.result.Af, m.result.Ag, m.result.Vary, m.result.Ah, m.result.TTL, m.result.Ai, (m.result.Aj + 1), m.result.Ak, m.result.Al⟩ : Jh), m.stack, m.Ap⟩ : Jf)).bind fun bb =>
  (ix bb.2.Ap x.N).bind fun bw =>
  some ((atZ + 1), none, (⟨m.Ar, bb.2.most, bb.2.result, bb.2.stack, (bb.2.Ap.set ((x.N).toNat) bb.1)⟩ : Jf))
  else
  if decide (x.Op = 6) then
  (Jan (⟨m.Ar, m.most, (⟨m.result.Ae, m.result.Af, m.result.Ag, m.result.Vary, m.result.Ah, m.result.TTL, m.result.Ai, (m.result.Aj + 1), m.result.Ak, m.result.Al⟩ : Jh), m.stack, m.Ap⟩ : Jf)).bind fun ba =>
  (JL x.S ba.1 m.Ar).bind fun bj =>
  if (!bj.2) then
  some (0, (some 9), (⟨m.Ar, ba.2.most, ba.2.result, ba.2.stack, ba.2.Ap⟩ : Jf))
  else
  (Jaf (⟨m.Ar, ba.2.most, ba.2.result, ba.2.stack, ba.2.Ap⟩ : Jf) bj.1 true).bind fun aZ =>
  some ((atZ + 1), aZ.1, (⟨m.Ar, aZ.2.most, aZ.2.result, aZ.2.stack, aZ.2.Ap⟩ : Jf))
  else
  if decide (x.Op = 7) then
  (Jan (⟨m.Ar, m.most, (⟨m.result.Ae, m.result.Af, m.result.Ag, m.result.Vary, m.result.Ah, m.result.TTL, m.result.Ai, (m.result.Aj + 1), m.result.Ak, m.result.Al⟩ : Jh), m.stack, m.Ap⟩ : Jf)).bind fun a6 =>
  (Jan (⟨m.Ar, a6.2.most, a6.2.result, a6.2.stack, a6.2.Ap⟩ : Jf)).bind fun aV =>
  (JS x.S aV.1 a6.1).bind fun bc =>
  if (!bc.2) then
  some (0, (some 9), (⟨m.Ar, aV.2.most, aV.2.result, aV.2.stack, aV.2.Ap⟩ : Jf))
  else
  (Jaf (⟨m.Ar, aV.2.most, aV.2.result, aV.2.stack, aV.2.Ap⟩ : Jf) bc.1 true).bind fun aX =>
  some ((atZ + 1), aX.1, (⟨m.Ar, aX.2.most, aX.2.result, aX.2.stack, aX.2.Ap⟩ : Jf))
  else
  if decide (x.Op = 8) then
  (Jan (⟨m.Ar, m.most, (⟨m.result.Ae, m.result.Af, m.result.Ag, m.result.Vary, m.result.Ah, m.result.TTL, m.result.Ai, (m.result.Aj + 1), m.result.Ak, m.result.Al⟩ : Jh), m.stack, m.Ap⟩ : Jf)).bind fun aU =>
  if decide (aU.1.kind ≠ 3) then
  some (0, (some 9), (⟨m.Ar, aU.2.most, aU.2.result, aU.2.stack, aU.2.Ap⟩ : Jf))
  else
  (JaC (!aU.1.At)).bind fun bm =>
  (Jaf (⟨m.Ar, aU.2.most, aU.2.result, aU.2.stack, aU.2.Ap⟩ : Jf) bm false).bind fun aY =>
  some ((atZ + 1), aY.1, (⟨m.Ar, aY.2.most, aY.2.result, aY.2.stack, aY.2.Ap⟩ : Jf))
  else
  if decide (x.Op = 9) then
  some (x.N, none, (⟨m.Ar, m.most, (⟨m.result.Ae, m.result.Af, m.result.Ag, m.result.Vary, m.result.Ah, m.result.TTL, m.result.Ai, (m.result.Aj + 1), m.result.Ak, m.result.Al⟩ : Jh), m.stack, m.Ap⟩ : Jf))
  else
  if decide (x.Op = 10) then
  (Jan (⟨m.Ar, m.most, (⟨m.result.Ae, m.result.Af, m.result.Ag, m.result.Vary, m.result.Ah, m.result.TTL, m.result.Ai, (m.result.Aj + 1), m.result.Ak, m.result.Al⟩ : Jh), m.stack, m.Ap⟩ : Jf)).bind fun aT =>
  if decide (aT.1.kind ≠ 3) then
  some (0, (some 9), (⟨m.Ar, aT.2.most, aT.2.result, aT.2.stack, aT.2.Ap⟩ : Jf))
  else
  if (!aT.1.At) then
  some (x.N, none, (⟨m.Ar, aT.2.most, aT.2.result, aT.2.stack, aT.2.Ap⟩ : Jf))
  else
  some ((atZ + 1), none, (⟨m.Ar, aT.2.most, aT.2.result, aT.2.stack, aT.2.Ap⟩ : Jf))
  else
  if decide (x.Op = 11) then
  (if (decide (x.S ≠ ([112, 97, 115, 115] : Str)) && decide (x.S ≠ ([116, 111, 107, 101, 110] : Str))) then (J2 x.S ([118, 97, 114, 121, 58] : Str)).bind fun bn =>
  some (!bn) else some false).bind fun bo =>
  ((if bo then
  (Jan (⟨m.Ar, m.most, (⟨m.result.Ae, m.result.Af, m.result.Ag, m.result.Vary, m.result.Ah, m.result.TTL, m.result.Ai, (m.result.Aj + 1), m.result.Ak, m.result.Al⟩ : Jh), m.stack, m.Ap⟩ : Jf)).bind fun aW =>
  some (aW.1.kind, aW.1.n, aW.1.s, aW.1.At, (⟨m.Ar, aW.2.most, aW.2.result, aW.2.stack, aW.2.Ap⟩ : Jf))
  else
  some (0, 0, ([] : Str), false, (⟨m.Ar, m.most, (⟨m.result.Ae, m.result.Af, m.result.Ag, m.result.Vary, m.result.Ah, m.result.TTL, m.result.Ai, (m.result.Aj + 1), m.result.Ak, m.result.Al⟩ : Jh), m.stack, m.Ap⟩ : Jf)) : Option (Int × Int × Str × Bool × Jf))).bind fun aS =>
  (Ja1 aS.2.2.2.2.result x.S (⟨aS.1, aS.2.1, aS.2.2.1, aS.2.2.2.1⟩ : Jd)).bind fun a8 =>
  if a8.1.isSome then
  some (0, a8.1, (⟨m.Ar, aS.2.2.2.2.most, a8.2, aS.2.2.2.2.stack, aS.2.2.2.2.Ap⟩ : Jf))
  else
  if decide (x.S = ([100, 101, 110, 121] : Str)) then
  some ((-1), none, (⟨m.Ar, aS.2.2.2.2.most, a8.2, aS.2.2.2.2.stack, aS.2.2.2.2.Ap⟩ : Jf))
  else
  some ((atZ + 1), none, (⟨m.Ar, aS.2.2.2.2.most, a8.2, aS.2.2.2.2.stack, aS.2.2.2.2.Ap⟩ : Jf))
  else
  if decide (x.Op = 12) then
  some ((-1), none, (⟨m.Ar, m.most, (⟨m.result.Ae, m.result.Af, m.result.Ag, m.result.Vary, m.result.Ah, m.result.TTL, m.result.Ai, (m.result.Aj + 1), m.result.Ak, m.result.Al⟩ : Jh), m.stack, m.Ap⟩ : Jf))
  else
  some ((atZ + 1), none, (⟨m.Ar, m.most, (⟨m.result.Ae, m.result.Af, m.result.Ag, m.result.Vary, m.result.Ah, m.result.TTL, m.result.Ai, (m.result.Aj + 1), m.result.Ak, m.result.Al⟩ : Jh), m.stack, m.Ap⟩ : Jf))
theorem Jem {m : Jf} {atZ : Int} {x : Jj} {b0 : Nat} {aa : Option Addr} {ab : Nat} {aj : Option Addr} {am : Nat} {ak : Option Addr} {an : Nat} {ar : Option Addr} {au : Nat} {aw : Option Addr} {ay : Nat} {K : Hp} {r : Int × Err × Jf}
    (hm : JcT m atZ x = some r) (hX : RdC Je.enc K aa ab 2 m.Ar.Ao ∧ (0 < m.result.Ag.length → Has aj) ∧ (0 < m.result.Vary.length → Has ak) ∧ (0 < m.result.Ah.length → Has ar) ∧ (0 < m.stack.length → Has aw) ∧ m.Ap.length = 512 ∧ GG K) :
    Fn Tryz.prog 33 [.pointer (some ⟨b0, 0, none⟩), .int .i64 atZ, .agg #[.int .i64 x.Op, .int .i64 x.N, str x.S]] K [Cells b0 98 ((str m.Ar.Am) :: (str m.Ar.An) :: (str m.Ar.Ae) :: (str m.Ar.Af) :: (.slice aa m.Ar.Ao.length ab) :: (.int .i64 m.most) :: (str m.result.Ae) :: (str m.result.Af) :: (.slice aj m.result.Ag.length am) :: (.slice ak m.result.Vary.length an) :: (.slice ar m.result.Ah.length au) :: (.int .i64 m.result.TTL) :: (.int .i64 m.result.Ai) :: (.int .i64 m.result.Aj) :: (.bool m.result.Ak) :: (.bool m.result.Al) :: (.slice aw m.stack.length ay) :: (m.Ap.map Jd.enc).flatten), OwnL Je.enc aj 77 2 am m.result.Ag, OwnL eS ak 9 1 an m.result.Vary, OwnL eS ar 9 1 au m.result.Ah, OwnL Jd.enc aw 95 4 ay m.stack] (fun v K' H' => ∃ ar_0 : Option Addr, ∃ cr_0 : Nat, ∃ ar_1 : Option Addr, ∃ cr_1 : Nat, ∃ ar_2 : Option Addr, ∃ cr_2 : Nat, ∃ ar_3 : Option Addr, ∃ cr_3 : Nat, v = .tuple #[.int .i64 r.1, qde 87 r.2.1] ∧ (0 < r.2.2.result.Ag.length → Has ar_0) ∧ (0 < r.2.2.result.Vary.length → Has ar_1) ∧ (0 < r.2.2.result.Ah.length → Has ar_2) ∧ (0 < r.2.2.stack.length → Has ar_3) ∧ r.2.2.Ap.length = 512 ∧ H' = [Cells b0 98 ((str m.Ar.Am) :: (str m.Ar.An) :: (str m.Ar.Ae) :: (str m.Ar.Af) :: (.slice aa m.Ar.Ao.length ab) :: (.int .i64 r.2.2.most) :: (str r.2.2.result.Ae) :: (str r.2.2.result.Af) :: (.slice ar_0 r.2.2.result.Ag.length cr_0) :: (.slice ar_1 r.2.2.result.Vary.length cr_1) :: (.slice ar_2 r.2.2.result.Ah.length cr_2) :: (.int .i64 r.2.2.result.TTL) :: (.int .i64 r.2.2.result.Ai) :: (.int .i64 r.2.2.result.Aj) :: (.bool r.2.2.result.Ak) :: (.bool r.2.2.result.Al) :: (.slice ar_3 r.2.2.stack.length cr_3) :: (r.2.2.Ap.map Jd.enc).flatten), OwnL Je.enc ar_0 77 2 cr_0 r.2.2.result.Ag, OwnL eS ar_1 9 1 cr_1 r.2.2.result.Vary, OwnL eS ar_2 9 1 cr_2 r.2.2.result.Ah, OwnL Jd.enc ar_3 95 4 cr_3 r.2.2.stack]) := by
 obtain ⟨ae, fy, fk, gb, e7, bI, hG⟩ := hX
 refine Fn.enter Tryz.func33 Tryz.call33 rfl fun F => ?_
 unfold JcT at hm
 refine qaq ?_
 intro b5
 refine qao (fa rfl (fa rfl (ro (ld r1 rfl rfl ?_))))
 obtain ⟨gM, hm⟩ := qay hm
 refine qar gM (qao (fa rfl (fa rfl ?_)))
 refine qo6 (cs' := (str m.Ar.Am) :: (str m.Ar.An) :: (str m.Ar.Ae) :: (str m.Ar.Af) :: (.slice aa m.Ar.Ao.length ab) :: (.int .i64 m.most) :: (str m.result.Ae) :: (str m.result.Af) :: (.slice aj m.result.Ag.length am) :: (.slice ak m.result.Vary.length an) :: (.slice ar m.result.Ah.length au) :: (.int .i64 m.result.TTL) :: (.int .i64 m.result.Ai) :: (.int .i64 (m.result.Aj + 1)) :: (.bool m.result.Ak) :: (.bool m.result.Al) :: (.slice aw m.stack.length ay) :: (m.Ap.map Jd.enc).flatten) r1 rfl rfl (by exact rfl) (by exact nl rfl) (by exact rfl) ?_
 refine qau ⟨⟨[], false⟩, _, [(_, _)], []⟩ (by kernel_rfl) ⟨Hp.Le.refl _, (pf rfl), ci0⟩ ?_
 refine qao (fa rfl (fa rfl (qan m0 rfl rfl (qao (fa rfl (qan m0 rfl rfl ?_))))))
 refine cs rfl rfl hm ?_ ?_ <;> intro iw hm
 refine qa7 rfl ?_
 exact eE hm
 obtain ⟨gE, hm⟩ := qay hm
 refine qar gE (fa rfl (ro (ld r1 rfl rfl ?_)))
 refine qai rfl ?_
 refine qad (cs rfl rfl hm ?_ ?_) <;> intro iL hm
 refine fa rfl (ro (ld r1 rfl rfl ?_))
 refine cb hm fun iA gD hm => cg0 (Jbo gD :) ?_
 refine cb hm fun iz hJ hm => ckx (Jak hJ :) ?_
 rintro _ _ _ ⟨fX, fK, e6, fv, fB, fG, gv, fq, rfl, fp, eT, fu, gt, fo, rfl⟩
 exact eE hm
 refine qad (cs rfl rfl hm ?_ ?_) <;> intro iC hm
 refine fa rfl (ro (ld r1 rfl rfl ?_))
 refine cb hm fun iG gL hm => cg0 (Jaj gL :) ?_
 refine cb hm fun ir gB hm => ckx (Jak gB :) ?_
 rintro _ _ _ ⟨gr, fP, gp, gu, gq, fW, fm, gl, rfl, fh, gf, gh, e5, fU, rfl⟩
 exact eE hm
 refine qad (cs rfl rfl hm ?_ ?_) <;> intro iu hm
 refine qau ⟨⟨[], true⟩, _, [], []⟩ (by kernel_rfl) ⟨Hp.Le.refl _, (pf rfl), ci0⟩ ?_
 refine fa rfl ?_
 refine ld r1 rfl rfl ?_
 refine qao (fa rfl ?_)
 obtain ⟨iy, eW, fJ, hm⟩ := ixb hm
 refine qb0 (sz := 4) rfl rfl eW (qwf bI eW fJ) ?_
 refine qyc (enc := Jd.enc) (sz := 4) r0 rfl (by exact rfl) fJ (by exact rfl) ?_
 refine cb hm fun iJ gT hm => ckx (Jak gT :) ?_
 rintro _ _ _ ⟨f8, fN, fc, fT, ff, fZ, ge, gn, rfl, fO, fS, fC, fw, eX, rfl⟩
 refine qk (pf rfl) ?_
 exact eE hm
 refine qad (cs rfl rfl hm ?_ ?_) <;> intro iq hm
 refine qau ⟨⟨[], false⟩, _, [(_, _)], [(b0, [str m.Ar.Am, str m.Ar.An, str m.Ar.Ae, str m.Ar.Af, .slice aa m.Ar.Ao.length ab])]⟩ (by kernel_rfl) ⟨Hp.Le.refl _, (sc [1] rfl), (ci1 r0 (by exact rfl))⟩ ?_
 refine fa rfl (qan m0 rfl rfl (qao (fa rfl ?_)))
 refine qo8 m0 rfl (nl rfl) ?_
 refine cb hm fun iB hY hm => cgx (Jdp hY :) ?_
 refine ⟨⟨lr, (sc [1] rfl), (ci1 r0 (by exact rfl))⟩, ?_⟩
 refine cb hm fun ip ic hm => ckx (Jak ic :) ?_
 rintro _ _ _ ⟨gk, eQ, eV, fQ, gc, eY, fR, fL, rfl, ga, fA, gj, fj, fe, rfl⟩
 refine ⟨⟨lr, (sc [5] rfl), (ci1 r0 (by exact rfl))⟩, ?_⟩
 exact eE hm
 refine qad (cs rfl rfl hm ?_ ?_) <;> intro im hm
 refine qau ⟨⟨[], false⟩, _, [(_, _)], []⟩ (by kernel_rfl) ⟨Hp.Le.refl _, (sc [1] rfl), ci0⟩ ?_
 refine fa rfl (qan m0 rfl rfl ?_)
 refine cb hm fun bf gW hm => ckx (Jap gW :) ?_
 rintro _ _ _ ⟨bo, bh, br, bm, bu, bt, bp, bj, rfl, bF, bD, bG, bH, bn, rfl⟩
 refine qk (sc [5] rfl) ?_
 refine qao (fa rfl ?_)
 obtain ⟨iv, fb, gi, hm⟩ := ixb hm
 refine qb0 (sz := 4) rfl rfl fb (qwf bn fb gi) ?_
 refine qyd (sz := 4) (enc := Jd.enc) (y := bf.1) (cs' := (str m.Ar.Am) :: (str m.Ar.An) :: (str m.Ar.Ae) :: (str m.Ar.Af) :: (.slice aa m.Ar.Ao.length ab) :: (.int .i64 bf.2.most) :: (str bf.2.result.Ae) :: (str bf.2.result.Af) :: (.slice bo bf.2.result.Ag.length bh) :: (.slice br bf.2.result.Vary.length bm) :: (.slice bu bf.2.result.Ah.length bt) :: (.int .i64 bf.2.result.TTL) :: (.int .i64 bf.2.result.Ai) :: (.int .i64 bf.2.result.Aj) :: (.bool bf.2.result.Ak) :: (.bool bf.2.result.Al) :: (.slice bp bf.2.stack.length bj) :: ((bf.2.Ap.set ((x.N).toNat) bf.1).map Jd.enc).flatten) r0 rfl (by exact rfl) gi rfl (fun _ => rfl) (fun _ => rfl) (by exact rfl) (by decide) ?_
 refine qk (sc [5] rfl) ?_
 cases hm
 exact en lr ⟨bo, bh, br, bm, bu, bt, bp, bj, rfl, bF, bD, bG, bH, (List.length_set.trans bn), rfl⟩ (sc [0,0,0,0,0,1] rfl)
 refine qad (cs rfl rfl hm ?_ ?_) <;> intro iD hm
 refine qb9 ⟨⟨[], false⟩, _, [(_, _)], [(b0, [str m.Ar.Am, str m.Ar.An, str m.Ar.Ae, str m.Ar.Af, .slice aa m.Ar.Ao.length ab])]⟩ 15 rfl (by kernel_rfl) ⟨Hp.Le.refl _, (sc [1] rfl), (ci1 r0 (by exact rfl))⟩ ?_
 refine fa rfl (qan m0 rfl rfl ?_)
 intro gJ
 refine cb hm fun iH gP hm => ckx (Jap gP :) ?_
 rintro _ _ _ ⟨fD, e8, fM, fH, fg, fV, gm, fI, rfl, eZ, fY, eP, fl, f9, rfl⟩
 refine ⟨⟨lr, (sc [5] rfl), (ci1 r0 (by exact rfl))⟩, ?_⟩
 refine ⟨_, .cons r7 .nil, ⟨lr, (sc [5] rfl), (ci1 r0 (by exact rfl))⟩, ?_⟩
 refine qao (fa rfl ?_)
 refine qo8 m0 rfl (nl rfl) ?_
 intro il
 refine cb hm fun gS cB hm => cgx (JeJ cB :) ?_
 refine ⟨⟨lr, (sc [5] rfl), (ci1 r0 (by exact rfl))⟩, ?_⟩
 refine ⟨_, .cons r7 .nil, ⟨lr, (sc [5] rfl), (ci1 r0 (by exact rfl))⟩, ?_⟩
 refine qfp rfl ?_
 intro b9
 intro gN
 refine qaa r0 rfl ⟨rfl, rfl, (nl rfl), ?_⟩
 refine ⟨⟨lr, (sc [6] rfl), (ci1 r1 (by exact rfl))⟩, ?_⟩
 refine ⟨_, .cons r8 .nil, ⟨lr, (sc [6] rfl), (ci1 r1 (by exact rfl))⟩, ?_⟩
 refine qa1 ?_
 refine cs rfl rfl hm ?_ ?_ <;> intro hP hm
 refine qa7 rfl ?_
 exact eE hm
 refine ro (qae r0 rfl (nl rfl) ?_)
 refine cb hm fun gQ cL hm => ckx (Jak cL :) ?_
 rintro _ _ _ ⟨cG, eA, cr, dV, cZ, du, cn, dA, rfl, eD, bZ, eF, cm, eg, rfl⟩
 exact eE hm
 refine qad (cs rfl rfl hm ?_ ?_) <;> intro gZ hm
 refine cb hm fun gK bY hm => ckx (Jap bY :) ?_
 rintro _ _ _ ⟨dZ, de, ez, dg, dl, ef, dW, dp, rfl, dy, dO, dh, bT, cQ, rfl⟩
 refine qal rfl fun io => ?_
 refine qaa r0 rfl ⟨rfl, rfl, (nl rfl), ?_⟩
 refine qb9 ⟨⟨[], false⟩, _, [(_, _), (_, _)], []⟩ 12 rfl (by kernel_rfl) ⟨Hp.Le.refl _, (sc [6,0] rfl), ci0⟩ ?_
 refine fa rfl (qan m0 rfl rfl ?_)
 intro gJ
 refine cb hm fun ii dJ hm => ckx (Jap dJ :) ?_
 rintro _ _ _ ⟨eo, ee, cK, bU, bO, dc, cP, dU, rfl, cJ, co, cj, ce, bP, rfl⟩
 refine ⟨⟨lr, (sc [6,5] rfl), ci0⟩, ?_⟩
 refine ⟨_, .cons r8 .nil, ⟨lr, (sc [6,5] rfl), ci0⟩, ?_⟩
 refine qba m1 rfl (nl rfl) ?_
 intro iI
 refine cb hm fun gx ei hm => cgx (JdY ei :) ?_
 refine ⟨⟨lr, (sc [6,5] rfl), ci0⟩, ?_⟩
 refine ⟨_, .cons r8 .nil, ⟨lr, (sc [6,5] rfl), ci0⟩, ?_⟩
 refine qfp rfl ?_
 intro iK
 intro ib
 refine qaa r0 rfl ⟨rfl, rfl, (nl rfl), ?_⟩
 refine ⟨⟨lr, (sc [7,6] rfl), ci0⟩, ?_⟩
 refine ⟨_, .cons r9 .nil, ⟨lr, (sc [7,6] rfl), ci0⟩, ?_⟩
 refine qa1 ?_
 refine cs rfl rfl hm ?_ ?_ <;> intro hH hm
 refine qa7 rfl ?_
 exact eE hm
 refine ro (qae r0 rfl (nl rfl) ?_)
 refine cb hm fun gU dE hm => ckx (Jak dE :) ?_
 rintro _ _ _ ⟨ep, bL, cM, cH, cq, ey, ca, dK, rfl, dH, d5, dz, cV, eL, rfl⟩
 exact eE hm
 refine qad (cs rfl rfl hm ?_ ?_) <;> intro gw hm
 refine cb hm fun gR cz hm => ckx (Jap cz :) ?_
 rintro _ _ _ ⟨bQ, cD, dF, ek, bK, cw, cX, bM, rfl, cA, d4, dv, cC, dC, rfl⟩
 refine qal rfl fun iF => ?_
 refine qaa r0 rfl ⟨rfl, rfl, (nl rfl), ?_⟩
 refine fa rfl (ro (ld r0 rfl rfl (qa2 ?_)))
 refine cs rfl rfl hm ?_ ?_ <;> intro gY hm
 refine qa7 rfl ?_
 exact eE hm
 refine fa rfl (ro (ld r0 rfl rfl (qa1 ?_)))
 refine cb hm fun ia dL hm => cg0 (Jaq dL :) ?_
 refine cb hm fun gH bR hm => ckx (Jak bR :) ?_
 rintro _ _ _ ⟨cI, eK, eu, dQ, dG, d9, di, dT, rfl, dP, cW, dY, cU, dk, rfl⟩
 exact eE hm
 refine qad (cs rfl rfl hm ?_ ?_) <;> intro gO hm
 refine fa rfl (ro (ld r1 rfl rfl ?_))
 exact eE hm
 refine qad (cs rfl rfl hm ?_ ?_) <;> intro ij hm
 refine cb hm fun gI d7 hm => ckx (Jap d7 :) ?_
 rintro _ _ _ ⟨eC, dw, bX, eJ, dj, bW, eH, cY, rfl, d6, db, eO, dI, dS, rfl⟩
 refine qal rfl fun iE => ?_
 refine qaa r0 rfl ⟨rfl, rfl, (nl rfl), ?_⟩
 refine fa rfl (ro (ld r0 rfl rfl (qa2 ?_)))
 refine cs rfl rfl hm ?_ ?_ <;> intro gA hm
 refine qa7 rfl ?_
 exact eE hm
 refine fa rfl (ro (ld r0 rfl rfl (qa1 ?_)))
 refine cs rfl rfl hm ?_ ?_ <;> intro hZ hm
 refine fa rfl (ro (ld r6 rfl rfl ?_))
 exact eE hm
 exact eE hm
 refine qad (cs rfl rfl hm ?_ ?_) <;> intro hU hm
 refine qak rfl rfl ?_
 refine qal rfl fun gG => ?_
 refine qaa r0 rfl ⟨rfl, rfl, (nl rfl), ?_⟩
 obtain ⟨bN, bb, hm⟩ := bnd hm
 refine jR (σ := Bool) (rg 168 14) (fun bg => [(181, .bool bg)]) (fun bg => bg = bN) ?_ ?_
 replace bb := bsm bb
 refine qah rfl ?_
 refine fa rfl (ro (ld r2 rfl rfl (qb4 ?_)))
 refine qag ?_ ?_ <;> intro aV
 refine fa rfl (ct aV (ro (ld r2 rfl rfl (ct aV (qb4 (ct aV ?_))))))
 obtain ⟨bS, bc, bb⟩ := bnd bb
 refine qag ?_ ?_ <;> intro aU
 replace bc := ift (qby aV aU) bc
 refine fa rfl (ct aU (ro (ld r2 rfl rfl (ct aU ?_))))
 refine cb bc fun gC cu bc => cg0 (Jbn cu :) ?_
 refine ct aU (qa1 (ct aU ?_))
 exact eMq bb _ ⟨bq (si bc), trivial⟩
 replace bc := qa6 (qb8 aV aU) bc
 refine cf aU (cf aU (cf aU (cf aU ?_)))
 exact eMq bb _ ⟨bq (si bc), trivial⟩
 refine cf aV (cf aV (cf aV ?_))
 obtain ⟨bS, bc, bb⟩ := bnd bb
 replace bc := qa6 (qa0 aV) bc
 refine cF (cF (cF (cF (cF ?_))))
 exact eMq bb _ ⟨bq (si bc), trivial⟩
 rintro bg rfl ik
 obtain ⟨eh, bd, hm⟩ := bnd hm
 refine jD (σ := (Int × Int × Str × Bool × Jf) × Option Addr × Nat × Option Addr × Nat × Option Addr × Nat × Option Addr × Nat) [182,183] [2, 7] (fun (aS, aW, a8, aZ, ba, aX, a6, aT, aY) => []) (fun (aS, aW, a8, aZ, ba, aX, a6, aT, aY) => [Cells b0 98 ((str m.Ar.Am) :: (str m.Ar.An) :: (str m.Ar.Ae) :: (str m.Ar.Af) :: (.slice aa m.Ar.Ao.length ab) :: (.int .i64 aS.2.2.2.2.most) :: (str aS.2.2.2.2.result.Ae) :: (str aS.2.2.2.2.result.Af) :: (.slice aW aS.2.2.2.2.result.Ag.length a8) :: (.slice aZ aS.2.2.2.2.result.Vary.length ba) :: (.slice aX aS.2.2.2.2.result.Ah.length a6) :: (.int .i64 aS.2.2.2.2.result.TTL) :: (.int .i64 aS.2.2.2.2.result.Ai) :: (.int .i64 aS.2.2.2.2.result.Aj) :: (.bool aS.2.2.2.2.result.Ak) :: (.bool aS.2.2.2.2.result.Al) :: (.slice aT aS.2.2.2.2.stack.length aY) :: (aS.2.2.2.2.Ap.map Jd.enc).flatten), OwnL Je.enc aW 77 2 a8 aS.2.2.2.2.result.Ag, OwnL eS aZ 9 1 ba aS.2.2.2.2.result.Vary, OwnL eS aX 9 1 a6 aS.2.2.2.2.result.Ah, OwnL Jd.enc aT 95 4 aY aS.2.2.2.2.stack, Cells gG 95 [.int .i64 aS.1, .int .i64 aS.2.1, str aS.2.2.1, .bool aS.2.2.2.1]]) (fun (aS, aW, a8, aZ, ba, aX, a6, aT, aY) => (0 < aS.2.2.2.2.result.Ag.length → Has aW) ∧ (0 < aS.2.2.2.2.result.Vary.length → Has aZ) ∧ (0 < aS.2.2.2.2.result.Ah.length → Has aX) ∧ (0 < aS.2.2.2.2.stack.length → Has aT) ∧ aS.2.2.2.2.Ap.length = 512 ∧ aS = eh) (And.intro ?_ ?_)
 refine cs rfl rfl bd ?_ ?_ <;> intro gX bd
 refine cb bd fun gF cO bd => ckx (Jap cO :) ?_
 rintro _ _ _ ⟨dt, dq, bJ, dB, c8, ej, cp, dX, rfl, cd, dx, da, bV, df, rfl⟩
 refine qaa r5 rfl ⟨rfl, rfl, (nl rfl), ?_⟩
 exact eM bd (_, _, _, _, _, _, _, _, _)
 exact eM bd (_, _, _, _, _, _, _, _, _)
 rintro ⟨aS, aW, a8, aZ, ba, aX, a6, aT, aY⟩ ⟨bw, bB, bz, bA, bC, rfl⟩ gz
 refine qau ⟨⟨[], false⟩, _, [(_, _), (_, _)], []⟩ (by kernel_rfl) ⟨Hp.Le.refl _, (sc [6,5] rfl), ci0⟩ ?_
 refine qao (fa rfl (fa rfl (qan m0 rfl rfl (qba m1 rfl (nl rfl) ?_))))
 refine cb hm fun ie d8 hm => ckx (Jdg (aI := [str m.Ar.Am, str m.Ar.An, str m.Ar.Ae, str m.Ar.Af, .slice aa m.Ar.Ao.length ab, .int .i64 aS.2.2.2.2.most]) (aP := (.slice aT aS.2.2.2.2.stack.length aY) :: (aS.2.2.2.2.Ap.map Jd.enc).flatten) d8 :) ?_
 rintro _ _ _ ⟨cE, dM, em, dN, d3, dm, rfl, eG, cR, dD, rfl⟩
 refine qk (sc [6,5] rfl) ?_
 refine qbo rfl ?_
 refine cs rfl rfl hm ?_ ?_ <;> intro gy hm
 exact eE hm
 refine fa rfl (ro (ld r6 rfl rfl (qam ?_)))
 refine cs rfl rfl hm ?_ ?_ <;> intro gV hm
 exact eE hm
 exact eE hm
 refine qad (cs rfl rfl hm ?_ ?_) <;> intro ig hm
 exact eE hm
 exact eE hm

def Jbp (code : (List Jj)) (Ar : JG) : Nat → Int → Jf → Option (Fl (Jh × Err) (Int × Jf))
  | 0, _, _ => none
  | aU + 1, ac, aS =>
    if decide (ac ≥ 0) then
    (ix code ac).bind fun aV =>
    (JcT (⟨Ar, aS.most, aS.result, aS.stack, aS.Ap⟩ : Jf) ac aV).bind fun aT =>
    if aT.2.1.isSome then
    some (Fl.ret ((⟨([] : Str), ([] : Str), [], [], [], 0, 0, 0, false, false⟩ : Jh), aT.2.1))
    else
    Jbp code Ar aU aT.1 (⟨Ar, aT.2.2.most, aT.2.2.result, aT.2.2.stack, aT.2.2.Ap⟩ : Jf)
    else
    some (Fl.go (ac, (⟨Ar, aS.most, aS.result, aS.stack, aS.Ap⟩ : Jf)))
def JbI (n : Nat) (code : (List Jj)) (Ar : JG) (most : Int) : Option (Jh × Err) :=
  (JdT code).bind fun aS =>
  if aS.isSome then
  some ((⟨([] : Str), ([] : Str), [], [], [], 0, 0, 0, false, false⟩ : Jh), (some 2))
  else
  (Jbp code Ar n 0 (⟨Ar, most, (⟨Ar.Ae, Ar.Af, [], [], [], (-1), 0, 0, false, false⟩ : Jh), [], (List.replicate 512 (⟨0, 0, ([] : Str), false⟩ : Jd))⟩ : Jf)).bind fun s0 => s0.el some fun t0 =>
  some (t0.2.result, none)
theorem Jf6 {n : Nat} {code : (List Jj)} {Ar : JG} {most : Int} {aa : Option Addr} {ab : Nat} {n0 : Nat} {ag : Option Addr} {ah : Nat} {K : Hp} {r : Jh × Err}
    (hm : JbI n code Ar most = some r) (hX : RdC Jj.enc K aa ab 3 code ∧ n0 = code.length ∧ RdC Je.enc K ag ah 2 Ar.Ao ∧ GG K) :
    Fn Tryz.prog 13 [.slice aa n0 ab, .agg #[str Ar.Am, str Ar.An, str Ar.Ae, str Ar.Af, .slice ag Ar.Ao.length ah], .int .i64 most] K [] (fun v K' H' => ∃ ar_0 : Option Addr, ∃ cr_0 : Nat, ∃ ar_1 : Option Addr, ∃ cr_1 : Nat, ∃ ar_2 : Option Addr, ∃ cr_2 : Nat, v = .tuple #[.agg #[str r.1.Ae, str r.1.Af, .slice ar_0 r.1.Ag.length cr_0, .slice ar_1 r.1.Vary.length cr_1, .slice ar_2 r.1.Ah.length cr_2, .int .i64 r.1.TTL, .int .i64 r.1.Ai, .int .i64 r.1.Aj, .bool r.1.Ak, .bool r.1.Al], qde 87 r.2] ∧ (0 < r.1.Ag.length → Has ar_0) ∧ (0 < r.1.Vary.length → Has ar_1) ∧ (0 < r.1.Ah.length → Has ar_2) ∧ H' = [OwnL Je.enc ar_0 77 2 cr_0 r.1.Ag, OwnL eS ar_1 9 1 cr_1 r.1.Vary, OwnL eS ar_2 9 1 cr_2 r.1.Ah]) := by
 obtain ⟨ae, bT, af, hG⟩ := hX
 subst bT
 refine Fn.enter Tryz.func13 Tryz.call13 rfl fun F => ?_
 unfold JbI at hm
 refine qaq ?_
 intro b4
 refine qal rfl fun b6 => ?_
 refine cb hm fun bY bR hm => cgx (Je1 bR :) ?_
 refine qbo rfl ?_
 refine cs rfl rfl hm ?_ ?_ <;> intro bZ hm
 refine qak rfl rfl ?_
 refine qa7 rfl ?_
 refine qaa r0 rfl ⟨rfl, rfl, (nl rfl), ?_⟩
 refine ro (qae r0 rfl (nl rfl) ?_)
 refine qhp Je.enc 77 2 ?_
 refine qhp eS 9 1 ?_
 refine qhp eS 9 1 ?_
 exact eE hm
 refine ro (qae r1 rfl (nl rfl) (fa rfl (ro (ld r1 rfl rfl (fa rfl (ro (ld r1 rfl rfl (qak rfl rfl (cT (cT ?_))))))))))
 refine cT ?_
 refine qnp (enc := Jd.enc) [str ([] : Str), str ([] : Str), str ([] : Str), str ([] : Str), .slice none 0 0, .int .i64 0, str ([] : Str), str ([] : Str), .slice none 0 0, .slice none 0 0, .slice none 0 0, .int .i64 0, .int .i64 0, .int .i64 0, .bool false, .bool false, .slice none 0 0] (List.replicate 512 (⟨0, 0, ([] : Str), false⟩ : Jd)) (by kernel_rfl) rfl ?_
 refine cT (cT (cT ?_))
 refine qrs ?_
 intro bU
 obtain ⟨s0, a6, hm⟩ := bnd hm
 refine qkc Je.enc 77 2 ?_
 refine qkc eS 9 1 ?_
 refine qkc eS 9 1 ?_
 refine qkc Jd.enc 95 4 ?_
 refine lD (σ := (Int × Jf) × Option Addr × Nat × Option Addr × Nat × Option Addr × Nat × Option Addr × Nat) ([7,9,10,11] ++ rg 26 17) [5, 6, 7] (fun _ => []) (fun (t0, aU, aZ, aV, aX, aS, aY, aT, aW) => [(9, .int .i64 t0.1)]) (fun (t0, aU, aZ, aV, aX, aS, aY, aT, aW) => [Cells bU 98 ((str Ar.Am) :: (str Ar.An) :: (str Ar.Ae) :: (str Ar.Af) :: (.slice ag Ar.Ao.length ah) :: (.int .i64 t0.2.most) :: (str t0.2.result.Ae) :: (str t0.2.result.Af) :: (.slice aU t0.2.result.Ag.length aZ) :: (.slice aV t0.2.result.Vary.length aX) :: (.slice aS t0.2.result.Ah.length aY) :: (.int .i64 t0.2.result.TTL) :: (.int .i64 t0.2.result.Ai) :: (.int .i64 t0.2.result.Aj) :: (.bool t0.2.result.Ak) :: (.bool t0.2.result.Al) :: (.slice aT t0.2.stack.length aW) :: (t0.2.Ap.map Jd.enc).flatten), OwnL Je.enc aU 77 2 aZ t0.2.result.Ag, OwnL eS aV 9 1 aX t0.2.result.Vary, OwnL eS aS 9 1 aY t0.2.result.Ah, OwnL Jd.enc aT 95 4 aW t0.2.stack]) (fun (t0, aU, aZ, aV, aX, aS, aY, aT, aW) => (0 < t0.2.result.Ag.length → Has aU) ∧ (0 < t0.2.result.Vary.length → Has aV) ∧ (0 < t0.2.result.Ah.length → Has aS) ∧ (0 < t0.2.stack.length → Has aT) ∧ t0.2.Ap.length = 512) (fun i0 (t0, aU, aZ, aV, aX, aS, aY, aT, aW) => Jbp code Ar i0 t0.1 t0.2 = some s0) (fun (t0, aU, aZ, aV, aX, aS, aY, aT, aW) => s0 = Fl.go t0) (fun i0 => i0) n ((0, (⟨Ar, most, (⟨Ar.Ae, Ar.Af, [], [], [], (-1), 0, 0, false, false⟩ : Jh), [], (List.replicate 512 (⟨0, 0, ([] : Str), false⟩ : Jd))⟩ : Jf)), none, 0, none, 0, none, 0, none, 0) a6 (And.intro ⟨⟨(fun h => by simp at h), (fun h => by simp at h), (fun h => by simp at h), (fun h => by simp at h), List.length_replicate⟩, ⟨rfl, trivial⟩, _, (ss [4,3,2,1,0,0,0,0] rfl)⟩ (And.intro ?_ ?_))
 clear a6
 rintro i0 ⟨⟨ac, bQ⟩, bg, bh, bz, bu, bp, bf, bw, a8⟩ ⟨ba, bm, bj, bo, bt⟩ a6 j0
 dsimp only at a6 ⊢
 cases i0 with
 | zero => rw [Jbp.eq_1] at a6; cases a6
 | succ i0 =>
  rw [Jbp.eq_2] at a6
  refine cs rfl rfl a6 ?_ ?_ <;> intro bV a6
  refine qai rfl ?_
  obtain ⟨ca, bK, bA, a6⟩ := ixb a6
  refine RStep.ofN (qac rfl rfl (qcc ae.rd bA) bK (qas rfl bK bA) (ro (qap ((ac).toNat) _ ae.rd rfl (mp bA) rfl ?_)))
  refine cb a6 fun bW bS a6 => ckx (Jem bS :) ?_
  rintro _ _ _ ⟨bM, bI, bP, bJ, bL, bH, bF, bG, rfl, bD, bO, bN, bB, bC, rfl⟩
  refine qbo rfl ?_
  refine cs rfl rfl a6 ?_ ?_ <;> intro bX a6
  refine qak rfl rfl ?_
  refine qaa r5 rfl ⟨rfl, rfl, (nl rfl), ?_⟩
  refine ro (qae r0 rfl (nl rfl) ?_)
  refine qhp Je.enc 77 2 ?_
  refine qhp eS 9 1 ?_
  refine qhp eS 9 1 ?_
  exact eE (er a6 hm)
  exact eR a6 (_, (_, _), _, _, _, _, _, _, _, _)
  refine cT ?_
  exact eM a6 (_, _, _, _, _, _, _, _, _)
 rintro ⟨t0, aU, aZ, aV, aX, aS, aY, aT, aW⟩ ⟨bd, bc, bb, bn, br⟩ rfl j0
 replace hm := elg hm
 refine qao (fa rfl (ro (qae r0 rfl (nl rfl) ?_)))
 refine qaa r5 rfl ⟨rfl, rfl, (nl rfl), ?_⟩
 exact ro (qae r0 rfl (nl rfl) (eE hm))

def JaB (n : Nat) : Option (Bool) :=
  (JbI n ([(⟨2, 0, ([120] : Str)⟩ : Jj), (⟨11, 0, ([116, 97, 103] : Str)⟩ : Jj), (⟨12, 0, ([] : Str)⟩ : Jj)]) (⟨([] : Str), ([] : Str), ([47] : Str), ([] : Str), []⟩ : JG) 3).bind fun x9 =>
  (if (x9.2.isNone && decide ((x9.1.Ah.length : Int) = 1)) then (ix x9.1.Ah 0).bind fun aS =>
  some (decide (aS = ([120] : Str))) else some false).bind fun aT =>
  some (((aT && decide (x9.1.Aj = 3)) && decide (x9.1.TTL = (-1))) && decide (x9.1.Ae = ([47] : Str)))
theorem JeK {n : Nat}  {K : Hp} {r : Bool}
    (hm : JaB n = some r) (hG : GG K) :
    Fn Tryz.prog 10 [] K [] (fun v K' H' => v = .bool r ∧ H' = []) := by
 refine Fn.enter Tryz.func10 Tryz.call10 rfl fun F => ?_
 unfold JaB at hm
 refine qak rfl rfl (cT (cT (qak rfl rfl (cT (cT (qak rfl rfl (cT ?_)))))))
 refine bsO (len := 3) (enc := Jj.enc) (l := [(⟨2, 0, ([120] : Str)⟩ : Jj), (⟨11, 0, ([116, 97, 103] : Str)⟩ : Jj), (⟨12, 0, ([] : Str)⟩ : Jj)]) (cl := [.int .i64 2, .int .i64 0, str ([120] : Str), .int .i64 11, .int .i64 0, str ([116, 97, 103] : Str), .int .i64 12, .int .i64 0, str ([] : Str)]) qxz rfl rfl (fun _ _ => rfl) rfl rfl rfl ?_ fun b7 => ?_
 · conv => whnf
   refine cT (cT (cT ?_))
   first | done | rfl
 refine qak rfl rfl (cT ?_)
 refine cb hm fun x9 q9 hm => ck0 (Fn.lend Tryz.call13 (fun bc a8 a6 => (Jf6 (Ar := (⟨([] : Str), ([] : Str), ([47] : Str), ([] : Str), []⟩ : JG)) (most := 3) q9 ⟨a6, rfl, RdC.nil, (hG.mono a8)⟩)) (by exact fun _ _ _ _ h => h)) ?_
 rintro _ _ _ ⟨_, rfl, bg, bb, bf, bd, bn, bo, rfl, bm, bh, aY, rfl⟩
 refine qal rfl fun b1 => ?_
 refine qaa r0 rfl ⟨rfl, rfl, (nl rfl), ?_⟩
 refine qah rfl ?_
 refine qgn rfl ?_
 refine qag ?_ ?_ <;> intro aT
 refine fa rfl (ct aT (ro (ld r0 rfl rfl (ct aT (ro (qaj rfl (ct aT (qad (ct aT ?_)))))))))
 obtain ⟨bj, aX, hm⟩ := bnd hm
 refine qag ?_ ?_ <;> intro aS
 replace aX := ift (qby aT aS) aX
 refine fa rfl (ct aS (ro (ld r0 rfl rfl (ct aS ?_))))
 obtain ⟨bp, ba, aZ, aX⟩ := ixb aX
 refine RStep.ofN (qac rfl rfl (qcp aY aZ) ba (qas rfl ba aZ) (ct aS (ro (qbq (i := (0 : Int).toNat) (o := 0) r4 rfl aZ rfl rfl (ct aS (qam (ct aS ?_)))))))
 refine qag ?_ ?_ <;> intro aU
 refine fa rfl (ct aU (ro (ld r0 rfl rfl (ct aU (qad (ct aU ?_))))))
 refine qag ?_ ?_ <;> intro aV
 refine fa rfl (ct aV (ro (ld r0 rfl rfl (ct aV (qad (ct aV ?_))))))
 refine qag ?_ ?_ <;> intro aW
 refine fa rfl (ct aW (ro (ld r0 rfl rfl (ct aW (qam (ct aW ?_))))))
 exact bE (qbw (b := decide (x9.1.Ae = ([47] : Str))) (qby (qby ((si aX).symm.trans aU) aV) aW)) (eE hm)
 refine cf aW (cf aW (cf aW ?_))
 exact bE (((qa0 (qb8 (qby ((si aX).symm.trans aU) aV) aW))).symm) (eE hm)
 refine cf aV (cf aV (cf aV (cF (cF (cF (cF ?_))))))
 exact bE (((qa0 (qa0 (qb8 ((si aX).symm.trans aU) aV)))).symm) (eE hm)
 refine cf aU (cf aU (cf aU (cF (cF (cF (cF (cF ?_)))))))
 refine cF (cF (cF ?_))
 exact bE (((qa0 (qa0 (qa0 ((si aX).symm.trans aU))))).symm) (eE hm)
 replace aX := qa6 (qb8 aT aS) aX
 refine cf aS (cf aS (cf aS (cf aS (cf aS (cF (cF (cF ?_)))))))
 refine cF (cF (cF (cF (cF (cF (cF (cF ?_)))))))
 refine cF ?_
 exact bE (((qa0 (qa0 (qa0 (si aX).symm)))).symm) (eE hm)
 refine cf aT (cf aT (cf aT (cf aT ?_)))
 obtain ⟨bj, aX, hm⟩ := bnd hm
 replace aX := qa6 (qa0 aT) aX
 refine cF (cF (cF (cF (cF (cF (cF (cF ?_)))))))
 refine cF (cF (cF (cF (cF (cF (cF (cF ?_)))))))
 refine cF (cF ?_)
 exact bE (((qa0 (qa0 (qa0 (si aX).symm)))).symm) (eE hm)

def Ja9 (depth : Int) (rec_ : (Jb → Int → Option (Int))) : List Jb → Nat → Int → Option (Fl (Int) (Int))
  | [], _, ac => some (Fl.go ac)
  | e0 :: aT, i0, ac =>
    (chk (InI (depth - 1))).bind fun _ =>
    (rec_ e0 (depth - 1)).bind fun aS =>
    (chk (InI (ac + aS))).bind fun _ =>
    if decide ((ac + aS) > 700) then
    some (Fl.ret (ac + aS))
    else
    Ja9 depth rec_ aT (i0 + 1) (ac + aS)
def JaP : Nat → Jb → Int → Option (Int)
  | 0, _, _ => none
  | n + 1, n', depth =>
    if (decide (depth = 0) || decide ((n'.Ac.length : Int) > 3000)) then
    some 1000
    else
    (chk (n'.Aa.length ≤ qax)).bind fun _ =>
    (Ja9 depth (JaP n) n'.Aa 0 1).bind fun s0 => s0.el some fun t0 =>
    some t0
theorem JfJ : ∀ {n : Nat} {n' : Jb} {depth : Int} {aa : Option Addr} {ab : Nat} {K : Hp} {r : Int}
    (hm : JaP n n' depth = some r) (ae : LiC Jb.R K aa ab 4 n'.Aa),
    Fn Tryz.prog 83 [.agg #[.int .i64 n'.Ab, str n'.Ac, .slice aa n'.Aa.length ab, .int .i64 n'.Ad], .int .i64 depth] K [] (fun v K' H' => v = .int .i64 r ∧ H' = []) := by
 intro n
 induction n with
 | zero =>
   intro n' depth aa ab K r hm ae
   rw [JaP.eq_1] at hm; cases hm
 | succ n ih =>
   intro n' depth aa ab K r hm ae
   refine Fn.enter Tryz.func83 Tryz.call83 rfl fun F => ?_
   rw [JaP.eq_2] at hm
   refine qaq ?_
   intro b2
   refine jR (σ := Unit) (rg 8 8) (fun _ => [(15, .bool (decide (depth = 0) || decide ((n'.Ac.length : Int) > 3000)))]) (fun bc => True) ?_ ?_
   refine qah rfl ?_
   refine qad ?_
   refine qag ?_ ?_ <;> intro aS
   refine ct aS (ct aS (ct aS (ct aS ?_)))
   exact eMt () ⟨bq (((qcj aS)).symm), trivial⟩
   refine fa rfl (cf aS (ro (ld r0 rfl rfl (cf aS (ro (qat rfl (cf aS (cf aS ?_))))))))
   exact eMt () ⟨bq (qhe (b := decide ((n'.Ac.length : Int) > 3000)) aS), trivial⟩
   rintro _ _ bg
   refine cs rfl rfl hm ?_ ?_ <;> intro bj hm
   exact eE hm
   refine fa rfl (ro (ld r0 rfl rfl (ro (qaj rfl ?_))))
   obtain ⟨a8, hm⟩ := qay hm
   obtain ⟨s0, aT, hm⟩ := bnd hm
   refine lD (σ := (Int)) ([4,5,7] ++ rg 19 14) [0, 1] (fun i0 => [(19, .int .i64 (i0 : Int))]) (fun t0 => [(5, .int .i64 t0)]) (fun _ => []) (fun _ => True) (fun i0 t0 => Ja9 depth (JaP n) (n'.Aa.drop i0) i0 t0 = some s0) (fun t0 => s0 = Fl.go t0) (fun i0 => n'.Aa.length - i0) 0 _ aT (And.intro qe (And.intro ?_ ?_))
   clear aT
   rintro i0 ac _ aT j0
   conv at aT => whnf
   refine qaf rfl ?_
   refine qag ?_ ?_ <;> intro w0
   obtain ⟨e0, aU, bf⟩ := ltx w0
   rw [bf, Ja9.eq_2] at aT
   refine qai rfl ?_
   refine RStep.ofN (qac rfl rfl (qcf ae.rd aU) (nn _) (qbg aU) ?_)
   obtain ⟨bb, ba, aW, aV, aX⟩ := LiR.get ae.rd aU
   obtain ⟨a6, aY, rfl, aZ⟩ := Jb.out aX
   refine ro (qap i0 _ aW rfl aV rfl ?_)
   refine qal rfl fun b7 => ?_
   refine qaa r0 rfl ⟨rfl, rfl, (nl rfl), ?_⟩
   refine ro (qae r0 rfl (nl rfl) ?_)
   refine ci aT fun aT => ?_
   refine cb aT fun bm bd aT => cgx (ih bd :) ?_
   refine ci aT fun aT => ?_
   refine cs rfl rfl aT ?_ ?_ <;> intro bh aT
   exact eE (er aT hm)
   refine qar (qbu aU a8) ?_
   exact eR aT (_, _)
   rw [lty w0, Ja9.eq_1] at aT
   refine cT ?_
   exact eM aT _
   rintro t0 _ rfl j0
   replace hm := elg hm
   exact eE hm

def Jce (n : Nat) (n' : Jb) : Option (Bool) :=
  (JaP n n' 40).bind fun x4 =>
  some (decide (x4 > 700))
theorem JfK {n : Nat} {n' : Jb} {aa : Option Addr} {ab : Nat} {K : Hp} {r : Bool}
    (hm : Jce n n' = some r) (ae : LiC Jb.R K aa ab 4 n'.Aa) :
    Fn Tryz.prog 50 [.agg #[.int .i64 n'.Ab, str n'.Ac, .slice aa n'.Aa.length ab, .int .i64 n'.Ad]] K [] (fun v K' H' => v = .bool r ∧ H' = []) := by
 refine Fn.enter Tryz.func50 Tryz.call50 rfl fun F => ?_
 unfold Jce at hm
 refine qaq ?_
 intro b1
 refine ro (qae r0 rfl (nl rfl) ?_)
 refine cb hm fun x4 q4 hm => cgx (JfJ q4 :) ?_
 exact eE hm

def Jcr (n : Nat) (n' : Jb) : Option (Bool) :=
  (Jce n n').bind fun x4 =>
  some x4
theorem JfL {n : Nat} {n' : Jb} {aa : Option Addr} {ab : Nat} {K : Hp} {r : Bool}
    (hm : Jcr n n' = some r) (ae : LiC Jb.R K aa ab 4 n'.Aa) :
    Fn Tryz.prog 21 [.agg #[.int .i64 n'.Ab, str n'.Ac, .slice aa n'.Aa.length ab, .int .i64 n'.Ad]] K [] (fun v K' H' => v = .bool r ∧ H' = []) := by
 refine Fn.enter Tryz.func21 Tryz.call21 rfl fun F => ?_
 unfold Jcr at hm
 refine qaq ?_
 intro b1
 refine ro (qae r0 rfl (nl rfl) ?_)
 refine cb hm fun x4 q4 hm => cgx (JfK q4 :) ?_
 exact eE hm

def Jcf (Ar : Ju) : Nat → Int → Int → Option (Int × Int)
  | 0, _, _ => none
  | aU + 1, ac, aS =>
    if decide (aS < (Ar.Ao.length : Int)) then
    (ix Ar.Ao aS).bind fun aV =>
    (ix Ar.Ao aS).bind fun aT =>
    Jcf Ar aU (IntKind.i64.wrap (ac + (IntKind.i64.wrap ((aV.Name.length : Int) + (aT.Value.length : Int))))) (IntKind.i64.wrap (aS + 1))
    else
    some (ac, aS)
def JcF (n : Nat) (Ar : Ju) : Option (Bool) :=
  (Jcf Ar n (IntKind.i64.wrap ((IntKind.i64.wrap ((IntKind.i64.wrap ((Ar.Am.length : Int) + (Ar.An.length : Int))) + (Ar.Ae.length : Int))) + (Ar.Af.length : Int))) 0).bind fun t0 =>
  some (decide (t0.1 ≤ 8000) && decide ((Ar.Ao.length : Int) ≤ 40))
theorem Jf7 {n : Nat} {Ar : Ju} {aa : Option Addr} {ab : Nat} {K : Hp} {r : Bool}
    (hm : JcF n Ar = some r) (ae : RdC Jc.enc K aa ab 2 Ar.Ao) :
    Fn Tryz.prog 12 [.agg #[str Ar.Am, str Ar.An, str Ar.Ae, str Ar.Af, .slice aa Ar.Ao.length ab]] K [] (fun v K' H' => v = .bool r ∧ H' = []) := by
 refine Fn.enter Tryz.func12 Tryz.call12 rfl fun F => ?_
 unfold JcF at hm
 refine qaq ?_
 intro b1
 refine fa rfl (ro (ld r0 rfl rfl (ro (qat rfl (fa rfl (ro (ld r0 rfl rfl (ro (qat rfl ?_)))))))))
 refine qd7 ?_
 refine fa rfl (ro (ld r0 rfl rfl (ro (qat rfl ?_))))
 refine qd7 ?_
 refine fa rfl (ro (ld r0 rfl rfl (ro (qat rfl ?_))))
 refine qd7 ?_
 obtain ⟨s0, aT, hm⟩ := bnd hm
 refine lD (σ := (Int × Int)) ([3,4] ++ rg 20 24) [0, 1] (fun _ => []) (fun t0 => [(3, .int .i64 t0.1), (4, .int .i64 t0.2)]) (fun _ => []) (fun _ => True) (fun i0 t0 => Jcf Ar i0 t0.1 t0.2 = some s0) (fun t0 => t0 = s0) (fun i0 => i0) n (_, _) aT (And.intro qe (And.intro ?_ ?_))
 clear aT
 rintro i0 ⟨ac, aU⟩ _ aT j0
 dsimp only at aT ⊢
 cases i0 with
 | zero => rw [Jcf.eq_1] at aT; cases aT
 | succ i0 =>
  rw [Jcf.eq_2] at aT
  refine fa rfl (ro (ld r0 rfl rfl (ro (qaj rfl ?_))))
  refine cs rfl rfl aT ?_ ?_ <;> intro a6 aT
  refine qai rfl ?_
  refine qau ⟨⟨[], false⟩, _, [(_, _)], []⟩ (by kernel_rfl) ⟨Hp.Le.refl _, (pf rfl), ci0⟩ ?_
  refine fa rfl (qan m0 rfl rfl ?_)
  obtain ⟨aZ, aY, aV, aT⟩ := ixb aT
  refine qac rfl rfl (qcc ae.rd aV) aY (qas rfl aY aV) (qaw rfl (qcc ae.rd aV) (qbj ((aU).toNat) 0 _ _ ae.rd rfl (mp aV) rfl rfl (qbs rfl (fa rfl (qan m0 rfl rfl ?_)))))
  obtain ⟨a8, aX, aW, aT⟩ := ixb aT
  refine qac rfl rfl (qcc ae.rd aW) aX (qas rfl aX aW) (qaw rfl (qcc ae.rd aW) (qbj ((aU).toNat) 1 _ _ ae.rd rfl (mp aW) rfl rfl (qbs rfl ?_)))
  refine qd7 ?_
  refine qd7 ?_
  refine qd7 ?_
  exact eR aT (_, (_, _))
  refine cT ?_
  exact eM aT _
 rintro t0 _ rfl j0
 refine qah rfl ?_
 refine qag ?_ ?_ <;> intro aS
 refine fa rfl (ct aS (ro (ld r0 rfl rfl (ct aS (ro (qaj rfl (ct aS (ct aS ?_))))))))
 exact bE (qbw (b := decide ((Ar.Ao.length : Int) ≤ 40)) aS) (eE hm)
 refine cf aS (cf aS (cf aS (cf aS ?_)))
 exact bE (((qa0 aS)).symm) (eE hm)

def Jcs (rec_ : (Jb → Option (Ja))) : List Jb → Nat → (List Ja) → Option ((List Ja))
  | [], _, ac => some ac
  | e0 :: aT, i0, ac =>
    (rec_ e0).bind fun aS =>
    (chk (ac.length + [aS].length ≤ lim)).bind fun _ =>
    Jcs rec_ aT (i0 + 1) (ac ++ [aS])
def JcG : Nat → Jb → Option (Ja)
  | 0, _ => none
  | n + 1, n' =>
    (chk (n'.Aa.length ≤ qax)).bind fun _ =>
    (Jcs (JcG n) n'.Aa 0 []).bind fun t0 =>
    some (⟨n'.Ab, n'.Ac, t0, n'.Ad⟩ : Ja)
theorem Jgt : ∀ {n : Nat} {n' : Jb} {aa : Option Addr} {ab : Nat} {K : Hp} {r : Ja}
    (hm : JcG n n' = some r) (ae : LiC Jb.R K aa ab 4 n'.Aa),
    Fn Tryz.prog 23 [.agg #[.int .i64 n'.Ab, str n'.Ac, .slice aa n'.Aa.length ab, .int .i64 n'.Ad]] K [] (fun v K' H' => ∃ ar_0 : Option Addr, ∃ cr_0 : Nat, ∃ sr_0 : List (List Value), v = .agg #[.int .i64 r.Ab, str r.Ac, .slice ar_0 r.Aa.length cr_0, .int .i64 r.Ad] ∧ (0 < r.Aa.length → Has ar_0) ∧ LR Ja.R K' sr_0 r.Aa ∧ H' = [OwnA ar_0 68 4 cr_0 sr_0]) := by
 intro n
 induction n with
 | zero =>
   intro n' aa ab K r hm ae
   rw [JcG.eq_1] at hm; cases hm
 | succ n ih =>
   intro n' aa ab K r hm ae
   refine Fn.enter Tryz.func23 Tryz.call23 rfl fun F => ?_
   rw [JcG.eq_2] at hm
   refine qaq ?_
   intro b1
   refine qal rfl fun b2 => ?_
   refine fa rfl (ro (ld r1 rfl rfl (fa rfl (ro (ld r1 rfl rfl (fa rfl (ro (ld r1 rfl rfl (qak rfl rfl (cT ?_))))))))))
   refine cT (cT ?_)
   refine qal rfl fun b3 => ?_
   refine qaa r0 rfl ⟨rfl, rfl, (nl rfl), ?_⟩
   refine fa rfl (ro (ld r2 rfl rfl (ro (qaj rfl ?_))))
   obtain ⟨bG, hm⟩ := qay hm
   obtain ⟨s0, a6, hm⟩ := bnd hm
   refine qkc (fun _ : Ja => []) 68 4 ?_
   refine lC (σ := ((List Ja)) × Option Addr × Nat × List (List Value)) ([5] ++ rg 16 12) [2, 3, 4] (fun i0 => [(16, .int .i64 (i0 : Int))]) (fun _ => []) (fun (t0, aV, aY, aX) => [OwnA aV 68 4 aY aX, Cells b3 68 [.int .i64 n'.Ab, str n'.Ac, .slice aV t0.length aY, .int .i64 n'.Ad]]) (fun zz K1 => match zz with | (t0, aV, aY, aX) => LR Ja.R K1 aX t0 ∧ (0 < t0.length → Has aV)) (fun i0 (t0, aV, aY, aX) => Jcs (JcG n) (n'.Aa.drop i0) i0 t0 = some s0) (fun (t0, aV, aY, aX) => t0 = s0) (fun i0 => n'.Aa.length - i0) 0 (_, _, _, _) a6 (And.intro qe (And.intro ?_ ?_))
   clear a6
   rintro i0 ⟨ac, bn, bj, bz⟩ bN bB ⟨ba, bh⟩ a6 j0
   conv at a6 => whnf
   refine qaf rfl ?_
   refine qag ?_ ?_ <;> intro w0
   obtain ⟨e0, bc, bD⟩ := ltx w0
   rw [bD, Jcs.eq_2] at a6
   refine qai rfl ?_
   refine RStep.ofN (qac rfl rfl (qcf (LiC.mono Jb.R_ok bB ae).rd bc) (nn _) (qbg bc) ?_)
   obtain ⟨bH, bI, bg, bf, bd⟩ := LiR.get (LiC.mono Jb.R_ok bB ae).rd bc
   obtain ⟨bp, bo, rfl, bt⟩ := Jb.out bd
   refine ro (qap i0 _ bg rfl bf rfl ?_)
   refine qal rfl fun b5 => ?_
   refine qaa r0 rfl ⟨rfl, rfl, (nl rfl), ?_⟩
   refine qbx ⟨⟨[], false⟩, _, [(_, _), (_, _)], []⟩ 5 rfl (by kernel_rfl) ⟨Hp.Le.refl _, (sc [2,0] rfl), ci0⟩ ?_
   refine fa rfl (qan m0 rfl rfl (qba m1 rfl (nl rfl) ?_))
   refine cb a6 fun aW bC a6 => cfx (ih bC :) ?_
   rintro _ bR _ bm ⟨aU, aT, bA, rfl, bw, a8, rfl⟩
   refine qk (sc [3,1] rfl) ?_
   refine qy8 Ja.R_ok r0 a8 fun bb aZ aS => ?_
   refine qx7 (R := Ja.R) (len := 1) (l := [aW]) (css := [[.int .i64 aW.Ab, str aW.Ac, .slice aU aW.Aa.length aT, .int .i64 aW.Ad]]) (cl := [.int .i64 aW.Ab, str aW.Ac, .slice aU aW.Aa.length aT, .int .i64 aW.Ad]) Ja.R_ok qt7 rfl rfl (LR.snoc LR.nil (Ja.of (x := aW) ⟨aU, aT, rfl, aS⟩)) rfl rfl rfl ?_ fun bK => ?_
   · conv => whnf
     refine cT ?_
     first | done | rfl
   refine ⟨⟨(bm.trans aZ), (sc [3,1] rfl), ci0⟩, ?_⟩
   obtain ⟨bF, a6⟩ := qay a6
   refine qy6 r2 (LR.mono Ja.R_ok (bm.trans aZ) ba) rfl qt7 (qrc rfl r0 rfl Ja.R_ok (show LR Ja.R _ [[.int .i64 aW.Ab, str aW.Ac, .slice aU aW.Aa.length aT, .int .i64 aW.Ad]] [aW] from (LR.snoc LR.nil (Ja.of (x := aW) ⟨aU, aT, rfl, aS⟩)))) (show LR Ja.R _ [[.int .i64 aW.Ab, str aW.Ac, .slice aU aW.Aa.length aT, .int .i64 aW.Ad]] [aW] from (LR.snoc LR.nil (Ja.of (x := aW) ⟨aU, aT, rfl, aS⟩))) bF ?_
   intro bO bM bQ r_25 bL
   refine ⟨⟨Hp.emp_le _, (pf rfl), ci0⟩, ?_⟩
   refine fa rfl ?_
   refine qaa r3 rfl ⟨rfl, rfl, (nl rfl), ?_⟩
   refine ⟨⟨Hp.emp_le _, (pf rfl), ci0⟩, ?_⟩
   refine qar (qbu bc bG) ?_
   exact eR a6 (_, _, _, _, _)
   rw [lty w0, Jcs.eq_1] at a6
   refine cT ?_
   exact eM a6 (_, _, _, _)
   rintro ⟨t0, aV, aY, aX⟩ bP bJ ⟨bu, br⟩ rfl j0
   refine ro (qae r1 rfl (nl rfl) ?_)
   refine qaa r2 rfl ⟨rfl, rfl, (nl rfl), ?_⟩
   exact ro (qae r0 rfl (nl rfl) (eE hm))

def Jbe : List Jc → Nat → (List Je) → Option ((List Je))
  | [], _, ac => some ac
  | e0 :: aS, i0, ac =>
    (chk (ac.length + [(⟨e0.Name, e0.Value⟩ : Je)].length ≤ lim)).bind fun _ =>
    Jbe aS (i0 + 1) (ac ++ [(⟨e0.Name, e0.Value⟩ : Je)])
def Jdr (l : (List Jc)) : Option ((List Je)) :=
  (chk (l.length ≤ qax)).bind fun _ =>
  (Jbe l 0 []).bind fun t0 =>
  some t0
theorem Jfy {l : (List Jc)} {aa : Option Addr} {ab : Nat} {n0 : Nat} {K : Hp} {r : (List Je)}
    (hm : Jdr l = some r) (hX : RdC Jc.enc K aa ab 2 l ∧ n0 = l.length) :
    Fn Tryz.prog 34 [.slice aa n0 ab] K [] (fun v K' H' => ∃ ar_0 : Option Addr, ∃ cr_0 : Nat, v = .slice ar_0 r.length cr_0 ∧ (0 < r.length → Has ar_0) ∧ H' = [OwnL Je.enc ar_0 77 2 cr_0 r]) := by
 obtain ⟨ae, a8⟩ := hX
 subst a8
 refine Fn.enter Tryz.func34 Tryz.call34 rfl fun F => ?_
 unfold Jdr at hm
 refine ro (qaj rfl ?_)
 obtain ⟨ba, hm⟩ := qay hm
 obtain ⟨s0, aU, hm⟩ := bnd hm
 refine qkc Je.enc 77 2 ?_
 refine lD (σ := ((List Je)) × Option Addr × Nat) ([3,5] ++ rg 8 13) [1] (fun i0 => [(8, .int .i64 (i0 : Int))]) (fun (t0, aS, aT) => [(3, .slice aS t0.length aT)]) (fun (t0, aS, aT) => [OwnL Je.enc aS 77 2 aT t0]) (fun (t0, aS, aT) => (0 < t0.length → Has aS) ∧ True) (fun i0 (t0, aS, aT) => Jbe (l.drop i0) i0 t0 = some s0) (fun (t0, aS, aT) => t0 = s0) (fun i0 => l.length - i0) 0 (_, _, _) aU (And.intro qe (And.intro ?_ ?_))
 clear aU
 rintro i0 ⟨ac, aY, aZ⟩ ⟨aW, _⟩ aU j0
 conv at aU => whnf
 refine qaf rfl ?_
 refine qag ?_ ?_ <;> intro w0
 obtain ⟨e0, aV, bb⟩ := ltx w0
 rw [bb, Jbe.eq_2] at aU
 refine qai rfl ?_
 refine RStep.ofN (qac rfl rfl (qcc ae.rd aV) (nn _) (qbg aV) (ro (qap i0 _ ae.rd rfl (mp aV) rfl ?_)))
 refine qal rfl fun b5 => ?_
 refine qaa r0 rfl ⟨rfl, rfl, (nl rfl), ?_⟩
 refine fa rfl (ro (ld r0 rfl rfl (fa rfl (ro (ld r0 rfl rfl (qak rfl rfl (cT (cT ?_))))))))
 refine bsO (len := 1) (enc := Je.enc) (l := [(⟨e0.Name, e0.Value⟩ : Je)]) (cl := [str e0.Name, str e0.Value]) qi0 rfl rfl (fun _ _ => rfl) rfl rfl rfl ?_ fun bc => ?_
 · conv => whnf
   refine cT ?_
   first | done | rfl
 obtain ⟨a6, aU⟩ := qay aU
 refine apE rfl r2 qi0 (qa4 rfl r0 rfl (fun _ => rfl) (fun _ => rfl)) a6 ?_
 intro bg bd bf
 refine qar (qbu aV ba) ?_
 exact eR aU (_, _, _, _)
 rw [lty w0, Jbe.eq_1] at aU
 refine cT ?_
 exact eM aU (_, _, _)
 rintro ⟨t0, aS, aT⟩ ⟨aX, _⟩ rfl j0
 exact eE hm

def Ja2 (Ar : Ju) : Option (JG) :=
  (Jdr Ar.Ao).bind fun aS =>
  some (⟨Ar.Am, Ar.An, Ar.Ae, Ar.Af, aS⟩ : JG)
theorem JfM {Ar : Ju} {aa : Option Addr} {ab : Nat} {K : Hp} {r : JG}
    (hm : Ja2 Ar = some r) (ae : RdC Jc.enc K aa ab 2 Ar.Ao) :
    Fn Tryz.prog 15 [.agg #[str Ar.Am, str Ar.An, str Ar.Ae, str Ar.Af, .slice aa Ar.Ao.length ab]] K [] (fun v K' H' => ∃ ar_0 : Option Addr, ∃ cr_0 : Nat, v = .agg #[str r.Am, str r.An, str r.Ae, str r.Af, .slice ar_0 r.Ao.length cr_0] ∧ (0 < r.Ao.length → Has ar_0) ∧ H' = [OwnL Je.enc ar_0 77 2 cr_0 r.Ao]) := by
 refine Fn.enter Tryz.func15 Tryz.call15 rfl fun F => ?_
 unfold Ja2 at hm
 refine qaq ?_
 intro b1
 refine qal rfl fun b2 => ?_
 refine qau ⟨⟨[], false⟩, _, [(_, _)], []⟩ (by kernel_rfl) ⟨Hp.Le.refl _, (sc [1] rfl), ci0⟩ ?_
 refine fa rfl (qan m0 rfl rfl (fa rfl (qan m0 rfl rfl (fa rfl (qan m0 rfl rfl (fa rfl (qan m0 rfl rfl ?_)))))))
 refine fa rfl (qan m0 rfl rfl ?_)
 refine cb hm fun aW aV hm => ckx (Jfy aV :) ?_
 rintro _ _ _ ⟨aU, aT, rfl, aS, rfl⟩
 refine qk (sc [2] rfl) ?_
 refine qak rfl rfl (cT (cT (cT (cT (cT ?_)))))
 refine qaa r1 rfl ⟨rfl, rfl, (nl rfl), ?_⟩
 refine qk (sc [2] rfl) ?_
 exact ro (qae r0 rfl (nl rfl) (eE hm))

def Jay (depth : Int) (rec_ : (Ja → Int → Int → Option (Bool × Int))) : List Ja → Nat → Int → Option (Fl (Bool × Int) (Int))
  | [], _, ac => some (Fl.go ac)
  | e0 :: aT, i0, ac =>
    (chk (InI (depth - 1))).bind fun _ =>
    (rec_ e0 ac (depth - 1)).bind fun aS =>
    if (!aS.1) then
    some (Fl.ret (false, aS.2))
    else
    Jay depth rec_ aT (i0 + 1) aS.2
def Jat : Nat → Ja → Int → Int → Option (Bool × Int)
  | 0, _, _, _ => none
  | n + 1, n', nodes, depth =>
    (chk (InI (nodes - 1))).bind fun _ =>
    if (decide ((nodes - 1) < 0) || decide (depth < 1)) then
    some (false, (nodes - 1))
    else
    (chk (n'.Aa.length ≤ qax)).bind fun _ =>
    (Jay depth (Jat n) n'.Aa 0 (nodes - 1)).bind fun s0 => s0.el some fun t0 =>
    some (true, t0)
theorem Je3 : ∀ {n : Nat} {n' : Ja} {nodes : Int} {depth : Int} {aa : Option Addr} {ab : Nat} {b1 : Nat} {K : Hp} {r : Bool × Int}
    (hm : Jat n n' nodes depth = some r) (ae : LiC Ja.R K aa ab 4 n'.Aa),
    Fn Tryz.prog 124 [.agg #[.int .i64 n'.Ab, str n'.Ac, .slice aa n'.Aa.length ab, .int .i64 n'.Ad], .pointer (some ⟨b1, 0, none⟩), .int .i64 depth] K [Cells b1 3 [.int .i64 nodes]] (fun v K' H' => v = .bool r.1 ∧ H' = [Cells b1 3 [.int .i64 r.2]]) := by
 intro n
 induction n with
 | zero =>
   intro n' nodes depth aa ab b1 K r hm ae
   rw [Jat.eq_1] at hm; cases hm
 | succ n ih =>
   intro n' nodes depth aa ab b1 K r hm ae
   refine Fn.enter Tryz.func124 Tryz.call124 rfl fun F => ?_
   rw [Jat.eq_2] at hm
   refine qaq ?_
   intro b3
   refine qao (ro (ld r1 rfl rfl ?_))
   obtain ⟨bb, hm⟩ := qay hm
   refine qar bb (qao ?_)
   refine qaa r1 rfl ⟨rfl, rfl, (nl rfl), ?_⟩
   refine jR (σ := Unit) (rg 14 8) (fun _ => [(21, .bool (decide ((nodes - 1) < 0) || decide (depth < 1)))]) (fun bc => True) ?_ ?_
   refine qah rfl ?_
   refine qao (ro (ld r0 rfl rfl ?_))
   refine qag ?_ ?_ <;> intro aS
   refine ct aS (ct aS ?_)
   exact eMt () ⟨bq (((qcj aS)).symm), trivial⟩
   refine cf aS (cf aS ?_)
   exact eMt () ⟨bq (qhe (b := decide (depth < 1)) aS), trivial⟩
   rintro _ _ bg
   refine cs rfl rfl hm ?_ ?_ <;> intro bm hm
   exact eE hm
   refine fa rfl (ro (ld r1 rfl rfl (ro (qaj rfl ?_))))
   obtain ⟨ba, hm⟩ := qay hm
   obtain ⟨s0, aT, hm⟩ := bnd hm
   refine lD (σ := (Int)) ([6,8] ++ rg 25 11) [1, 2] (fun i0 => [(25, .int .i64 (i0 : Int))]) (fun _ => []) (fun t0 => [Cells b1 3 [.int .i64 t0]]) (fun _ => True) (fun i0 t0 => Jay depth (Jat n) (n'.Aa.drop i0) i0 t0 = some s0) (fun t0 => s0 = Fl.go t0) (fun i0 => n'.Aa.length - i0) 0 _ aT (And.intro qe (And.intro ?_ ?_))
   clear aT
   rintro i0 ac _ aT j0
   conv at aT => whnf
   refine qaf rfl ?_
   refine qag ?_ ?_ <;> intro w0
   obtain ⟨e0, aU, bf⟩ := ltx w0
   rw [bf, Jay.eq_2] at aT
   refine qai rfl ?_
   refine RStep.ofN (qac rfl rfl (qcf ae.rd aU) (nn _) (qbg aU) ?_)
   obtain ⟨bd, a8, aV, aW, aX⟩ := LiR.get ae.rd aU
   obtain ⟨aZ, aY, rfl, a6⟩ := Ja.out aX
   refine ro (qap i0 _ aV rfl aW rfl ?_)
   refine qal rfl fun b8 => ?_
   refine qaa r0 rfl ⟨rfl, rfl, (nl rfl), ?_⟩
   refine ro (qae r0 rfl (nl rfl) ?_)
   refine ci aT fun aT => ?_
   refine cb aT fun bj bh aT => cgx (ih bh :) ?_
   refine qa1 ?_
   refine cs rfl rfl aT ?_ ?_ <;> intro bn aT
   exact eE (er aT hm)
   refine qar (qbu aU ba) ?_
   exact eR aT (_, _)
   rw [lty w0, Jay.eq_1] at aT
   refine cT ?_
   exact eM aT _
   rintro t0 _ rfl j0
   replace hm := elg hm
   exact eE hm

def JaK (kind : Int) (text : Str) : Option (Bool) :=
  if decide (text = ([61, 61] : Str)) then
  some (decide (kind = 4))
  else
  if decide (text = ([33, 61] : Str)) then
  some (decide (kind = 4))
  else
  if decide (text = ([60] : Str)) then
  some (decide (kind = 4))
  else
  if decide (text = ([60, 61] : Str)) then
  some (decide (kind = 4))
  else
  if decide (text = ([115, 116, 97, 114, 116, 115] : Str)) then
  some (decide (kind = 1))
  else
  if decide (text = ([101, 110, 100, 115] : Str)) then
  some (decide (kind = 1))
  else
  if decide (text = ([99, 111, 110, 116, 97, 105, 110, 115] : Str)) then
  some (decide (kind = 1))
  else
  some false
theorem Jdv {kind : Int} {text : Str} {K : Hp} {r : Bool}
    (hm : JaK kind text = some r)  :
    Fn Tryz.prog 222 [.int .i64 kind, str text] K [] (fun v K' H' => v = .bool r ∧ H' = []) := by
 refine Fn.enter Tryz.func222 Tryz.call222 rfl fun F => ?_
 unfold JaK at hm
 refine qai rfl ?_
 refine qam (cs rfl rfl hm ?_ ?_) <;> intro w6 hm
 refine qaf rfl (ct w6 (qad ?_))
 exact eE hm
 refine qam (cs rfl rfl hm ?_ ?_) <;> intro w6 hm
 refine qaf rfl (ct w6 (qad ?_))
 exact eE hm
 refine qam (cs rfl rfl hm ?_ ?_) <;> intro w6 hm
 refine qaf rfl (ct w6 (qad ?_))
 exact eE hm
 refine qam (cs rfl rfl hm ?_ ?_) <;> intro w6 hm
 refine qad ?_
 exact eE hm
 refine qam (cs rfl rfl hm ?_ ?_) <;> intro aS hm
 refine qaf rfl (ct aS (qad ?_))
 exact eE hm
 refine qam (cs rfl rfl hm ?_ ?_) <;> intro aS hm
 refine qaf rfl (ct aS (qad ?_))
 exact eE hm
 refine qam (cs rfl rfl hm ?_ ?_) <;> intro aS hm
 refine qad ?_
 exact eE hm
 exact eE hm

def JaQ : List UInt8 → Nat → Option (Fl (Bool) (Unit))
  | [], _ => some (Fl.go ())
  | e0 :: aT, i0 =>
    (if decide ((e0.toNat : Int) < 48) then some true else some (decide ((e0.toNat : Int) > 57))).bind fun aS =>
    if aS then
    some (Fl.ret false)
    else
    JaQ aT (i0 + 1)
def Jct (s : Str) : Option (Bool) :=
  (chk (s.length ≤ qax)).bind fun _ =>
  (JaQ s 0).bind fun s0 => s0.el some fun t0 =>
  some (decide ((s.length : Int) ≥ 1) && decide ((s.length : Int) ≤ 9))
theorem JeT {s : Str} {K : Hp} {r : Bool}
    (hm : Jct s = some r)  :
    Fn Tryz.prog 223 [str s] K [] (fun v K' H' => v = .bool r ∧ H' = []) := by
 refine Fn.enter Tryz.func223 Tryz.call223 rfl fun F => ?_
 unfold Jct at hm
 refine ro (qat rfl ?_)
 obtain ⟨aY, hm⟩ := qay hm
 obtain ⟨s0, aU, hm⟩ := bnd hm
 refine lD (σ := (Unit)) ([2,3] ++ rg 6 14) [0] (fun i0 => [(6, .int .i64 (i0 : Int))]) (fun _ => []) (fun _ => []) (fun _ => True) (fun i0 _ => JaQ (s.drop i0) i0 = some s0) (fun t0 => s0 = Fl.go t0) (fun i0 => s.length - i0) 0 () aU (And.intro qe (And.intro ?_ ?_))
 clear aU
 rintro i0 _ _ aU j0
 conv at aU => whnf
 refine qaf rfl ?_
 refine qag ?_ ?_ <;> intro w0
 obtain ⟨e0, aW, aZ⟩ := ltx w0
 rw [aZ, JaQ.eq_2] at aU
 refine qai rfl ?_
 refine qah rfl ?_
 refine qaz rfl (nn _) aW ?_
 obtain ⟨a6, aV, aU⟩ := bnd aU
 refine cS aV (fun aS aV => ?_) fun aS aV => ?_
 refine ct aS (ct aS (ct aS (ct aS (qaf rfl (cT ?_)))))
 replace aU := ift (si aV).symm aU
 exact eE (er aU hm)
 refine cf aS (cf aS (qaz rfl (nn _) aW (cf aS (cf aS (qaf rfl ?_)))))
 refine qag ?_ ?_ <;> intro aX
 replace aU := ift ((si aV).symm.trans aX) aU
 exact eE (er aU hm)
 replace aU := qa6 ((si aV).symm.trans aX) aU
 refine qar (qbu aW aY) ?_
 exact eR aU (_, ())
 rw [lty w0, JaQ.eq_1] at aU
 refine cT ?_
 exact eM aU _
 rintro t0 _ rfl j0
 replace hm := elg hm
 refine qah rfl ?_
 refine ro (qat rfl ?_)
 refine qag ?_ ?_ <;> intro aT
 refine ct aT (ro (qat rfl (ct aT (ct aT ?_))))
 exact bE (qbw (b := decide ((s.length : Int) ≤ 9)) aT) (eE hm)
 refine cf aT (cf aT (cf aT ?_))
 exact bE (((qa0 aT)).symm) (eE hm)

def JaR (s : Str) : Option (Bool) :=
  (Jc3 s).bind fun x7 =>
  some x7.2.isNone
theorem Jcu {s : Str} {K : Hp} {r : Bool}
    (hm : JaR s = some r)  :
    Fn Tryz.prog 158 [str s] K [] (fun v K' H' => v = .bool r ∧ H' = []) := by
 refine Fn.enter Tryz.func158 Tryz.call158 rfl fun F => ?_
 unfold JaR at hm
 refine cb hm fun x7 q7 hm => cg0 (Jeh q7 :) ?_
 refine qgn rfl ?_
 exact eE hm

def Jba (c : UInt8) : Option (Bool) :=
  some ((decide ((c.toNat : Int) ≥ 97) && decide ((c.toNat : Int) ≤ 122)) || decide ((c.toNat : Int) = 95))
theorem Jd1 {c : UInt8} {K : Hp} {r : Bool}
    (hm : Jba c = some r)  :
    Fn Tryz.prog 248 [.int .u8 (c.toNat : Int)] K [] (fun v K' H' => v = .bool r ∧ H' = []) := by
 refine Fn.enter Tryz.func248 Tryz.call248 rfl fun F => ?_
 unfold Jba at hm
 refine qah rfl ?_
 refine qag ?_ ?_ <;> intro aS
 refine ct aS (ct aS ?_)
 refine qag ?_ ?_ <;> intro aT
 refine ct aT (ct aT ?_)
 exact bE (((qcj (qby aS aT))).symm) (eE hm)
 refine cf aT (qad (cf aT ?_))
 exact bE (qhe (b := decide ((c.toNat : Int) = 95)) (qb8 aS aT)) (eE hm)
 refine cf aS (cf aS (cF (cF (qad (cF ?_)))))
 exact bE (qhe (b := decide ((c.toNat : Int) = 95)) (qa0 aS)) (eE hm)

def JaS (c : UInt8) : Option (Bool) :=
  some (decide ((c.toNat : Int) ≥ 48) && decide ((c.toNat : Int) ≤ 57))
theorem Jdt {c : UInt8} {K : Hp} {r : Bool}
    (hm : JaS c = some r)  :
    Fn Tryz.prog 249 [.int .u8 (c.toNat : Int)] K [] (fun v K' H' => v = .bool r ∧ H' = []) := by
 refine Fn.enter Tryz.func249 Tryz.call249 rfl fun F => ?_
 unfold JaS at hm
 refine qah rfl ?_
 refine qag ?_ ?_ <;> intro aS
 refine ct aS (ct aS ?_)
 exact bE (qbw (b := decide ((c.toNat : Int) ≤ 57)) aS) (eE hm)
 refine cf aS (cf aS ?_)
 exact bE (((qa0 aS)).symm) (eE hm)

def JaL (s : Str) : Nat → Str → Int → Option (Fl (Int × Str) (Str × Int))
  | 0, _, _ => none
  | aU + 1, ac, aS =>
    if decide (aS < (s.length : Int)) then
    (ix s aS).bind fun aT =>
    if decide ((aT.toNat : Int) = 34) then
    (chk (InI (aS + 1))).bind fun _ =>
    some (Fl.ret ((aS + 1), ac))
    else
    if decide ((aT.toNat : Int) = 92) then
    (chk (InI (aS + 1))).bind fun _ =>
    if decide ((aS + 1) = (s.length : Int)) then
    some (Fl.ret (0, ([] : Str)))
    else
    (ix s (aS + 1)).bind fun aY =>
    (if decide ((aY.toNat : Int) ≠ 34) then (ix s (aS + 1)).bind fun aX =>
    some (decide ((aX.toNat : Int) ≠ 92)) else some false).bind fun aW =>
    if aW then
    some (Fl.ret (0, ([] : Str)))
    else
    (ix s (aS + 1)).bind fun aV =>
    (chk (ac.length + ([aV] : Str).length ≤ lim)).bind fun _ =>
    (chk (InI ((aS + 1) + 1))).bind fun _ =>
    JaL s aU (ac ++ ([aV] : Str)) ((aS + 1) + 1)
    else
    if (decide ((aT.toNat : Int) < 32) || decide ((aT.toNat : Int) > 126)) then
    some (Fl.ret (0, ([] : Str)))
    else
    (chk (ac.length + ([aT] : Str).length ≤ lim)).bind fun _ =>
    (chk (InI (aS + 1))).bind fun _ =>
    JaL s aU (ac ++ ([aT] : Str)) (aS + 1)
    else
    some (Fl.go (ac, aS))
def Jdm (n : Nat) (s : Str) : Option (Int × Str) :=
  (JaL s n [] 1).bind fun s0 => s0.el some fun t0 =>
  some (0, ([] : Str))
theorem Je4 {n : Nat} {s : Str} {K : Hp} {r : Int × Str}
    (hm : Jdm n s = some r)  :
    Fn Tryz.prog 250 [str s] K [] (fun v K' H' => v = .tuple #[.int .i64 r.1, str r.2] ∧ H' = []) := by
 refine Fn.enter Tryz.func250 Tryz.call250 rfl fun F => ?_
 unfold Jdm at hm
 obtain ⟨s0, aS, hm⟩ := bnd hm
 refine qkc eU 5 1 ?_
 refine lD (σ := (Str × Int) × Option Addr × Nat) (rg 2 56) [1] (fun _ => []) (fun (t0, aW, aX) => [(4, .slice aW t0.1.length aX), (5, .int .i64 t0.2)]) (fun (t0, aW, aX) => [OwnL eU aW 5 1 aX t0.1]) (fun (t0, aW, aX) => (0 < t0.1.length → Has aW) ∧ True) (fun i0 (t0, aW, aX) => JaL s i0 t0.1 t0.2 = some s0) (fun (t0, aW, aX) => s0 = Fl.go t0) (fun i0 => i0) n ((_, _), _, _) aS (And.intro qe (And.intro ?_ ?_))
 clear aS
 rintro i0 ⟨⟨ac, bt⟩, bo, bj⟩ ⟨bb, _⟩ aS j0
 dsimp only at aS ⊢
 cases i0 with
 | zero => rw [JaL.eq_1] at aS; cases aS
 | succ i0 =>
  rw [JaL.eq_2] at aS
  refine ro (qat rfl ?_)
  refine cs rfl rfl aS ?_ ?_ <;> intro bI aS
  refine qai rfl ?_
  obtain ⟨bc, br, bu, aS⟩ := ixb aS
  refine qaz rfl br bu ?_
  refine qai rfl ?_
  refine qad (cs rfl rfl aS ?_ ?_) <;> intro bD aS
  refine qau ⟨⟨[], false⟩, _, [], []⟩ (by kernel_rfl) ⟨Hp.Le.refl _, (pf rfl), ci0⟩ ?_
  refine ci aS fun aS => ?_
  refine qdc rfl r0 rfl rfl rfl ?_
  exact eE (er aS hm)
  refine qad (cs rfl rfl aS ?_ ?_) <;> intro bF aS
  refine ci aS fun aS => ?_
  refine qah rfl ?_
  refine ro (qat rfl (qad ?_))
  refine cS aS (fun aT aS => ?_) fun aT aS => ?_
  refine ct aT (ct aT (ct aT (ct aT (ct aT (ct aT (qaf rfl (cT ?_)))))))
  exact eE (er aS hm)
  refine cf aT (cf aT ?_)
  obtain ⟨bG, bB, bw, aS⟩ := ixb aS
  refine qaz rfl bB bw (cf aT (qa2 (cf aT ?_)))
  obtain ⟨bC, aY, aS⟩ := bnd aS
  refine cS aY (fun aU aY => ?_) fun aU aY => ?_
  refine ct aU (ct aU ?_)
  obtain ⟨bH, bA, bz, aY⟩ := ixb aY
  refine qaz rfl bA bz (ct aU (qa2 (cf aT (ct aU (cf aT (qaf rfl ?_))))))
  refine qag ?_ ?_ <;> intro bd
  replace aS := ift ((si aY).symm.trans bd) aS
  exact eE (er aS hm)
  replace aS := qa6 ((si aY).symm.trans bd) aS
  obtain ⟨a6, ba, a8, aS⟩ := ixb aS
  refine qaz rfl ba a8 ?_
  refine bsO (len := 1) (enc := eU) (l := ([a6] : Str)) (cl := [.int .u8 (a6.toNat : Int)]) qbz rfl rfl (fun _ _ => rfl) rfl rfl rfl ?_ fun bn => ?_
  · conv => whnf
    refine cT ?_
    first | done | rfl
  obtain ⟨aZ, aS⟩ := qay aS
  refine apE rfl r1 qbz (qa4 rfl r0 rfl (fun _ => rfl) (fun _ => rfl)) aZ ?_
  intro bm bh bg
  refine ci aS fun aS => ?_
  exact eR aS (_, (_, _), _, _)
  refine cf aU (cf aU (cf aU (cf aT (cf aU (cf aT (qaf rfl (cF ?_)))))))
  replace aS := qa6 (si aY).symm aS
  obtain ⟨a6, ba, a8, aS⟩ := ixb aS
  refine qaz rfl ba a8 ?_
  refine bsO (len := 1) (enc := eU) (l := ([a6] : Str)) (cl := [.int .u8 (a6.toNat : Int)]) qbz rfl rfl (fun _ _ => rfl) rfl rfl rfl ?_ fun bn => ?_
  · conv => whnf
    refine cT ?_
    first | done | rfl
  obtain ⟨aZ, aS⟩ := qay aS
  refine apE rfl r1 qbz (qa4 rfl r0 rfl (fun _ => rfl) (fun _ => rfl)) aZ ?_
  intro bm bh bg
  refine ci aS fun aS => ?_
  exact eR aS (_, (_, _), _, _)
  refine qah rfl ?_
  refine qag ?_ ?_ <;> intro aV
  refine ct aV (ct aV (qaf rfl (cT ?_)))
  replace aS := ift (qcj aV) aS
  exact eE (er aS hm)
  refine cf aV (cf aV (qaf rfl ?_))
  refine qag ?_ ?_ <;> intro bp
  replace aS := ift (qf0 aV bp) aS
  exact eE (er aS hm)
  replace aS := qa6 (qee aV bp) aS
  refine bsO (len := 1) (enc := eU) (l := ([bc] : Str)) (cl := [.int .u8 (bc.toNat : Int)]) qbz rfl rfl (fun _ _ => rfl) rfl rfl rfl ?_ fun bn => ?_
  · conv => whnf
    refine cT ?_
    first | done | rfl
  obtain ⟨aZ, aS⟩ := qay aS
  refine apE rfl r1 qbz (qa4 rfl r0 rfl (fun _ => rfl) (fun _ => rfl)) aZ ?_
  intro bm bh bg
  refine ci aS fun aS => ?_
  exact eR aS (_, (_, _), _, _)
  refine cT ?_
  exact eM aS (_, _, _)
 rintro ⟨t0, aW, aX⟩ ⟨bf, _⟩ rfl j0
 replace hm := elg hm
 exact eE hm
