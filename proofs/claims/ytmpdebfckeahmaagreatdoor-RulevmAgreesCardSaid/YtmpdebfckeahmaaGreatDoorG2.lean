/- Functions of the program: mirrors, and that a call returns what the mirror says. Printed by gen.py. -/
import Derived.Test.YtmpdebfckeahmaaGreatDoorG1
set_option linter.unusedVariables false
set_option linter.unusedSimpArgs false
open Go Go.SL Go.Proofs
noncomputable section
set_option maxRecDepth 1000000
set_option maxHeartbeats 8000000
def JI (op : Str) (a : Jf) (b : Jf) : Option (Jf × Bool) :=
  if decide (a.kind ≠ b.kind) then
  some ((⟨0, 0, ([] : Str), false⟩ : Jf), false)
  else
  if decide (op = ([43] : Str)) then
  if decide (a.kind = 1) then
  (chk (a.s.length + b.s.length ≤ lim)).bind fun _ =>
  (Jat (a.s ++ b.s)).bind fun aU =>
  some (aU, true)
  else
  (chk (InI (a.n + b.n))).bind fun _ =>
  (JaX (a.n + b.n)).bind fun aR =>
  some (aR, decide (a.kind = 2))
  else
  if decide (op = ([45] : Str)) then
  (chk (InI (a.n - b.n))).bind fun _ =>
  (JaX (a.n - b.n)).bind fun aT =>
  some (aT, decide (a.kind = 2))
  else
  if decide (op = ([42] : Str)) then
  if (!decide (a.kind = 2)) then
  some ((⟨0, 0, ([] : Str), false⟩ : Jf), false)
  else
  (JbA a.n b.n).bind fun aQ =>
  some (aQ, true)
  else
  if decide (op = ([61, 61] : Str)) then
  (Jaj (decide (a.kind = b.kind) && (decide (a.n = b.n) && (decide (a.s = b.s) && (a.Au == b.Au))))).bind fun aP =>
  some (aP, true)
  else
  if decide (op = ([33, 61] : Str)) then
  (Jaj (!(decide (a.kind = b.kind) && (decide (a.n = b.n) && (decide (a.s = b.s) && (a.Au == b.Au)))))).bind fun aY =>
  some (aY, true)
  else
  if decide (op = ([60] : Str)) then
  (Jaj (decide (a.n < b.n))).bind fun aS =>
  some (aS, decide (a.kind = 2))
  else
  if decide (op = ([60, 61] : Str)) then
  (Jaj (decide (a.n ≤ b.n))).bind fun aV =>
  some (aV, decide (a.kind = 2))
  else
  if decide (op = ([115, 116, 97, 114, 116, 115] : Str)) then
  (JU a.s b.s).bind fun aW =>
  (Jaj aW).bind fun aX =>
  some (aX, decide (a.kind = 1))
  else
  if decide (op = ([101, 110, 100, 115] : Str)) then
  (JbG a.s b.s).bind fun aM =>
  (Jaj aM).bind fun aO =>
  some (aO, decide (a.kind = 1))
  else
  (qc5 a.s b.s).bind fun aN =>
  (Jaj aN).bind fun aL =>
  some (aL, decide (a.kind = 1))
theorem Jc7 {op : Str} {a : Jf} {b : Jf} {K : Hp} {r : Jf × Bool}
    (hm : JI op a b = some r) (hG : GG K) :
    Fn Tryz.prog 67 [str op, .agg #[.int .i64 a.kind, .int .i64 a.n, str a.s, .bool a.Au], .agg #[.int .i64 b.kind, .int .i64 b.n, str b.s, .bool b.Au]] K [] (fun v K' H' => v = .tuple #[.agg #[.int .i64 r.1.kind, .int .i64 r.1.n, str r.1.s, .bool r.1.Au], .bool r.2] ∧ H' = []) := by
 refine Fn.enter Tryz.func67 Tryz.call67 rfl fun F => ?_
 unfold JI at hm
 refine qap ?_
 intro b4
 refine qap ?_
 intro b5
 refine qan rfl fun b6 => ?_
 refine fa rfl (ro (ld r2 rfl rfl (fa rfl (ro (ld r1 rfl rfl (qbd ?_))))))
 refine cs rfl rfl hm ?_ ?_ <;> intro bF hm
 refine qak rfl rfl ?_
 refine qab r0 rfl ⟨rfl, rfl, (nl rfl), ?_⟩
 exact ro (qag r0 rfl (nl rfl) (eE hm))
 refine qa4 ⟨⟨[], false⟩, _, [(_, _)], []⟩ (by kernel_rfl) ⟨Hp.Le.refl _, (sc [2] rfl), ci0⟩ ?_
 refine fa rfl (qao m0 rfl rfl (qad (fa rfl (qao m0 rfl rfl (qad ?_)))))
 refine qal rfl ?_
 refine qas (cs rfl rfl hm ?_ ?_) <;> intro bt hm
 refine cs rfl rfl hm ?_ ?_ <;> intro bw hm
 refine fa rfl (ro (ld r2 rfl rfl (fa rfl (ro (ld r1 rfl rfl ?_)))))
 obtain ⟨aX, hm⟩ := qa5 hm
 refine qdn aX ?_
 refine cb hm fun bo aV hm => cg0 (Jao aV :) ?_
 refine qab r0 rfl ⟨rfl, rfl, (nl rfl), ?_⟩
 exact ro (qag r0 rfl (nl rfl) (eE hm))
 refine fa rfl (ro (ld r2 rfl rfl (fa rfl (ro (ld r1 rfl rfl ?_)))))
 refine ci hm fun hm => ?_
 refine cb hm fun bC aZ hm => cg0 (Jbj aZ :) ?_
 refine qab r0 rfl ⟨rfl, rfl, (nl rfl), ?_⟩
 exact ro (qag r0 rfl (nl rfl) (eE hm))
 refine qas (cs rfl rfl hm ?_ ?_) <;> intro bA hm
 refine fa rfl (ro (ld r2 rfl rfl (fa rfl (ro (ld r1 rfl rfl ?_)))))
 refine ci hm fun hm => ?_
 refine cb hm fun bn aU hm => cg0 (Jbj aU :) ?_
 refine qab r0 rfl ⟨rfl, rfl, (nl rfl), ?_⟩
 exact ro (qag r0 rfl (nl rfl) (eE hm))
 refine qas (cs rfl rfl hm ?_ ?_) <;> intro bj hm
 refine qaz ?_
 refine cs rfl rfl hm ?_ ?_ <;> intro bJ hm
 refine qak rfl rfl ?_
 refine qab r0 rfl ⟨rfl, rfl, (nl rfl), ?_⟩
 exact ro (qag r0 rfl (nl rfl) (eE hm))
 refine fa rfl (ro (ld r2 rfl rfl (fa rfl (ro (ld r1 rfl rfl ?_)))))
 refine cb hm fun bu aP hm => cg0 (Jej aP :) ?_
 refine qab r0 rfl ⟨rfl, rfl, (nl rfl), ?_⟩
 exact ro (qag r0 rfl (nl rfl) (eE hm))
 refine qas (cs rfl rfl hm ?_ ?_) <;> intro bB hm
 refine ro (qag r2 rfl (nl rfl) (ro (qag r1 rfl (nl rfl) ?_)))
 refine qwl (b := (decide (a.kind = b.kind) && (decide (a.n = b.n) && (decide (a.s = b.s) && (a.Au == b.Au))))) rfl (by kernel_rfl) (by kernel_rfl) (by kernel_rfl) rfl ?_
 refine cb hm fun bg aT hm => cg0 (JaA aT :) ?_
 refine qab r0 rfl ⟨rfl, rfl, (nl rfl), ?_⟩
 exact ro (qag r0 rfl (nl rfl) (eE hm))
 refine qas (cs rfl rfl hm ?_ ?_) <;> intro bm hm
 refine ro (qag r2 rfl (nl rfl) (ro (qag r1 rfl (nl rfl) ?_)))
 refine quq (b := (decide (a.kind = b.kind) && (decide (a.n = b.n) && (decide (a.s = b.s) && (a.Au == b.Au))))) rfl (by kernel_rfl) (by kernel_rfl) (by kernel_rfl) rfl ?_
 refine cb hm fun bG a8 hm => cg0 (JaA a8 :) ?_
 refine qab r0 rfl ⟨rfl, rfl, (nl rfl), ?_⟩
 exact ro (qag r0 rfl (nl rfl) (eE hm))
 refine qas (cs rfl rfl hm ?_ ?_) <;> intro bv hm
 refine fa rfl (ro (ld r2 rfl rfl (fa rfl (ro (ld r1 rfl rfl ?_)))))
 refine cb hm fun bH ba hm => cg0 (JaA ba :) ?_
 refine qab r0 rfl ⟨rfl, rfl, (nl rfl), ?_⟩
 exact ro (qag r0 rfl (nl rfl) (eE hm))
 refine qas (cs rfl rfl hm ?_ ?_) <;> intro bh hm
 refine fa rfl (ro (ld r2 rfl rfl (fa rfl (ro (ld r1 rfl rfl ?_)))))
 refine cb hm fun bK bb hm => cg0 (JaA bb :) ?_
 refine qab r0 rfl ⟨rfl, rfl, (nl rfl), ?_⟩
 exact ro (qag r0 rfl (nl rfl) (eE hm))
 refine qas (cs rfl rfl hm ?_ ?_) <;> intro bz hm
 refine fa rfl (ro (ld r2 rfl rfl (fa rfl (ro (ld r1 rfl rfl ?_)))))
 refine cb hm fun bD aS hm => cg0 (Jbi aS :) ?_
 refine cb hm fun bI aQ hm => cg0 (JaA aQ :) ?_
 refine qab r0 rfl ⟨rfl, rfl, (nl rfl), ?_⟩
 exact ro (qag r0 rfl (nl rfl) (eE hm))
 refine qas (cs rfl rfl hm ?_ ?_) <;> intro bp hm
 refine fa rfl (ro (ld r2 rfl rfl (fa rfl (ro (ld r1 rfl rfl ?_)))))
 refine cb hm fun aW aL hm => cg0 (JdE aL :) ?_
 refine cb hm fun aY aM hm => cg0 (JaA aM :) ?_
 refine qab r0 rfl ⟨rfl, rfl, (nl rfl), ?_⟩
 exact ro (qag r0 rfl (nl rfl) (eE hm))
 refine fa rfl (ro (ld r2 rfl rfl (fa rfl (ro (ld r1 rfl rfl ?_)))))
 refine cb hm fun bf aN hm => cg0 (qlb aN (gg3 hG)) ?_
 refine cb hm fun aR aO hm => cg0 (JaA aO :) ?_
 refine qab r0 rfl ⟨rfl, rfl, (nl rfl), ?_⟩
 exact ro (qag r0 rfl (nl rfl) (eE hm))

def qbt (c : UInt8) : Option (Bool) :=
  if (decide ((c.toNat : Int) ≥ 48) && decide ((c.toNat : Int) ≤ 57)) then
  some true
  else
  if (decide ((c.toNat : Int) ≥ 97) && decide ((c.toNat : Int) ≤ 122)) then
  some true
  else
  if (decide ((c.toNat : Int) ≥ 65) && decide ((c.toNat : Int) ≤ 90)) then
  some true
  else
  (qif ([33, 35, 36, 37, 38, 39, 42, 43, 45, 46, 94, 95, 96, 124, 126] : Str) c).bind fun aL =>
  some (decide (aL ≥ 0))
theorem qf7 {c : UInt8} {K : Hp} {r : Bool}
    (hm : qbt c = some r)  :
    Fn Tryz.prog 213 [.int .u8 (c.toNat : Int)] K [] (fun v K' H' => v = .bool r ∧ H' = []) := by
 refine Fn.enter Tryz.func213 Tryz.call213 rfl fun F => ?_
 unfold qbt at hm
 refine qal rfl ?_
 refine jR (σ := Unit) (rg 3 7) (fun _ => [(3, .bool (decide ((c.toNat : Int) ≥ 48) && decide ((c.toNat : Int) ≤ 57)))]) (fun aQ => True) ?_ ?_
 refine qam rfl ?_
 refine qah ?_ ?_ <;> intro aN
 refine ct aN (ct aN ?_)
 exact eMt () ⟨bq (qd3 (b := decide ((c.toNat : Int) ≤ 57)) aN), trivial⟩
 refine cf aN (cf aN ?_)
 exact eMt () ⟨bq (((qa1 aN)).symm), trivial⟩
 rintro _ _ aR
 refine cs rfl rfl hm ?_ ?_ <;> intro w3 hm
 refine qaf rfl (ct w3 ?_)
 exact eE hm
 refine qam rfl ?_
 refine qah ?_ ?_ <;> intro aM
 refine ct aM (ct aM (qaf rfl ?_))
 refine qah ?_ ?_ <;> intro w3
 replace hm := ift (qb8 aM w3) hm
 refine qaf rfl (ct w3 ?_)
 exact eE hm
 replace hm := qbs (qcw aM w3) hm
 refine qam rfl ?_
 refine qah ?_ ?_ <;> intro aL
 refine ct aL (ct aL (qaf rfl ?_))
 refine qah ?_ ?_ <;> intro w3
 replace hm := ift (qb8 aL w3) hm
 exact eE hm
 replace hm := qbs (qcw aL w3) hm
 refine cb hm fun aP aO hm => cg0 (qm1 aO) ?_
 exact eE hm
 refine cf aL (cf aL (qaf rfl (cF ?_)))
 replace hm := qbs (qa1 aL) hm
 refine cb hm fun aP aO hm => cg0 (qm1 aO) ?_
 exact eE hm
 refine cf aM (cf aM (qaf rfl (cF ?_)))
 replace hm := qbs (qa1 aM) hm
 refine qam rfl ?_
 refine qah ?_ ?_ <;> intro aL
 refine ct aL (ct aL (qaf rfl ?_))
 refine qah ?_ ?_ <;> intro w3
 replace hm := ift (qb8 aL w3) hm
 exact eE hm
 replace hm := qbs (qcw aL w3) hm
 refine cb hm fun aP aO hm => cg0 (qm1 aO) ?_
 exact eE hm
 refine cf aL (cf aL (qaf rfl (cF ?_)))
 replace hm := qbs (qa1 aL) hm
 refine cb hm fun aP aO hm => cg0 (qm1 aO) ?_
 exact eE hm

def syntax_Token_L0 : List UInt8 → Nat → Option (Fl (Bool) (Unit))
  | [], _ => some (Fl.go ())
  | e0 :: aL, i0 =>
    (qbt e0).bind fun au =>
    if (!au) then
    some (Fl.ret false)
    else
    syntax_Token_L0 aL (i0 + 1)
def qb3 (s : Str) : Option (Bool) :=
  (chk (s.length ≤ qau)).bind fun _ =>
  (syntax_Token_L0 s 0).bind fun s0 => s0.el some fun t0 =>
  some (decide (s ≠ ([] : Str)))
theorem qf8 {s : Str} {K : Hp} {r : Bool}
    (hm : qb3 s = some r)  :
    Fn Tryz.prog 183 [str s] K [] (fun v K' H' => v = .bool r ∧ H' = []) := by
 refine Fn.enter Tryz.func183 Tryz.call183 rfl fun F => ?_
 unfold qb3 at hm
 refine ro (qa2 rfl ?_)
 obtain ⟨aO, hm⟩ := qa5 hm
 obtain ⟨s0, aL, hm⟩ := bnd hm
 refine lD (σ := (Unit)) ([2,3] ++ rg 6 9) [0] (fun i0 => [(6, .int .i64 (i0 : Int))]) (fun _ => []) (fun _ => []) (fun _ => True) (fun i0 _ => syntax_Token_L0 (s.drop i0) i0 = some s0) (fun t0 => s0 = Fl.go t0) (fun i0 => s.length - i0) 0 () aL (And.intro qe (And.intro ?_ ?_))
 clear aL
 rintro i0 _ _ aL j0
 conv at aL => whnf
 refine qaf rfl ?_
 refine qah ?_ ?_ <;> intro w0
 obtain ⟨e0, aM, aP⟩ := ltx w0
 rw [aP, syntax_Token_L0.eq_2] at aL
 refine qal rfl ?_
 refine qbb rfl (nn _) aM ?_
 refine cb aL fun au aN aL => cg0 (qf7 aN :) ?_
 refine qaz ?_
 refine cs rfl rfl aL ?_ ?_ <;> intro aQ aL
 exact eE (er aL hm)
 refine qat (qcn aM aO) ?_
 exact eR aL (_, ())
 rw [lty w0, syntax_Token_L0.eq_1] at aL
 refine cT ?_
 exact eM aL _
 rintro t0 _ rfl j0
 replace hm := elg hm
 refine qb2 ?_
 exact eE hm

def Jcq (s : Str) : Option (Str × Err) :=
  (qb3 s).bind fun x5 =>
  if (!x5) then
  some (([] : Str), (some 8))
  else
  if decide ((s.length : Int) > 64) then
  some (([] : Str), (some 5))
  else
  (JbK s).bind fun aL =>
  some (aL, none)
theorem Je9 {s : Str} {K : Hp} {r : Str × Err}
    (hm : Jcq s = some r)  :
    Fn Tryz.prog 150 [str s] K [] (fun v K' H' => v = .tuple #[str r.1, qcx 87 r.2] ∧ H' = []) := by
 refine Fn.enter Tryz.func150 Tryz.call150 rfl fun F => ?_
 unfold Jcq at hm
 refine cb hm fun x5 q5 hm => cg0 (qf8 q5 :) ?_
 refine qaz ?_
 refine cs rfl rfl hm ?_ ?_ <;> intro w6 hm
 refine qa3 rfl ?_
 exact eE hm
 refine ro (qa2 rfl ?_)
 refine cs rfl rfl hm ?_ ?_ <;> intro aN hm
 refine qa3 rfl ?_
 exact eE hm
 refine cb hm fun aM aL hm => cg0 (Jb8 aL :) ?_
 exact eE hm

def Jbd : List UInt8 → Nat → Option (Fl (Bool) (Unit))
  | [], _ => some (Fl.go ())
  | e0 :: aN, i0 =>
    (if decide ((e0.toNat : Int) < 32) then some (decide ((e0.toNat : Int) ≠ 9)) else some false).bind fun aL =>
    (if aL then some true else some (decide ((e0.toNat : Int) = 127))).bind fun aM =>
    if aM then
    some (Fl.ret true)
    else
    Jbd aN (i0 + 1)
def Jcj (s : Str) : Option (Bool) :=
  (chk (s.length ≤ qau)).bind fun _ =>
  (Jbd s 0).bind fun s0 => s0.el some fun t0 =>
  some false
theorem JeE {s : Str} {K : Hp} {r : Bool}
    (hm : Jcj s = some r)  :
    Fn Tryz.prog 184 [str s] K [] (fun v K' H' => v = .bool r ∧ H' = []) := by
 refine Fn.enter Tryz.func184 Tryz.call184 rfl fun F => ?_
 unfold Jcj at hm
 refine ro (qa2 rfl ?_)
 obtain ⟨aS, hm⟩ := qa5 hm
 obtain ⟨s0, aN, hm⟩ := bnd hm
 refine lD (σ := (Unit)) ([2,3] ++ rg 6 20) [0] (fun i0 => [(6, .int .i64 (i0 : Int))]) (fun _ => []) (fun _ => []) (fun _ => True) (fun i0 _ => Jbd (s.drop i0) i0 = some s0) (fun t0 => s0 = Fl.go t0) (fun i0 => s.length - i0) 0 () aN (And.intro qe (And.intro ?_ ?_))
 clear aN
 rintro i0 _ _ aN j0
 conv at aN => whnf
 refine qaf rfl ?_
 refine qah ?_ ?_ <;> intro w0
 obtain ⟨e0, aQ, aT⟩ := ltx w0
 rw [aT, Jbd.eq_2] at aN
 refine qal rfl ?_
 refine qam rfl ?_
 refine qbb rfl (nn _) aQ ?_
 obtain ⟨aV, aP, aN⟩ := bnd aN
 refine cS aP (fun aM aP => ?_) fun aM aP => ?_
 refine ct aM (ct aM (qbb rfl (nn _) aQ (ct aM (qbd (ct aM ?_)))))
 obtain ⟨aU, aO, aN⟩ := bnd aN
 refine qah ?_ ?_ <;> intro aL
 replace aO := ift ((si aP).symm.trans aL) aO
 refine ct aL (ct aL (ct aL (ct aL (qaf rfl (cT ?_)))))
 replace aN := ift (si aO).symm aN
 exact eE (er aN hm)
 replace aO := qbs ((si aP).symm.trans aL) aO
 refine cf aL (cf aL (qbb rfl (nn _) aQ (cf aL (qad (cf aL (qaf rfl ?_))))))
 refine qah ?_ ?_ <;> intro aR
 replace aN := ift ((si aO).symm.trans aR) aN
 exact eE (er aN hm)
 replace aN := qbs ((si aO).symm.trans aR) aN
 refine qat (qcn aQ aS) ?_
 exact eR aN (_, ())
 refine cf aM (cf aM (cf aM (cf aM ?_)))
 obtain ⟨aU, aO, aN⟩ := bnd aN
 replace aO := qbs (si aP).symm aO
 refine cF (cF (cF (qbb rfl (nn _) aQ (cF (qad (cF (qaf rfl ?_)))))))
 refine qah ?_ ?_ <;> intro aR
 replace aN := ift ((si aO).symm.trans aR) aN
 exact eE (er aN hm)
 replace aN := qbs ((si aO).symm.trans aR) aN
 refine qat (qcn aQ aS) ?_
 exact eR aN (_, ())
 rw [lty w0, Jbd.eq_1] at aN
 refine cT ?_
 exact eM aN _
 rintro t0 _ rfl j0
 replace hm := elg hm
 exact eE hm

def JcJ (s : Str) : Option (Str × Err) :=
  (Jcj s).bind fun x5 =>
  if x5 then
  some (([] : Str), (some 2))
  else
  (qkk s ([32, 9] : Str)).bind fun x8 =>
  if decide ((x8.length : Int) > 2048) then
  some (([] : Str), (some 5))
  else
  some (x8, none)
theorem JeV {s : Str} {K : Hp} {r : Str × Err}
    (hm : JcJ s = some r)  :
    Fn Tryz.prog 151 [str s] K [] (fun v K' H' => v = .tuple #[str r.1, qcx 87 r.2] ∧ H' = []) := by
 refine Fn.enter Tryz.func151 Tryz.call151 rfl fun F => ?_
 unfold JcJ at hm
 refine cb hm fun x5 q5 hm => cg0 (JeE q5 :) ?_
 refine cs rfl rfl hm ?_ ?_ <;> intro w5 hm
 refine qa3 rfl ?_
 exact eE hm
 refine cb hm fun x8 q8 hm => cg0 (qvw q8) ?_
 refine ro (qa2 rfl ?_)
 refine cs rfl rfl hm ?_ ?_ <;> intro aL hm
 refine qa3 rfl ?_
 exact eE hm
 exact eE hm

def Jbl (au : Str) (value : Str) : List Jg → Nat → (List Jg) → Bool → Option ((List Jg) × Bool)
  | [], _, ac, aL => some (ac, aL)
  | e0 :: aM, i0, ac, aL =>
    (JbK e0.Name).bind fun aN =>
    if decide (aN ≠ au) then
    (chk (ac.length + [e0].length ≤ lim)).bind fun _ =>
    Jbl au value aM (i0 + 1) (ac ++ [e0]) aL
    else
    if (!aL) then
    (chk (ac.length + [(⟨au, value⟩ : Jg)].length ≤ lim)).bind fun _ =>
    Jbl au value aM (i0 + 1) (ac ++ [(⟨au, value⟩ : Jg)]) true
    else
    Jbl au value aM (i0 + 1) ac aL
def Jdx (f : (List Jg)) (name : Str) (value : Str) : Option ((List Jg)) :=
  (JbK name).bind fun au =>
  (chk (f.length ≤ qau)).bind fun _ =>
  (Jbl au value f 0 [] false).bind fun t0 =>
  if (!t0.2) then
  (chk (t0.1.length + [(⟨au, value⟩ : Jg)].length ≤ lim)).bind fun _ =>
  some (t0.1 ++ [(⟨au, value⟩ : Jg)])
  else
  some t0.1
theorem Jff {f : (List Jg)} {name : Str} {value : Str} {aa : Option Addr} {ab : Nat} {n0 : Nat} {K : Hp} {r : (List Jg)}
    (hm : Jdx f name value = some r) (hX : RdC Jg.enc K aa ab 2 f ∧ n0 = f.length) :
    Fn Tryz.prog 152 [.slice aa n0 ab, str name, str value] K [] (fun v K' H' => ∃ ar_0 : Option Addr, ∃ cr_0 : Nat, v = .slice ar_0 r.length cr_0 ∧ (0 < r.length → Has ar_0) ∧ H' = [OwnL Jg.enc ar_0 77 2 cr_0 r]) := by
 obtain ⟨ae, aZ⟩ := hX
 subst aZ
 refine Fn.enter Tryz.func152 Tryz.call152 rfl fun F => ?_
 unfold Jdx at hm
 refine cb hm fun au aX hm => cg0 (Jb8 aX :) ?_
 refine ro (qai rfl ?_)
 obtain ⟨aP, hm⟩ := qa5 hm
 obtain ⟨s0, aN, hm⟩ := bnd hm
 refine qnr Jg.enc 77 2 ?_
 refine lD (σ := ((List Jg) × Bool) × Option Addr × Nat) ([7,8,10] ++ rg 15 24) [1] (fun i0 => [(15, .int .i64 (i0 : Int))]) (fun (t0, aL, aM) => [(7, .slice aL t0.1.length aM), (8, .bool t0.2)]) (fun (t0, aL, aM) => [OwnL Jg.enc aL 77 2 aM t0.1]) (fun (t0, aL, aM) => (0 < t0.1.length → Has aL) ∧ True) (fun i0 (t0, aL, aM) => Jbl au value (f.drop i0) i0 t0.1 t0.2 = some s0) (fun (t0, aL, aM) => t0 = s0) (fun i0 => f.length - i0) 0 ((_, _), _, _) aN (And.intro qe (And.intro ?_ ?_))
 clear aN
 rintro i0 ⟨⟨ac, aU⟩, aT, aS⟩ ⟨aQ, _⟩ aN j0
 dsimp only at aN ⊢
 refine qaf rfl ?_
 refine qah ?_ ?_ <;> intro w0
 obtain ⟨e0, aO, ba⟩ := ltx w0
 rw [ba, Jbl.eq_2] at aN
 refine qal rfl ?_
 refine RStep.ofN (qac rfl rfl (qdm ae.rd aO) (nn _) (qbr aO) (ro (qaj i0 _ ae.rd rfl (mp aO) rfl ?_)))
 refine qan rfl fun bf => ?_
 refine qab r0 rfl ⟨rfl, rfl, (nl rfl), ?_⟩
 refine qal rfl ?_
 refine fa rfl (ro (ld r0 rfl rfl ?_))
 refine cb aN fun bo aV aN => cg0 (Jb8 aV :) ?_
 refine qb2 (cs rfl rfl aN ?_ ?_) <;> intro bz aN
 refine ro (qag r0 rfl (nl rfl) ?_)
 refine bsO (len := 1) (enc := Jg.enc) (l := [e0]) (cl := [str e0.Name, str e0.Value]) qiv rfl rfl (fun _ _ => rfl) rfl rfl rfl ?_ fun bm => ?_
 · conv => whnf
   refine cT ?_
   first | done | rfl
 obtain ⟨aW, aN⟩ := qa5 aN
 refine apE rfl r2 qiv (qa6 rfl r0 rfl (fun _ => rfl) (fun _ => rfl)) aW ?_
 intro bn bp bw
 refine qat (qcn aO aP) ?_
 exact eR aN (_, (_, _), _, _)
 refine qaz ?_
 refine cs rfl rfl aN ?_ ?_ <;> intro bg aN
 refine qak rfl rfl (cT (cT ?_))
 refine bsO (len := 1) (enc := Jg.enc) (l := [(⟨au, value⟩ : Jg)]) (cl := [str au, str value]) qiv rfl rfl (fun _ _ => rfl) rfl rfl rfl ?_ fun bh => ?_
 · conv => whnf
   refine cT ?_
   first | done | rfl
 obtain ⟨a8, aN⟩ := qa5 aN
 refine apE rfl r2 qiv (qa6 rfl r0 rfl (fun _ => rfl) (fun _ => rfl)) a8 ?_
 intro bv bt bB
 refine qat (qcn aO aP) ?_
 exact eR aN (_, (_, _), _, _)
 refine qat (qcn aO aP) ?_
 exact eR aN (_, (_, _), _, _)
 rw [lty w0, Jbl.eq_1] at aN
 refine cT ?_
 exact eM aN (_, _, _)
 rintro ⟨t0, aL, aM⟩ ⟨aR, _⟩ rfl j0
 refine qaz ?_
 refine cs rfl rfl hm ?_ ?_ <;> intro bj hm
 refine qak rfl rfl (cT (cT ?_))
 refine bsO (len := 1) (enc := Jg.enc) (l := [(⟨au, value⟩ : Jg)]) (cl := [str au, str value]) qiv rfl rfl (fun _ _ => rfl) rfl rfl rfl ?_ fun bu => ?_
 · conv => whnf
   refine cT ?_
   first | done | rfl
 obtain ⟨aY, hm⟩ := qa5 hm
 refine apE rfl r1 qiv (qa6 rfl r0 rfl (fun _ => rfl) (fun _ => rfl)) aY ?_
 intro bC bb bA
 exact eE hm
 exact eE hm

def Ja8 (r' : Jk) (s : Str) (x : Jf) : Option (Err × Jk) :=
  (cutM s ([58] : Str)).bind fun aN =>
  (Jcq aN.2.1).bind fun aL =>
  if aL.2.isSome then
  some ((some 8), r')
  else
  if decide (aN.1 = ([118, 97, 114, 121] : Str)) then
  (JM r'.Vary aL.1).bind fun aO =>
  if (!aO) then
  (chk (r'.Vary.length + [aL.1].length ≤ lim)).bind fun _ =>
  some (none, (⟨r'.Ae, r'.Af, r'.Ag, (r'.Vary ++ [aL.1]), r'.Ah, r'.TTL, r'.Ai, r'.Aj, r'.Ak, r'.Al⟩ : Jk))
  else
  some (none, r')
  else
  (JcJ x.s).bind fun aM =>
  if aM.2.isSome then
  some (aM.2, r')
  else
  (Jdx r'.Ag aL.1 aM.1).bind fun aP =>
  some (none, (⟨r'.Ae, r'.Af, aP, r'.Vary, r'.Ah, r'.TTL, r'.Ai, r'.Aj, r'.Ak, r'.Al⟩ : Jk))
theorem Jc8 {r' : Jk} {s : Str} {x : Jf} {b0 : Nat} {aa : Option Addr} {ab : Nat} {af : Option Addr} {ak : Nat} {al : Option Addr} {am : Nat} {aJ : TypeId} {aB aI : List Value} {K : Hp} {r : Err × Jk}
    (hm : Ja8 r' s x = some r) (hX : (0 < r'.Ag.length → Has aa) ∧ (0 < r'.Vary.length → Has af) ∧ (0 < r'.Ah.length → Has al) ∧ GG K) :
    Fn Tryz.prog 114 [.pointer (some ⟨b0, aB.length + 0, none⟩), str s, .agg #[.int .i64 x.kind, .int .i64 x.n, str x.s, .bool x.Au]] K [qfc b0 aJ aB aI [str r'.Ae, str r'.Af, .slice aa r'.Ag.length ab, .slice af r'.Vary.length ak, .slice al r'.Ah.length am, .int .i64 r'.TTL, .int .i64 r'.Ai, .int .i64 r'.Aj, .bool r'.Ak, .bool r'.Al], OwnL Jg.enc aa 77 2 ab r'.Ag, OwnL eS af 9 1 ak r'.Vary, OwnL eS al 9 1 am r'.Ah] (fun v K' H' => ∃ ar_0 : Option Addr, ∃ cr_0 : Nat, ∃ ar_1 : Option Addr, ∃ cr_1 : Nat, ∃ ar_2 : Option Addr, ∃ cr_2 : Nat, v = qcx 87 r.1 ∧ (0 < r.2.Ag.length → Has ar_0) ∧ (0 < r.2.Vary.length → Has ar_1) ∧ (0 < r.2.Ah.length → Has ar_2) ∧ H' = [qfc b0 aJ aB aI [str r.2.Ae, str r.2.Af, .slice ar_0 r.2.Ag.length cr_0, .slice ar_1 r.2.Vary.length cr_1, .slice ar_2 r.2.Ah.length cr_2, .int .i64 r.2.TTL, .int .i64 r.2.Ai, .int .i64 r.2.Aj, .bool r.2.Ak, .bool r.2.Al], OwnL Jg.enc ar_0 77 2 cr_0 r.2.Ag, OwnL eS ar_1 9 1 cr_1 r.2.Vary, OwnL eS ar_2 9 1 cr_2 r.2.Ah]) := by
 obtain ⟨ae, aW, aR, hG⟩ := hX
 refine Fn.enter Tryz.func114 Tryz.call114 rfl fun F => ?_
 unfold Ja8 at hm
 refine qap ?_
 intro b5
 refine cb hm fun bg aY hm => cg0 (qty aY (gg3 hG)) ?_
 refine cb hm fun aN ba hm => cg0 (Je9 ba :) ?_
 refine qbe rfl ?_
 refine cs rfl rfl hm ?_ ?_ <;> intro bn hm
 refine qa3 rfl ?_
 exact eE hm
 refine qas (cs rfl rfl hm ?_ ?_) <;> intro bv hm
 refine qae ?_
 refine qci (j' := 3) rfl rfl ?_
 refine ro (ld r1 rfl (qjf rfl) ?_)
 refine cb hm fun bj aZ hm => ck0 (Fn.lend Tryz.call113 (fun aU aP aM => (Jan (v' := aN.1) aZ ⟨aM, rfl⟩)) (by exact fun _ _ _ _ h => h)) ?_
 rintro _ _ _ ⟨_, rfl, rfl, rfl⟩
 refine qaz ?_
 refine cs rfl rfl hm ?_ ?_ <;> intro bw hm
 refine qae ?_
 refine qci (j' := 3) rfl rfl ?_
 refine ro (ld r2 rfl (qjf rfl) ?_)
 refine bsO (len := 1) (enc := eS) (l := [aN.1]) (cl := [str aN.1]) qj3 rfl rfl (fun _ _ => rfl) rfl rfl rfl ?_ fun bp => ?_
 · conv => whnf
   refine cT ?_
   first | done | rfl
 obtain ⟨a8, hm⟩ := qa5 hm
 refine apE rfl r1 qj3 (qa6 rfl r0 rfl (fun _ => rfl) (fun _ => rfl)) a8 ?_
 intro bo bt bm
 refine qae ?_
 refine qci (j' := 3) rfl rfl ?_
 refine qdq r3 rfl ?_
 refine ⟨rfl, rfl, (nl rfl), ?_⟩
 exact eE hm
 exact eE hm
 refine fa rfl (ro (ld r0 rfl rfl ?_))
 refine cb hm fun bf aX hm => cg0 (JeV aX :) ?_
 refine qbe rfl ?_
 refine cs rfl rfl hm ?_ ?_ <;> intro bh hm
 exact eE hm
 refine qae ?_
 refine qci (j' := 2) rfl rfl ?_
 refine ro (ld r1 rfl (qjf rfl) ?_)
 refine cb hm fun bu bb hm => ck0 (Fn.lend Tryz.call152 (fun aO aQ aL => (Jff (name := aN.1) (value := bf.1) bb ⟨aL, rfl⟩)) (by exact fun _ _ _ _ h => h)) ?_
 rintro _ _ _ ⟨_, rfl, aS, aT, rfl, aV, rfl⟩
 refine qae ?_
 refine qci (j' := 2) rfl rfl ?_
 refine qdq r3 rfl ?_
 refine ⟨rfl, rfl, (nl rfl), ?_⟩
 exact eE hm

def JaP (r' : Jk) (s : Str) (x : Jf) : Option (Err × Jk) :=
  (((if (decide (s = ([112, 97, 115, 115] : Str)) || decide (s = ([116, 111, 107, 101, 110] : Str))) then some true else (JU s ([118, 97, 114, 121, 58] : Str)).bind fun aP =>
  some aP).bind fun aM =>
  if aM then
  some 0
  else
  if (decide (s = ([116, 116, 108] : Str)) || decide (s = ([100, 101, 110, 121] : Str))) then
  some 2
  else
  some 1 : Option (Int))).bind fun aL =>
  if decide (x.kind ≠ aL) then
  some ((some 9), r')
  else
  if decide (s = ([112, 97, 116, 104] : Str)) then
  some (none, (⟨x.s, r'.Af, r'.Ag, r'.Vary, r'.Ah, r'.TTL, r'.Ai, r'.Aj, r'.Ak, r'.Al⟩ : Jk))
  else
  if decide (s = ([113, 117, 101, 114, 121] : Str)) then
  some (none, (⟨r'.Ae, x.s, r'.Ag, r'.Vary, r'.Ah, r'.TTL, r'.Ai, r'.Aj, r'.Ak, r'.Al⟩ : Jk))
  else
  if decide (s = ([116, 97, 103] : Str)) then
  (JM r'.Ah x.s).bind fun aO =>
  if (!aO) then
  (chk (r'.Ah.length + [x.s].length ≤ lim)).bind fun _ =>
  some (none, (⟨r'.Ae, r'.Af, r'.Ag, r'.Vary, (r'.Ah ++ [x.s]), r'.TTL, r'.Ai, r'.Aj, r'.Ak, r'.Al⟩ : Jk))
  else
  some (none, r')
  else
  if decide (s = ([116, 116, 108] : Str)) then
  some (none, (⟨r'.Ae, r'.Af, r'.Ag, r'.Vary, r'.Ah, (max 0 x.n), r'.Ai, r'.Aj, r'.Ak, r'.Al⟩ : Jk))
  else
  if decide (s = ([100, 101, 110, 121] : Str)) then
  if (decide (x.n < 400) || decide (x.n > 499)) then
  some (none, (⟨r'.Ae, r'.Af, r'.Ag, r'.Vary, r'.Ah, r'.TTL, 403, r'.Aj, r'.Ak, r'.Al⟩ : Jk))
  else
  some (none, (⟨r'.Ae, r'.Af, r'.Ag, r'.Vary, r'.Ah, r'.TTL, x.n, r'.Aj, r'.Ak, r'.Al⟩ : Jk))
  else
  if decide (s = ([112, 97, 115, 115] : Str)) then
  some (none, (⟨r'.Ae, r'.Af, r'.Ag, r'.Vary, r'.Ah, r'.TTL, r'.Ai, r'.Aj, true, r'.Al⟩ : Jk))
  else
  if decide (s = ([116, 111, 107, 101, 110] : Str)) then
  some (none, (⟨r'.Ae, r'.Af, r'.Ag, r'.Vary, r'.Ah, r'.TTL, r'.Ai, r'.Aj, r'.Ak, true⟩ : Jk))
  else
  (Ja8 r' s x).bind fun aN =>
  some (aN.1, aN.2)
theorem Jcp {r' : Jk} {s : Str} {x : Jf} {b0 : Nat} {aa : Option Addr} {ab : Nat} {af : Option Addr} {ak : Nat} {al : Option Addr} {am : Nat} {aJ : TypeId} {aB aI : List Value} {K : Hp} {r : Err × Jk}
    (hm : JaP r' s x = some r) (hX : (0 < r'.Ag.length → Has aa) ∧ (0 < r'.Vary.length → Has af) ∧ (0 < r'.Ah.length → Has al) ∧ GG K) :
    Fn Tryz.prog 70 [.pointer (some ⟨b0, aB.length + 0, none⟩), str s, .agg #[.int .i64 x.kind, .int .i64 x.n, str x.s, .bool x.Au]] K [qfc b0 aJ aB aI [str r'.Ae, str r'.Af, .slice aa r'.Ag.length ab, .slice af r'.Vary.length ak, .slice al r'.Ah.length am, .int .i64 r'.TTL, .int .i64 r'.Ai, .int .i64 r'.Aj, .bool r'.Ak, .bool r'.Al], OwnL Jg.enc aa 77 2 ab r'.Ag, OwnL eS af 9 1 ak r'.Vary, OwnL eS al 9 1 am r'.Ah] (fun v K' H' => ∃ ar_0 : Option Addr, ∃ cr_0 : Nat, ∃ ar_1 : Option Addr, ∃ cr_1 : Nat, ∃ ar_2 : Option Addr, ∃ cr_2 : Nat, v = qcx 87 r.1 ∧ (0 < r.2.Ag.length → Has ar_0) ∧ (0 < r.2.Vary.length → Has ar_1) ∧ (0 < r.2.Ah.length → Has ar_2) ∧ H' = [qfc b0 aJ aB aI [str r.2.Ae, str r.2.Af, .slice ar_0 r.2.Ag.length cr_0, .slice ar_1 r.2.Vary.length cr_1, .slice ar_2 r.2.Ah.length cr_2, .int .i64 r.2.TTL, .int .i64 r.2.Ai, .int .i64 r.2.Aj, .bool r.2.Ak, .bool r.2.Al], OwnL Jg.enc ar_0 77 2 cr_0 r.2.Ag, OwnL eS ar_1 9 1 cr_1 r.2.Vary, OwnL eS ar_2 9 1 cr_2 r.2.Ah]) := by
 obtain ⟨ae, bn, ba, hG⟩ := hX
 refine Fn.enter Tryz.func70 Tryz.call70 rfl fun F => ?_
 unfold JaP at hm
 refine qap ?_
 intro b5
 obtain ⟨aV, aL, hm⟩ := bnd hm
 refine jD (σ := (Int)) (rg 7 19) [0, 1, 2, 3, 4, 5] (fun aS => [(7, .int .i64 aS)]) (fun aS => []) (fun aS => aS = aV) (And.intro ?_ ?_)
 refine qal rfl ?_
 obtain ⟨aW, aN, aL⟩ := bnd aL
 refine jR (σ := Bool) (rg 8 11) (fun aT => [(8, .bool aT)]) (fun aT => aT = aW) ?_ ?_
 replace aN := bsm aN
 refine qam rfl ?_
 refine qas ?_
 refine qah ?_ ?_ <;> intro aO
 refine ct aO (ct aO ?_)
 obtain ⟨bB, aR, aN⟩ := bnd aN
 replace aR := ift (qd0 aO) aR
 refine cT (cT (cT ?_))
 exact eMq aN _ ⟨bq (si aR), trivial⟩
 refine cf aO (qas (cf aO ?_))
 obtain ⟨bB, aR, aN⟩ := bnd aN
 refine qah ?_ ?_ <;> intro aQ
 replace aR := ift (qkd aO aQ) aR
 refine ct aQ (ct aQ ?_)
 exact eMq aN _ ⟨bq (si aR), trivial⟩
 replace aR := qbs (qhg aO aQ) aR
 refine cf aQ ?_
 refine cb aR fun bS bz aR => cg0 (Jbi bz :) ?_
 refine cf aQ ?_
 exact eMq aN _ ⟨bq (si aR), trivial⟩
 rintro aT rfl bA
 refine cs rfl rfl aL ?_ ?_ <;> intro w8 aL
 exact eM aL _
 refine qam rfl ?_
 refine qas ?_
 refine qah ?_ ?_ <;> intro aP
 refine ct aP (ct aP (qaf rfl (cT ?_)))
 replace aL := ift (qd0 aP) aL
 exact eM aL _
 refine cf aP (qas (cf aP (qaf rfl ?_)))
 refine qah ?_ ?_ <;> intro bm
 replace aL := ift (qkd aP bm) aL
 exact eM aL _
 replace aL := qbs (qhg aP bm) aL
 exact eM aL _
 rintro aS rfl bD
 refine fa rfl (ro (ld r0 rfl rfl (qbd ?_)))
 refine cs rfl rfl hm ?_ ?_ <;> intro bK hm
 refine qa3 rfl ?_
 exact eE hm
 refine qal rfl ?_
 refine qas (cs rfl rfl hm ?_ ?_) <;> intro bP hm
 refine fa rfl (ro (ld r0 rfl rfl (qae ?_)))
 refine qci (j' := 0) rfl rfl ?_
 refine qdq r1 rfl ?_
 refine ⟨rfl, rfl, (nl rfl), ?_⟩
 exact eE hm
 refine qas (cs rfl rfl hm ?_ ?_) <;> intro bH hm
 refine fa rfl (ro (ld r0 rfl rfl (qae ?_)))
 refine qci (j' := 1) rfl rfl ?_
 refine qdq r1 rfl ?_
 refine ⟨rfl, rfl, (nl rfl), ?_⟩
 exact eE hm
 refine qas (cs rfl rfl hm ?_ ?_) <;> intro bI hm
 refine qa4 ⟨⟨[], false⟩, _, [(_, _), (_, _)], []⟩ (by kernel_rfl) ⟨Hp.Le.refl _, (sc [1,0] rfl), ci0⟩ ?_
 refine qae ?_
 refine qci (j' := 4) rfl rfl ?_
 refine qao m0 rfl (qjf rfl) (fa rfl (qao m1 rfl rfl ?_))
 refine cb hm fun bF bw hm => ck0 (Fn.lend Tryz.call113 (fun bo aX aU => (Jan (v' := x.s) bw ⟨aU, rfl⟩)) (by exact fun _ _ _ _ h => h)) ?_
 rintro _ _ _ ⟨_, rfl, rfl, rfl⟩
 refine qk (sc [2,1] rfl) ?_
 refine qaz ?_
 refine cs rfl rfl hm ?_ ?_ <;> intro bR hm
 refine qbg ⟨⟨[], false⟩, _, [(_, _), (_, _)], []⟩ 9 rfl (by kernel_rfl) ⟨Hp.Le.refl _, (sc [2,1] rfl), ci0⟩ ?_
 refine qae ?_
 refine qci (j' := 4) rfl rfl ?_
 refine qao m0 rfl (qjf rfl) (fa rfl (qao m1 rfl rfl ?_))
 refine bsO (len := 1) (enc := eS) (l := [x.s]) (cl := [str x.s]) qj3 rfl rfl (fun _ _ => rfl) rfl rfl rfl ?_ fun bQ => ?_
 · conv => whnf
   refine cT ?_
   first | done | rfl
 refine qk (sc [3,2] rfl) ?_
 obtain ⟨bC, hm⟩ := qa5 hm
 refine apE rfl r1 qj3 (qa6 rfl r0 rfl (fun _ => rfl) (fun _ => rfl)) bC ?_
 intro bT bM bL
 refine qk (sc [3,2] rfl) ?_
 refine qae ?_
 refine qci (j' := 4) rfl rfl ?_
 refine qdq r3 rfl ?_
 refine ⟨rfl, rfl, (nl rfl), ?_⟩
 refine ⟨⟨Hp.emp_le _, (pf rfl), ci0⟩, ?_⟩
 exact eE hm
 exact eE hm
 refine qas (cs rfl rfl hm ?_ ?_) <;> intro bN hm
 refine fa rfl (ro (ld r0 rfl rfl (ro (qdl (qae ?_)))))
 refine qci (j' := 5) rfl rfl ?_
 refine qdq r1 rfl ?_
 refine ⟨rfl, rfl, (nl rfl), ?_⟩
 exact eE hm
 refine qas (cs rfl rfl hm ?_ ?_) <;> intro bG hm
 refine fa rfl (ro (ld r0 rfl rfl (qae ?_)))
 refine qci (j' := 6) rfl rfl ?_
 refine qdq r1 rfl ?_
 refine ⟨rfl, rfl, (nl rfl), ?_⟩
 refine qam rfl ?_
 refine fa rfl (ro (ld r1 rfl rfl ?_))
 refine qah ?_ ?_ <;> intro aM
 refine ct aM (ct aM (ct aM (qaf rfl (cT ?_))))
 replace hm := ift (qd0 aM) hm
 refine qae ?_
 refine qci (j' := 6) rfl rfl ?_
 refine qdq r0 rfl ?_
 refine ⟨rfl, rfl, (nl rfl), ?_⟩
 exact eE hm
 refine fa rfl (cf aM (ro (ld r1 rfl rfl (cf aM (cf aM (qaf rfl ?_))))))
 refine qah ?_ ?_ <;> intro bh
 replace hm := ift (qkd aM bh) hm
 refine qae ?_
 refine qci (j' := 6) rfl rfl ?_
 refine qdq r0 rfl ?_
 refine ⟨rfl, rfl, (nl rfl), ?_⟩
 exact eE hm
 replace hm := qbs (qhg aM bh) hm
 exact eE hm
 refine qas (cs rfl rfl hm ?_ ?_) <;> intro bJ hm
 refine qae ?_
 refine qci (j' := 8) rfl rfl ?_
 refine qdq r1 rfl ?_
 refine ⟨rfl, rfl, (nl rfl), ?_⟩
 exact eE hm
 refine qas (cs rfl rfl hm ?_ ?_) <;> intro bu hm
 refine qae ?_
 refine qci (j' := 9) rfl rfl ?_
 refine qdq r1 rfl ?_
 refine ⟨rfl, rfl, (nl rfl), ?_⟩
 exact eE hm
 refine ro (qag r0 rfl (nl rfl) ?_)
 refine cb hm fun bO bv hm => ckx (Jc8 bv :) ?_
 rintro _ _ _ ⟨bf, aZ, bt, a8, bb, aY, rfl, bg, bp, bj, rfl⟩
 exact eE hm

def Jbq (m : Jh) (atZ : Int) (x : Jc) : Option (Int × Err × Jh) :=
  (chk (InI (m.result.Aj + 1))).bind fun _ =>
  if decide ((m.result.Aj + 1) > m.most) then
  some (0, (some 13), (⟨m.Ar, m.most, (⟨m.result.Ae, m.result.Af, m.result.Ag, m.result.Vary, m.result.Ah, m.result.TTL, m.result.Ai, (m.result.Aj + 1), m.result.Ak, m.result.Al⟩ : Jk), m.stack, m.Ap⟩ : Jh))
  else
  (chk (InI (atZ + 1))).bind fun _ =>
  if decide (x.Op = 1) then
  (JaX x.N).bind fun bo =>
  (JP (⟨m.Ar, m.most, (⟨m.result.Ae, m.result.Af, m.result.Ag, m.result.Vary, m.result.Ah, m.result.TTL, m.result.Ai, (m.result.Aj + 1), m.result.Ak, m.result.Al⟩ : Jk), m.stack, m.Ap⟩ : Jh) bo false).bind fun a8 =>
  some ((atZ + 1), a8.1, (⟨m.Ar, a8.2.most, a8.2.result, a8.2.stack, a8.2.Ap⟩ : Jh))
  else
  if decide (x.Op = 2) then
  (Jat x.S).bind fun bm =>
  (JP (⟨m.Ar, m.most, (⟨m.result.Ae, m.result.Af, m.result.Ag, m.result.Vary, m.result.Ah, m.result.TTL, m.result.Ai, (m.result.Aj + 1), m.result.Ak, m.result.Al⟩ : Jk), m.stack, m.Ap⟩ : Jh) bm false).bind fun aZ =>
  some ((atZ + 1), aZ.1, (⟨m.Ar, aZ.2.most, aZ.2.result, aZ.2.stack, aZ.2.Ap⟩ : Jh))
  else
  if decide (x.Op = 3) then
  (ix m.Ap x.N).bind fun bj =>
  (JP (⟨m.Ar, m.most, (⟨m.result.Ae, m.result.Af, m.result.Ag, m.result.Vary, m.result.Ah, m.result.TTL, m.result.Ai, (m.result.Aj + 1), m.result.Ak, m.result.Al⟩ : Jk), m.stack, m.Ap⟩ : Jh) bj false).bind fun aY =>
  some ((atZ + 1), aY.1, (⟨m.Ar, aY.2.most, aY.2.result, aY.2.stack, aY.2.Ap⟩ : Jh))
  else
  if decide (x.Op = 5) then
  (Jau x.S m.Ar).bind fun bn =>
  (JP (⟨m.Ar, m.most, (⟨m.result.Ae, m.result.Af, m.result.Ag, m.result.Vary, m.result.Ah, m.result.TTL, m.result.Ai, (m.result.Aj + 1), m.result.Ak, m.result.Al⟩ : Jk), m.stack, m.Ap⟩ : Jh) bn false).bind fun ba =>
  some ((atZ + 1), ba.1, (⟨m.Ar, ba.2.most, ba.2.result, ba.2.stack, ba.2.Ap⟩ : Jh))
  else
  if decide (x.Op = 4) then
  (JQ (⟨m.Ar, m.most, (⟨m.result.Ae, m.result.Af, m.result.Ag, m.result.Vary, m.result.Ah, m.result.TTL, m.result.Ai, (m.result.Aj + 1), m.result.Ak, m.result.Al⟩ : Jk), m.stack, m.Ap⟩ : Jh)).bind fun aW =>
  (ix aW.2.Ap x.N).bind fun bp =>
  some ((atZ + 1), none, (⟨m.Ar, aW.2.most, aW.2.result, aW.2.stack, (aW.2.Ap.set ((x.N).toNat) aW.1)⟩ : Jh))
  else
  if decide (x.Op = 6) then
  (JQ (⟨m.Ar, m.most, (⟨m.result.Ae, m.result.Af, m.result.Ag, m.result.Vary, m.result.Ah, m.result.TTL, m.result.Ai, (m.result.Aj + 1), m.result.Ak, m.result.Al⟩ : Jk), m.stack, m.Ap⟩ : Jh)).bind fun aV =>
  (JE x.S aV.1 m.Ar).bind fun bb =>
  if (!bb.2) then
  some (0, (some 9), (⟨m.Ar, aV.2.most, aV.2.result, aV.2.stack, aV.2.Ap⟩ : Jh))
  else
  (JP (⟨m.Ar, aV.2.most, aV.2.result, aV.2.stack, aV.2.Ap⟩ : Jh) bb.1 true).bind fun aS =>
  some ((atZ + 1), aS.1, (⟨m.Ar, aS.2.most, aS.2.result, aS.2.stack, aS.2.Ap⟩ : Jh))
  else
  if decide (x.Op = 7) then
  (JQ (⟨m.Ar, m.most, (⟨m.result.Ae, m.result.Af, m.result.Ag, m.result.Vary, m.result.Ah, m.result.TTL, m.result.Ai, (m.result.Aj + 1), m.result.Ak, m.result.Al⟩ : Jk), m.stack, m.Ap⟩ : Jh)).bind fun aT =>
  (JQ (⟨m.Ar, aT.2.most, aT.2.result, aT.2.stack, aT.2.Ap⟩ : Jh)).bind fun aO =>
  (JI x.S aO.1 aT.1).bind fun aX =>
  if (!aX.2) then
  some (0, (some 9), (⟨m.Ar, aO.2.most, aO.2.result, aO.2.stack, aO.2.Ap⟩ : Jh))
  else
  (JP (⟨m.Ar, aO.2.most, aO.2.result, aO.2.stack, aO.2.Ap⟩ : Jh) aX.1 true).bind fun aQ =>
  some ((atZ + 1), aQ.1, (⟨m.Ar, aQ.2.most, aQ.2.result, aQ.2.stack, aQ.2.Ap⟩ : Jh))
  else
  if decide (x.Op = 8) then
  (JQ (⟨m.Ar, m.most, (⟨m.result.Ae, m.result.Af, m.result.Ag, m.result.Vary, m.result.Ah, m.result.TTL, m.result.Ai, (m.result.Aj + 1), m.result.Ak, m.result.Al⟩ : Jk), m.stack, m.Ap⟩ : Jh)).bind fun aN =>
  if decide (aN.1.kind ≠ 3) then
  some (0, (some 9), (⟨m.Ar, aN.2.most, aN.2.result, aN.2.stack, aN.2.Ap⟩ : Jh))
  else
  (Jaj (!aN.1.Au)).bind fun bf =>
  (JP (⟨m.Ar, aN.2.most, aN.2.result, aN.2.stack, aN.2.Ap⟩ : Jh) bf false).bind fun aR =>
  some ((atZ + 1), aR.1, (⟨m.Ar, aR.2.most, aR.2.result, aR.2.stack, aR.2.Ap⟩ : Jh))
  else
  if decide (x.Op = 9) then
  some (x.N, none, (⟨m.Ar, m.most, (⟨m.result.Ae, m.result.Af, m.result.Ag, m.result.Vary, m.result.Ah, m.result.TTL, m.result.Ai, (m.result.Aj + 1), m.result.Ak, m.result.Al⟩ : Jk), m.stack, m.Ap⟩ : Jh))
  else
  if decide (x.Op = 10) then
  (JQ (⟨m.Ar, m.most, (⟨m.result.Ae, m.result.Af, m.result.Ag, m.result.Vary, m.result.Ah, m.result.TTL, m.result.Ai, (m.result.Aj + 1), m.result.Ak, m.result.Al⟩ : Jk), m.stack, m.Ap⟩ : Jh)).bind fun aM =>
  if decide (aM.1.kind ≠ 3) then
  some (0, (some 9), (⟨m.Ar, aM.2.most, aM.2.result, aM.2.stack, aM.2.Ap⟩ : Jh))
  else
  if (!aM.1.Au) then
  some (x.N, none, (⟨m.Ar, aM.2.most, aM.2.result, aM.2.stack, aM.2.Ap⟩ : Jh))
  else
  some ((atZ + 1), none, (⟨m.Ar, aM.2.most, aM.2.result, aM.2.stack, aM.2.Ap⟩ : Jh))
  else
  if decide (x.Op = 11) then
  (if (decide (x.S ≠ ([112, 97, 115, 115] : Str)) && decide (x.S ≠ ([116, 111, 107, 101, 110] : Str))) then (JU x.S ([118, 97, 114, 121, 58] : Str)).bind fun bg =>
  some (!bg) else some false).bind fun bh =>
  ((if bh then
  (JQ (⟨m.Ar, m.most, (⟨m.result.Ae, m.result.Af, m.result.Ag, m.result.Vary, m.result.Ah, m.result.TTL, m.result.Ai, (m.result.Aj + 1), m.result.Ak, m.result.Al⟩ : Jk), m.stack, m.Ap⟩ : Jh)).bind fun aP =>
  some (aP.1.kind, aP.1.n, aP.1.s, aP.1.Au, (⟨m.Ar, aP.2.most, aP.2.result, aP.2.stack, aP.2.Ap⟩ : Jh))
  else
  some (0, 0, ([] : Str), false, (⟨m.Ar, m.most, (⟨m.result.Ae, m.result.Af, m.result.Ag, m.result.Vary, m.result.Ah, m.result.TTL, m.result.Ai, (m.result.Aj + 1), m.result.Ak, m.result.Al⟩ : Jk), m.stack, m.Ap⟩ : Jh)) : Option (Int × Int × Str × Bool × Jh))).bind fun aL =>
  (JaP aL.2.2.2.2.result x.S (⟨aL.1, aL.2.1, aL.2.2.1, aL.2.2.2.1⟩ : Jf)).bind fun aU =>
  if aU.1.isSome then
  some (0, aU.1, (⟨m.Ar, aL.2.2.2.2.most, aU.2, aL.2.2.2.2.stack, aL.2.2.2.2.Ap⟩ : Jh))
  else
  if decide (x.S = ([100, 101, 110, 121] : Str)) then
  some ((-1), none, (⟨m.Ar, aL.2.2.2.2.most, aU.2, aL.2.2.2.2.stack, aL.2.2.2.2.Ap⟩ : Jh))
  else
  some ((atZ + 1), none, (⟨m.Ar, aL.2.2.2.2.most, aU.2, aL.2.2.2.2.stack, aL.2.2.2.2.Ap⟩ : Jh))
  else
  if decide (x.Op = 12) then
  some ((-1), none, (⟨m.Ar, m.most, (⟨m.result.Ae, m.result.Af, m.result.Ag, m.result.Vary, m.result.Ah, m.result.TTL, m.result.Ai, (m.result.Aj + 1), m.result.Ak, m.result.Al⟩ : Jk), m.stack, m.Ap⟩ : Jh))
  else
  some ((atZ + 1), none, (⟨m.Ar, m.most, (⟨m.result.Ae, m.result.Af, m.result.Ag, m.result.Vary, m.result.Ah, m.result.TTL, m.result.Ai, (m.result.Aj + 1), m.result.Ak, m.result.Al⟩ : Jk), m.stack, m.Ap⟩ : Jh))
theorem Jdt {m : Jh} {atZ : Int} {x : Jc} {b0 : Nat} {aa : Option Addr} {ab : Nat} {af : Option Addr} {ak : Nat} {al : Option Addr} {am : Nat} {an : Option Addr} {ar : Nat} {av : Option Addr} {ax : Nat} {K : Hp} {r : Int × Err × Jh}
    (hm : Jbq m atZ x = some r) (hX : RdC Jg.enc K aa ab 2 m.Ar.Ao ∧ (0 < m.result.Ag.length → Has af) ∧ (0 < m.result.Vary.length → Has al) ∧ (0 < m.result.Ah.length → Has an) ∧ (0 < m.stack.length → Has av) ∧ m.Ap.length = 512 ∧ GG K) :
    Fn Tryz.prog 33 [.pointer (some ⟨b0, 0, none⟩), .int .i64 atZ, .agg #[.int .i64 x.Op, .int .i64 x.N, str x.S]] K [Cells b0 98 ((str m.Ar.Am) :: (str m.Ar.An) :: (str m.Ar.Ae) :: (str m.Ar.Af) :: (.slice aa m.Ar.Ao.length ab) :: (.int .i64 m.most) :: (str m.result.Ae) :: (str m.result.Af) :: (.slice af m.result.Ag.length ak) :: (.slice al m.result.Vary.length am) :: (.slice an m.result.Ah.length ar) :: (.int .i64 m.result.TTL) :: (.int .i64 m.result.Ai) :: (.int .i64 m.result.Aj) :: (.bool m.result.Ak) :: (.bool m.result.Al) :: (.slice av m.stack.length ax) :: (m.Ap.map Jf.enc).flatten), OwnL Jg.enc af 77 2 ak m.result.Ag, OwnL eS al 9 1 am m.result.Vary, OwnL eS an 9 1 ar m.result.Ah, OwnL Jf.enc av 95 4 ax m.stack] (fun v K' H' => ∃ ar_0 : Option Addr, ∃ cr_0 : Nat, ∃ ar_1 : Option Addr, ∃ cr_1 : Nat, ∃ ar_2 : Option Addr, ∃ cr_2 : Nat, ∃ ar_3 : Option Addr, ∃ cr_3 : Nat, v = .tuple #[.int .i64 r.1, qcx 87 r.2.1] ∧ (0 < r.2.2.result.Ag.length → Has ar_0) ∧ (0 < r.2.2.result.Vary.length → Has ar_1) ∧ (0 < r.2.2.result.Ah.length → Has ar_2) ∧ (0 < r.2.2.stack.length → Has ar_3) ∧ r.2.2.Ap.length = 512 ∧ H' = [Cells b0 98 ((str m.Ar.Am) :: (str m.Ar.An) :: (str m.Ar.Ae) :: (str m.Ar.Af) :: (.slice aa m.Ar.Ao.length ab) :: (.int .i64 r.2.2.most) :: (str r.2.2.result.Ae) :: (str r.2.2.result.Af) :: (.slice ar_0 r.2.2.result.Ag.length cr_0) :: (.slice ar_1 r.2.2.result.Vary.length cr_1) :: (.slice ar_2 r.2.2.result.Ah.length cr_2) :: (.int .i64 r.2.2.result.TTL) :: (.int .i64 r.2.2.result.Ai) :: (.int .i64 r.2.2.result.Aj) :: (.bool r.2.2.result.Ak) :: (.bool r.2.2.result.Al) :: (.slice ar_3 r.2.2.stack.length cr_3) :: (r.2.2.Ap.map Jf.enc).flatten), OwnL Jg.enc ar_0 77 2 cr_0 r.2.2.result.Ag, OwnL eS ar_1 9 1 cr_1 r.2.2.result.Vary, OwnL eS ar_2 9 1 cr_2 r.2.2.result.Ah, OwnL Jf.enc ar_3 95 4 cr_3 r.2.2.stack]) := by
 obtain ⟨ae, fD, fp, gi, fe, bD, hG⟩ := hX
 refine Fn.enter Tryz.func33 Tryz.call33 rfl fun F => ?_
 unfold Jbq at hm
 refine qap ?_
 intro b5
 refine qae (fa rfl (fa rfl (ro (ld r1 rfl rfl ?_))))
 obtain ⟨gS, hm⟩ := qa5 hm
 refine qat gS (qae (fa rfl (fa rfl ?_)))
 refine qov (cs' := (str m.Ar.Am) :: (str m.Ar.An) :: (str m.Ar.Ae) :: (str m.Ar.Af) :: (.slice aa m.Ar.Ao.length ab) :: (.int .i64 m.most) :: (str m.result.Ae) :: (str m.result.Af) :: (.slice af m.result.Ag.length ak) :: (.slice al m.result.Vary.length am) :: (.slice an m.result.Ah.length ar) :: (.int .i64 m.result.TTL) :: (.int .i64 m.result.Ai) :: (.int .i64 (m.result.Aj + 1)) :: (.bool m.result.Ak) :: (.bool m.result.Al) :: (.slice av m.stack.length ax) :: (m.Ap.map Jf.enc).flatten) r1 rfl rfl (by exact rfl) (by exact nl rfl) (by exact rfl) ?_
 refine qa4 ⟨⟨[], false⟩, _, [(_, _)], []⟩ (by kernel_rfl) ⟨Hp.Le.refl _, (pf rfl), ci0⟩ ?_
 refine qae (fa rfl (fa rfl (qao m0 rfl rfl (qae (fa rfl (qao m0 rfl rfl ?_))))))
 refine cs rfl rfl hm ?_ ?_ <;> intro iD hm
 refine qa3 rfl ?_
 exact eE hm
 obtain ⟨gK, hm⟩ := qa5 hm
 refine qat gK (fa rfl (ro (ld r1 rfl rfl ?_)))
 refine qal rfl ?_
 refine qad (cs rfl rfl hm ?_ ?_) <;> intro iR hm
 refine fa rfl (ro (ld r1 rfl rfl ?_))
 refine cb hm fun iG gJ hm => cg0 (Jbj gJ :) ?_
 refine cb hm fun iF ib hm => ckx (Jas ib :) ?_
 rintro _ _ _ ⟨ga, fO, fc, fB, fH, fK, gB, fy, rfl, fw, eV, fA, gz, fv, rfl⟩
 exact eE hm
 refine qad (cs rfl rfl hm ?_ ?_) <;> intro iI hm
 refine fa rfl (ro (ld r1 rfl rfl ?_))
 refine cb hm fun iM gR hm => cg0 (Jao gR :) ?_
 refine cb hm fun iA gH hm => ckx (Jas gH :) ?_
 rintro _ _ _ ⟨gy, fT, gw, gA, gx, f8, fu, gr, rfl, fm, gl, gm, fb, fY, rfl⟩
 exact eE hm
 refine qad (cs rfl rfl hm ?_ ?_) <;> intro iB hm
 refine qa4 ⟨⟨[], true⟩, _, [], []⟩ (by kernel_rfl) ⟨Hp.Le.refl _, (pf rfl), ci0⟩ ?_
 refine fa rfl ?_
 refine ld r1 rfl rfl ?_
 refine qae (fa rfl ?_)
 obtain ⟨iE, eY, fN, hm⟩ := ixb hm
 refine qbp (sz := 4) rfl rfl eY (qwm bD eY fN) ?_
 refine qy0 (enc := Jf.enc) (sz := 4) r0 rfl (by exact rfl) fN (by exact rfl) ?_
 refine cb hm fun iP gZ hm => ckx (Jas gZ :) ?_
 rintro _ _ _ ⟨ge, fR, fh, fX, fk, gc, gk, gv, rfl, fS, fW, fI, fC, eZ, rfl⟩
 refine qk (pf rfl) ?_
 exact eE hm
 refine qad (cs rfl rfl hm ?_ ?_) <;> intro iz hm
 refine qa4 ⟨⟨[], false⟩, _, [(_, _)], [(b0, [str m.Ar.Am, str m.Ar.An, str m.Ar.Ae, str m.Ar.Af, .slice aa m.Ar.Ao.length ab])]⟩ (by kernel_rfl) ⟨Hp.Le.refl _, (sc [1] rfl), (ci1 r0 (by exact rfl))⟩ ?_
 refine fa rfl (qao m0 rfl rfl (qae (fa rfl ?_)))
 refine qox m0 rfl (nl rfl) ?_
 refine cb hm fun iH ig hm => cgx (Jcx ig :) ?_
 refine ⟨⟨lr, (sc [1] rfl), (ci1 r0 (by exact rfl))⟩, ?_⟩
 refine cb hm fun iy il hm => ckx (Jas il :) ?_
 rintro _ _ _ ⟨gq, eQ, eX, fU, gj, e8, fV, fP, rfl, gh, fG, gp, fo, fj, rfl⟩
 refine ⟨⟨lr, (sc [5] rfl), (ci1 r0 (by exact rfl))⟩, ?_⟩
 exact eE hm
 refine qad (cs rfl rfl hm ?_ ?_) <;> intro iv hm
 refine qa4 ⟨⟨[], false⟩, _, [(_, _)], []⟩ (by kernel_rfl) ⟨Hp.Le.refl _, (sc [1] rfl), ci0⟩ ?_
 refine fa rfl (qao m0 rfl rfl ?_)
 refine cb hm fun aZ hJ hm => ckx (Jaz hJ :) ?_
 rintro _ _ _ ⟨bh, ba, bm, bf, bo, bn, bj, bb, rfl, bA, bz, bB, bC, bg, rfl⟩
 refine qk (sc [5] rfl) ?_
 refine qae (fa rfl ?_)
 obtain ⟨iC, fg, gn, hm⟩ := ixb hm
 refine qbp (sz := 4) rfl rfl fg (qwm bg fg gn) ?_
 refine qy1 (sz := 4) (enc := Jf.enc) (y := aZ.1) (cs' := (str m.Ar.Am) :: (str m.Ar.An) :: (str m.Ar.Ae) :: (str m.Ar.Af) :: (.slice aa m.Ar.Ao.length ab) :: (.int .i64 aZ.2.most) :: (str aZ.2.result.Ae) :: (str aZ.2.result.Af) :: (.slice bh aZ.2.result.Ag.length ba) :: (.slice bm aZ.2.result.Vary.length bf) :: (.slice bo aZ.2.result.Ah.length bn) :: (.int .i64 aZ.2.result.TTL) :: (.int .i64 aZ.2.result.Ai) :: (.int .i64 aZ.2.result.Aj) :: (.bool aZ.2.result.Ak) :: (.bool aZ.2.result.Al) :: (.slice bj aZ.2.stack.length bb) :: ((aZ.2.Ap.set ((x.N).toNat) aZ.1).map Jf.enc).flatten) r0 rfl (by exact rfl) gn rfl (fun _ => rfl) (fun _ => rfl) (by exact rfl) (by decide) ?_
 refine qk (sc [5] rfl) ?_
 cases hm
 exact en lr ⟨bh, ba, bm, bf, bo, bn, bj, bb, rfl, bA, bz, bB, bC, (List.length_set.trans bg), rfl⟩ (sc [0,0,0,0,0,1] rfl)
 refine qad (cs rfl rfl hm ?_ ?_) <;> intro iJ hm
 refine qdp ⟨⟨[], false⟩, _, [(_, _)], [(b0, [str m.Ar.Am, str m.Ar.An, str m.Ar.Ae, str m.Ar.Af, .slice aa m.Ar.Ao.length ab])]⟩ 15 rfl (by kernel_rfl) ⟨Hp.Le.refl _, (sc [1] rfl), (ci1 r0 (by exact rfl))⟩ ?_
 refine fa rfl (qao m0 rfl rfl ?_)
 intro gP
 refine cb hm fun iN gV hm => ckx (Jaz gV :) ?_
 rintro _ _ _ ⟨fJ, ff, fQ, fL, fl, fZ, gu, fM, rfl, e9, gb, eL, fq, gf, rfl⟩
 refine ⟨⟨lr, (sc [5] rfl), (ci1 r0 (by exact rfl))⟩, ?_⟩
 refine ⟨_, .cons r7 .nil, ⟨lr, (sc [5] rfl), (ci1 r0 (by exact rfl))⟩, ?_⟩
 refine qae (fa rfl ?_)
 refine qox m0 rfl (nl rfl) ?_
 intro iu
 refine cb hm fun gY cw hm => cgx (JdI cw :) ?_
 refine ⟨⟨lr, (sc [5] rfl), (ci1 r0 (by exact rfl))⟩, ?_⟩
 refine ⟨_, .cons r7 .nil, ⟨lr, (sc [5] rfl), (ci1 r0 (by exact rfl))⟩, ?_⟩
 refine qjb rfl ?_
 intro b9
 intro gT
 refine qab r0 rfl ⟨rfl, rfl, (nl rfl), ?_⟩
 refine ⟨⟨lr, (sc [6] rfl), (ci1 r1 (by exact rfl))⟩, ?_⟩
 refine ⟨_, .cons r8 .nil, ⟨lr, (sc [6] rfl), (ci1 r1 (by exact rfl))⟩, ?_⟩
 refine qaz ?_
 refine cs rfl rfl hm ?_ ?_ <;> intro ic hm
 refine qa3 rfl ?_
 exact eE hm
 refine ro (qag r0 rfl (nl rfl) ?_)
 refine cb hm fun gW cJ hm => ckx (Jas cJ :) ?_
 rintro _ _ _ ⟨cC, eu, cn, dP, cX, dl, cd, dv, rfl, ez, bV, eC, ca, d5, rfl⟩
 exact eE hm
 refine qad (cs rfl rfl hm ?_ ?_) <;> intro hZ hm
 refine cb hm fun gQ bU hm => ckx (Jaz bU :) ?_
 rintro _ _ _ ⟨dT, c8, ep, da, dg, d4, dQ, di, rfl, dt, dJ, db, bP, cO, rfl⟩
 refine qan rfl fun iw => ?_
 refine qab r0 rfl ⟨rfl, rfl, (nl rfl), ?_⟩
 refine qdp ⟨⟨[], false⟩, _, [(_, _), (_, _)], []⟩ 12 rfl (by kernel_rfl) ⟨Hp.Le.refl _, (sc [6,0] rfl), ci0⟩ ?_
 refine fa rfl (qao m0 rfl rfl ?_)
 intro gP
 refine cb hm fun ip dE hm => ckx (Jaz dE :) ?_
 rintro _ _ _ ⟨ej, d3, cI, bQ, bK, c6, cM, dO, rfl, cH, ce, bZ, bY, bL, rfl⟩
 refine ⟨⟨lr, (sc [6,5] rfl), ci0⟩, ?_⟩
 refine ⟨_, .cons r8 .nil, ⟨lr, (sc [6,5] rfl), ci0⟩, ?_⟩
 refine qbq m1 rfl (nl rfl) ?_
 intro iO
 refine cb hm fun gD d7 hm => cgx (Jc7 d7 :) ?_
 refine ⟨⟨lr, (sc [6,5] rfl), ci0⟩, ?_⟩
 refine ⟨_, .cons r8 .nil, ⟨lr, (sc [6,5] rfl), ci0⟩, ?_⟩
 refine qjb rfl ?_
 intro iQ
 intro ik
 refine qab r0 rfl ⟨rfl, rfl, (nl rfl), ?_⟩
 refine ⟨⟨lr, (sc [7,6] rfl), ci0⟩, ?_⟩
 refine ⟨_, .cons r9 .nil, ⟨lr, (sc [7,6] rfl), ci0⟩, ?_⟩
 refine qaz ?_
 refine cs rfl rfl hm ?_ ?_ <;> intro ia hm
 refine qa3 rfl ?_
 exact eE hm
 refine ro (qag r0 rfl (nl rfl) ?_)
 refine cb hm fun g9 dz hm => ckx (Jas dz :) ?_
 rintro _ _ _ ⟨ek, bH, cK, cD, cm, eo, bW, dF, rfl, dC, dW, du, cR, eJ, rfl⟩
 exact eE hm
 refine qad (cs rfl rfl hm ?_ ?_) <;> intro gC hm
 refine cb hm fun gX cr hm => ckx (Jaz cr :) ?_
 rintro _ _ _ ⟨bM, cA, dA, d9, bG, cq, cV, bI, rfl, cu, dV, dm, cz, dx, rfl⟩
 refine qan rfl fun iL => ?_
 refine qab r0 rfl ⟨rfl, rfl, (nl rfl), ?_⟩
 refine fa rfl (ro (ld r0 rfl rfl (qbd ?_)))
 refine cs rfl rfl hm ?_ ?_ <;> intro hY hm
 refine qa3 rfl ?_
 exact eE hm
 refine fa rfl (ro (ld r0 rfl rfl (qaz ?_)))
 refine cb hm fun ij dG hm => cg0 (JaA dG :) ?_
 refine cb hm fun gN bN hm => ckx (Jas bN :) ?_
 rintro _ _ _ ⟨cG, eH, em, dL, dB, d2, dc, dN, rfl, dK, cU, dS, cQ, df, rfl⟩
 exact eE hm
 refine qad (cs rfl rfl hm ?_ ?_) <;> intro gU hm
 refine fa rfl (ro (ld r1 rfl rfl ?_))
 exact eE hm
 refine qad (cs rfl rfl hm ?_ ?_) <;> intro iq hm
 refine cb hm fun gO dY hm => ckx (Jaz dY :) ?_
 rintro _ _ _ ⟨ey, dp, bT, eG, de, bS, eF, cW, rfl, dX, c5, eK, dD, dM, rfl⟩
 refine qan rfl fun iK => ?_
 refine qab r0 rfl ⟨rfl, rfl, (nl rfl), ?_⟩
 refine fa rfl (ro (ld r0 rfl rfl (qbd ?_)))
 refine cs rfl rfl hm ?_ ?_ <;> intro gG hm
 refine qa3 rfl ?_
 exact eE hm
 refine fa rfl (ro (ld r0 rfl rfl (qaz ?_)))
 refine cs rfl rfl hm ?_ ?_ <;> intro ii hm
 refine fa rfl (ro (ld r6 rfl rfl ?_))
 exact eE hm
 exact eE hm
 refine qad (cs rfl rfl hm ?_ ?_) <;> intro ie hm
 refine qak rfl rfl ?_
 refine qan rfl fun gM => ?_
 refine qab r0 rfl ⟨rfl, rfl, (nl rfl), ?_⟩
 obtain ⟨bJ, aW, hm⟩ := bnd hm
 refine jR (σ := Bool) (rg 168 14) (fun a8 => [(181, .bool a8)]) (fun a8 => a8 = bJ) ?_ ?_
 replace aW := bsm aW
 refine qam rfl ?_
 refine fa rfl (ro (ld r2 rfl rfl (qb2 ?_)))
 refine qah ?_ ?_ <;> intro aO
 refine fa rfl (ct aO (ro (ld r2 rfl rfl (ct aO (qb2 (ct aO ?_))))))
 obtain ⟨bO, aX, aW⟩ := bnd aW
 refine qah ?_ ?_ <;> intro aN
 replace aX := ift (qb8 aO aN) aX
 refine fa rfl (ct aN (ro (ld r2 rfl rfl (ct aN ?_))))
 refine cb aX fun gI cp aX => cg0 (Jbi cp :) ?_
 refine ct aN (qaz (ct aN ?_))
 exact eMq aW _ ⟨bq (si aX), trivial⟩
 replace aX := qbs (qcw aO aN) aX
 refine cf aN (cf aN (cf aN (cf aN ?_)))
 exact eMq aW _ ⟨bq (si aX), trivial⟩
 refine cf aO (cf aO (cf aO ?_))
 obtain ⟨bO, aX, aW⟩ := bnd aW
 replace aX := qbs (qa1 aO) aX
 refine cF (cF (cF (cF (cF ?_))))
 exact eMq aW _ ⟨bq (si aX), trivial⟩
 rintro a8 rfl ir
 obtain ⟨d6, aY, hm⟩ := bnd hm
 refine jD (σ := (Int × Int × Str × Bool × Jh) × Option Addr × Nat × Option Addr × Nat × Option Addr × Nat × Option Addr × Nat) [182,183] [2, 7] (fun (aL, aP, aU, aS, aV, aQ, aT, aM, aR) => []) (fun (aL, aP, aU, aS, aV, aQ, aT, aM, aR) => [Cells b0 98 ((str m.Ar.Am) :: (str m.Ar.An) :: (str m.Ar.Ae) :: (str m.Ar.Af) :: (.slice aa m.Ar.Ao.length ab) :: (.int .i64 aL.2.2.2.2.most) :: (str aL.2.2.2.2.result.Ae) :: (str aL.2.2.2.2.result.Af) :: (.slice aP aL.2.2.2.2.result.Ag.length aU) :: (.slice aS aL.2.2.2.2.result.Vary.length aV) :: (.slice aQ aL.2.2.2.2.result.Ah.length aT) :: (.int .i64 aL.2.2.2.2.result.TTL) :: (.int .i64 aL.2.2.2.2.result.Ai) :: (.int .i64 aL.2.2.2.2.result.Aj) :: (.bool aL.2.2.2.2.result.Ak) :: (.bool aL.2.2.2.2.result.Al) :: (.slice aM aL.2.2.2.2.stack.length aR) :: (aL.2.2.2.2.Ap.map Jf.enc).flatten), OwnL Jg.enc aP 77 2 aU aL.2.2.2.2.result.Ag, OwnL eS aS 9 1 aV aL.2.2.2.2.result.Vary, OwnL eS aQ 9 1 aT aL.2.2.2.2.result.Ah, OwnL Jf.enc aM 95 4 aR aL.2.2.2.2.stack, Cells gM 95 [.int .i64 aL.1, .int .i64 aL.2.1, str aL.2.2.1, .bool aL.2.2.2.1]]) (fun (aL, aP, aU, aS, aV, aQ, aT, aM, aR) => (0 < aL.2.2.2.2.result.Ag.length → Has aP) ∧ (0 < aL.2.2.2.2.result.Vary.length → Has aS) ∧ (0 < aL.2.2.2.2.result.Ah.length → Has aQ) ∧ (0 < aL.2.2.2.2.stack.length → Has aM) ∧ aL.2.2.2.2.Ap.length = 512 ∧ aL = d6) (And.intro ?_ ?_)
 refine cs rfl rfl aY ?_ ?_ <;> intro hU aY
 refine cb aY fun gL cL aY => ckx (Jaz cL :) ?_
 rintro _ _ _ ⟨dk, dj, bF, dw, cY, d8, cj, dR, rfl, bX, dq, cZ, bR, c9, rfl⟩
 refine qab r5 rfl ⟨rfl, rfl, (nl rfl), ?_⟩
 exact eM aY (_, _, _, _, _, _, _, _, _)
 exact eM aY (_, _, _, _, _, _, _, _, _)
 rintro ⟨aL, aP, aU, aS, aV, aQ, aT, aM, aR⟩ ⟨bp, bv, bt, bu, bw, rfl⟩ gF
 refine qa4 ⟨⟨[], false⟩, _, [(_, _), (_, _)], []⟩ (by kernel_rfl) ⟨Hp.Le.refl _, (sc [6,5] rfl), ci0⟩ ?_
 refine qae (fa rfl (fa rfl (qao m0 rfl rfl (qbq m1 rfl (nl rfl) ?_))))
 refine cb hm fun im dZ hm => ckx (Jcp (aB := [str m.Ar.Am, str m.Ar.An, str m.Ar.Ae, str m.Ar.Af, .slice aa m.Ar.Ao.length ab, .int .i64 aL.2.2.2.2.most]) (aI := (.slice aM aL.2.2.2.2.stack.length aR) :: (aL.2.2.2.2.Ap.map Jf.enc).flatten) dZ :) ?_
 rintro _ _ _ ⟨cB, dH, ei, dI, dU, dh, rfl, eD, cP, dy, rfl⟩
 refine qk (sc [6,5] rfl) ?_
 refine qbe rfl ?_
 refine cs rfl rfl hm ?_ ?_ <;> intro gE hm
 exact eE hm
 refine fa rfl (ro (ld r6 rfl rfl (qas ?_)))
 refine cs rfl rfl hm ?_ ?_ <;> intro hH hm
 exact eE hm
 exact eE hm
 refine qad (cs rfl rfl hm ?_ ?_) <;> intro io hm
 exact eE hm
 exact eE hm

def Jav (code : (List Jc)) (Ar : JH) : Nat → Int → Jh → Option (Fl (Jk × Err) (Int × Jh))
  | 0, _, _ => none
  | aN + 1, ac, aL =>
    if decide (ac ≥ 0) then
    (ix code ac).bind fun aO =>
    (Jbq (⟨Ar, aL.most, aL.result, aL.stack, aL.Ap⟩ : Jh) ac aO).bind fun aM =>
    if aM.2.1.isSome then
    some (Fl.ret ((⟨([] : Str), ([] : Str), [], [], [], 0, 0, 0, false, false⟩ : Jk), aM.2.1))
    else
    Jav code Ar aN aM.1 (⟨Ar, aM.2.2.most, aM.2.2.result, aM.2.2.stack, aM.2.2.Ap⟩ : Jh)
    else
    some (Fl.go (ac, (⟨Ar, aL.most, aL.result, aL.stack, aL.Ap⟩ : Jh)))
def JaL (n : Nat) (code : (List Jc)) (Ar : JH) (most : Int) : Option (Jk × Err) :=
  (Jb7 code).bind fun aL =>
  if aL.isSome then
  some ((⟨([] : Str), ([] : Str), [], [], [], 0, 0, 0, false, false⟩ : Jk), (some 2))
  else
  (Jav code Ar n 0 (⟨Ar, most, (⟨Ar.Ae, Ar.Af, [], [], [], (-1), 0, 0, false, false⟩ : Jk), [], (List.replicate 512 (⟨0, 0, ([] : Str), false⟩ : Jf))⟩ : Jh)).bind fun s0 => s0.el some fun t0 =>
  some (t0.2.result, none)
theorem JdY {n : Nat} {code : (List Jc)} {Ar : JH} {most : Int} {aa : Option Addr} {ab : Nat} {n0 : Nat} {ah : Option Addr} {aj : Nat} {K : Hp} {r : Jk × Err}
    (hm : JaL n code Ar most = some r) (hX : RdC Jc.enc K aa ab 3 code ∧ n0 = code.length ∧ RdC Jg.enc K ah aj 2 Ar.Ao ∧ GG K) :
    Fn Tryz.prog 13 [.slice aa n0 ab, .agg #[str Ar.Am, str Ar.An, str Ar.Ae, str Ar.Af, .slice ah Ar.Ao.length aj], .int .i64 most] K [] (fun v K' H' => ∃ ar_0 : Option Addr, ∃ cr_0 : Nat, ∃ ar_1 : Option Addr, ∃ cr_1 : Nat, ∃ ar_2 : Option Addr, ∃ cr_2 : Nat, v = .tuple #[.agg #[str r.1.Ae, str r.1.Af, .slice ar_0 r.1.Ag.length cr_0, .slice ar_1 r.1.Vary.length cr_1, .slice ar_2 r.1.Ah.length cr_2, .int .i64 r.1.TTL, .int .i64 r.1.Ai, .int .i64 r.1.Aj, .bool r.1.Ak, .bool r.1.Al], qcx 87 r.2] ∧ (0 < r.1.Ag.length → Has ar_0) ∧ (0 < r.1.Vary.length → Has ar_1) ∧ (0 < r.1.Ah.length → Has ar_2) ∧ H' = [OwnL Jg.enc ar_0 77 2 cr_0 r.1.Ag, OwnL eS ar_1 9 1 cr_1 r.1.Vary, OwnL eS ar_2 9 1 cr_2 r.1.Ah]) := by
 obtain ⟨ae, bP, ag, hG⟩ := hX
 subst bP
 refine Fn.enter Tryz.func13 Tryz.call13 rfl fun F => ?_
 unfold JaL at hm
 refine qap ?_
 intro b4
 refine qan rfl fun b6 => ?_
 refine cb hm fun bU bN hm => cgx (Jei bN :) ?_
 refine qbe rfl ?_
 refine cs rfl rfl hm ?_ ?_ <;> intro bV hm
 refine qak rfl rfl ?_
 refine qa3 rfl ?_
 refine qab r0 rfl ⟨rfl, rfl, (nl rfl), ?_⟩
 refine ro (qag r0 rfl (nl rfl) ?_)
 refine qi7 Jg.enc 77 2 ?_
 refine qi7 eS 9 1 ?_
 refine qi7 eS 9 1 ?_
 exact eE hm
 refine ro (qag r1 rfl (nl rfl) (fa rfl (ro (ld r1 rfl rfl (fa rfl (ro (ld r1 rfl rfl (qak rfl rfl (cT (cT ?_))))))))))
 refine cT ?_
 refine qnf (enc := Jf.enc) [str ([] : Str), str ([] : Str), str ([] : Str), str ([] : Str), .slice none 0 0, .int .i64 0, str ([] : Str), str ([] : Str), .slice none 0 0, .slice none 0 0, .slice none 0 0, .int .i64 0, .int .i64 0, .int .i64 0, .bool false, .bool false, .slice none 0 0] (List.replicate 512 (⟨0, 0, ([] : Str), false⟩ : Jf)) (by kernel_rfl) rfl ?_
 refine cT (cT (cT ?_))
 refine qrl ?_
 intro bQ
 obtain ⟨s0, aT, hm⟩ := bnd hm
 refine qnr Jg.enc 77 2 ?_
 refine qnr eS 9 1 ?_
 refine qnr eS 9 1 ?_
 refine qnr Jf.enc 95 4 ?_
 refine lD (σ := (Int × Jh) × Option Addr × Nat × Option Addr × Nat × Option Addr × Nat × Option Addr × Nat) ([7,9,10,11] ++ rg 26 17) [5, 6, 7] (fun _ => []) (fun (t0, aN, aS, aO, aQ, aL, aR, aM, aP) => [(9, .int .i64 t0.1)]) (fun (t0, aN, aS, aO, aQ, aL, aR, aM, aP) => [Cells bQ 98 ((str Ar.Am) :: (str Ar.An) :: (str Ar.Ae) :: (str Ar.Af) :: (.slice ah Ar.Ao.length aj) :: (.int .i64 t0.2.most) :: (str t0.2.result.Ae) :: (str t0.2.result.Af) :: (.slice aN t0.2.result.Ag.length aS) :: (.slice aO t0.2.result.Vary.length aQ) :: (.slice aL t0.2.result.Ah.length aR) :: (.int .i64 t0.2.result.TTL) :: (.int .i64 t0.2.result.Ai) :: (.int .i64 t0.2.result.Aj) :: (.bool t0.2.result.Ak) :: (.bool t0.2.result.Al) :: (.slice aM t0.2.stack.length aP) :: (t0.2.Ap.map Jf.enc).flatten), OwnL Jg.enc aN 77 2 aS t0.2.result.Ag, OwnL eS aO 9 1 aQ t0.2.result.Vary, OwnL eS aL 9 1 aR t0.2.result.Ah, OwnL Jf.enc aM 95 4 aP t0.2.stack]) (fun (t0, aN, aS, aO, aQ, aL, aR, aM, aP) => (0 < t0.2.result.Ag.length → Has aN) ∧ (0 < t0.2.result.Vary.length → Has aO) ∧ (0 < t0.2.result.Ah.length → Has aL) ∧ (0 < t0.2.stack.length → Has aM) ∧ t0.2.Ap.length = 512) (fun i0 (t0, aN, aS, aO, aQ, aL, aR, aM, aP) => Jav code Ar i0 t0.1 t0.2 = some s0) (fun (t0, aN, aS, aO, aQ, aL, aR, aM, aP) => s0 = Fl.go t0) (fun i0 => i0) n ((0, (⟨Ar, most, (⟨Ar.Ae, Ar.Af, [], [], [], (-1), 0, 0, false, false⟩ : Jk), [], (List.replicate 512 (⟨0, 0, ([] : Str), false⟩ : Jf))⟩ : Jh)), none, 0, none, 0, none, 0, none, 0) aT (And.intro ⟨⟨(fun h => by simp at h), (fun h => by simp at h), (fun h => by simp at h), (fun h => by simp at h), List.length_replicate⟩, ⟨rfl, trivial⟩, _, (ss [4,3,2,1,0,0,0,0] rfl)⟩ (And.intro ?_ ?_))
 clear aT
 rintro i0 ⟨⟨ac, bM⟩, a8, ba, bt, bo, bj, aZ, bp, aU⟩ ⟨aV, bf, bb, bh, bn⟩ aT j0
 dsimp only at aT ⊢
 cases i0 with
 | zero => rw [Jav.eq_1] at aT; cases aT
 | succ i0 =>
  rw [Jav.eq_2] at aT
  refine cs rfl rfl aT ?_ ?_ <;> intro bR aT
  refine qal rfl ?_
  obtain ⟨bW, bG, bu, aT⟩ := ixb aT
  refine RStep.ofN (qac rfl rfl (qdm ae.rd bu) bG (qaw rfl bG bu) (ro (qaj ((ac).toNat) _ ae.rd rfl (mp bu) rfl ?_)))
  refine cb aT fun bS bO aT => ckx (Jdt bO :) ?_
  rintro _ _ _ ⟨bI, bD, bL, bF, bH, bC, bA, bB, rfl, bz, bK, bJ, bv, bw, rfl⟩
  refine qbe rfl ?_
  refine cs rfl rfl aT ?_ ?_ <;> intro bT aT
  refine qak rfl rfl ?_
  refine qab r5 rfl ⟨rfl, rfl, (nl rfl), ?_⟩
  refine ro (qag r0 rfl (nl rfl) ?_)
  refine qi7 Jg.enc 77 2 ?_
  refine qi7 eS 9 1 ?_
  refine qi7 eS 9 1 ?_
  exact eE (er aT hm)
  exact eR aT (_, (_, _), _, _, _, _, _, _, _, _)
  refine cT ?_
  exact eM aT (_, _, _, _, _, _, _, _, _)
 rintro ⟨t0, aN, aS, aO, aQ, aL, aR, aM, aP⟩ ⟨aY, aX, aW, bg, bm⟩ rfl j0
 replace hm := elg hm
 refine qae (fa rfl (ro (qag r0 rfl (nl rfl) ?_)))
 refine qab r5 rfl ⟨rfl, rfl, (nl rfl), ?_⟩
 exact ro (qag r0 rfl (nl rfl) (eE hm))

def JaI (n : Nat) : Option (Bool) :=
  (JaL n ([(⟨2, 0, ([120] : Str)⟩ : Jc), (⟨11, 0, ([116, 97, 103] : Str)⟩ : Jc), (⟨12, 0, ([] : Str)⟩ : Jc)]) (⟨([] : Str), ([] : Str), ([47] : Str), ([] : Str), []⟩ : JH) 3).bind fun x9 =>
  (if (x9.2.isNone && decide ((x9.1.Ah.length : Int) = 1)) then (ix x9.1.Ah 0).bind fun aL =>
  some (decide (aL = ([120] : Str))) else some false).bind fun aM =>
  some (((aM && decide (x9.1.Aj = 3)) && decide (x9.1.TTL = (-1))) && decide (x9.1.Ae = ([47] : Str)))
theorem JdJ {n : Nat}  {K : Hp} {r : Bool}
    (hm : JaI n = some r) (hG : GG K) :
    Fn Tryz.prog 10 [] K [] (fun v K' H' => v = .bool r ∧ H' = []) := by
 refine Fn.enter Tryz.func10 Tryz.call10 rfl fun F => ?_
 unfold JaI at hm
 refine qak rfl rfl (cT (cT (qak rfl rfl (cT (cT (qak rfl rfl (cT ?_)))))))
 refine bsO (len := 3) (enc := Jc.enc) (l := [(⟨2, 0, ([120] : Str)⟩ : Jc), (⟨11, 0, ([116, 97, 103] : Str)⟩ : Jc), (⟨12, 0, ([] : Str)⟩ : Jc)]) (cl := [.int .i64 2, .int .i64 0, str ([120] : Str), .int .i64 11, .int .i64 0, str ([116, 97, 103] : Str), .int .i64 12, .int .i64 0, str ([] : Str)]) qtz rfl rfl (fun _ _ => rfl) rfl rfl rfl ?_ fun b7 => ?_
 · conv => whnf
   refine cT (cT (cT ?_))
   first | done | rfl
 refine qak rfl rfl (cT ?_)
 refine cb hm fun x9 q9 hm => ck0 (Fn.lend Tryz.call13 (fun aX aU aT => (JdY (Ar := (⟨([] : Str), ([] : Str), ([47] : Str), ([] : Str), []⟩ : JH)) (most := 3) q9 ⟨aT, rfl, RdC.nil, (hG.mono aU)⟩)) (by exact fun _ _ _ _ h => h)) ?_
 rintro _ _ _ ⟨_, rfl, a8, aW, aZ, aY, bg, bh, rfl, bf, ba, aR, rfl⟩
 refine qan rfl fun b1 => ?_
 refine qab r0 rfl ⟨rfl, rfl, (nl rfl), ?_⟩
 refine qam rfl ?_
 refine qgl rfl ?_
 refine qah ?_ ?_ <;> intro aM
 refine fa rfl (ct aM (ro (ld r0 rfl rfl (ct aM (ro (qai rfl (ct aM (qad (ct aM ?_)))))))))
 obtain ⟨bb, aQ, hm⟩ := bnd hm
 refine qah ?_ ?_ <;> intro aL
 replace aQ := ift (qb8 aM aL) aQ
 refine fa rfl (ct aL (ro (ld r0 rfl rfl (ct aL ?_))))
 obtain ⟨bj, aV, aS, aQ⟩ := ixb aQ
 refine RStep.ofN (qac rfl rfl (qdh aR aS) aV (qaw rfl aV aS) (ct aL (ro (qc2 (i := (0 : Int).toNat) (o := 0) r4 rfl aS rfl rfl (ct aL (qas (ct aL ?_)))))))
 refine qah ?_ ?_ <;> intro aN
 refine fa rfl (ct aN (ro (ld r0 rfl rfl (ct aN (qad (ct aN ?_))))))
 refine qah ?_ ?_ <;> intro aO
 refine fa rfl (ct aO (ro (ld r0 rfl rfl (ct aO (qad (ct aO ?_))))))
 refine qah ?_ ?_ <;> intro aP
 refine fa rfl (ct aP (ro (ld r0 rfl rfl (ct aP (qas (ct aP ?_))))))
 exact bE (qd3 (b := decide (x9.1.Ae = ([47] : Str))) (qb8 (qb8 ((si aQ).symm.trans aN) aO) aP)) (eE hm)
 refine cf aP (cf aP (cf aP ?_))
 exact bE (((qa1 (qcw (qb8 ((si aQ).symm.trans aN) aO) aP))).symm) (eE hm)
 refine cf aO (cf aO (cf aO (cF (cF (cF (cF ?_))))))
 exact bE (((qa1 (qa1 (qcw ((si aQ).symm.trans aN) aO)))).symm) (eE hm)
 refine cf aN (cf aN (cf aN (cF (cF (cF (cF (cF ?_)))))))
 refine cF (cF (cF ?_))
 exact bE (((qa1 (qa1 (qa1 ((si aQ).symm.trans aN))))).symm) (eE hm)
 replace aQ := qbs (qcw aM aL) aQ
 refine cf aL (cf aL (cf aL (cf aL (cf aL (cF (cF (cF ?_)))))))
 refine cF (cF (cF (cF (cF (cF (cF (cF ?_)))))))
 refine cF ?_
 exact bE (((qa1 (qa1 (qa1 (si aQ).symm)))).symm) (eE hm)
 refine cf aM (cf aM (cf aM (cf aM ?_)))
 obtain ⟨bb, aQ, hm⟩ := bnd hm
 replace aQ := qbs (qa1 aM) aQ
 refine cF (cF (cF (cF (cF (cF (cF (cF ?_)))))))
 refine cF (cF (cF (cF (cF (cF (cF (cF ?_)))))))
 refine cF (cF ?_)
 exact bE (((qa1 (qa1 (qa1 (si aQ).symm)))).symm) (eE hm)

def Ja5 (depth : Int) (rec_ : (Je → Int → Option (Int))) : List Je → Nat → Int → Option (Fl (Int) (Int))
  | [], _, ac => some (Fl.go ac)
  | e0 :: aM, i0, ac =>
    (chk (InI (depth - 1))).bind fun _ =>
    (rec_ e0 (depth - 1)).bind fun aL =>
    (chk (InI (ac + aL))).bind fun _ =>
    if decide ((ac + aL) > 700) then
    some (Fl.ret (ac + aL))
    else
    Ja5 depth rec_ aM (i0 + 1) (ac + aL)
def JaU : Nat → Je → Int → Option (Int)
  | 0, _, _ => none
  | n + 1, n', depth =>
    if (decide (depth = 0) || decide ((n'.Ac.length : Int) > 3000)) then
    some 1000
    else
    (chk (n'.Aa.length ≤ qau)).bind fun _ =>
    (Ja5 depth (JaU n) n'.Aa 0 1).bind fun s0 => s0.el some fun t0 =>
    some t0
theorem JeW : ∀ {n : Nat} {n' : Je} {depth : Int} {aa : Option Addr} {ab : Nat} {K : Hp} {r : Int}
    (hm : JaU n n' depth = some r) (ae : LiC Je.R K aa ab 4 n'.Aa),
    Fn Tryz.prog 83 [.agg #[.int .i64 n'.Ab, str n'.Ac, .slice aa n'.Aa.length ab, .int .i64 n'.Ad], .int .i64 depth] K [] (fun v K' H' => v = .int .i64 r ∧ H' = []) := by
 intro n
 induction n with
 | zero =>
   intro n' depth aa ab K r hm ae
   rw [JaU.eq_1] at hm; cases hm
 | succ n ih =>
   intro n' depth aa ab K r hm ae
   refine Fn.enter Tryz.func83 Tryz.call83 rfl fun F => ?_
   rw [JaU.eq_2] at hm
   refine qap ?_
   intro b2
   refine jR (σ := Unit) (rg 8 8) (fun _ => [(15, .bool (decide (depth = 0) || decide ((n'.Ac.length : Int) > 3000)))]) (fun aX => True) ?_ ?_
   refine qam rfl ?_
   refine qad ?_
   refine qah ?_ ?_ <;> intro aL
   refine ct aL (ct aL (ct aL (ct aL ?_)))
   exact eMt () ⟨bq (((qd0 aL)).symm), trivial⟩
   refine fa rfl (cf aL (ro (ld r0 rfl rfl (cf aL (ro (qa2 rfl (cf aL (cf aL ?_))))))))
   exact eMt () ⟨bq (qm6 (b := decide ((n'.Ac.length : Int) > 3000)) aL), trivial⟩
   rintro _ _ a8
   refine cs rfl rfl hm ?_ ?_ <;> intro bb hm
   exact eE hm
   refine fa rfl (ro (ld r0 rfl rfl (ro (qai rfl ?_))))
   obtain ⟨aU, hm⟩ := qa5 hm
   obtain ⟨s0, aM, hm⟩ := bnd hm
   refine lD (σ := (Int)) ([4,5,7] ++ rg 19 14) [0, 1] (fun i0 => [(19, .int .i64 (i0 : Int))]) (fun t0 => [(5, .int .i64 t0)]) (fun _ => []) (fun _ => True) (fun i0 t0 => Ja5 depth (JaU n) (n'.Aa.drop i0) i0 t0 = some s0) (fun t0 => s0 = Fl.go t0) (fun i0 => n'.Aa.length - i0) 0 _ aM (And.intro qe (And.intro ?_ ?_))
   clear aM
   rintro i0 ac _ aM j0
   conv at aM => whnf
   refine qaf rfl ?_
   refine qah ?_ ?_ <;> intro w0
   obtain ⟨e0, aN, aZ⟩ := ltx w0
   rw [aZ, Ja5.eq_2] at aM
   refine qal rfl ?_
   refine RStep.ofN (qac rfl rfl (qcc ae.rd aN) (nn _) (qbr aN) ?_)
   obtain ⟨aW, aV, aP, aO, aQ⟩ := LiR.get ae.rd aN
   obtain ⟨aT, aR, rfl, aS⟩ := Je.out aQ
   refine ro (qaj i0 _ aP rfl aO rfl ?_)
   refine qan rfl fun b7 => ?_
   refine qab r0 rfl ⟨rfl, rfl, (nl rfl), ?_⟩
   refine ro (qag r0 rfl (nl rfl) ?_)
   refine ci aM fun aM => ?_
   refine cb aM fun bf aY aM => cgx (ih aY :) ?_
   refine ci aM fun aM => ?_
   refine cs rfl rfl aM ?_ ?_ <;> intro ba aM
   exact eE (er aM hm)
   refine qat (qcn aN aU) ?_
   exact eR aM (_, _)
   rw [lty w0, Ja5.eq_1] at aM
   refine cT ?_
   exact eM aM _
   rintro t0 _ rfl j0
   replace hm := elg hm
   exact eE hm

def JbL (n : Nat) (n' : Je) : Option (Bool) :=
  (JaU n n' 40).bind fun x4 =>
  some (decide (x4 > 700))
theorem JeX {n : Nat} {n' : Je} {aa : Option Addr} {ab : Nat} {K : Hp} {r : Bool}
    (hm : JbL n n' = some r) (ae : LiC Je.R K aa ab 4 n'.Aa) :
    Fn Tryz.prog 50 [.agg #[.int .i64 n'.Ab, str n'.Ac, .slice aa n'.Aa.length ab, .int .i64 n'.Ad]] K [] (fun v K' H' => v = .bool r ∧ H' = []) := by
 refine Fn.enter Tryz.func50 Tryz.call50 rfl fun F => ?_
 unfold JbL at hm
 refine qap ?_
 intro b1
 refine ro (qag r0 rfl (nl rfl) ?_)
 refine cb hm fun x4 q4 hm => cgx (JeW q4 :) ?_
 exact eE hm

def JbU (n : Nat) (n' : Je) : Option (Bool) :=
  (JbL n n').bind fun x4 =>
  some x4
theorem JeY {n : Nat} {n' : Je} {aa : Option Addr} {ab : Nat} {K : Hp} {r : Bool}
    (hm : JbU n n' = some r) (ae : LiC Je.R K aa ab 4 n'.Aa) :
    Fn Tryz.prog 21 [.agg #[.int .i64 n'.Ab, str n'.Ac, .slice aa n'.Aa.length ab, .int .i64 n'.Ad]] K [] (fun v K' H' => v = .bool r ∧ H' = []) := by
 refine Fn.enter Tryz.func21 Tryz.call21 rfl fun F => ?_
 unfold JbU at hm
 refine qap ?_
 intro b1
 refine ro (qag r0 rfl (nl rfl) ?_)
 refine cb hm fun x4 q4 hm => cgx (JeX q4 :) ?_
 exact eE hm

def JbM (Ar : Jw) : Nat → Int → Int → Option (Int × Int)
  | 0, _, _ => none
  | aN + 1, ac, aL =>
    if decide (aL < (Ar.Ao.length : Int)) then
    (ix Ar.Ao aL).bind fun aO =>
    (ix Ar.Ao aL).bind fun aM =>
    JbM Ar aN (IntKind.i64.wrap (ac + (IntKind.i64.wrap ((aO.Name.length : Int) + (aM.Value.length : Int))))) (IntKind.i64.wrap (aL + 1))
    else
    some (ac, aL)
def Jb2 (n : Nat) (Ar : Jw) : Option (Bool) :=
  (JbM Ar n (IntKind.i64.wrap ((IntKind.i64.wrap ((IntKind.i64.wrap ((Ar.Am.length : Int) + (Ar.An.length : Int))) + (Ar.Ae.length : Int))) + (Ar.Af.length : Int))) 0).bind fun t0 =>
  some (decide (t0.1 ≤ 8000) && decide ((Ar.Ao.length : Int) ≤ 40))
theorem Jfa {n : Nat} {Ar : Jw} {aa : Option Addr} {ab : Nat} {K : Hp} {r : Bool}
    (hm : Jb2 n Ar = some r) (ae : RdC Jo.enc K aa ab 2 Ar.Ao) :
    Fn Tryz.prog 12 [.agg #[str Ar.Am, str Ar.An, str Ar.Ae, str Ar.Af, .slice aa Ar.Ao.length ab]] K [] (fun v K' H' => v = .bool r ∧ H' = []) := by
 refine Fn.enter Tryz.func12 Tryz.call12 rfl fun F => ?_
 unfold Jb2 at hm
 refine qap ?_
 intro b1
 refine fa rfl (ro (ld r0 rfl rfl (ro (qa2 rfl (fa rfl (ro (ld r0 rfl rfl (ro (qa2 rfl ?_)))))))))
 refine qdy ?_
 refine fa rfl (ro (ld r0 rfl rfl (ro (qa2 rfl ?_))))
 refine qdy ?_
 refine fa rfl (ro (ld r0 rfl rfl (ro (qa2 rfl ?_))))
 refine qdy ?_
 obtain ⟨s0, aM, hm⟩ := bnd hm
 refine lD (σ := (Int × Int)) ([3,4] ++ rg 20 24) [0, 1] (fun _ => []) (fun t0 => [(3, .int .i64 t0.1), (4, .int .i64 t0.2)]) (fun _ => []) (fun _ => True) (fun i0 t0 => JbM Ar i0 t0.1 t0.2 = some s0) (fun t0 => t0 = s0) (fun i0 => i0) n (_, _) aM (And.intro qe (And.intro ?_ ?_))
 clear aM
 rintro i0 ⟨ac, aN⟩ _ aM j0
 dsimp only at aM ⊢
 cases i0 with
 | zero => rw [JbM.eq_1] at aM; cases aM
 | succ i0 =>
  rw [JbM.eq_2] at aM
  refine fa rfl (ro (ld r0 rfl rfl (ro (qai rfl ?_))))
  refine cs rfl rfl aM ?_ ?_ <;> intro aT aM
  refine qal rfl ?_
  refine qa4 ⟨⟨[], false⟩, _, [(_, _)], []⟩ (by kernel_rfl) ⟨Hp.Le.refl _, (pf rfl), ci0⟩ ?_
  refine fa rfl (qao m0 rfl rfl ?_)
  obtain ⟨aS, aR, aO, aM⟩ := ixb aM
  refine qac rfl rfl (qdm ae.rd aO) aR (qaw rfl aR aO) (qax rfl (qdm ae.rd aO) (qbm ((aN).toNat) 0 _ _ ae.rd rfl (mp aO) rfl rfl (qia rfl (fa rfl (qao m0 rfl rfl ?_)))))
  obtain ⟨aU, aQ, aP, aM⟩ := ixb aM
  refine qac rfl rfl (qdm ae.rd aP) aQ (qaw rfl aQ aP) (qax rfl (qdm ae.rd aP) (qbm ((aN).toNat) 1 _ _ ae.rd rfl (mp aP) rfl rfl (qia rfl ?_)))
  refine qdy ?_
  refine qdy ?_
  refine qdy ?_
  exact eR aM (_, (_, _))
  refine cT ?_
  exact eM aM _
 rintro t0 _ rfl j0
 refine qam rfl ?_
 refine qah ?_ ?_ <;> intro aL
 refine fa rfl (ct aL (ro (ld r0 rfl rfl (ct aL (ro (qai rfl (ct aL (ct aL ?_))))))))
 exact bE (qd3 (b := decide ((Ar.Ao.length : Int) ≤ 40)) aL) (eE hm)
 refine cf aL (cf aL (cf aL (cf aL ?_)))
 exact bE (((qa1 aL)).symm) (eE hm)

def JbV (rec_ : (Je → Option (Ja))) : List Je → Nat → (List Ja) → Option ((List Ja))
  | [], _, ac => some ac
  | e0 :: aM, i0, ac =>
    (rec_ e0).bind fun aL =>
    (chk (ac.length + [aL].length ≤ lim)).bind fun _ =>
    JbV rec_ aM (i0 + 1) (ac ++ [aL])
def Jb3 : Nat → Je → Option (Ja)
  | 0, _ => none
  | n + 1, n' =>
    (chk (n'.Aa.length ≤ qau)).bind fun _ =>
    (JbV (Jb3 n) n'.Aa 0 []).bind fun t0 =>
    some (⟨n'.Ab, n'.Ac, t0, n'.Ad⟩ : Ja)
theorem Jfp : ∀ {n : Nat} {n' : Je} {aa : Option Addr} {ab : Nat} {K : Hp} {r : Ja}
    (hm : Jb3 n n' = some r) (ae : LiC Je.R K aa ab 4 n'.Aa),
    Fn Tryz.prog 23 [.agg #[.int .i64 n'.Ab, str n'.Ac, .slice aa n'.Aa.length ab, .int .i64 n'.Ad]] K [] (fun v K' H' => ∃ ar_0 : Option Addr, ∃ cr_0 : Nat, ∃ sr_0 : List (List Value), v = .agg #[.int .i64 r.Ab, str r.Ac, .slice ar_0 r.Aa.length cr_0, .int .i64 r.Ad] ∧ (0 < r.Aa.length → Has ar_0) ∧ LR Ja.R K' sr_0 r.Aa ∧ H' = [OwnA ar_0 68 4 cr_0 sr_0]) := by
 intro n
 induction n with
 | zero =>
   intro n' aa ab K r hm ae
   rw [Jb3.eq_1] at hm; cases hm
 | succ n ih =>
   intro n' aa ab K r hm ae
   refine Fn.enter Tryz.func23 Tryz.call23 rfl fun F => ?_
   rw [Jb3.eq_2] at hm
   refine qap ?_
   intro b1
   refine qan rfl fun b2 => ?_
   refine fa rfl (ro (ld r1 rfl rfl (fa rfl (ro (ld r1 rfl rfl (fa rfl (ro (ld r1 rfl rfl (qak rfl rfl (cT ?_))))))))))
   refine cT (cT ?_)
   refine qan rfl fun b3 => ?_
   refine qab r0 rfl ⟨rfl, rfl, (nl rfl), ?_⟩
   refine fa rfl (ro (ld r2 rfl rfl (ro (qai rfl ?_))))
   obtain ⟨bB, hm⟩ := qa5 hm
   obtain ⟨s0, aT, hm⟩ := bnd hm
   refine qnr (fun _ : Ja => []) 68 4 ?_
   refine lC (σ := ((List Ja)) × Option Addr × Nat × List (List Value)) ([5] ++ rg 16 12) [2, 3, 4] (fun i0 => [(16, .int .i64 (i0 : Int))]) (fun _ => []) (fun (t0, aO, aR, aQ) => [OwnA aO 68 4 aR aQ, Cells b3 68 [.int .i64 n'.Ab, str n'.Ac, .slice aO t0.length aR, .int .i64 n'.Ad]]) (fun zz K1 => match zz with | (t0, aO, aR, aQ) => LR Ja.R K1 aQ t0 ∧ (0 < t0.length → Has aO)) (fun i0 (t0, aO, aR, aQ) => JbV (Jb3 n) (n'.Aa.drop i0) i0 t0 = some s0) (fun (t0, aO, aR, aQ) => t0 = s0) (fun i0 => n'.Aa.length - i0) 0 (_, _, _, _) aT (And.intro qe (And.intro ?_ ?_))
   clear aT
   rintro i0 ⟨ac, bg, bb, bt⟩ bJ bv ⟨aV, ba⟩ aT j0
   conv at aT => whnf
   refine qaf rfl ?_
   refine qah ?_ ?_ <;> intro w0
   obtain ⟨e0, aX, bz⟩ := ltx w0
   rw [bz, JbV.eq_2] at aT
   refine qal rfl ?_
   refine RStep.ofN (qac rfl rfl (qcc (LiC.mono Je.R_ok bv ae).rd aX) (nn _) (qbr aX) ?_)
   obtain ⟨bC, bD, a8, aZ, aY⟩ := LiR.get (LiC.mono Je.R_ok bv ae).rd aX
   obtain ⟨bj, bh, rfl, bn⟩ := Je.out aY
   refine ro (qaj i0 _ a8 rfl aZ rfl ?_)
   refine qan rfl fun b5 => ?_
   refine qab r0 rfl ⟨rfl, rfl, (nl rfl), ?_⟩
   refine qbg ⟨⟨[], false⟩, _, [(_, _), (_, _)], []⟩ 5 rfl (by kernel_rfl) ⟨Hp.Le.refl _, (sc [2,0] rfl), ci0⟩ ?_
   refine fa rfl (qao m0 rfl rfl (qbq m1 rfl (nl rfl) ?_))
   refine cb aT fun aP bw aT => cfx (ih bw :) ?_
   rintro _ bN _ bf ⟨aN, aM, bu, rfl, bp, aU, rfl⟩
   refine qk (sc [3,1] rfl) ?_
   refine qz7 Ja.R_ok r0 aU fun aW aS aL => ?_
   refine qzw (R := Ja.R) (len := 1) (l := [aP]) (css := [[.int .i64 aP.Ab, str aP.Ac, .slice aN aP.Aa.length aM, .int .i64 aP.Ad]]) (cl := [.int .i64 aP.Ab, str aP.Ac, .slice aN aP.Aa.length aM, .int .i64 aP.Ad]) Ja.R_ok qt0 rfl rfl (LR.snoc LR.nil (Ja.of (x := aP) ⟨aN, aM, rfl, aL⟩)) rfl rfl rfl ?_ fun bG => ?_
   · conv => whnf
     refine cT ?_
     first | done | rfl
   refine ⟨⟨(bf.trans aS), (sc [3,1] rfl), ci0⟩, ?_⟩
   obtain ⟨bA, aT⟩ := qa5 aT
   refine qz5 r2 (LR.mono Ja.R_ok (bf.trans aS) aV) rfl qt0 (qq4 rfl r0 rfl Ja.R_ok (show LR Ja.R _ [[.int .i64 aP.Ab, str aP.Ac, .slice aN aP.Aa.length aM, .int .i64 aP.Ad]] [aP] from (LR.snoc LR.nil (Ja.of (x := aP) ⟨aN, aM, rfl, aL⟩)))) (show LR Ja.R _ [[.int .i64 aP.Ab, str aP.Ac, .slice aN aP.Aa.length aM, .int .i64 aP.Ad]] [aP] from (LR.snoc LR.nil (Ja.of (x := aP) ⟨aN, aM, rfl, aL⟩))) bA ?_
   intro bK bI bM r_25 bH
   refine ⟨⟨Hp.emp_le _, (pf rfl), ci0⟩, ?_⟩
   refine fa rfl ?_
   refine qab r3 rfl ⟨rfl, rfl, (nl rfl), ?_⟩
   refine ⟨⟨Hp.emp_le _, (pf rfl), ci0⟩, ?_⟩
   refine qat (qcn aX bB) ?_
   exact eR aT (_, _, _, _, _)
   rw [lty w0, JbV.eq_1] at aT
   refine cT ?_
   exact eM aT (_, _, _, _)
   rintro ⟨t0, aO, aR, aQ⟩ bL bF ⟨bo, bm⟩ rfl j0
   refine ro (qag r1 rfl (nl rfl) ?_)
   refine qab r2 rfl ⟨rfl, rfl, (nl rfl), ?_⟩
   exact ro (qag r0 rfl (nl rfl) (eE hm))

def JaE (depth : Int) (rec_ : (Ja → Int → Int → Option (Bool × Int))) : List Ja → Nat → Int → Option (Fl (Bool × Int) (Int))
  | [], _, ac => some (Fl.go ac)
  | e0 :: aM, i0, ac =>
    (chk (InI (depth - 1))).bind fun _ =>
    (rec_ e0 ac (depth - 1)).bind fun aL =>
    if (!aL.1) then
    some (Fl.ret (false, aL.2))
    else
    JaE depth rec_ aM (i0 + 1) aL.2
def JaD : Nat → Ja → Int → Int → Option (Bool × Int)
  | 0, _, _, _ => none
  | n + 1, n', nodes, depth =>
    (chk (InI (nodes - 1))).bind fun _ =>
    if (decide ((nodes - 1) < 0) || decide (depth < 1)) then
    some (false, (nodes - 1))
    else
    (chk (n'.Aa.length ≤ qau)).bind fun _ =>
    (JaE depth (JaD n) n'.Aa 0 (nodes - 1)).bind fun s0 => s0.el some fun t0 =>
    some (true, t0)
theorem Jek : ∀ {n : Nat} {n' : Ja} {nodes : Int} {depth : Int} {aa : Option Addr} {ab : Nat} {b1 : Nat} {K : Hp} {r : Bool × Int}
    (hm : JaD n n' nodes depth = some r) (ae : LiC Ja.R K aa ab 4 n'.Aa),
    Fn Tryz.prog 124 [.agg #[.int .i64 n'.Ab, str n'.Ac, .slice aa n'.Aa.length ab, .int .i64 n'.Ad], .pointer (some ⟨b1, 0, none⟩), .int .i64 depth] K [Cells b1 3 [.int .i64 nodes]] (fun v K' H' => v = .bool r.1 ∧ H' = [Cells b1 3 [.int .i64 r.2]]) := by
 intro n
 induction n with
 | zero =>
   intro n' nodes depth aa ab b1 K r hm ae
   rw [JaD.eq_1] at hm; cases hm
 | succ n ih =>
   intro n' nodes depth aa ab b1 K r hm ae
   refine Fn.enter Tryz.func124 Tryz.call124 rfl fun F => ?_
   rw [JaD.eq_2] at hm
   refine qap ?_
   intro b3
   refine qae (ro (ld r1 rfl rfl ?_))
   obtain ⟨aW, hm⟩ := qa5 hm
   refine qat aW (qae ?_)
   refine qab r1 rfl ⟨rfl, rfl, (nl rfl), ?_⟩
   refine jR (σ := Unit) (rg 14 8) (fun _ => [(21, .bool (decide ((nodes - 1) < 0) || decide (depth < 1)))]) (fun aX => True) ?_ ?_
   refine qam rfl ?_
   refine qae (ro (ld r0 rfl rfl ?_))
   refine qah ?_ ?_ <;> intro aL
   refine ct aL (ct aL ?_)
   exact eMt () ⟨bq (((qd0 aL)).symm), trivial⟩
   refine cf aL (cf aL ?_)
   exact eMt () ⟨bq (qm6 (b := decide (depth < 1)) aL), trivial⟩
   rintro _ _ a8
   refine cs rfl rfl hm ?_ ?_ <;> intro bf hm
   exact eE hm
   refine fa rfl (ro (ld r1 rfl rfl (ro (qai rfl ?_))))
   obtain ⟨aV, hm⟩ := qa5 hm
   obtain ⟨s0, aM, hm⟩ := bnd hm
   refine lD (σ := (Int)) ([6,8] ++ rg 25 11) [1, 2] (fun i0 => [(25, .int .i64 (i0 : Int))]) (fun _ => []) (fun t0 => [Cells b1 3 [.int .i64 t0]]) (fun _ => True) (fun i0 t0 => JaE depth (JaD n) (n'.Aa.drop i0) i0 t0 = some s0) (fun t0 => s0 = Fl.go t0) (fun i0 => n'.Aa.length - i0) 0 _ aM (And.intro qe (And.intro ?_ ?_))
   clear aM
   rintro i0 ac _ aM j0
   conv at aM => whnf
   refine qaf rfl ?_
   refine qah ?_ ?_ <;> intro w0
   obtain ⟨e0, aN, aZ⟩ := ltx w0
   rw [aZ, JaE.eq_2] at aM
   refine qal rfl ?_
   refine RStep.ofN (qac rfl rfl (qcc ae.rd aN) (nn _) (qbr aN) ?_)
   obtain ⟨aY, aU, aO, aP, aQ⟩ := LiR.get ae.rd aN
   obtain ⟨aS, aR, rfl, aT⟩ := Ja.out aQ
   refine ro (qaj i0 _ aO rfl aP rfl ?_)
   refine qan rfl fun b8 => ?_
   refine qab r0 rfl ⟨rfl, rfl, (nl rfl), ?_⟩
   refine ro (qag r0 rfl (nl rfl) ?_)
   refine ci aM fun aM => ?_
   refine cb aM fun bb ba aM => cgx (ih ba :) ?_
   refine qaz ?_
   refine cs rfl rfl aM ?_ ?_ <;> intro bg aM
   exact eE (er aM hm)
   refine qat (qcn aN aV) ?_
   exact eR aM (_, _)
   rw [lty w0, JaE.eq_1] at aM
   refine cT ?_
   exact eM aM _
   rintro t0 _ rfl j0
   replace hm := elg hm
   exact eE hm

def JaF (kind : Int) (text : Str) : Option (Bool) :=
  if decide (text = ([61, 61] : Str)) then
  some (decide (kind = 4))
  else
  if decide (text = ([33, 61] : Str)) then
  some (decide (kind = 4))
  else
  if decide (text = ([60] : Str)) then
  some (decide (kind = 4))
  else
  if decide (text = ([60, 61] : Str)) then
  some (decide (kind = 4))
  else
  if decide (text = ([115, 116, 97, 114, 116, 115] : Str)) then
  some (decide (kind = 1))
  else
  if decide (text = ([101, 110, 100, 115] : Str)) then
  some (decide (kind = 1))
  else
  if decide (text = ([99, 111, 110, 116, 97, 105, 110, 115] : Str)) then
  some (decide (kind = 1))
  else
  some false
theorem JcD {kind : Int} {text : Str} {K : Hp} {r : Bool}
    (hm : JaF kind text = some r)  :
    Fn Tryz.prog 222 [.int .i64 kind, str text] K [] (fun v K' H' => v = .bool r ∧ H' = []) := by
 refine Fn.enter Tryz.func222 Tryz.call222 rfl fun F => ?_
 unfold JaF at hm
 refine qal rfl ?_
 refine qas (cs rfl rfl hm ?_ ?_) <;> intro w6 hm
 refine qaf rfl (ct w6 (qad ?_))
 exact eE hm
 refine qas (cs rfl rfl hm ?_ ?_) <;> intro w6 hm
 refine qaf rfl (ct w6 (qad ?_))
 exact eE hm
 refine qas (cs rfl rfl hm ?_ ?_) <;> intro w6 hm
 refine qaf rfl (ct w6 (qad ?_))
 exact eE hm
 refine qas (cs rfl rfl hm ?_ ?_) <;> intro w6 hm
 refine qad ?_
 exact eE hm
 refine qas (cs rfl rfl hm ?_ ?_) <;> intro aL hm
 refine qaf rfl (ct aL (qad ?_))
 exact eE hm
 refine qas (cs rfl rfl hm ?_ ?_) <;> intro aL hm
 refine qaf rfl (ct aL (qad ?_))
 exact eE hm
 refine qas (cs rfl rfl hm ?_ ?_) <;> intro aL hm
 refine qad ?_
 exact eE hm
 exact eE hm

def Jaw : List UInt8 → Nat → Option (Fl (Bool) (Unit))
  | [], _ => some (Fl.go ())
  | e0 :: aM, i0 =>
    (if decide ((e0.toNat : Int) < 48) then some true else some (decide ((e0.toNat : Int) > 57))).bind fun aL =>
    if aL then
    some (Fl.ret false)
    else
    Jaw aM (i0 + 1)
def Jbr (s : Str) : Option (Bool) :=
  (chk (s.length ≤ qau)).bind fun _ =>
  (Jaw s 0).bind fun s0 => s0.el some fun t0 =>
  some (decide ((s.length : Int) ≥ 1) && decide ((s.length : Int) ≤ 9))
theorem JdZ {s : Str} {K : Hp} {r : Bool}
    (hm : Jbr s = some r)  :
    Fn Tryz.prog 223 [str s] K [] (fun v K' H' => v = .bool r ∧ H' = []) := by
 refine Fn.enter Tryz.func223 Tryz.call223 rfl fun F => ?_
 unfold Jbr at hm
 refine ro (qa2 rfl ?_)
 obtain ⟨aR, hm⟩ := qa5 hm
 obtain ⟨s0, aN, hm⟩ := bnd hm
 refine lD (σ := (Unit)) ([2,3] ++ rg 6 14) [0] (fun i0 => [(6, .int .i64 (i0 : Int))]) (fun _ => []) (fun _ => []) (fun _ => True) (fun i0 _ => Jaw (s.drop i0) i0 = some s0) (fun t0 => s0 = Fl.go t0) (fun i0 => s.length - i0) 0 () aN (And.intro qe (And.intro ?_ ?_))
 clear aN
 rintro i0 _ _ aN j0
 conv at aN => whnf
 refine qaf rfl ?_
 refine qah ?_ ?_ <;> intro w0
 obtain ⟨e0, aP, aS⟩ := ltx w0
 rw [aS, Jaw.eq_2] at aN
 refine qal rfl ?_
 refine qam rfl ?_
 refine qbb rfl (nn _) aP ?_
 obtain ⟨aT, aO, aN⟩ := bnd aN
 refine cS aO (fun aL aO => ?_) fun aL aO => ?_
 refine ct aL (ct aL (ct aL (ct aL (qaf rfl (cT ?_)))))
 replace aN := ift (si aO).symm aN
 exact eE (er aN hm)
 refine cf aL (cf aL (qbb rfl (nn _) aP (cf aL (cf aL (qaf rfl ?_)))))
 refine qah ?_ ?_ <;> intro aQ
 replace aN := ift ((si aO).symm.trans aQ) aN
 exact eE (er aN hm)
 replace aN := qbs ((si aO).symm.trans aQ) aN
 refine qat (qcn aP aR) ?_
 exact eR aN (_, ())
 rw [lty w0, Jaw.eq_1] at aN
 refine cT ?_
 exact eM aN _
 rintro t0 _ rfl j0
 replace hm := elg hm
 refine qam rfl ?_
 refine ro (qa2 rfl ?_)
 refine qah ?_ ?_ <;> intro aM
 refine ct aM (ro (qa2 rfl (ct aM (ct aM ?_))))
 exact bE (qd3 (b := decide ((s.length : Int) ≤ 9)) aM) (eE hm)
 refine cf aM (cf aM (cf aM ?_))
 exact bE (((qa1 aM)).symm) (eE hm)

def Jax (s : Str) : Option (Bool) :=
  (JbJ s).bind fun x7 =>
  some x7.2.isNone
theorem JbW {s : Str} {K : Hp} {r : Bool}
    (hm : Jax s = some r)  :
    Fn Tryz.prog 158 [str s] K [] (fun v K' H' => v = .bool r ∧ H' = []) := by
 refine Fn.enter Tryz.func158 Tryz.call158 rfl fun F => ?_
 unfold Jax at hm
 refine cb hm fun x7 q7 hm => cg0 (Jdn q7 :) ?_
 refine qgl rfl ?_
 exact eE hm

def JbQ (c : UInt8) : Option (Bool) :=
  some ((decide ((c.toNat : Int) ≥ 97) && decide ((c.toNat : Int) ≤ 122)) || decide ((c.toNat : Int) = 95))
theorem Jc9 {c : UInt8} {K : Hp} {r : Bool}
    (hm : JbQ c = some r)  :
    Fn Tryz.prog 248 [.int .u8 (c.toNat : Int)] K [] (fun v K' H' => v = .bool r ∧ H' = []) := by
 refine Fn.enter Tryz.func248 Tryz.call248 rfl fun F => ?_
 unfold JbQ at hm
 refine qam rfl ?_
 refine qah ?_ ?_ <;> intro aL
 refine ct aL (ct aL ?_)
 refine qah ?_ ?_ <;> intro aM
 refine ct aM (ct aM ?_)
 exact bE (((qd0 (qb8 aL aM))).symm) (eE hm)
 refine cf aM (qad (cf aM ?_))
 exact bE (qm6 (b := decide ((c.toNat : Int) = 95)) (qcw aL aM)) (eE hm)
 refine cf aL (cf aL (cF (cF (qad (cF ?_)))))
 exact bE (qm6 (b := decide ((c.toNat : Int) = 95)) (qa1 aL)) (eE hm)

def Jbw (c : UInt8) : Option (Bool) :=
  some (decide ((c.toNat : Int) ≥ 48) && decide ((c.toNat : Int) ≤ 57))
theorem JcB {c : UInt8} {K : Hp} {r : Bool}
    (hm : Jbw c = some r)  :
    Fn Tryz.prog 249 [.int .u8 (c.toNat : Int)] K [] (fun v K' H' => v = .bool r ∧ H' = []) := by
 refine Fn.enter Tryz.func249 Tryz.call249 rfl fun F => ?_
 unfold Jbw at hm
 refine qam rfl ?_
 refine qah ?_ ?_ <;> intro aL
 refine ct aL (ct aL ?_)
 exact bE (qd3 (b := decide ((c.toNat : Int) ≤ 57)) aL) (eE hm)
 refine cf aL (cf aL ?_)
 exact bE (((qa1 aL)).symm) (eE hm)

def JaQ (s : Str) : Nat → Str → Int → Option (Fl (Int × Str) (Str × Int))
  | 0, _, _ => none
  | aN + 1, ac, aL =>
    if decide (aL < (s.length : Int)) then
    (ix s aL).bind fun aM =>
    if decide ((aM.toNat : Int) = 34) then
    (chk (InI (aL + 1))).bind fun _ =>
    some (Fl.ret ((aL + 1), ac))
    else
    if decide ((aM.toNat : Int) = 92) then
    (chk (InI (aL + 1))).bind fun _ =>
    if decide ((aL + 1) = (s.length : Int)) then
    some (Fl.ret (0, ([] : Str)))
    else
    (ix s (aL + 1)).bind fun aR =>
    (if decide ((aR.toNat : Int) ≠ 34) then (ix s (aL + 1)).bind fun aQ =>
    some (decide ((aQ.toNat : Int) ≠ 92)) else some false).bind fun aP =>
    if aP then
    some (Fl.ret (0, ([] : Str)))
    else
    (ix s (aL + 1)).bind fun aO =>
    (chk (ac.length + ([aO] : Str).length ≤ lim)).bind fun _ =>
    (chk (InI ((aL + 1) + 1))).bind fun _ =>
    JaQ s aN (ac ++ ([aO] : Str)) ((aL + 1) + 1)
    else
    if (decide ((aM.toNat : Int) < 32) || decide ((aM.toNat : Int) > 126)) then
    some (Fl.ret (0, ([] : Str)))
    else
    (chk (ac.length + ([aM] : Str).length ≤ lim)).bind fun _ =>
    (chk (InI (aL + 1))).bind fun _ =>
    JaQ s aN (ac ++ ([aM] : Str)) (aL + 1)
    else
    some (Fl.go (ac, aL))
def Jcu (n : Nat) (s : Str) : Option (Int × Str) :=
  (JaQ s n [] 1).bind fun s0 => s0.el some fun t0 =>
  some (0, ([] : Str))
theorem Jel {n : Nat} {s : Str} {K : Hp} {r : Int × Str}
    (hm : Jcu n s = some r)  :
    Fn Tryz.prog 250 [str s] K [] (fun v K' H' => v = .tuple #[.int .i64 r.1, str r.2] ∧ H' = []) := by
 refine Fn.enter Tryz.func250 Tryz.call250 rfl fun F => ?_
 unfold Jcu at hm
 obtain ⟨s0, aL, hm⟩ := bnd hm
 refine qnr eU 5 1 ?_
 refine lD (σ := (Str × Int) × Option Addr × Nat) (rg 2 56) [1] (fun _ => []) (fun (t0, aP, aQ) => [(4, .slice aP t0.1.length aQ), (5, .int .i64 t0.2)]) (fun (t0, aP, aQ) => [OwnL eU aP 5 1 aQ t0.1]) (fun (t0, aP, aQ) => (0 < t0.1.length → Has aP) ∧ True) (fun i0 (t0, aP, aQ) => JaQ s i0 t0.1 t0.2 = some s0) (fun (t0, aP, aQ) => s0 = Fl.go t0) (fun i0 => i0) n ((_, _), _, _) aL (And.intro qe (And.intro ?_ ?_))
 clear aL
 rintro i0 ⟨⟨ac, bn⟩, bh, bb⟩ ⟨aW, _⟩ aL j0
 dsimp only at aL ⊢
 cases i0 with
 | zero => rw [JaQ.eq_1] at aL; cases aL
 | succ i0 =>
  rw [JaQ.eq_2] at aL
  refine ro (qa2 rfl ?_)
  refine cs rfl rfl aL ?_ ?_ <;> intro bD aL
  refine qal rfl ?_
  obtain ⟨aX, bm, bo, aL⟩ := ixb aL
  refine qbb rfl bm bo ?_
  refine qal rfl ?_
  refine qad (cs rfl rfl aL ?_ ?_) <;> intro bz aL
  refine qa4 ⟨⟨[], false⟩, _, [], []⟩ (by kernel_rfl) ⟨Hp.Le.refl _, (pf rfl), ci0⟩ ?_
  refine ci aL fun aL => ?_
  refine qib rfl r0 rfl rfl rfl ?_
  exact eE (er aL hm)
  refine qad (cs rfl rfl aL ?_ ?_) <;> intro bA aL
  refine ci aL fun aL => ?_
  refine qam rfl ?_
  refine ro (qa2 rfl (qad ?_))
  refine cS aL (fun aM aL => ?_) fun aM aL => ?_
  refine ct aM (ct aM (ct aM (ct aM (ct aM (ct aM (qaf rfl (cT ?_)))))))
  exact eE (er aL hm)
  refine cf aM (cf aM ?_)
  obtain ⟨bB, bv, bp, aL⟩ := ixb aL
  refine qbb rfl bv bp (cf aM (qbd (cf aM ?_)))
  obtain ⟨bw, aR, aL⟩ := bnd aL
  refine cS aR (fun aN aR => ?_) fun aN aR => ?_
  refine ct aN (ct aN ?_)
  obtain ⟨bC, bu, bt, aR⟩ := ixb aR
  refine qbb rfl bu bt (ct aN (qbd (cf aM (ct aN (cf aM (qaf rfl ?_))))))
  refine qah ?_ ?_ <;> intro aY
  replace aL := ift ((si aR).symm.trans aY) aL
  exact eE (er aL hm)
  replace aL := qbs ((si aR).symm.trans aY) aL
  obtain ⟨aT, aV, aU, aL⟩ := ixb aL
  refine qbb rfl aV aU ?_
  refine bsO (len := 1) (enc := eU) (l := ([aT] : Str)) (cl := [.int .u8 (aT.toNat : Int)]) qb5 rfl rfl (fun _ _ => rfl) rfl rfl rfl ?_ fun bg => ?_
  · conv => whnf
    refine cT ?_
    first | done | rfl
  obtain ⟨aS, aL⟩ := qa5 aL
  refine apE rfl r1 qb5 (qa6 rfl r0 rfl (fun _ => rfl) (fun _ => rfl)) aS ?_
  intro bf ba a8
  refine ci aL fun aL => ?_
  exact eR aL (_, (_, _), _, _)
  refine cf aN (cf aN (cf aN (cf aM (cf aN (cf aM (qaf rfl (cF ?_)))))))
  replace aL := qbs (si aR).symm aL
  obtain ⟨aT, aV, aU, aL⟩ := ixb aL
  refine qbb rfl aV aU ?_
  refine bsO (len := 1) (enc := eU) (l := ([aT] : Str)) (cl := [.int .u8 (aT.toNat : Int)]) qb5 rfl rfl (fun _ _ => rfl) rfl rfl rfl ?_ fun bg => ?_
  · conv => whnf
    refine cT ?_
    first | done | rfl
  obtain ⟨aS, aL⟩ := qa5 aL
  refine apE rfl r1 qb5 (qa6 rfl r0 rfl (fun _ => rfl) (fun _ => rfl)) aS ?_
  intro bf ba a8
  refine ci aL fun aL => ?_
  exact eR aL (_, (_, _), _, _)
  refine qam rfl ?_
  refine qah ?_ ?_ <;> intro aO
  refine ct aO (ct aO (qaf rfl (cT ?_)))
  replace aL := ift (qd0 aO) aL
  exact eE (er aL hm)
  refine cf aO (cf aO (qaf rfl ?_))
  refine qah ?_ ?_ <;> intro bj
  replace aL := ift (qkd aO bj) aL
  exact eE (er aL hm)
  replace aL := qbs (qhg aO bj) aL
  refine bsO (len := 1) (enc := eU) (l := ([aX] : Str)) (cl := [.int .u8 (aX.toNat : Int)]) qb5 rfl rfl (fun _ _ => rfl) rfl rfl rfl ?_ fun bg => ?_
  · conv => whnf
    refine cT ?_
    first | done | rfl
  obtain ⟨aS, aL⟩ := qa5 aL
  refine apE rfl r1 qb5 (qa6 rfl r0 rfl (fun _ => rfl) (fun _ => rfl)) aS ?_
  intro bf ba a8
  refine ci aL fun aL => ?_
  exact eR aL (_, (_, _), _, _)
  refine cT ?_
  exact eM aL (_, _, _)
 rintro ⟨t0, aP, aQ⟩ ⟨aZ, _⟩ rfl j0
 replace hm := elg hm
 exact eE hm

def Jbe (s : Str) : Nat → Int → Option (Int)
  | 0, _ => none
  | aN + 1, aL =>
    if decide (aL < (s.length : Int)) then
    (ix s aL).bind fun aM =>
    (JbQ aM).bind fun aO =>
    (if aO then some true else (ix s aL).bind fun aR =>
    (Jbw aR).bind fun aP =>
    some aP).bind fun aQ =>
    if aQ then
    (chk (InI (aL + 1))).bind fun _ =>
    Jbe s aN (aL + 1)
    else
    some aL
    else
    some aL
def Jbf (s : Str) : Nat → Int → Option (Int)
  | 0, _ => none
  | aM + 1, aL =>
    (if decide (aL < (s.length : Int)) then (ix s aL).bind fun aP =>
    (Jbw aP).bind fun aO =>
    some aO else some false).bind fun aN =>
    if aN then
    (chk (InI (aL + 1))).bind fun _ =>
    Jbf s aM (aL + 1)
    else
    some aL
def Jbg (s : Str) : Nat → Nat → Option (Fl (Int × Int × Str) (Unit))
  | 0, _ => some (Fl.go ())
  | aM + 1, i5 =>
    (ix ([([61, 61] : Str), ([33, 61] : Str), ([60, 61] : Str), ([60] : Str), ([43] : Str), ([45] : Str), ([42] : Str), ([40] : Str), ([41] : Str), ([123] : Str), ([125] : Str), ([44] : Str), ([59] : Str), ([61] : Str)]) (i5 : Int)).bind fun aL =>
    (JU s aL).bind fun aN =>
    if aN then
    some (Fl.ret (4, (aL.length : Int), aL))
    else
    Jbg s aM (i5 + 1)
def Jck (n : Nat) (s : Str) : Option (Int × Int × Str) :=
  (ix s 0).bind fun au =>
  (JbQ au).bind fun aM =>
  if aM then
  (Jbe s n 1).bind fun t1 =>
  (chk (0 ≤ (0 : Int) ∧ (0 : Int) ≤ t1 ∧ t1 ≤ (s.length : Int))).bind fun _ =>
  some (1, t1, (subL s (0 : Int) t1))
  else
  (Jbw au).bind fun aN =>
  if aN then
  (Jbf s n 1).bind fun t3 =>
  if decide (t3 > 9) then
  some (0, 0, ([] : Str))
  else
  (chk (0 ≤ (0 : Int) ∧ (0 : Int) ≤ t3 ∧ t3 ≤ (s.length : Int))).bind fun _ =>
  some (2, t3, (subL s (0 : Int) t3))
  else
  if decide ((au.toNat : Int) = 34) then
  (Jcu n s).bind fun aL =>
  some (3, aL.1, aL.2)
  else
  (chk (InI (14 : Int))).bind fun _ =>
  (Jbg s (14 : Int).toNat 0).bind fun s5 => s5.el some fun t5 =>
  some (0, 0, ([] : Str))
theorem JeF {n : Nat} {s : Str} {K : Hp} {r : Int × Int × Str}
    (hm : Jck n s = some r)  :
    Fn Tryz.prog 224 [str s] K [] (fun v K' H' => v = .tuple #[.int .i64 r.1, .int .i64 r.2.1, str r.2.2] ∧ H' = []) := by
 refine Fn.enter Tryz.func224 Tryz.call224 rfl fun F => ?_
 unfold Jck at hm
 obtain ⟨au, aZ, bp, hm⟩ := ixb hm
 refine qbb rfl aZ bp ?_
 refine qal rfl ?_
 refine cb hm fun bD ba hm => cg0 (Jc9 ba :) ?_
 refine cs rfl rfl hm ?_ ?_ <;> intro bJ hm
 obtain ⟨s1, aM, hm⟩ := bnd hm
 refine lD (σ := (Int)) ([5] ++ rg 16 18) [0] (fun _ => []) (fun t1 => [(5, .int .i64 t1)]) (fun _ => []) (fun _ => True) (fun i1 t1 => Jbe s i1 t1 = some s1) (fun t1 => t1 = s1) (fun i1 => i1) n _ aM (And.intro qe (And.intro ?_ ?_))
 clear aM
 rintro i1 bg _ aM j1
 conv at aM => whnf
 cases i1 with
 | zero => rw [Jbe.eq_1] at aM; cases aM
 | succ i1 =>
  rw [Jbe.eq_2] at aM
  refine qam rfl ?_
  refine ro (qa2 rfl ?_)
  refine cS aM (fun aL aM => ?_) fun aL aM => ?_
  refine ct aL (ct aL ?_)
  obtain ⟨bB, bm, bt, aM⟩ := ixb aM
  refine qbb rfl bm bt (ct aL ?_)
  refine cb aM fun bT bf aM => cg0 (Jc9 bf :) ?_
  refine ct aL ?_
  obtain ⟨bG, aR, aM⟩ := bnd aM
  refine cS aR (fun aN aR => ?_) fun aN aR => ?_
  refine ct aN (ct aN (ct aN (ct aL (ct aN (ct aL (qaf rfl (cT ?_)))))))
  replace aM := ift (si aR).symm aM
  refine qal rfl ?_
  refine ci aM fun aM => ?_
  exact eR aM (_, _)
  refine cf aN (cf aN ?_)
  obtain ⟨bI, bA, aX, aR⟩ := ixb aR
  refine qbb rfl bA aX (cf aN ?_)
  refine cb aR fun bK bh aR => cg0 (JcB bh :) ?_
  refine ct aL (cf aN (ct aL (qaf rfl ?_)))
  refine qah ?_ ?_ <;> intro aV
  replace aM := ift ((si aR).symm.trans aV) aM
  refine qal rfl ?_
  refine ci aM fun aM => ?_
  exact eR aM (_, _)
  replace aM := qbs ((si aR).symm.trans aV) aM
  refine cT ?_
  exact eM aM _
  refine cf aL (cf aL (cf aL (cf aL (cf aL (cf aL (qaf rfl (cF ?_)))))))
  refine cT ?_
  exact eM aM _
 rintro t1 _ rfl j1
 refine qa4 ⟨⟨[], false⟩, _, [], []⟩ (by kernel_rfl) ⟨Hp.Le.refl _, (pf rfl), ci0⟩ ?_
 obtain ⟨bv, hm⟩ := qa5 hm
 refine qgn (lo := none) (hi := (some t1)) rfl bv ?_
 exact eE hm
 refine cb hm fun bL bo hm => cg0 (JcB bo :) ?_
 refine cs rfl rfl hm ?_ ?_ <;> intro bF hm
 obtain ⟨s3, aP, hm⟩ := bnd hm
 refine lD (σ := (Int)) ([5] ++ rg 41 12) [0] (fun _ => []) (fun t3 => [(5, .int .i64 t3)]) (fun _ => []) (fun _ => True) (fun i3 t3 => Jbf s i3 t3 = some s3) (fun t3 => t3 = s3) (fun i3 => i3) n _ aP (And.intro qe (And.intro ?_ ?_))
 clear aP
 rintro i3 bn _ aP j3
 conv at aP => whnf
 cases i3 with
 | zero => rw [Jbf.eq_1] at aP; cases aP
 | succ i3 =>
  rw [Jbf.eq_2] at aP
  refine qam rfl ?_
  refine ro (qa2 rfl ?_)
  obtain ⟨bM, aS, aP⟩ := bnd aP
  refine cS aS (fun aO aS => ?_) fun aO aS => ?_
  refine ct aO (ct aO ?_)
  obtain ⟨bR, bj, bz, aS⟩ := ixb aS
  refine qbb rfl bj bz (ct aO ?_)
  refine cb aS fun bP a8 aS => cg0 (JcB a8 :) ?_
  refine ct aO (qaf rfl ?_)
  refine qah ?_ ?_ <;> intro aW
  replace aP := ift ((si aS).symm.trans aW) aP
  refine qal rfl ?_
  refine ci aP fun aP => ?_
  exact eR aP (_, _)
  replace aP := qbs ((si aS).symm.trans aW) aP
  refine cT ?_
  exact eM aP _
  refine cf aO (cf aO (cf aO (cf aO (qaf rfl (cF ?_)))))
  replace aP := qbs (si aS).symm aP
  refine cT ?_
  exact eM aP _
 rintro t3 _ rfl j3
 refine cs rfl rfl hm ?_ ?_ <;> intro bN hm
 exact eE hm
 refine qa4 ⟨⟨[], false⟩, _, [], []⟩ (by kernel_rfl) ⟨Hp.Le.refl _, (pf rfl), ci0⟩ ?_
 obtain ⟨bu, hm⟩ := qa5 hm
 refine qgn (lo := none) (hi := (some t3)) rfl bu ?_
 exact eE hm
 refine qad (cs rfl rfl hm ?_ ?_) <;> intro bO hm
 refine cb hm fun bC aY hm => cg0 (Jel aY :) ?_
 exact eE hm
 refine bsO (len := 14) (enc := eS) (l := [([61, 61] : Str), ([33, 61] : Str), ([60, 61] : Str), ([60] : Str), ([43] : Str), ([45] : Str), ([42] : Str), ([40] : Str), ([41] : Str), ([123] : Str), ([125] : Str), ([44] : Str), ([59] : Str), ([61] : Str)]) (cl := [str ([61, 61] : Str), str ([33, 61] : Str), str ([60, 61] : Str), str ([60] : Str), str ([43] : Str), str ([45] : Str), str ([42] : Str), str ([40] : Str), str ([41] : Str), str ([123] : Str), str ([125] : Str), str ([44] : Str), str ([59] : Str), str ([61] : Str)]) qj3 rfl rfl (fun _ _ => rfl) rfl rfl rfl ?_ fun bQ => ?_
 · conv => whnf
   refine cT (cT (cT (cT (cT (cT (cT (cT ?_)))))))
   refine cT (cT (cT (cT (cT (cT ?_)))))
   first | done | rfl
 refine ro (qai rfl ?_)
 obtain ⟨bb, hm⟩ := qa5 hm
 obtain ⟨s5, aQ, hm⟩ := bnd hm
 refine lD (σ := (Unit)) ([2,3,4,10] ++ rg 71 11) [0, 1] (fun i5 => [(71, .int .i64 (i5 : Int))]) (fun _ => []) (fun _ => []) (fun _ => True) (fun i5 _ => Jbg s ((14 : Int).toNat - i5) i5 = some s5) (fun t5 => s5 = Fl.go t5) (fun i5 => (14 : Int).toNat - i5) 0 () aQ (And.intro qe (And.intro ?_ ?_))
 clear aQ
 rintro i5 _ _ aQ j5
 conv at aQ => whnf
 refine qaf rfl ?_
 refine qah ?_ ?_ <;> intro w5
 rw [ltn (n := (14 : Int)) w5, Jbg.eq_2] at aQ
 refine qal rfl ?_
 obtain ⟨bH, aU, aT, aQ⟩ := ixb aQ
 refine RStep.ofN (qac rfl rfl (qdh (fun _ => ⟨_, _, rfl⟩) aT) aU (qaw rfl aU aT) (ro (qc2 (i := ((i5 : Int)).toNat) (o := 0) r0 rfl aT rfl rfl ?_)))
 refine cb aQ fun bS bw aQ => cg0 (Jbi bw :) ?_
 refine cs rfl rfl aQ ?_ ?_ <;> intro bU aQ
 refine ro (qa2 rfl ?_)
 exact eE (er aQ hm)
 refine qat (qq3 w5 bb) ?_
 exact eR aQ (_, ())
 rw [lto (n := (14 : Int)) w5, Jbg.eq_1] at aQ
 refine cT ?_
 exact eM aQ _
 rintro t5 _ rfl j5
 replace hm := elg hm
 exact eE hm
