/- Functions of the program: mirrors, and that a call returns what the mirror says. Printed by gen.py. -/
import Derived.Test.YtmpdebfckeahmaaGreatDoorG1
set_option linter.unusedVariables false
set_option linter.unusedSimpArgs false
open Go Go.SL Go.Proofs
noncomputable section
set_option maxRecDepth 1000000
set_option maxHeartbeats 8000000
def JG (op : Str) (a : Jf) (b : Jf) : Option (Jf × Bool) :=
  if decide (a.kind ≠ b.kind) then
  some ((⟨0, 0, ([] : Str), false⟩ : Jf), false)
  else
  if decide (op = ([43] : Str)) then
  if decide (a.kind = 1) then
  (chk (a.s.length + b.s.length ≤ lim)).bind fun _ =>
  (Jaq (a.s ++ b.s)).bind fun aU =>
  some (aU, true)
  else
  (chk (InI (a.n + b.n))).bind fun _ =>
  (JaZ (a.n + b.n)).bind fun aR =>
  some (aR, decide (a.kind = 2))
  else
  if decide (op = ([45] : Str)) then
  (chk (InI (a.n - b.n))).bind fun _ =>
  (JaZ (a.n - b.n)).bind fun aT =>
  some (aT, decide (a.kind = 2))
  else
  if decide (op = ([42] : Str)) then
  if (!decide (a.kind = 2)) then
  some ((⟨0, 0, ([] : Str), false⟩ : Jf), false)
  else
  (JbE a.n b.n).bind fun aQ =>
  some (aQ, true)
  else
  if decide (op = ([61, 61] : Str)) then
  (Jaj (decide (a.kind = b.kind) && (decide (a.n = b.n) && (decide (a.s = b.s) && (a.Au == b.Au))))).bind fun aP =>
  some (aP, true)
  else
  if decide (op = ([33, 61] : Str)) then
  (Jaj (!(decide (a.kind = b.kind) && (decide (a.n = b.n) && (decide (a.s = b.s) && (a.Au == b.Au)))))).bind fun aY =>
  some (aY, true)
  else
  if decide (op = ([60] : Str)) then
  (Jaj (decide (a.n < b.n))).bind fun aS =>
  some (aS, decide (a.kind = 2))
  else
  if decide (op = ([60, 61] : Str)) then
  (Jaj (decide (a.n ≤ b.n))).bind fun aV =>
  some (aV, decide (a.kind = 2))
  else
  if decide (op = ([115, 116, 97, 114, 116, 115] : Str)) then
  (JS a.s b.s).bind fun aW =>
  (Jaj aW).bind fun aX =>
  some (aX, decide (a.kind = 1))
  else
  if decide (op = ([101, 110, 100, 115] : Str)) then
  (JbK a.s b.s).bind fun aM =>
  (Jaj aM).bind fun aO =>
  some (aO, decide (a.kind = 1))
  else
  (qc4 a.s b.s).bind fun aN =>
  (Jaj aN).bind fun aL =>
  some (aL, decide (a.kind = 1))
theorem Jeh {op : Str} {a : Jf} {b : Jf} {K : Hp} {r : Jf × Bool}
    (hm : JG op a b = some r) (hG : GG K) :
    Fn Tryz.prog 67 [str op, .agg #[.int .i64 a.kind, .int .i64 a.n, str a.s, .bool a.Au], .agg #[.int .i64 b.kind, .int .i64 b.n, str b.s, .bool b.Au]] K [] (fun v K' H' => v = .tuple #[.agg #[.int .i64 r.1.kind, .int .i64 r.1.n, str r.1.s, .bool r.1.Au], .bool r.2] ∧ H' = []) := by
 refine Fn.enter Tryz.func67 Tryz.call67 rfl fun F => ?_
 unfold JG at hm
 refine qaq ?_
 intro b4
 refine qaq ?_
 intro b5
 refine qao rfl fun b6 => ?_
 refine fa rfl (ro (ld r2 rfl rfl (fa rfl (ro (ld r1 rfl rfl (qbd ?_))))))
 refine cs rfl rfl hm ?_ ?_ <;> intro bF hm
 refine qam rfl rfl ?_
 refine qab r0 rfl ⟨rfl, rfl, (nl rfl), ?_⟩
 exact ro (qah r0 rfl (nl rfl) (eE hm))
 refine qa6 ⟨⟨[], false⟩, _, [(_, _)], []⟩ (by kernel_rfl) ⟨Hp.Le.refl _, (sc [2] rfl), ci0⟩ ?_
 refine fa rfl (qan m0 rfl rfl (qad (fa rfl (qan m0 rfl rfl (qad ?_)))))
 refine qal rfl ?_
 refine qat (cs rfl rfl hm ?_ ?_) <;> intro bt hm
 refine cs rfl rfl hm ?_ ?_ <;> intro bw hm
 refine fa rfl (ro (ld r2 rfl rfl (fa rfl (ro (ld r1 rfl rfl ?_)))))
 obtain ⟨aX, hm⟩ := qa2 hm
 refine qff aX ?_
 refine cb hm fun bo aV hm => cg0 (JaB aV :) ?_
 refine qab r0 rfl ⟨rfl, rfl, (nl rfl), ?_⟩
 exact ro (qah r0 rfl (nl rfl) (eE hm))
 refine fa rfl (ro (ld r2 rfl rfl (fa rfl (ro (ld r1 rfl rfl ?_)))))
 refine ci hm fun hm => ?_
 refine cb hm fun bC aZ hm => cg0 (Jbz aZ :) ?_
 refine qab r0 rfl ⟨rfl, rfl, (nl rfl), ?_⟩
 exact ro (qah r0 rfl (nl rfl) (eE hm))
 refine qat (cs rfl rfl hm ?_ ?_) <;> intro bA hm
 refine fa rfl (ro (ld r2 rfl rfl (fa rfl (ro (ld r1 rfl rfl ?_)))))
 refine ci hm fun hm => ?_
 refine cb hm fun bn aU hm => cg0 (Jbz aU :) ?_
 refine qab r0 rfl ⟨rfl, rfl, (nl rfl), ?_⟩
 exact ro (qah r0 rfl (nl rfl) (eE hm))
 refine qat (cs rfl rfl hm ?_ ?_) <;> intro bj hm
 refine qay ?_
 refine cs rfl rfl hm ?_ ?_ <;> intro bJ hm
 refine qam rfl rfl ?_
 refine qab r0 rfl ⟨rfl, rfl, (nl rfl), ?_⟩
 exact ro (qah r0 rfl (nl rfl) (eE hm))
 refine fa rfl (ro (ld r2 rfl rfl (fa rfl (ro (ld r1 rfl rfl ?_)))))
 refine cb hm fun bu aP hm => cg0 (Jeg aP :) ?_
 refine qab r0 rfl ⟨rfl, rfl, (nl rfl), ?_⟩
 exact ro (qah r0 rfl (nl rfl) (eE hm))
 refine qat (cs rfl rfl hm ?_ ?_) <;> intro bB hm
 refine ro (qah r2 rfl (nl rfl) (ro (qah r1 rfl (nl rfl) ?_)))
 refine qww (b := (decide (a.kind = b.kind) && (decide (a.n = b.n) && (decide (a.s = b.s) && (a.Au == b.Au))))) rfl (by kernel_rfl) (by kernel_rfl) (by kernel_rfl) rfl ?_
 refine cb hm fun bg aT hm => cg0 (JaU aT :) ?_
 refine qab r0 rfl ⟨rfl, rfl, (nl rfl), ?_⟩
 exact ro (qah r0 rfl (nl rfl) (eE hm))
 refine qat (cs rfl rfl hm ?_ ?_) <;> intro bm hm
 refine ro (qah r2 rfl (nl rfl) (ro (qah r1 rfl (nl rfl) ?_)))
 refine qu0 (b := (decide (a.kind = b.kind) && (decide (a.n = b.n) && (decide (a.s = b.s) && (a.Au == b.Au))))) rfl (by kernel_rfl) (by kernel_rfl) (by kernel_rfl) rfl ?_
 refine cb hm fun bG a8 hm => cg0 (JaU a8 :) ?_
 refine qab r0 rfl ⟨rfl, rfl, (nl rfl), ?_⟩
 exact ro (qah r0 rfl (nl rfl) (eE hm))
 refine qat (cs rfl rfl hm ?_ ?_) <;> intro bv hm
 refine fa rfl (ro (ld r2 rfl rfl (fa rfl (ro (ld r1 rfl rfl ?_)))))
 refine cb hm fun bH ba hm => cg0 (JaU ba :) ?_
 refine qab r0 rfl ⟨rfl, rfl, (nl rfl), ?_⟩
 exact ro (qah r0 rfl (nl rfl) (eE hm))
 refine qat (cs rfl rfl hm ?_ ?_) <;> intro bh hm
 refine fa rfl (ro (ld r2 rfl rfl (fa rfl (ro (ld r1 rfl rfl ?_)))))
 refine cb hm fun bK bb hm => cg0 (JaU bb :) ?_
 refine qab r0 rfl ⟨rfl, rfl, (nl rfl), ?_⟩
 exact ro (qah r0 rfl (nl rfl) (eE hm))
 refine qat (cs rfl rfl hm ?_ ?_) <;> intro bz hm
 refine fa rfl (ro (ld r2 rfl rfl (fa rfl (ro (ld r1 rfl rfl ?_)))))
 refine cb hm fun bD aS hm => cg0 (Jbm aS :) ?_
 refine cb hm fun bI aQ hm => cg0 (JaU aQ :) ?_
 refine qab r0 rfl ⟨rfl, rfl, (nl rfl), ?_⟩
 exact ro (qah r0 rfl (nl rfl) (eE hm))
 refine qat (cs rfl rfl hm ?_ ?_) <;> intro bp hm
 refine fa rfl (ro (ld r2 rfl rfl (fa rfl (ro (ld r1 rfl rfl ?_)))))
 refine cb hm fun aW aL hm => cg0 (JdF aL :) ?_
 refine cb hm fun aY aM hm => cg0 (JaU aM :) ?_
 refine qab r0 rfl ⟨rfl, rfl, (nl rfl), ?_⟩
 exact ro (qah r0 rfl (nl rfl) (eE hm))
 refine fa rfl (ro (ld r2 rfl rfl (fa rfl (ro (ld r1 rfl rfl ?_)))))
 refine cb hm fun bf aN hm => cg0 (qlj aN (gg3 hG)) ?_
 refine cb hm fun aR aO hm => cg0 (JaU aO :) ?_
 refine qab r0 rfl ⟨rfl, rfl, (nl rfl), ?_⟩
 exact ro (qah r0 rfl (nl rfl) (eE hm))

def qbt (c : UInt8) : Option (Bool) :=
  if (decide ((c.toNat : Int) ≥ 48) && decide ((c.toNat : Int) ≤ 57)) then
  some true
  else
  if (decide ((c.toNat : Int) ≥ 97) && decide ((c.toNat : Int) ≤ 122)) then
  some true
  else
  if (decide ((c.toNat : Int) ≥ 65) && decide ((c.toNat : Int) ≤ 90)) then
  some true
  else
  (qin ([33, 35, 36, 37, 38, 39, 42, 43, 45, 46, 94, 95, 96, 124, 126] : Str) c).bind fun aL =>
  some (decide (aL ≥ 0))
theorem qgc {c : UInt8} {K : Hp} {r : Bool}
    (hm : qbt c = some r)  :
    Fn Tryz.prog 213 [.int .u8 (c.toNat : Int)] K [] (fun v K' H' => v = .bool r ∧ H' = []) := by
 refine Fn.enter Tryz.func213 Tryz.call213 rfl fun F => ?_
 unfold qbt at hm
 refine qal rfl ?_
 refine jR (σ := Unit) (rg 3 7) (fun _ => [(3, .bool (decide ((c.toNat : Int) ≥ 48) && decide ((c.toNat : Int) ≤ 57)))]) (fun aQ => True) ?_ ?_
 refine qak rfl ?_
 refine qag ?_ ?_ <;> intro aN
 refine ct aN (ct aN ?_)
 exact eMt () ⟨bq (qdp (b := decide ((c.toNat : Int) ≤ 57)) aN), trivial⟩
 refine cf aN (cf aN ?_)
 exact eMt () ⟨bq (((qaz aN)).symm), trivial⟩
 rintro _ _ aR
 refine cs rfl rfl hm ?_ ?_ <;> intro w3 hm
 refine qae rfl (ct w3 ?_)
 exact eE hm
 refine qak rfl ?_
 refine qag ?_ ?_ <;> intro aM
 refine ct aM (ct aM (qae rfl ?_))
 refine qag ?_ ?_ <;> intro w3
 replace hm := ift (qb7 aM w3) hm
 refine qae rfl (ct w3 ?_)
 exact eE hm
 replace hm := qbo (qcx aM w3) hm
 refine qak rfl ?_
 refine qag ?_ ?_ <;> intro aL
 refine ct aL (ct aL (qae rfl ?_))
 refine qag ?_ ?_ <;> intro w3
 replace hm := ift (qb7 aL w3) hm
 exact eE hm
 replace hm := qbo (qcx aL w3) hm
 refine cb hm fun aP aO hm => cg0 (qnf aO) ?_
 exact eE hm
 refine cf aL (cf aL (qae rfl (cF ?_)))
 replace hm := qbo (qaz aL) hm
 refine cb hm fun aP aO hm => cg0 (qnf aO) ?_
 exact eE hm
 refine cf aM (cf aM (qae rfl (cF ?_)))
 replace hm := qbo (qaz aM) hm
 refine qak rfl ?_
 refine qag ?_ ?_ <;> intro aL
 refine ct aL (ct aL (qae rfl ?_))
 refine qag ?_ ?_ <;> intro w3
 replace hm := ift (qb7 aL w3) hm
 exact eE hm
 replace hm := qbo (qcx aL w3) hm
 refine cb hm fun aP aO hm => cg0 (qnf aO) ?_
 exact eE hm
 refine cf aL (cf aL (qae rfl (cF ?_)))
 replace hm := qbo (qaz aL) hm
 refine cb hm fun aP aO hm => cg0 (qnf aO) ?_
 exact eE hm

def syntax_Token_L0 : List UInt8 → Nat → Option (Fl (Bool) (Unit))
  | [], _ => some (Fl.go ())
  | e0 :: aL, i0 =>
    (qbt e0).bind fun av =>
    if (!av) then
    some (Fl.ret false)
    else
    syntax_Token_L0 aL (i0 + 1)
def qb1 (s : Str) : Option (Bool) :=
  (chk (s.length ≤ qau)).bind fun _ =>
  (syntax_Token_L0 s 0).bind fun s0 => s0.el some fun t0 =>
  some (decide (s ≠ ([] : Str)))
theorem qgd {s : Str} {K : Hp} {r : Bool}
    (hm : qb1 s = some r)  :
    Fn Tryz.prog 183 [str s] K [] (fun v K' H' => v = .bool r ∧ H' = []) := by
 refine Fn.enter Tryz.func183 Tryz.call183 rfl fun F => ?_
 unfold qb1 at hm
 refine ro (qa3 rfl ?_)
 obtain ⟨aO, hm⟩ := qa2 hm
 obtain ⟨s0, aL, hm⟩ := bnd hm
 refine lD (σ := (Unit)) ([2,3] ++ rg 6 9) [0] (fun i0 => [(6, .int .i64 (i0 : Int))]) (fun _ => []) (fun _ => []) (fun _ => True) (fun i0 _ => syntax_Token_L0 (s.drop i0) i0 = some s0) (fun t0 => s0 = Fl.go t0) (fun i0 => s.length - i0) 0 () aL (And.intro qe (And.intro ?_ ?_))
 clear aL
 rintro i0 _ _ aL j0
 conv at aL => whnf
 refine qae rfl ?_
 refine qag ?_ ?_ <;> intro w0
 obtain ⟨e0, aM, aP⟩ := ltx w0
 rw [aP, syntax_Token_L0.eq_2] at aL
 refine qal rfl ?_
 refine qba rfl (nn _) aM ?_
 refine cb aL fun av aN aL => cg0 (qgc aN :) ?_
 refine qay ?_
 refine cs rfl rfl aL ?_ ?_ <;> intro aQ aL
 exact eE (er aL hm)
 refine qap (qcf aM aO) ?_
 exact eR aL (_, ())
 rw [lty w0, syntax_Token_L0.eq_1] at aL
 refine cT ?_
 exact eM aL _
 rintro t0 _ rfl j0
 replace hm := elg hm
 refine qb0 ?_
 exact eE hm

def Jcu (s : Str) : Option (Str × Err) :=
  (qb1 s).bind fun x5 =>
  if (!x5) then
  some (([] : Str), (some 8))
  else
  if decide ((s.length : Int) > 64) then
  some (([] : Str), (some 5))
  else
  (JbN s).bind fun aL =>
  some (aL, none)
theorem Je9 {s : Str} {K : Hp} {r : Str × Err}
    (hm : Jcu s = some r)  :
    Fn Tryz.prog 150 [str s] K [] (fun v K' H' => v = .tuple #[str r.1, qc9 87 r.2] ∧ H' = []) := by
 refine Fn.enter Tryz.func150 Tryz.call150 rfl fun F => ?_
 unfold Jcu at hm
 refine cb hm fun x5 q5 hm => cg0 (qgd q5 :) ?_
 refine qay ?_
 refine cs rfl rfl hm ?_ ?_ <;> intro w6 hm
 refine qa4 rfl ?_
 exact eE hm
 refine ro (qa3 rfl ?_)
 refine cs rfl rfl hm ?_ ?_ <;> intro aN hm
 refine qa4 rfl ?_
 exact eE hm
 refine cb hm fun aM aL hm => cg0 (Jcb aL :) ?_
 exact eE hm

def Jbh : List UInt8 → Nat → Option (Fl (Bool) (Unit))
  | [], _ => some (Fl.go ())
  | e0 :: aN, i0 =>
    (if decide ((e0.toNat : Int) < 32) then some (decide ((e0.toNat : Int) ≠ 9)) else some false).bind fun aL =>
    (if aL then some true else some (decide ((e0.toNat : Int) = 127))).bind fun aM =>
    if aM then
    some (Fl.ret true)
    else
    Jbh aN (i0 + 1)
def Jco (s : Str) : Option (Bool) :=
  (chk (s.length ≤ qau)).bind fun _ =>
  (Jbh s 0).bind fun s0 => s0.el some fun t0 =>
  some false
theorem JeH {s : Str} {K : Hp} {r : Bool}
    (hm : Jco s = some r)  :
    Fn Tryz.prog 184 [str s] K [] (fun v K' H' => v = .bool r ∧ H' = []) := by
 refine Fn.enter Tryz.func184 Tryz.call184 rfl fun F => ?_
 unfold Jco at hm
 refine ro (qa3 rfl ?_)
 obtain ⟨aS, hm⟩ := qa2 hm
 obtain ⟨s0, aN, hm⟩ := bnd hm
 refine lD (σ := (Unit)) ([2,3] ++ rg 6 20) [0] (fun i0 => [(6, .int .i64 (i0 : Int))]) (fun _ => []) (fun _ => []) (fun _ => True) (fun i0 _ => Jbh (s.drop i0) i0 = some s0) (fun t0 => s0 = Fl.go t0) (fun i0 => s.length - i0) 0 () aN (And.intro qe (And.intro ?_ ?_))
 clear aN
 rintro i0 _ _ aN j0
 conv at aN => whnf
 refine qae rfl ?_
 refine qag ?_ ?_ <;> intro w0
 obtain ⟨e0, aQ, aT⟩ := ltx w0
 rw [aT, Jbh.eq_2] at aN
 refine qal rfl ?_
 refine qak rfl ?_
 refine qba rfl (nn _) aQ ?_
 obtain ⟨aV, aP, aN⟩ := bnd aN
 refine cS aP (fun aM aP => ?_) fun aM aP => ?_
 refine ct aM (ct aM (qba rfl (nn _) aQ (ct aM (qbd (ct aM ?_)))))
 obtain ⟨aU, aO, aN⟩ := bnd aN
 refine qag ?_ ?_ <;> intro aL
 replace aO := ift ((si aP).symm.trans aL) aO
 refine ct aL (ct aL (ct aL (ct aL (qae rfl (cT ?_)))))
 replace aN := ift (si aO).symm aN
 exact eE (er aN hm)
 replace aO := qbo ((si aP).symm.trans aL) aO
 refine cf aL (cf aL (qba rfl (nn _) aQ (cf aL (qad (cf aL (qae rfl ?_))))))
 refine qag ?_ ?_ <;> intro aR
 replace aN := ift ((si aO).symm.trans aR) aN
 exact eE (er aN hm)
 replace aN := qbo ((si aO).symm.trans aR) aN
 refine qap (qcf aQ aS) ?_
 exact eR aN (_, ())
 refine cf aM (cf aM (cf aM (cf aM ?_)))
 obtain ⟨aU, aO, aN⟩ := bnd aN
 replace aO := qbo (si aP).symm aO
 refine cF (cF (cF (qba rfl (nn _) aQ (cF (qad (cF (qae rfl ?_)))))))
 refine qag ?_ ?_ <;> intro aR
 replace aN := ift ((si aO).symm.trans aR) aN
 exact eE (er aN hm)
 replace aN := qbo ((si aO).symm.trans aR) aN
 refine qap (qcf aQ aS) ?_
 exact eR aN (_, ())
 rw [lty w0, Jbh.eq_1] at aN
 refine cT ?_
 exact eM aN _
 rintro t0 _ rfl j0
 replace hm := elg hm
 exact eE hm

def JcO (s : Str) : Option (Str × Err) :=
  (Jco s).bind fun x5 =>
  if x5 then
  some (([] : Str), (some 2))
  else
  (qkq s ([32, 9] : Str)).bind fun x8 =>
  if decide ((x8.length : Int) > 2048) then
  some (([] : Str), (some 5))
  else
  some (x8, none)
theorem JeY {s : Str} {K : Hp} {r : Str × Err}
    (hm : JcO s = some r)  :
    Fn Tryz.prog 151 [str s] K [] (fun v K' H' => v = .tuple #[str r.1, qc9 87 r.2] ∧ H' = []) := by
 refine Fn.enter Tryz.func151 Tryz.call151 rfl fun F => ?_
 unfold JcO at hm
 refine cb hm fun x5 q5 hm => cg0 (JeH q5 :) ?_
 refine cs rfl rfl hm ?_ ?_ <;> intro w5 hm
 refine qa4 rfl ?_
 exact eE hm
 refine cb hm fun x8 q8 hm => cg0 (qv7 q8) ?_
 refine ro (qa3 rfl ?_)
 refine cs rfl rfl hm ?_ ?_ <;> intro aL hm
 refine qa4 rfl ?_
 exact eE hm
 exact eE hm

def Jbp (av : Str) (value : Str) : List Jj → Nat → (List Jj) → Bool → Option ((List Jj) × Bool)
  | [], _, ac, aL => some (ac, aL)
  | e0 :: aM, i0, ac, aL =>
    (JbN e0.Name).bind fun aN =>
    if decide (aN ≠ av) then
    (chk (ac.length + [e0].length ≤ lim)).bind fun _ =>
    Jbp av value aM (i0 + 1) (ac ++ [e0]) aL
    else
    if (!aL) then
    (chk (ac.length + [(⟨av, value⟩ : Jj)].length ≤ lim)).bind fun _ =>
    Jbp av value aM (i0 + 1) (ac ++ [(⟨av, value⟩ : Jj)]) true
    else
    Jbp av value aM (i0 + 1) ac aL
def Jdz (f : (List Jj)) (name : Str) (value : Str) : Option ((List Jj)) :=
  (JbN name).bind fun av =>
  (chk (f.length ≤ qau)).bind fun _ =>
  (Jbp av value f 0 [] false).bind fun t0 =>
  if (!t0.2) then
  (chk (t0.1.length + [(⟨av, value⟩ : Jj)].length ≤ lim)).bind fun _ =>
  some (t0.1 ++ [(⟨av, value⟩ : Jj)])
  else
  some t0.1
theorem Jff {f : (List Jj)} {name : Str} {value : Str} {aa : Option Addr} {ab : Nat} {n0 : Nat} {K : Hp} {r : (List Jj)}
    (hm : Jdz f name value = some r) (hX : RdC Jj.enc K aa ab 2 f ∧ n0 = f.length) :
    Fn Tryz.prog 152 [.slice aa n0 ab, str name, str value] K [] (fun v K' H' => ∃ ar_0 : Option Addr, ∃ cr_0 : Nat, v = .slice ar_0 r.length cr_0 ∧ (0 < r.length → Has ar_0) ∧ H' = [OwnL Jj.enc ar_0 77 2 cr_0 r]) := by
 obtain ⟨ae, aZ⟩ := hX
 subst aZ
 refine Fn.enter Tryz.func152 Tryz.call152 rfl fun F => ?_
 unfold Jdz at hm
 refine cb hm fun av aX hm => cg0 (Jcb aX :) ?_
 refine ro (qai rfl ?_)
 obtain ⟨aP, hm⟩ := qa2 hm
 obtain ⟨s0, aN, hm⟩ := bnd hm
 refine qnk Jj.enc 77 2 ?_
 refine lD (σ := ((List Jj) × Bool) × Option Addr × Nat) ([7,8,10] ++ rg 15 24) [1] (fun i0 => [(15, .int .i64 (i0 : Int))]) (fun (t0, aL, aM) => [(7, .slice aL t0.1.length aM), (8, .bool t0.2)]) (fun (t0, aL, aM) => [OwnL Jj.enc aL 77 2 aM t0.1]) (fun (t0, aL, aM) => (0 < t0.1.length → Has aL) ∧ True) (fun i0 (t0, aL, aM) => Jbp av value (f.drop i0) i0 t0.1 t0.2 = some s0) (fun (t0, aL, aM) => t0 = s0) (fun i0 => f.length - i0) 0 ((_, _), _, _) aN (And.intro qe (And.intro ?_ ?_))
 clear aN
 rintro i0 ⟨⟨ac, aU⟩, aT, aS⟩ ⟨aQ, _⟩ aN j0
 dsimp only at aN ⊢
 refine qae rfl ?_
 refine qag ?_ ?_ <;> intro w0
 obtain ⟨e0, aO, ba⟩ := ltx w0
 rw [ba, Jbp.eq_2] at aN
 refine qal rfl ?_
 refine RStep.ofN (qac rfl rfl (qec ae.rd aO) (nn _) (qbq aO) (ro (qaj i0 _ ae.rd rfl (mp aO) rfl ?_)))
 refine qao rfl fun bf => ?_
 refine qab r0 rfl ⟨rfl, rfl, (nl rfl), ?_⟩
 refine qal rfl ?_
 refine fa rfl (ro (ld r0 rfl rfl ?_))
 refine cb aN fun bo aV aN => cg0 (Jcb aV :) ?_
 refine qb0 (cs rfl rfl aN ?_ ?_) <;> intro bz aN
 refine ro (qah r0 rfl (nl rfl) ?_)
 refine bsO (len := 1) (enc := Jj.enc) (l := [e0]) (cl := [str e0.Name, str e0.Value]) qi2 rfl rfl (fun _ _ => rfl) rfl rfl rfl ?_ fun bm => ?_
 · conv => whnf
   refine cT ?_
   first | done | rfl
 obtain ⟨aW, aN⟩ := qa2 aN
 refine apE rfl r2 qi2 (qa5 rfl r0 rfl (fun _ => rfl) (fun _ => rfl)) aW ?_
 intro bn bp bw
 refine qap (qcf aO aP) ?_
 exact eR aN (_, (_, _), _, _)
 refine qay ?_
 refine cs rfl rfl aN ?_ ?_ <;> intro bg aN
 refine qam rfl rfl (cT (cT ?_))
 refine bsO (len := 1) (enc := Jj.enc) (l := [(⟨av, value⟩ : Jj)]) (cl := [str av, str value]) qi2 rfl rfl (fun _ _ => rfl) rfl rfl rfl ?_ fun bh => ?_
 · conv => whnf
   refine cT ?_
   first | done | rfl
 obtain ⟨a8, aN⟩ := qa2 aN
 refine apE rfl r2 qi2 (qa5 rfl r0 rfl (fun _ => rfl) (fun _ => rfl)) a8 ?_
 intro bv bt bB
 refine qap (qcf aO aP) ?_
 exact eR aN (_, (_, _), _, _)
 refine qap (qcf aO aP) ?_
 exact eR aN (_, (_, _), _, _)
 rw [lty w0, Jbp.eq_1] at aN
 refine cT ?_
 exact eM aN (_, _, _)
 rintro ⟨t0, aL, aM⟩ ⟨aR, _⟩ rfl j0
 refine qay ?_
 refine cs rfl rfl hm ?_ ?_ <;> intro bj hm
 refine qam rfl rfl (cT (cT ?_))
 refine bsO (len := 1) (enc := Jj.enc) (l := [(⟨av, value⟩ : Jj)]) (cl := [str av, str value]) qi2 rfl rfl (fun _ _ => rfl) rfl rfl rfl ?_ fun bu => ?_
 · conv => whnf
   refine cT ?_
   first | done | rfl
 obtain ⟨aY, hm⟩ := qa2 hm
 refine apE rfl r1 qi2 (qa5 rfl r0 rfl (fun _ => rfl) (fun _ => rfl)) aY ?_
 intro bC bb bA
 exact eE hm
 exact eE hm

def Jbb (r' : Jl) (s : Str) (x : Jf) : Option (Err × Jl) :=
  (cutM s ([58] : Str)).bind fun aN =>
  (Jcu aN.2.1).bind fun aL =>
  if aL.2.isSome then
  some ((some 8), r')
  else
  if decide (aN.1 = ([118, 97, 114, 121] : Str)) then
  (JL r'.Vary aL.1).bind fun aO =>
  if (!aO) then
  (chk (r'.Vary.length + [aL.1].length ≤ lim)).bind fun _ =>
  some (none, (⟨r'.Ae, r'.Af, r'.Ag, (r'.Vary ++ [aL.1]), r'.Ah, r'.TTL, r'.Ai, r'.Aj, r'.Ak, r'.Al⟩ : Jl))
  else
  some (none, r')
  else
  (JcO x.s).bind fun aM =>
  if aM.2.isSome then
  some (aM.2, r')
  else
  (Jdz r'.Ag aL.1 aM.1).bind fun aP =>
  some (none, (⟨r'.Ae, r'.Af, aP, r'.Vary, r'.Ah, r'.TTL, r'.Ai, r'.Aj, r'.Ak, r'.Al⟩ : Jl))
theorem Jc9 {r' : Jl} {s : Str} {x : Jf} {b0 : Nat} {aa : Option Addr} {ab : Nat} {ah : Option Addr} {ak : Nat} {al : Option Addr} {am : Nat} {aJ : TypeId} {aC aI : List Value} {K : Hp} {r : Err × Jl}
    (hm : Jbb r' s x = some r) (hX : (0 < r'.Ag.length → Has aa) ∧ (0 < r'.Vary.length → Has ah) ∧ (0 < r'.Ah.length → Has al) ∧ GG K) :
    Fn Tryz.prog 114 [.pointer (some ⟨b0, aC.length + 0, none⟩), str s, .agg #[.int .i64 x.kind, .int .i64 x.n, str x.s, .bool x.Au]] K [qfg b0 aJ aC aI [str r'.Ae, str r'.Af, .slice aa r'.Ag.length ab, .slice ah r'.Vary.length ak, .slice al r'.Ah.length am, .int .i64 r'.TTL, .int .i64 r'.Ai, .int .i64 r'.Aj, .bool r'.Ak, .bool r'.Al], OwnL Jj.enc aa 77 2 ab r'.Ag, OwnL eS ah 9 1 ak r'.Vary, OwnL eS al 9 1 am r'.Ah] (fun v K' H' => ∃ ar_0 : Option Addr, ∃ cr_0 : Nat, ∃ ar_1 : Option Addr, ∃ cr_1 : Nat, ∃ ar_2 : Option Addr, ∃ cr_2 : Nat, v = qc9 87 r.1 ∧ (0 < r.2.Ag.length → Has ar_0) ∧ (0 < r.2.Vary.length → Has ar_1) ∧ (0 < r.2.Ah.length → Has ar_2) ∧ H' = [qfg b0 aJ aC aI [str r.2.Ae, str r.2.Af, .slice ar_0 r.2.Ag.length cr_0, .slice ar_1 r.2.Vary.length cr_1, .slice ar_2 r.2.Ah.length cr_2, .int .i64 r.2.TTL, .int .i64 r.2.Ai, .int .i64 r.2.Aj, .bool r.2.Ak, .bool r.2.Al], OwnL Jj.enc ar_0 77 2 cr_0 r.2.Ag, OwnL eS ar_1 9 1 cr_1 r.2.Vary, OwnL eS ar_2 9 1 cr_2 r.2.Ah]) := by
 obtain ⟨ae, aW, aR, hG⟩ := hX
 refine Fn.enter Tryz.func114 Tryz.call114 rfl fun F => ?_
 unfold Jbb at hm
 refine qaq ?_
 intro b5
 refine cb hm fun bg aY hm => cg0 (qt7 aY (gg3 hG)) ?_
 refine cb hm fun aN ba hm => cg0 (Je9 ba :) ?_
 refine qbh rfl ?_
 refine cs rfl rfl hm ?_ ?_ <;> intro bn hm
 refine qa4 rfl ?_
 exact eE hm
 refine qat (cs rfl rfl hm ?_ ?_) <;> intro bv hm
 refine qaf ?_
 refine qci (j' := 3) rfl rfl ?_
 refine ro (ld r1 rfl (qjl rfl) ?_)
 refine cb hm fun bj aZ hm => ck0 (Fn.lend Tryz.call113 (fun aU aP aM => (Jam (v' := aN.1) aZ ⟨aM, rfl⟩)) (by exact fun _ _ _ _ h => h)) ?_
 rintro _ _ _ ⟨_, rfl, rfl, rfl⟩
 refine qay ?_
 refine cs rfl rfl hm ?_ ?_ <;> intro bw hm
 refine qaf ?_
 refine qci (j' := 3) rfl rfl ?_
 refine ro (ld r2 rfl (qjl rfl) ?_)
 refine bsO (len := 1) (enc := eS) (l := [aN.1]) (cl := [str aN.1]) qka rfl rfl (fun _ _ => rfl) rfl rfl rfl ?_ fun bp => ?_
 · conv => whnf
   refine cT ?_
   first | done | rfl
 obtain ⟨a8, hm⟩ := qa2 hm
 refine apE rfl r1 qka (qa5 rfl r0 rfl (fun _ => rfl) (fun _ => rfl)) a8 ?_
 intro bo bt bm
 refine qaf ?_
 refine qci (j' := 3) rfl rfl ?_
 refine qds r3 rfl ?_
 refine ⟨rfl, rfl, (nl rfl), ?_⟩
 exact eE hm
 exact eE hm
 refine fa rfl (ro (ld r0 rfl rfl ?_))
 refine cb hm fun bf aX hm => cg0 (JeY aX :) ?_
 refine qbh rfl ?_
 refine cs rfl rfl hm ?_ ?_ <;> intro bh hm
 exact eE hm
 refine qaf ?_
 refine qci (j' := 2) rfl rfl ?_
 refine ro (ld r1 rfl (qjl rfl) ?_)
 refine cb hm fun bu bb hm => ck0 (Fn.lend Tryz.call152 (fun aO aQ aL => (Jff (name := aN.1) (value := bf.1) bb ⟨aL, rfl⟩)) (by exact fun _ _ _ _ h => h)) ?_
 rintro _ _ _ ⟨_, rfl, aS, aT, rfl, aV, rfl⟩
 refine qaf ?_
 refine qci (j' := 2) rfl rfl ?_
 refine qds r3 rfl ?_
 refine ⟨rfl, rfl, (nl rfl), ?_⟩
 exact eE hm

def JaP (r' : Jl) (s : Str) (x : Jf) : Option (Err × Jl) :=
  (((if (decide (s = ([112, 97, 115, 115] : Str)) || decide (s = ([116, 111, 107, 101, 110] : Str))) then some true else (JS s ([118, 97, 114, 121, 58] : Str)).bind fun aP =>
  some aP).bind fun aM =>
  if aM then
  some 0
  else
  if (decide (s = ([116, 116, 108] : Str)) || decide (s = ([100, 101, 110, 121] : Str))) then
  some 2
  else
  some 1 : Option (Int))).bind fun aL =>
  if decide (x.kind ≠ aL) then
  some ((some 9), r')
  else
  if decide (s = ([112, 97, 116, 104] : Str)) then
  some (none, (⟨x.s, r'.Af, r'.Ag, r'.Vary, r'.Ah, r'.TTL, r'.Ai, r'.Aj, r'.Ak, r'.Al⟩ : Jl))
  else
  if decide (s = ([113, 117, 101, 114, 121] : Str)) then
  some (none, (⟨r'.Ae, x.s, r'.Ag, r'.Vary, r'.Ah, r'.TTL, r'.Ai, r'.Aj, r'.Ak, r'.Al⟩ : Jl))
  else
  if decide (s = ([116, 97, 103] : Str)) then
  (JL r'.Ah x.s).bind fun aO =>
  if (!aO) then
  (chk (r'.Ah.length + [x.s].length ≤ lim)).bind fun _ =>
  some (none, (⟨r'.Ae, r'.Af, r'.Ag, r'.Vary, (r'.Ah ++ [x.s]), r'.TTL, r'.Ai, r'.Aj, r'.Ak, r'.Al⟩ : Jl))
  else
  some (none, r')
  else
  if decide (s = ([116, 116, 108] : Str)) then
  some (none, (⟨r'.Ae, r'.Af, r'.Ag, r'.Vary, r'.Ah, (max 0 x.n), r'.Ai, r'.Aj, r'.Ak, r'.Al⟩ : Jl))
  else
  if decide (s = ([100, 101, 110, 121] : Str)) then
  if (decide (x.n < 400) || decide (x.n > 499)) then
  some (none, (⟨r'.Ae, r'.Af, r'.Ag, r'.Vary, r'.Ah, r'.TTL, 403, r'.Aj, r'.Ak, r'.Al⟩ : Jl))
  else
  some (none, (⟨r'.Ae, r'.Af, r'.Ag, r'.Vary, r'.Ah, r'.TTL, x.n, r'.Aj, r'.Ak, r'.Al⟩ : Jl))
  else
  if decide (s = ([112, 97, 115, 115] : Str)) then
  some (none, (⟨r'.Ae, r'.Af, r'.Ag, r'.Vary, r'.Ah, r'.TTL, r'.Ai, r'.Aj, true, r'.Al⟩ : Jl))
  else
  if decide (s = ([116, 111, 107, 101, 110] : Str)) then
  some (none, (⟨r'.Ae, r'.Af, r'.Ag, r'.Vary, r'.Ah, r'.TTL, r'.Ai, r'.Aj, r'.Ak, true⟩ : Jl))
  else
  (Jbb r' s x).bind fun aN =>
  some (aN.1, aN.2)
theorem Jdt {r' : Jl} {s : Str} {x : Jf} {b0 : Nat} {aa : Option Addr} {ab : Nat} {ah : Option Addr} {ak : Nat} {al : Option Addr} {am : Nat} {aJ : TypeId} {aC aI : List Value} {K : Hp} {r : Err × Jl}
    (hm : JaP r' s x = some r) (hX : (0 < r'.Ag.length → Has aa) ∧ (0 < r'.Vary.length → Has ah) ∧ (0 < r'.Ah.length → Has al) ∧ GG K) :
    Fn Tryz.prog 70 [.pointer (some ⟨b0, aC.length + 0, none⟩), str s, .agg #[.int .i64 x.kind, .int .i64 x.n, str x.s, .bool x.Au]] K [qfg b0 aJ aC aI [str r'.Ae, str r'.Af, .slice aa r'.Ag.length ab, .slice ah r'.Vary.length ak, .slice al r'.Ah.length am, .int .i64 r'.TTL, .int .i64 r'.Ai, .int .i64 r'.Aj, .bool r'.Ak, .bool r'.Al], OwnL Jj.enc aa 77 2 ab r'.Ag, OwnL eS ah 9 1 ak r'.Vary, OwnL eS al 9 1 am r'.Ah] (fun v K' H' => ∃ ar_0 : Option Addr, ∃ cr_0 : Nat, ∃ ar_1 : Option Addr, ∃ cr_1 : Nat, ∃ ar_2 : Option Addr, ∃ cr_2 : Nat, v = qc9 87 r.1 ∧ (0 < r.2.Ag.length → Has ar_0) ∧ (0 < r.2.Vary.length → Has ar_1) ∧ (0 < r.2.Ah.length → Has ar_2) ∧ H' = [qfg b0 aJ aC aI [str r.2.Ae, str r.2.Af, .slice ar_0 r.2.Ag.length cr_0, .slice ar_1 r.2.Vary.length cr_1, .slice ar_2 r.2.Ah.length cr_2, .int .i64 r.2.TTL, .int .i64 r.2.Ai, .int .i64 r.2.Aj, .bool r.2.Ak, .bool r.2.Al], OwnL Jj.enc ar_0 77 2 cr_0 r.2.Ag, OwnL eS ar_1 9 1 cr_1 r.2.Vary, OwnL eS ar_2 9 1 cr_2 r.2.Ah]) := by
 obtain ⟨ae, bn, ba, hG⟩ := hX
 refine Fn.enter Tryz.func70 Tryz.call70 rfl fun F => ?_
 unfold JaP at hm
 refine qaq ?_
 intro b5
 obtain ⟨aV, aL, hm⟩ := bnd hm
 refine jD (σ := (Int)) (rg 7 19) [0, 1, 2, 3, 4, 5] (fun aS => [(7, .int .i64 aS)]) (fun aS => []) (fun aS => aS = aV) (And.intro ?_ ?_)
 refine qal rfl ?_
 obtain ⟨aW, aN, aL⟩ := bnd aL
 refine jR (σ := Bool) (rg 8 11) (fun aT => [(8, .bool aT)]) (fun aT => aT = aW) ?_ ?_
 replace aN := bsm aN
 refine qak rfl ?_
 refine qat ?_
 refine qag ?_ ?_ <;> intro aO
 refine ct aO (ct aO ?_)
 obtain ⟨bB, aR, aN⟩ := bnd aN
 replace aR := ift (qdo aO) aR
 refine cT (cT (cT ?_))
 exact eMq aN _ ⟨bq (si aR), trivial⟩
 refine cf aO (qat (cf aO ?_))
 obtain ⟨bB, aR, aN⟩ := bnd aN
 refine qag ?_ ?_ <;> intro aQ
 replace aR := ift (qkj aO aQ) aR
 refine ct aQ (ct aQ ?_)
 exact eMq aN _ ⟨bq (si aR), trivial⟩
 replace aR := qbo (qhn aO aQ) aR
 refine cf aQ ?_
 refine cb aR fun bS bz aR => cg0 (Jbm bz :) ?_
 refine cf aQ ?_
 exact eMq aN _ ⟨bq (si aR), trivial⟩
 rintro aT rfl bA
 refine cs rfl rfl aL ?_ ?_ <;> intro w8 aL
 exact eM aL _
 refine qak rfl ?_
 refine qat ?_
 refine qag ?_ ?_ <;> intro aP
 refine ct aP (ct aP (qae rfl (cT ?_)))
 replace aL := ift (qdo aP) aL
 exact eM aL _
 refine cf aP (qat (cf aP (qae rfl ?_)))
 refine qag ?_ ?_ <;> intro bm
 replace aL := ift (qkj aP bm) aL
 exact eM aL _
 replace aL := qbo (qhn aP bm) aL
 exact eM aL _
 rintro aS rfl bD
 refine fa rfl (ro (ld r0 rfl rfl (qbd ?_)))
 refine cs rfl rfl hm ?_ ?_ <;> intro bK hm
 refine qa4 rfl ?_
 exact eE hm
 refine qal rfl ?_
 refine qat (cs rfl rfl hm ?_ ?_) <;> intro bP hm
 refine fa rfl (ro (ld r0 rfl rfl (qaf ?_)))
 refine qci (j' := 0) rfl rfl ?_
 refine qds r1 rfl ?_
 refine ⟨rfl, rfl, (nl rfl), ?_⟩
 exact eE hm
 refine qat (cs rfl rfl hm ?_ ?_) <;> intro bH hm
 refine fa rfl (ro (ld r0 rfl rfl (qaf ?_)))
 refine qci (j' := 1) rfl rfl ?_
 refine qds r1 rfl ?_
 refine ⟨rfl, rfl, (nl rfl), ?_⟩
 exact eE hm
 refine qat (cs rfl rfl hm ?_ ?_) <;> intro bI hm
 refine qa6 ⟨⟨[], false⟩, _, [(_, _), (_, _)], []⟩ (by kernel_rfl) ⟨Hp.Le.refl _, (sc [1,0] rfl), ci0⟩ ?_
 refine qaf ?_
 refine qci (j' := 4) rfl rfl ?_
 refine qan m0 rfl (qjl rfl) (fa rfl (qan m1 rfl rfl ?_))
 refine cb hm fun bF bw hm => ck0 (Fn.lend Tryz.call113 (fun bo aX aU => (Jam (v' := x.s) bw ⟨aU, rfl⟩)) (by exact fun _ _ _ _ h => h)) ?_
 rintro _ _ _ ⟨_, rfl, rfl, rfl⟩
 refine qk (sc [2,1] rfl) ?_
 refine qay ?_
 refine cs rfl rfl hm ?_ ?_ <;> intro bR hm
 refine qbe ⟨⟨[], false⟩, _, [(_, _), (_, _)], []⟩ 9 rfl (by kernel_rfl) ⟨Hp.Le.refl _, (sc [2,1] rfl), ci0⟩ ?_
 refine qaf ?_
 refine qci (j' := 4) rfl rfl ?_
 refine qan m0 rfl (qjl rfl) (fa rfl (qan m1 rfl rfl ?_))
 refine bsO (len := 1) (enc := eS) (l := [x.s]) (cl := [str x.s]) qka rfl rfl (fun _ _ => rfl) rfl rfl rfl ?_ fun bQ => ?_
 · conv => whnf
   refine cT ?_
   first | done | rfl
 refine qk (sc [3,2] rfl) ?_
 obtain ⟨bC, hm⟩ := qa2 hm
 refine apE rfl r1 qka (qa5 rfl r0 rfl (fun _ => rfl) (fun _ => rfl)) bC ?_
 intro bT bM bL
 refine qk (sc [3,2] rfl) ?_
 refine qaf ?_
 refine qci (j' := 4) rfl rfl ?_
 refine qds r3 rfl ?_
 refine ⟨rfl, rfl, (nl rfl), ?_⟩
 refine ⟨⟨Hp.emp_le _, (pf rfl), ci0⟩, ?_⟩
 exact eE hm
 exact eE hm
 refine qat (cs rfl rfl hm ?_ ?_) <;> intro bN hm
 refine fa rfl (ro (ld r0 rfl rfl (ro (qca (qaf ?_)))))
 refine qci (j' := 5) rfl rfl ?_
 refine qds r1 rfl ?_
 refine ⟨rfl, rfl, (nl rfl), ?_⟩
 exact eE hm
 refine qat (cs rfl rfl hm ?_ ?_) <;> intro bG hm
 refine fa rfl (ro (ld r0 rfl rfl (qaf ?_)))
 refine qci (j' := 6) rfl rfl ?_
 refine qds r1 rfl ?_
 refine ⟨rfl, rfl, (nl rfl), ?_⟩
 refine qak rfl ?_
 refine fa rfl (ro (ld r1 rfl rfl ?_))
 refine qag ?_ ?_ <;> intro aM
 refine ct aM (ct aM (ct aM (qae rfl (cT ?_))))
 replace hm := ift (qdo aM) hm
 refine qaf ?_
 refine qci (j' := 6) rfl rfl ?_
 refine qds r0 rfl ?_
 refine ⟨rfl, rfl, (nl rfl), ?_⟩
 exact eE hm
 refine fa rfl (cf aM (ro (ld r1 rfl rfl (cf aM (cf aM (qae rfl ?_))))))
 refine qag ?_ ?_ <;> intro bh
 replace hm := ift (qkj aM bh) hm
 refine qaf ?_
 refine qci (j' := 6) rfl rfl ?_
 refine qds r0 rfl ?_
 refine ⟨rfl, rfl, (nl rfl), ?_⟩
 exact eE hm
 replace hm := qbo (qhn aM bh) hm
 exact eE hm
 refine qat (cs rfl rfl hm ?_ ?_) <;> intro bJ hm
 refine qaf ?_
 refine qci (j' := 8) rfl rfl ?_
 refine qds r1 rfl ?_
 refine ⟨rfl, rfl, (nl rfl), ?_⟩
 exact eE hm
 refine qat (cs rfl rfl hm ?_ ?_) <;> intro bu hm
 refine qaf ?_
 refine qci (j' := 9) rfl rfl ?_
 refine qds r1 rfl ?_
 refine ⟨rfl, rfl, (nl rfl), ?_⟩
 exact eE hm
 refine ro (qah r0 rfl (nl rfl) ?_)
 refine cb hm fun bO bv hm => ckx (Jc9 bv :) ?_
 rintro _ _ _ ⟨bf, aZ, bt, a8, bb, aY, rfl, bg, bp, bj, rfl⟩
 exact eE hm

def Jbt (m : Jg) (atZ : Int) (x : Jc) : Option (Int × Err × Jg) :=
  (chk (InI (m.result.Aj + 1))).bind fun _ =>
  if decide ((m.result.Aj + 1) > m.most) then
  some (0, (some 13), (⟨m.Ar, m.most, (⟨m.result.Ae, m.result.Af, m.result.Ag, m.result.Vary, m.result.Ah, m.result.TTL, m.result.Ai, (m.result.Aj + 1), m.result.Ak, m.result.Al⟩ : Jl), m.stack, m.Ap⟩ : Jg))
  else
  (chk (InI (atZ + 1))).bind fun _ =>
  if decide (x.Op = 1) then
  (JaZ x.N).bind fun bo =>
  (JO (⟨m.Ar, m.most, (⟨m.result.Ae, m.result.Af, m.result.Ag, m.result.Vary, m.result.Ah, m.result.TTL, m.result.Ai, (m.result.Aj + 1), m.result.Ak, m.result.Al⟩ : Jl), m.stack, m.Ap⟩ : Jg) bo false).bind fun a8 =>
  some ((atZ + 1), a8.1, (⟨m.Ar, a8.2.most, a8.2.result, a8.2.stack, a8.2.Ap⟩ : Jg))
  else
  if decide (x.Op = 2) then
  (Jaq x.S).bind fun bm =>
  (JO (⟨m.Ar, m.most, (⟨m.result.Ae, m.result.Af, m.result.Ag, m.result.Vary, m.result.Ah, m.result.TTL, m.result.Ai, (m.result.Aj + 1), m.result.Ak, m.result.Al⟩ : Jl), m.stack, m.Ap⟩ : Jg) bm false).bind fun aZ =>
  some ((atZ + 1), aZ.1, (⟨m.Ar, aZ.2.most, aZ.2.result, aZ.2.stack, aZ.2.Ap⟩ : Jg))
  else
  if decide (x.Op = 3) then
  (ix m.Ap x.N).bind fun bj =>
  (JO (⟨m.Ar, m.most, (⟨m.result.Ae, m.result.Af, m.result.Ag, m.result.Vary, m.result.Ah, m.result.TTL, m.result.Ai, (m.result.Aj + 1), m.result.Ak, m.result.Al⟩ : Jl), m.stack, m.Ap⟩ : Jg) bj false).bind fun aY =>
  some ((atZ + 1), aY.1, (⟨m.Ar, aY.2.most, aY.2.result, aY.2.stack, aY.2.Ap⟩ : Jg))
  else
  if decide (x.Op = 5) then
  (Jar x.S m.Ar).bind fun bn =>
  (JO (⟨m.Ar, m.most, (⟨m.result.Ae, m.result.Af, m.result.Ag, m.result.Vary, m.result.Ah, m.result.TTL, m.result.Ai, (m.result.Aj + 1), m.result.Ak, m.result.Al⟩ : Jl), m.stack, m.Ap⟩ : Jg) bn false).bind fun ba =>
  some ((atZ + 1), ba.1, (⟨m.Ar, ba.2.most, ba.2.result, ba.2.stack, ba.2.Ap⟩ : Jg))
  else
  if decide (x.Op = 4) then
  (JP (⟨m.Ar, m.most, (⟨m.result.Ae, m.result.Af, m.result.Ag, m.result.Vary, m.result.Ah, m.result.TTL, m.result.Ai, (m.result.Aj + 1), m.result.Ak, m.result.Al⟩ : Jl), m.stack, m.Ap⟩ : Jg)).bind fun aW =>
  (ix aW.2.Ap x.N).bind fun bp =>
  some ((atZ + 1), none, (⟨m.Ar, aW.2.most, aW.2.result, aW.2.stack, (aW.2.Ap.set ((x.N).toNat) aW.1)⟩ : Jg))
  else
  if decide (x.Op = 6) then
  (JP (⟨m.Ar, m.most, (⟨m.result.Ae, m.result.Af, m.result.Ag, m.result.Vary, m.result.Ah, m.result.TTL, m.result.Ai, (m.result.Aj + 1), m.result.Ak, m.result.Al⟩ : Jl), m.stack, m.Ap⟩ : Jg)).bind fun aV =>
  (JD x.S aV.1 m.Ar).bind fun bb =>
  if (!bb.2) then
  some (0, (some 9), (⟨m.Ar, aV.2.most, aV.2.result, aV.2.stack, aV.2.Ap⟩ : Jg))
  else
  (JO (⟨m.Ar, aV.2.most, aV.2.result, aV.2.stack, aV.2.Ap⟩ : Jg) bb.1 true).bind fun aS =>
  some ((atZ + 1), aS.1, (⟨m.Ar, aS.2.most, aS.2.result, aS.2.stack, aS.2.Ap⟩ : Jg))
  else
  if decide (x.Op = 7) then
  (JP (⟨m.Ar, m.most, (⟨m.result.Ae, m.result.Af, m.result.Ag, m.result.Vary, m.result.Ah, m.result.TTL, m.result.Ai, (m.result.Aj + 1), m.result.Ak, m.result.Al⟩ : Jl), m.stack, m.Ap⟩ : Jg)).bind fun aT =>
  (JP (⟨m.Ar, aT.2.most, aT.2.result, aT.2.stack, aT.2.Ap⟩ : Jg)).bind fun aO =>
  (JG x.S aO.1 aT.1).bind fun aX =>
  if (!aX.2) then
  some (0, (some 9), (⟨m.Ar, aO.2.most, aO.2.result, aO.2.stack, aO.2.Ap⟩ : Jg))
  else
  (JO (⟨m.Ar, aO.2.most, aO.2.result, aO.2.stack, aO.2.Ap⟩ : Jg) aX.1 true).bind fun aQ =>
  some ((atZ + 1), aQ.1, (⟨m.Ar, aQ.2.most, aQ.2.result, aQ.2.stack, aQ.2.Ap⟩ : Jg))
  else
  if decide (x.Op = 8) then
  (JP (⟨m.Ar, m.most, (⟨m.result.Ae, m.result.Af, m.result.Ag, m.result.Vary, m.result.Ah, m.result.TTL, m.result.Ai, (m.result.Aj + 1), m.result.Ak, m.result.Al⟩ : Jl), m.stack, m.Ap⟩ : Jg)).bind fun aN =>
  if decide (aN.1.kind ≠ 3) then
  some (0, (some 9), (⟨m.Ar, aN.2.most, aN.2.result, aN.2.stack, aN.2.Ap⟩ : Jg))
  else
  (Jaj (!aN.1.Au)).bind fun bf =>
  (JO (⟨m.Ar, aN.2.most, aN.2.result, aN.2.stack, aN.2.Ap⟩ : Jg) bf false).bind fun aR =>
  some ((atZ + 1), aR.1, (⟨m.Ar, aR.2.most, aR.2.result, aR.2.stack, aR.2.Ap⟩ : Jg))
  else
  if decide (x.Op = 9) then
  some (x.N, none, (⟨m.Ar, m.most, (⟨m.result.Ae, m.result.Af, m.result.Ag, m.result.Vary, m.result.Ah, m.result.TTL, m.result.Ai, (m.result.Aj + 1), m.result.Ak, m.result.Al⟩ : Jl), m.stack, m.Ap⟩ : Jg))
  else
  if decide (x.Op = 10) then
  (JP (⟨m.Ar, m.most, (⟨m.result.Ae, m.result.Af, m.result.Ag, m.result.Vary, m.result.Ah, m.result.TTL, m.result.Ai, (m.result.Aj + 1), m.result.Ak, m.result.Al⟩ : Jl), m.stack, m.Ap⟩ : Jg)).bind fun aM =>
  if decide (aM.1.kind ≠ 3) then
  some (0, (some 9), (⟨m.Ar, aM.2.most, aM.2.result, aM.2.stack, aM.2.Ap⟩ : Jg))
  else
  if (!aM.1.Au) then
  some (x.N, none, (⟨m.Ar, aM.2.most, aM.2.result, aM.2.stack, aM.2.Ap⟩ : Jg))
  else
  some ((atZ + 1), none, (⟨m.Ar, aM.2.most, aM.2.result, aM.2.stack, aM.2.Ap⟩ : Jg))
  else
  if decide (x.Op = 11) then
  (if (decide (x.S ≠ ([112, 97, 115, 115] : Str)) && decide (x.S ≠ ([116, 111, 107, 101, 110] : Str))) then (JS x.S ([118, 97, 114, 121, 58] : Str)).bind fun bg =>
  some (!bg) else some false).bind fun bh =>
  ((if bh then
  (JP (⟨m.Ar, m.most, (⟨m.result.Ae, m.result.Af, m.result.Ag, m.result.Vary, m.result.Ah, m.result.TTL, m.result.Ai, (m.result.Aj + 1), m.result.Ak, m.result.Al⟩ : Jl), m.stack, m.Ap⟩ : Jg)).bind fun aP =>
  some (aP.1.kind, aP.1.n, aP.1.s, aP.1.Au, (⟨m.Ar, aP.2.most, aP.2.result, aP.2.stack, aP.2.Ap⟩ : Jg))
  else
  some (0, 0, ([] : Str), false, (⟨m.Ar, m.most, (⟨m.result.Ae, m.result.Af, m.result.Ag, m.result.Vary, m.result.Ah, m.result.TTL, m.result.Ai, (m.result.Aj + 1), m.result.Ak, m.result.Al⟩ : Jl), m.stack, m.Ap⟩ : Jg)) : Option (Int × Int × Str × Bool × Jg))).bind fun aL =>
  (JaP aL.2.2.2.2.result x.S (⟨aL.1, aL.2.1, aL.2.2.1, aL.2.2.2.1⟩ : Jf)).bind fun aU =>
  if aU.1.isSome then
  some (0, aU.1, (⟨m.Ar, aL.2.2.2.2.most, aU.2, aL.2.2.2.2.stack, aL.2.2.2.2.Ap⟩ : Jg))
  else
  if decide (x.S = ([100, 101, 110, 121] : Str)) then
  some ((-1), none, (⟨m.Ar, aL.2.2.2.2.most, aU.2, aL.2.2.2.2.stack, aL.2.2.2.2.Ap⟩ : Jg))
  else
  some ((atZ + 1), none, (⟨m.Ar, aL.2.2.2.2.most, aU.2, aL.2.2.2.2.stack, aL.2.2.2.2.Ap⟩ : Jg))
  else
  if decide (x.Op = 12) then
  some ((-1), none, (⟨m.Ar, m.most, (⟨m.result.Ae, m.result.Af, m.result.Ag, m.result.Vary, m.result.Ah, m.result.TTL, m.result.Ai, (m.result.Aj + 1), m.result.Ak, m.result.Al⟩ : Jl), m.stack, m.Ap⟩ : Jg))
  else
  some ((atZ + 1), none, (⟨m.Ar, m.most, (⟨m.result.Ae, m.result.Af, m.result.Ag, m.result.Vary, m.result.Ah, m.result.TTL, m.result.Ai, (m.result.Aj + 1), m.result.Ak, m.result.Al⟩ : Jl), m.stack, m.Ap⟩ : Jg))
theorem Jdu {m : Jg} {atZ : Int} {x : Jc} {b0 : Nat} {aa : Option Addr} {ab : Nat} {ah : Option Addr} {ak : Nat} {al : Option Addr} {am : Nat} {an : Option Addr} {aw : Nat} {ao : Option Addr} {ax : Nat} {K : Hp} {r : Int × Err × Jg}
    (hm : Jbt m atZ x = some r) (hX : RdC Jj.enc K aa ab 2 m.Ar.Ao ∧ (0 < m.result.Ag.length → Has ah) ∧ (0 < m.result.Vary.length → Has al) ∧ (0 < m.result.Ah.length → Has an) ∧ (0 < m.stack.length → Has ao) ∧ m.Ap.length = 512 ∧ GG K) :
    Fn Tryz.prog 33 [.pointer (some ⟨b0, 0, none⟩), .int .i64 atZ, .agg #[.int .i64 x.Op, .int .i64 x.N, str x.S]] K [Cells b0 98 ((str m.Ar.Am) :: (str m.Ar.An) :: (str m.Ar.Ae) :: (str m.Ar.Af) :: (.slice aa m.Ar.Ao.length ab) :: (.int .i64 m.most) :: (str m.result.Ae) :: (str m.result.Af) :: (.slice ah m.result.Ag.length ak) :: (.slice al m.result.Vary.length am) :: (.slice an m.result.Ah.length aw) :: (.int .i64 m.result.TTL) :: (.int .i64 m.result.Ai) :: (.int .i64 m.result.Aj) :: (.bool m.result.Ak) :: (.bool m.result.Al) :: (.slice ao m.stack.length ax) :: (m.Ap.map Jf.enc).flatten), OwnL Jj.enc ah 77 2 ak m.result.Ag, OwnL eS al 9 1 am m.result.Vary, OwnL eS an 9 1 aw m.result.Ah, OwnL Jf.enc ao 95 4 ax m.stack] (fun v K' H' => ∃ ar_0 : Option Addr, ∃ cr_0 : Nat, ∃ ar_1 : Option Addr, ∃ cr_1 : Nat, ∃ ar_2 : Option Addr, ∃ cr_2 : Nat, ∃ ar_3 : Option Addr, ∃ cr_3 : Nat, v = .tuple #[.int .i64 r.1, qc9 87 r.2.1] ∧ (0 < r.2.2.result.Ag.length → Has ar_0) ∧ (0 < r.2.2.result.Vary.length → Has ar_1) ∧ (0 < r.2.2.result.Ah.length → Has ar_2) ∧ (0 < r.2.2.stack.length → Has ar_3) ∧ r.2.2.Ap.length = 512 ∧ H' = [Cells b0 98 ((str m.Ar.Am) :: (str m.Ar.An) :: (str m.Ar.Ae) :: (str m.Ar.Af) :: (.slice aa m.Ar.Ao.length ab) :: (.int .i64 r.2.2.most) :: (str r.2.2.result.Ae) :: (str r.2.2.result.Af) :: (.slice ar_0 r.2.2.result.Ag.length cr_0) :: (.slice ar_1 r.2.2.result.Vary.length cr_1) :: (.slice ar_2 r.2.2.result.Ah.length cr_2) :: (.int .i64 r.2.2.result.TTL) :: (.int .i64 r.2.2.result.Ai) :: (.int .i64 r.2.2.result.Aj) :: (.bool r.2.2.result.Ak) :: (.bool r.2.2.result.Al) :: (.slice ar_3 r.2.2.stack.length cr_3) :: (r.2.2.Ap.map Jf.enc).flatten), OwnL Jj.enc ar_0 77 2 cr_0 r.2.2.result.Ag, OwnL eS ar_1 9 1 cr_1 r.2.2.result.Vary, OwnL eS ar_2 9 1 cr_2 r.2.2.result.Ah, OwnL Jf.enc ar_3 95 4 cr_3 r.2.2.stack]) := by
 obtain ⟨ae, fG, fq, gj, ff, bD, hG⟩ := hX
 refine Fn.enter Tryz.func33 Tryz.call33 rfl fun F => ?_
 unfold Jbt at hm
 refine qaq ?_
 intro b5
 refine qaf (fa rfl (fa rfl (ro (ld r1 rfl rfl ?_))))
 obtain ⟨gT, hm⟩ := qa2 hm
 refine qap gT (qaf (fa rfl (fa rfl ?_)))
 refine qo9 (cs' := (str m.Ar.Am) :: (str m.Ar.An) :: (str m.Ar.Ae) :: (str m.Ar.Af) :: (.slice aa m.Ar.Ao.length ab) :: (.int .i64 m.most) :: (str m.result.Ae) :: (str m.result.Af) :: (.slice ah m.result.Ag.length ak) :: (.slice al m.result.Vary.length am) :: (.slice an m.result.Ah.length aw) :: (.int .i64 m.result.TTL) :: (.int .i64 m.result.Ai) :: (.int .i64 (m.result.Aj + 1)) :: (.bool m.result.Ak) :: (.bool m.result.Al) :: (.slice ao m.stack.length ax) :: (m.Ap.map Jf.enc).flatten) r1 rfl rfl (by exact rfl) (by exact nl rfl) (by exact rfl) ?_
 refine qa6 ⟨⟨[], false⟩, _, [(_, _)], []⟩ (by kernel_rfl) ⟨Hp.Le.refl _, (pf rfl), ci0⟩ ?_
 refine qaf (fa rfl (fa rfl (qan m0 rfl rfl (qaf (fa rfl (qan m0 rfl rfl ?_))))))
 refine cs rfl rfl hm ?_ ?_ <;> intro iE hm
 refine qa4 rfl ?_
 exact eE hm
 obtain ⟨gL, hm⟩ := qa2 hm
 refine qap gL (fa rfl (ro (ld r1 rfl rfl ?_)))
 refine qal rfl ?_
 refine qad (cs rfl rfl hm ?_ ?_) <;> intro iS hm
 refine fa rfl (ro (ld r1 rfl rfl ?_))
 refine cb hm fun iH gK hm => cg0 (Jbz gK :) ?_
 refine cb hm fun iG ic hm => ckx (Jap ic :) ?_
 rintro _ _ _ ⟨gb, fP, fe, fC, fI, fL, gC, fA, rfl, fy, eX, fB, gA, fw, rfl⟩
 exact eE hm
 refine qad (cs rfl rfl hm ?_ ?_) <;> intro iJ hm
 refine fa rfl (ro (ld r1 rfl rfl ?_))
 refine cb hm fun iN gS hm => cg0 (JaB gS :) ?_
 refine cb hm fun iB gI hm => ckx (Jap gI :) ?_
 rintro _ _ _ ⟨gz, fU, gx, gB, gy, ga, fv, gu, rfl, fo, gm, gn, fc, fZ, rfl⟩
 exact eE hm
 refine qad (cs rfl rfl hm ?_ ?_) <;> intro iC hm
 refine qa6 ⟨⟨[], true⟩, _, [], []⟩ (by kernel_rfl) ⟨Hp.Le.refl _, (pf rfl), ci0⟩ ?_
 refine fa rfl ?_
 refine ld r1 rfl rfl ?_
 refine qaf (fa rfl ?_)
 obtain ⟨iF, eZ, fO, hm⟩ := ixb hm
 refine qbr (sz := 4) rfl rfl eZ (qwx bD eZ fO) ?_
 refine qza (enc := Jf.enc) (sz := 4) r0 rfl (by exact rfl) fO (by exact rfl) ?_
 refine cb hm fun iQ g9 hm => ckx (Jap g9 :) ?_
 rintro _ _ _ ⟨gf, fS, fj, fY, fl, ge, gl, gw, rfl, fT, fX, fJ, fD, e8, rfl⟩
 refine qk (pf rfl) ?_
 exact eE hm
 refine qad (cs rfl rfl hm ?_ ?_) <;> intro iA hm
 refine qa6 ⟨⟨[], false⟩, _, [(_, _)], [(b0, [str m.Ar.Am, str m.Ar.An, str m.Ar.Ae, str m.Ar.Af, .slice aa m.Ar.Ao.length ab])]⟩ (by kernel_rfl) ⟨Hp.Le.refl _, (sc [1] rfl), (ci1 r0 (by exact rfl))⟩ ?_
 refine fa rfl (qan m0 rfl rfl (qaf (fa rfl ?_)))
 refine qpb m0 rfl (nl rfl) ?_
 refine cb hm fun iI ii hm => cgx (Jdx ii :) ?_
 refine ⟨⟨lr, (sc [1] rfl), (ci1 r0 (by exact rfl))⟩, ?_⟩
 refine cb hm fun iz im hm => ckx (Jap im :) ?_
 rintro _ _ _ ⟨gr, eV, eY, fV, gk, e9, fW, fQ, rfl, gi, fH, gq, fp, fk, rfl⟩
 refine ⟨⟨lr, (sc [5] rfl), (ci1 r0 (by exact rfl))⟩, ?_⟩
 exact eE hm
 refine qad (cs rfl rfl hm ?_ ?_) <;> intro iw hm
 refine qa6 ⟨⟨[], false⟩, _, [(_, _)], []⟩ (by kernel_rfl) ⟨Hp.Le.refl _, (sc [1] rfl), ci0⟩ ?_
 refine fa rfl (qan m0 rfl rfl ?_)
 refine cb hm fun aZ hU hm => ckx (Jaw hU :) ?_
 rintro _ _ _ ⟨bh, ba, bm, bf, bo, bn, bj, bb, rfl, bA, bz, bB, bC, bg, rfl⟩
 refine qk (sc [5] rfl) ?_
 refine qaf (fa rfl ?_)
 obtain ⟨iD, fh, gp, hm⟩ := ixb hm
 refine qbr (sz := 4) rfl rfl fh (qwx bg fh gp) ?_
 refine qzb (sz := 4) (enc := Jf.enc) (y := aZ.1) (cs' := (str m.Ar.Am) :: (str m.Ar.An) :: (str m.Ar.Ae) :: (str m.Ar.Af) :: (.slice aa m.Ar.Ao.length ab) :: (.int .i64 aZ.2.most) :: (str aZ.2.result.Ae) :: (str aZ.2.result.Af) :: (.slice bh aZ.2.result.Ag.length ba) :: (.slice bm aZ.2.result.Vary.length bf) :: (.slice bo aZ.2.result.Ah.length bn) :: (.int .i64 aZ.2.result.TTL) :: (.int .i64 aZ.2.result.Ai) :: (.int .i64 aZ.2.result.Aj) :: (.bool aZ.2.result.Ak) :: (.bool aZ.2.result.Al) :: (.slice bj aZ.2.stack.length bb) :: ((aZ.2.Ap.set ((x.N).toNat) aZ.1).map Jf.enc).flatten) r0 rfl (by exact rfl) gp rfl (fun _ => rfl) (fun _ => rfl) (by exact rfl) (by decide) ?_
 refine qk (sc [5] rfl) ?_
 cases hm
 exact en lr ⟨bh, ba, bm, bf, bo, bn, bj, bb, rfl, bA, bz, bB, bC, (List.length_set.trans bg), rfl⟩ (sc [0,0,0,0,0,1] rfl)
 refine qad (cs rfl rfl hm ?_ ?_) <;> intro iK hm
 refine qdr ⟨⟨[], false⟩, _, [(_, _)], [(b0, [str m.Ar.Am, str m.Ar.An, str m.Ar.Ae, str m.Ar.Af, .slice aa m.Ar.Ao.length ab])]⟩ 15 rfl (by kernel_rfl) ⟨Hp.Le.refl _, (sc [1] rfl), (ci1 r0 (by exact rfl))⟩ ?_
 refine fa rfl (qan m0 rfl rfl ?_)
 intro gQ
 refine cb hm fun iO gW hm => ckx (Jaw gW :) ?_
 rintro _ _ _ ⟨fK, fg, fR, fM, fm, f9, gv, fN, rfl, fb, gc, eQ, fu, gh, rfl⟩
 refine ⟨⟨lr, (sc [5] rfl), (ci1 r0 (by exact rfl))⟩, ?_⟩
 refine ⟨_, .cons r7 .nil, ⟨lr, (sc [5] rfl), (ci1 r0 (by exact rfl))⟩, ?_⟩
 refine qaf (fa rfl ?_)
 refine qpb m0 rfl (nl rfl) ?_
 intro iv
 refine cb hm fun gZ cw hm => cgx (JeX cw :) ?_
 refine ⟨⟨lr, (sc [5] rfl), (ci1 r0 (by exact rfl))⟩, ?_⟩
 refine ⟨_, .cons r7 .nil, ⟨lr, (sc [5] rfl), (ci1 r0 (by exact rfl))⟩, ?_⟩
 refine qjh rfl ?_
 intro b9
 intro gU
 refine qab r0 rfl ⟨rfl, rfl, (nl rfl), ?_⟩
 refine ⟨⟨lr, (sc [6] rfl), (ci1 r1 (by exact rfl))⟩, ?_⟩
 refine ⟨_, .cons r8 .nil, ⟨lr, (sc [6] rfl), (ci1 r1 (by exact rfl))⟩, ?_⟩
 refine qay ?_
 refine cs rfl rfl hm ?_ ?_ <;> intro ie hm
 refine qa4 rfl ?_
 exact eE hm
 refine ro (qah r0 rfl (nl rfl) ?_)
 refine cb hm fun gX cJ hm => ckx (Jap cJ :) ?_
 rintro _ _ _ ⟨cC, ey, cn, dP, cX, dl, cd, dv, rfl, eC, bV, eD, ca, d6, rfl⟩
 exact eE hm
 refine qad (cs rfl rfl hm ?_ ?_) <;> intro ia hm
 refine cb hm fun gR bU hm => ckx (Jaw bU :) ?_
 rintro _ _ _ ⟨dT, c8, eu, da, dg, d5, dQ, di, rfl, dt, dJ, db, bP, cO, rfl⟩
 refine qao rfl fun iy => ?_
 refine qab r0 rfl ⟨rfl, rfl, (nl rfl), ?_⟩
 refine qdr ⟨⟨[], false⟩, _, [(_, _), (_, _)], []⟩ 12 rfl (by kernel_rfl) ⟨Hp.Le.refl _, (sc [6,0] rfl), ci0⟩ ?_
 refine fa rfl (qan m0 rfl rfl ?_)
 intro gQ
 refine cb hm fun iq dE hm => ckx (Jaw dE :) ?_
 rintro _ _ _ ⟨ek, d4, cI, bQ, bK, c6, cM, dO, rfl, cH, ce, bZ, bY, bL, rfl⟩
 refine ⟨⟨lr, (sc [6,5] rfl), ci0⟩, ?_⟩
 refine ⟨_, .cons r8 .nil, ⟨lr, (sc [6,5] rfl), ci0⟩, ?_⟩
 refine qb9 m1 rfl (nl rfl) ?_
 intro iP
 refine cb hm fun gE d8 hm => cgx (Jeh d8 :) ?_
 refine ⟨⟨lr, (sc [6,5] rfl), ci0⟩, ?_⟩
 refine ⟨_, .cons r8 .nil, ⟨lr, (sc [6,5] rfl), ci0⟩, ?_⟩
 refine qjh rfl ?_
 intro iR
 intro il
 refine qab r0 rfl ⟨rfl, rfl, (nl rfl), ?_⟩
 refine ⟨⟨lr, (sc [7,6] rfl), ci0⟩, ?_⟩
 refine ⟨_, .cons r9 .nil, ⟨lr, (sc [7,6] rfl), ci0⟩, ?_⟩
 refine qay ?_
 refine cs rfl rfl hm ?_ ?_ <;> intro ib hm
 refine qa4 rfl ?_
 exact eE hm
 refine ro (qah r0 rfl (nl rfl) ?_)
 refine cb hm fun hH dz hm => ckx (Jap dz :) ?_
 rintro _ _ _ ⟨em, bH, cK, cD, cm, ep, bW, dF, rfl, dC, dW, du, cR, eK, rfl⟩
 exact eE hm
 refine qad (cs rfl rfl hm ?_ ?_) <;> intro gD hm
 refine cb hm fun gY cr hm => ckx (Jaw cr :) ?_
 rintro _ _ _ ⟨bM, cA, dA, ei, bG, cq, cV, bI, rfl, cu, dV, dm, cz, dx, rfl⟩
 refine qao rfl fun iM => ?_
 refine qab r0 rfl ⟨rfl, rfl, (nl rfl), ?_⟩
 refine fa rfl (ro (ld r0 rfl rfl (qbd ?_)))
 refine cs rfl rfl hm ?_ ?_ <;> intro hZ hm
 refine qa4 rfl ?_
 exact eE hm
 refine fa rfl (ro (ld r0 rfl rfl (qay ?_)))
 refine cb hm fun ik dG hm => cg0 (JaU dG :) ?_
 refine cb hm fun gO bN hm => ckx (Jap bN :) ?_
 rintro _ _ _ ⟨cG, eJ, eo, dL, dB, d3, dc, dN, rfl, dK, cU, dS, cQ, df, rfl⟩
 exact eE hm
 refine qad (cs rfl rfl hm ?_ ?_) <;> intro gV hm
 refine fa rfl (ro (ld r1 rfl rfl ?_))
 exact eE hm
 refine qad (cs rfl rfl hm ?_ ?_) <;> intro ir hm
 refine cb hm fun gP dY hm => ckx (Jaw dY :) ?_
 rintro _ _ _ ⟨ez, dp, bT, eH, de, bS, eG, cW, rfl, dX, c5, eL, dD, dM, rfl⟩
 refine qao rfl fun iL => ?_
 refine qab r0 rfl ⟨rfl, rfl, (nl rfl), ?_⟩
 refine fa rfl (ro (ld r0 rfl rfl (qbd ?_)))
 refine cs rfl rfl hm ?_ ?_ <;> intro gH hm
 refine qa4 rfl ?_
 exact eE hm
 refine fa rfl (ro (ld r0 rfl rfl (qay ?_)))
 refine cs rfl rfl hm ?_ ?_ <;> intro ij hm
 refine fa rfl (ro (ld r6 rfl rfl ?_))
 exact eE hm
 exact eE hm
 refine qad (cs rfl rfl hm ?_ ?_) <;> intro ig hm
 refine qam rfl rfl ?_
 refine qao rfl fun gN => ?_
 refine qab r0 rfl ⟨rfl, rfl, (nl rfl), ?_⟩
 obtain ⟨bJ, aW, hm⟩ := bnd hm
 refine jR (σ := Bool) (rg 168 14) (fun a8 => [(181, .bool a8)]) (fun a8 => a8 = bJ) ?_ ?_
 replace aW := bsm aW
 refine qak rfl ?_
 refine fa rfl (ro (ld r2 rfl rfl (qb0 ?_)))
 refine qag ?_ ?_ <;> intro aO
 refine fa rfl (ct aO (ro (ld r2 rfl rfl (ct aO (qb0 (ct aO ?_))))))
 obtain ⟨bO, aX, aW⟩ := bnd aW
 refine qag ?_ ?_ <;> intro aN
 replace aX := ift (qb7 aO aN) aX
 refine fa rfl (ct aN (ro (ld r2 rfl rfl (ct aN ?_))))
 refine cb aX fun gJ cp aX => cg0 (Jbm cp :) ?_
 refine ct aN (qay (ct aN ?_))
 exact eMq aW _ ⟨bq (si aX), trivial⟩
 replace aX := qbo (qcx aO aN) aX
 refine cf aN (cf aN (cf aN (cf aN ?_)))
 exact eMq aW _ ⟨bq (si aX), trivial⟩
 refine cf aO (cf aO (cf aO ?_))
 obtain ⟨bO, aX, aW⟩ := bnd aW
 replace aX := qbo (qaz aO) aX
 refine cF (cF (cF (cF (cF ?_))))
 exact eMq aW _ ⟨bq (si aX), trivial⟩
 rintro a8 rfl iu
 obtain ⟨d7, aY, hm⟩ := bnd hm
 refine jD (σ := (Int × Int × Str × Bool × Jg) × Option Addr × Nat × Option Addr × Nat × Option Addr × Nat × Option Addr × Nat) [182,183] [2, 7] (fun (aL, aP, aU, aS, aV, aQ, aT, aM, aR) => []) (fun (aL, aP, aU, aS, aV, aQ, aT, aM, aR) => [Cells b0 98 ((str m.Ar.Am) :: (str m.Ar.An) :: (str m.Ar.Ae) :: (str m.Ar.Af) :: (.slice aa m.Ar.Ao.length ab) :: (.int .i64 aL.2.2.2.2.most) :: (str aL.2.2.2.2.result.Ae) :: (str aL.2.2.2.2.result.Af) :: (.slice aP aL.2.2.2.2.result.Ag.length aU) :: (.slice aS aL.2.2.2.2.result.Vary.length aV) :: (.slice aQ aL.2.2.2.2.result.Ah.length aT) :: (.int .i64 aL.2.2.2.2.result.TTL) :: (.int .i64 aL.2.2.2.2.result.Ai) :: (.int .i64 aL.2.2.2.2.result.Aj) :: (.bool aL.2.2.2.2.result.Ak) :: (.bool aL.2.2.2.2.result.Al) :: (.slice aM aL.2.2.2.2.stack.length aR) :: (aL.2.2.2.2.Ap.map Jf.enc).flatten), OwnL Jj.enc aP 77 2 aU aL.2.2.2.2.result.Ag, OwnL eS aS 9 1 aV aL.2.2.2.2.result.Vary, OwnL eS aQ 9 1 aT aL.2.2.2.2.result.Ah, OwnL Jf.enc aM 95 4 aR aL.2.2.2.2.stack, Cells gN 95 [.int .i64 aL.1, .int .i64 aL.2.1, str aL.2.2.1, .bool aL.2.2.2.1]]) (fun (aL, aP, aU, aS, aV, aQ, aT, aM, aR) => (0 < aL.2.2.2.2.result.Ag.length → Has aP) ∧ (0 < aL.2.2.2.2.result.Vary.length → Has aS) ∧ (0 < aL.2.2.2.2.result.Ah.length → Has aQ) ∧ (0 < aL.2.2.2.2.stack.length → Has aM) ∧ aL.2.2.2.2.Ap.length = 512 ∧ aL = d7) (And.intro ?_ ?_)
 refine cs rfl rfl aY ?_ ?_ <;> intro hY aY
 refine cb aY fun gM cL aY => ckx (Jaw cL :) ?_
 rintro _ _ _ ⟨dk, dj, bF, dw, cY, d9, cj, dR, rfl, bX, dq, cZ, bR, c9, rfl⟩
 refine qab r5 rfl ⟨rfl, rfl, (nl rfl), ?_⟩
 exact eM aY (_, _, _, _, _, _, _, _, _)
 exact eM aY (_, _, _, _, _, _, _, _, _)
 rintro ⟨aL, aP, aU, aS, aV, aQ, aT, aM, aR⟩ ⟨bp, bv, bt, bu, bw, rfl⟩ gG
 refine qa6 ⟨⟨[], false⟩, _, [(_, _), (_, _)], []⟩ (by kernel_rfl) ⟨Hp.Le.refl _, (sc [6,5] rfl), ci0⟩ ?_
 refine qaf (fa rfl (fa rfl (qan m0 rfl rfl (qb9 m1 rfl (nl rfl) ?_))))
 refine cb hm fun io dZ hm => ckx (Jdt (aC := [str m.Ar.Am, str m.Ar.An, str m.Ar.Ae, str m.Ar.Af, .slice aa m.Ar.Ao.length ab, .int .i64 aL.2.2.2.2.most]) (aI := (.slice aM aL.2.2.2.2.stack.length aR) :: (aL.2.2.2.2.Ap.map Jf.enc).flatten) dZ :) ?_
 rintro _ _ _ ⟨cB, dH, ej, dI, dU, dh, rfl, eF, cP, dy, rfl⟩
 refine qk (sc [6,5] rfl) ?_
 refine qbh rfl ?_
 refine cs rfl rfl hm ?_ ?_ <;> intro gF hm
 exact eE hm
 refine fa rfl (ro (ld r6 rfl rfl (qat ?_)))
 refine cs rfl rfl hm ?_ ?_ <;> intro hJ hm
 exact eE hm
 exact eE hm
 refine qad (cs rfl rfl hm ?_ ?_) <;> intro ip hm
 exact eE hm
 exact eE hm

def Jas (code : (List Jc)) (Ar : JI) : Nat → Int → Jg → Option (Fl (Jl × Err) (Int × Jg))
  | 0, _, _ => none
  | aN + 1, ac, aL =>
    if decide (ac ≥ 0) then
    (ix code ac).bind fun aO =>
    (Jbt (⟨Ar, aL.most, aL.result, aL.stack, aL.Ap⟩ : Jg) ac aO).bind fun aM =>
    if aM.2.1.isSome then
    some (Fl.ret ((⟨([] : Str), ([] : Str), [], [], [], 0, 0, 0, false, false⟩ : Jl), aM.2.1))
    else
    Jas code Ar aN aM.1 (⟨Ar, aM.2.2.most, aM.2.2.result, aM.2.2.stack, aM.2.2.Ap⟩ : Jg)
    else
    some (Fl.go (ac, (⟨Ar, aL.most, aL.result, aL.stack, aL.Ap⟩ : Jg)))
def JaM (n : Nat) (code : (List Jc)) (Ar : JI) (most : Int) : Option (Jl × Err) :=
  (Jca code).bind fun aL =>
  if aL.isSome then
  some ((⟨([] : Str), ([] : Str), [], [], [], 0, 0, 0, false, false⟩ : Jl), (some 2))
  else
  (Jas code Ar n 0 (⟨Ar, most, (⟨Ar.Ae, Ar.Af, [], [], [], (-1), 0, 0, false, false⟩ : Jl), [], (List.replicate 512 (⟨0, 0, ([] : Str), false⟩ : Jf))⟩ : Jg)).bind fun s0 => s0.el some fun t0 =>
  some (t0.2.result, none)
theorem JcJ {n : Nat} {code : (List Jc)} {Ar : JI} {most : Int} {aa : Option Addr} {ab : Nat} {n0 : Nat} {af : Option Addr} {ag : Nat} {K : Hp} {r : Jl × Err}
    (hm : JaM n code Ar most = some r) (hX : RdC Jc.enc K aa ab 3 code ∧ n0 = code.length ∧ RdC Jj.enc K af ag 2 Ar.Ao ∧ GG K) :
    Fn Tryz.prog 13 [.slice aa n0 ab, .agg #[str Ar.Am, str Ar.An, str Ar.Ae, str Ar.Af, .slice af Ar.Ao.length ag], .int .i64 most] K [] (fun v K' H' => ∃ ar_0 : Option Addr, ∃ cr_0 : Nat, ∃ ar_1 : Option Addr, ∃ cr_1 : Nat, ∃ ar_2 : Option Addr, ∃ cr_2 : Nat, v = .tuple #[.agg #[str r.1.Ae, str r.1.Af, .slice ar_0 r.1.Ag.length cr_0, .slice ar_1 r.1.Vary.length cr_1, .slice ar_2 r.1.Ah.length cr_2, .int .i64 r.1.TTL, .int .i64 r.1.Ai, .int .i64 r.1.Aj, .bool r.1.Ak, .bool r.1.Al], qc9 87 r.2] ∧ (0 < r.1.Ag.length → Has ar_0) ∧ (0 < r.1.Vary.length → Has ar_1) ∧ (0 < r.1.Ah.length → Has ar_2) ∧ H' = [OwnL Jj.enc ar_0 77 2 cr_0 r.1.Ag, OwnL eS ar_1 9 1 cr_1 r.1.Vary, OwnL eS ar_2 9 1 cr_2 r.1.Ah]) := by
 obtain ⟨ae, bP, aj, hG⟩ := hX
 subst bP
 refine Fn.enter Tryz.func13 Tryz.call13 rfl fun F => ?_
 unfold JaM at hm
 refine qaq ?_
 intro b4
 refine qao rfl fun b6 => ?_
 refine cb hm fun bU bN hm => cgx (Jef bN :) ?_
 refine qbh rfl ?_
 refine cs rfl rfl hm ?_ ?_ <;> intro bV hm
 refine qam rfl rfl ?_
 refine qa4 rfl ?_
 refine qab r0 rfl ⟨rfl, rfl, (nl rfl), ?_⟩
 refine ro (qah r0 rfl (nl rfl) ?_)
 refine qor Jj.enc 77 2 ?_
 refine qor eS 9 1 ?_
 refine qor eS 9 1 ?_
 exact eE hm
 refine ro (qah r1 rfl (nl rfl) (fa rfl (ro (ld r1 rfl rfl (fa rfl (ro (ld r1 rfl rfl (qam rfl rfl (cT (cT ?_))))))))))
 refine cT ?_
 refine qnt (enc := Jf.enc) [str ([] : Str), str ([] : Str), str ([] : Str), str ([] : Str), .slice none 0 0, .int .i64 0, str ([] : Str), str ([] : Str), .slice none 0 0, .slice none 0 0, .slice none 0 0, .int .i64 0, .int .i64 0, .int .i64 0, .bool false, .bool false, .slice none 0 0] (List.replicate 512 (⟨0, 0, ([] : Str), false⟩ : Jf)) (by kernel_rfl) rfl ?_
 refine cT (cT (cT ?_))
 refine qrx ?_
 intro bQ
 obtain ⟨s0, aT, hm⟩ := bnd hm
 refine qnk Jj.enc 77 2 ?_
 refine qnk eS 9 1 ?_
 refine qnk eS 9 1 ?_
 refine qnk Jf.enc 95 4 ?_
 refine lD (σ := (Int × Jg) × Option Addr × Nat × Option Addr × Nat × Option Addr × Nat × Option Addr × Nat) ([7,9,10,11] ++ rg 26 17) [5, 6, 7] (fun _ => []) (fun (t0, aN, aS, aO, aQ, aL, aR, aM, aP) => [(9, .int .i64 t0.1)]) (fun (t0, aN, aS, aO, aQ, aL, aR, aM, aP) => [Cells bQ 98 ((str Ar.Am) :: (str Ar.An) :: (str Ar.Ae) :: (str Ar.Af) :: (.slice af Ar.Ao.length ag) :: (.int .i64 t0.2.most) :: (str t0.2.result.Ae) :: (str t0.2.result.Af) :: (.slice aN t0.2.result.Ag.length aS) :: (.slice aO t0.2.result.Vary.length aQ) :: (.slice aL t0.2.result.Ah.length aR) :: (.int .i64 t0.2.result.TTL) :: (.int .i64 t0.2.result.Ai) :: (.int .i64 t0.2.result.Aj) :: (.bool t0.2.result.Ak) :: (.bool t0.2.result.Al) :: (.slice aM t0.2.stack.length aP) :: (t0.2.Ap.map Jf.enc).flatten), OwnL Jj.enc aN 77 2 aS t0.2.result.Ag, OwnL eS aO 9 1 aQ t0.2.result.Vary, OwnL eS aL 9 1 aR t0.2.result.Ah, OwnL Jf.enc aM 95 4 aP t0.2.stack]) (fun (t0, aN, aS, aO, aQ, aL, aR, aM, aP) => (0 < t0.2.result.Ag.length → Has aN) ∧ (0 < t0.2.result.Vary.length → Has aO) ∧ (0 < t0.2.result.Ah.length → Has aL) ∧ (0 < t0.2.stack.length → Has aM) ∧ t0.2.Ap.length = 512) (fun i0 (t0, aN, aS, aO, aQ, aL, aR, aM, aP) => Jas code Ar i0 t0.1 t0.2 = some s0) (fun (t0, aN, aS, aO, aQ, aL, aR, aM, aP) => s0 = Fl.go t0) (fun i0 => i0) n ((0, (⟨Ar, most, (⟨Ar.Ae, Ar.Af, [], [], [], (-1), 0, 0, false, false⟩ : Jl), [], (List.replicate 512 (⟨0, 0, ([] : Str), false⟩ : Jf))⟩ : Jg)), none, 0, none, 0, none, 0, none, 0) aT (And.intro ⟨⟨(fun h => by simp at h), (fun h => by simp at h), (fun h => by simp at h), (fun h => by simp at h), List.length_replicate⟩, ⟨rfl, trivial⟩, _, (ss [4,3,2,1,0,0,0,0] rfl)⟩ (And.intro ?_ ?_))
 clear aT
 rintro i0 ⟨⟨ac, bM⟩, a8, ba, bt, bo, bj, aZ, bp, aU⟩ ⟨aV, bf, bb, bh, bn⟩ aT j0
 dsimp only at aT ⊢
 cases i0 with
 | zero => rw [Jas.eq_1] at aT; cases aT
 | succ i0 =>
  rw [Jas.eq_2] at aT
  refine cs rfl rfl aT ?_ ?_ <;> intro bR aT
  refine qal rfl ?_
  obtain ⟨bW, bG, bu, aT⟩ := ixb aT
  refine RStep.ofN (qac rfl rfl (qec ae.rd bu) bG (qax rfl bG bu) (ro (qaj ((ac).toNat) _ ae.rd rfl (mp bu) rfl ?_)))
  refine cb aT fun bS bO aT => ckx (Jdu bO :) ?_
  rintro _ _ _ ⟨bI, bD, bL, bF, bH, bC, bA, bB, rfl, bz, bK, bJ, bv, bw, rfl⟩
  refine qbh rfl ?_
  refine cs rfl rfl aT ?_ ?_ <;> intro bT aT
  refine qam rfl rfl ?_
  refine qab r5 rfl ⟨rfl, rfl, (nl rfl), ?_⟩
  refine ro (qah r0 rfl (nl rfl) ?_)
  refine qor Jj.enc 77 2 ?_
  refine qor eS 9 1 ?_
  refine qor eS 9 1 ?_
  exact eE (er aT hm)
  exact eR aT (_, (_, _), _, _, _, _, _, _, _, _)
  refine cT ?_
  exact eM aT (_, _, _, _, _, _, _, _, _)
 rintro ⟨t0, aN, aS, aO, aQ, aL, aR, aM, aP⟩ ⟨aY, aX, aW, bg, bm⟩ rfl j0
 replace hm := elg hm
 refine qaf (fa rfl (ro (qah r0 rfl (nl rfl) ?_)))
 refine qab r5 rfl ⟨rfl, rfl, (nl rfl), ?_⟩
 exact ro (qah r0 rfl (nl rfl) (eE hm))

def JaI (n : Nat) : Option (Bool) :=
  (JaM n ([(⟨2, 0, ([120] : Str)⟩ : Jc), (⟨11, 0, ([116, 97, 103] : Str)⟩ : Jc), (⟨12, 0, ([] : Str)⟩ : Jc)]) (⟨([] : Str), ([] : Str), ([47] : Str), ([] : Str), []⟩ : JI) 3).bind fun x9 =>
  (if (x9.2.isNone && decide ((x9.1.Ah.length : Int) = 1)) then (ix x9.1.Ah 0).bind fun aL =>
  some (decide (aL = ([120] : Str))) else some false).bind fun aM =>
  some (((aM && decide (x9.1.Aj = 3)) && decide (x9.1.TTL = (-1))) && decide (x9.1.Ae = ([47] : Str)))
theorem JdI {n : Nat}  {K : Hp} {r : Bool}
    (hm : JaI n = some r) (hG : GG K) :
    Fn Tryz.prog 10 [] K [] (fun v K' H' => v = .bool r ∧ H' = []) := by
 refine Fn.enter Tryz.func10 Tryz.call10 rfl fun F => ?_
 unfold JaI at hm
 refine qam rfl rfl (cT (cT (qam rfl rfl (cT (cT (qam rfl rfl (cT ?_)))))))
 refine bsO (len := 3) (enc := Jc.enc) (l := [(⟨2, 0, ([120] : Str)⟩ : Jc), (⟨11, 0, ([116, 97, 103] : Str)⟩ : Jc), (⟨12, 0, ([] : Str)⟩ : Jc)]) (cl := [.int .i64 2, .int .i64 0, str ([120] : Str), .int .i64 11, .int .i64 0, str ([116, 97, 103] : Str), .int .i64 12, .int .i64 0, str ([] : Str)]) qt8 rfl rfl (fun _ _ => rfl) rfl rfl rfl ?_ fun b7 => ?_
 · conv => whnf
   refine cT (cT (cT ?_))
   first | done | rfl
 refine qam rfl rfl (cT ?_)
 refine cb hm fun x9 q9 hm => ck0 (Fn.lend Tryz.call13 (fun aX aU aT => (JcJ (Ar := (⟨([] : Str), ([] : Str), ([47] : Str), ([] : Str), []⟩ : JI)) (most := 3) q9 ⟨aT, rfl, RdC.nil, (hG.mono aU)⟩)) (by exact fun _ _ _ _ h => h)) ?_
 rintro _ _ _ ⟨_, rfl, a8, aW, aZ, aY, bg, bh, rfl, bf, ba, aR, rfl⟩
 refine qao rfl fun b1 => ?_
 refine qab r0 rfl ⟨rfl, rfl, (nl rfl), ?_⟩
 refine qak rfl ?_
 refine qft rfl ?_
 refine qag ?_ ?_ <;> intro aM
 refine fa rfl (ct aM (ro (ld r0 rfl rfl (ct aM (ro (qai rfl (ct aM (qad (ct aM ?_)))))))))
 obtain ⟨bb, aQ, hm⟩ := bnd hm
 refine qag ?_ ?_ <;> intro aL
 replace aQ := ift (qb7 aM aL) aQ
 refine fa rfl (ct aL (ro (ld r0 rfl rfl (ct aL ?_))))
 obtain ⟨bj, aV, aS, aQ⟩ := ixb aQ
 refine RStep.ofN (qac rfl rfl (qdj aR aS) aV (qax rfl aV aS) (ct aL (ro (qc2 (i := (0 : Int).toNat) (o := 0) r4 rfl aS rfl rfl (ct aL (qat (ct aL ?_)))))))
 refine qag ?_ ?_ <;> intro aN
 refine fa rfl (ct aN (ro (ld r0 rfl rfl (ct aN (qad (ct aN ?_))))))
 refine qag ?_ ?_ <;> intro aO
 refine fa rfl (ct aO (ro (ld r0 rfl rfl (ct aO (qad (ct aO ?_))))))
 refine qag ?_ ?_ <;> intro aP
 refine fa rfl (ct aP (ro (ld r0 rfl rfl (ct aP (qat (ct aP ?_))))))
 exact bE (qdp (b := decide (x9.1.Ae = ([47] : Str))) (qb7 (qb7 ((si aQ).symm.trans aN) aO) aP)) (eE hm)
 refine cf aP (cf aP (cf aP ?_))
 exact bE (((qaz (qcx (qb7 ((si aQ).symm.trans aN) aO) aP))).symm) (eE hm)
 refine cf aO (cf aO (cf aO (cF (cF (cF (cF ?_))))))
 exact bE (((qaz (qaz (qcx ((si aQ).symm.trans aN) aO)))).symm) (eE hm)
 refine cf aN (cf aN (cf aN (cF (cF (cF (cF (cF ?_)))))))
 refine cF (cF (cF ?_))
 exact bE (((qaz (qaz (qaz ((si aQ).symm.trans aN))))).symm) (eE hm)
 replace aQ := qbo (qcx aM aL) aQ
 refine cf aL (cf aL (cf aL (cf aL (cf aL (cF (cF (cF ?_)))))))
 refine cF (cF (cF (cF (cF (cF (cF (cF ?_)))))))
 refine cF ?_
 exact bE (((qaz (qaz (qaz (si aQ).symm)))).symm) (eE hm)
 refine cf aM (cf aM (cf aM (cf aM ?_)))
 obtain ⟨bb, aQ, hm⟩ := bnd hm
 replace aQ := qbo (qaz aM) aQ
 refine cF (cF (cF (cF (cF (cF (cF (cF ?_)))))))
 refine cF (cF (cF (cF (cF (cF (cF (cF ?_)))))))
 refine cF (cF ?_)
 exact bE (((qaz (qaz (qaz (si aQ).symm)))).symm) (eE hm)

def Ja7 (depth : Int) (rec_ : (Je → Int → Option (Int))) : List Je → Nat → Int → Option (Fl (Int) (Int))
  | [], _, ac => some (Fl.go ac)
  | e0 :: aM, i0, ac =>
    (chk (InI (depth - 1))).bind fun _ =>
    (rec_ e0 (depth - 1)).bind fun aL =>
    (chk (InI (ac + aL))).bind fun _ =>
    if decide ((ac + aL) > 700) then
    some (Fl.ret (ac + aL))
    else
    Ja7 depth rec_ aM (i0 + 1) (ac + aL)
def JaW : Nat → Je → Int → Option (Int)
  | 0, _, _ => none
  | n + 1, n', depth =>
    if (decide (depth = 0) || decide ((n'.Ac.length : Int) > 3000)) then
    some 1000
    else
    (chk (n'.Aa.length ≤ qau)).bind fun _ =>
    (Ja7 depth (JaW n) n'.Aa 0 1).bind fun s0 => s0.el some fun t0 =>
    some t0
theorem JeZ : ∀ {n : Nat} {n' : Je} {depth : Int} {aa : Option Addr} {ab : Nat} {K : Hp} {r : Int}
    (hm : JaW n n' depth = some r) (ae : LiC Je.R K aa ab 4 n'.Aa),
    Fn Tryz.prog 83 [.agg #[.int .i64 n'.Ab, str n'.Ac, .slice aa n'.Aa.length ab, .int .i64 n'.Ad], .int .i64 depth] K [] (fun v K' H' => v = .int .i64 r ∧ H' = []) := by
 intro n
 induction n with
 | zero =>
   intro n' depth aa ab K r hm ae
   rw [JaW.eq_1] at hm; cases hm
 | succ n ih =>
   intro n' depth aa ab K r hm ae
   refine Fn.enter Tryz.func83 Tryz.call83 rfl fun F => ?_
   rw [JaW.eq_2] at hm
   refine qaq ?_
   intro b2
   refine jR (σ := Unit) (rg 8 8) (fun _ => [(15, .bool (decide (depth = 0) || decide ((n'.Ac.length : Int) > 3000)))]) (fun aX => True) ?_ ?_
   refine qak rfl ?_
   refine qad ?_
   refine qag ?_ ?_ <;> intro aL
   refine ct aL (ct aL (ct aL (ct aL ?_)))
   exact eMt () ⟨bq (((qdo aL)).symm), trivial⟩
   refine fa rfl (cf aL (ro (ld r0 rfl rfl (cf aL (ro (qa3 rfl (cf aL (cf aL ?_))))))))
   exact eMt () ⟨bq (qlv (b := decide ((n'.Ac.length : Int) > 3000)) aL), trivial⟩
   rintro _ _ a8
   refine cs rfl rfl hm ?_ ?_ <;> intro bb hm
   exact eE hm
   refine fa rfl (ro (ld r0 rfl rfl (ro (qai rfl ?_))))
   obtain ⟨aU, hm⟩ := qa2 hm
   obtain ⟨s0, aM, hm⟩ := bnd hm
   refine lD (σ := (Int)) ([4,5,7] ++ rg 19 14) [0, 1] (fun i0 => [(19, .int .i64 (i0 : Int))]) (fun t0 => [(5, .int .i64 t0)]) (fun _ => []) (fun _ => True) (fun i0 t0 => Ja7 depth (JaW n) (n'.Aa.drop i0) i0 t0 = some s0) (fun t0 => s0 = Fl.go t0) (fun i0 => n'.Aa.length - i0) 0 _ aM (And.intro qe (And.intro ?_ ?_))
   clear aM
   rintro i0 ac _ aM j0
   conv at aM => whnf
   refine qae rfl ?_
   refine qag ?_ ?_ <;> intro w0
   obtain ⟨e0, aN, aZ⟩ := ltx w0
   rw [aZ, Ja7.eq_2] at aM
   refine qal rfl ?_
   refine RStep.ofN (qac rfl rfl (qcl ae.rd aN) (nn _) (qbq aN) ?_)
   obtain ⟨aW, aV, aP, aO, aQ⟩ := LiR.get ae.rd aN
   obtain ⟨aT, aR, rfl, aS⟩ := Je.out aQ
   refine ro (qaj i0 _ aP rfl aO rfl ?_)
   refine qao rfl fun b7 => ?_
   refine qab r0 rfl ⟨rfl, rfl, (nl rfl), ?_⟩
   refine ro (qah r0 rfl (nl rfl) ?_)
   refine ci aM fun aM => ?_
   refine cb aM fun bf aY aM => cgx (ih aY :) ?_
   refine ci aM fun aM => ?_
   refine cs rfl rfl aM ?_ ?_ <;> intro ba aM
   exact eE (er aM hm)
   refine qap (qcf aN aU) ?_
   exact eR aM (_, _)
   rw [lty w0, Ja7.eq_1] at aM
   refine cT ?_
   exact eM aM _
   rintro t0 _ rfl j0
   replace hm := elg hm
   exact eE hm

def JbO (n : Nat) (n' : Je) : Option (Bool) :=
  (JaW n n' 40).bind fun x4 =>
  some (decide (x4 > 700))
theorem Je0 {n : Nat} {n' : Je} {aa : Option Addr} {ab : Nat} {K : Hp} {r : Bool}
    (hm : JbO n n' = some r) (ae : LiC Je.R K aa ab 4 n'.Aa) :
    Fn Tryz.prog 50 [.agg #[.int .i64 n'.Ab, str n'.Ac, .slice aa n'.Aa.length ab, .int .i64 n'.Ad]] K [] (fun v K' H' => v = .bool r ∧ H' = []) := by
 refine Fn.enter Tryz.func50 Tryz.call50 rfl fun F => ?_
 unfold JbO at hm
 refine qaq ?_
 intro b1
 refine ro (qah r0 rfl (nl rfl) ?_)
 refine cb hm fun x4 q4 hm => cgx (JeZ q4 :) ?_
 exact eE hm

def JbX (n : Nat) (n' : Je) : Option (Bool) :=
  (JbO n n').bind fun x4 =>
  some x4
theorem Je1 {n : Nat} {n' : Je} {aa : Option Addr} {ab : Nat} {K : Hp} {r : Bool}
    (hm : JbX n n' = some r) (ae : LiC Je.R K aa ab 4 n'.Aa) :
    Fn Tryz.prog 21 [.agg #[.int .i64 n'.Ab, str n'.Ac, .slice aa n'.Aa.length ab, .int .i64 n'.Ad]] K [] (fun v K' H' => v = .bool r ∧ H' = []) := by
 refine Fn.enter Tryz.func21 Tryz.call21 rfl fun F => ?_
 unfold JbX at hm
 refine qaq ?_
 intro b1
 refine ro (qah r0 rfl (nl rfl) ?_)
 refine cb hm fun x4 q4 hm => cgx (Je0 q4 :) ?_
 exact eE hm

def JbP (Ar : Jw) : Nat → Int → Int → Option (Int × Int)
  | 0, _, _ => none
  | aN + 1, ac, aL =>
    if decide (aL < (Ar.Ao.length : Int)) then
    (ix Ar.Ao aL).bind fun aO =>
    (ix Ar.Ao aL).bind fun aM =>
    JbP Ar aN (IntKind.i64.wrap (ac + (IntKind.i64.wrap ((aO.Name.length : Int) + (aM.Value.length : Int))))) (IntKind.i64.wrap (aL + 1))
    else
    some (ac, aL)
def Jb4 (n : Nat) (Ar : Jw) : Option (Bool) :=
  (JbP Ar n (IntKind.i64.wrap ((IntKind.i64.wrap ((IntKind.i64.wrap ((Ar.Am.length : Int) + (Ar.An.length : Int))) + (Ar.Ae.length : Int))) + (Ar.Af.length : Int))) 0).bind fun t0 =>
  some (decide (t0.1 ≤ 8000) && decide ((Ar.Ao.length : Int) ≤ 40))
theorem Jfa {n : Nat} {Ar : Jw} {aa : Option Addr} {ab : Nat} {K : Hp} {r : Bool}
    (hm : Jb4 n Ar = some r) (ae : RdC Jq.enc K aa ab 2 Ar.Ao) :
    Fn Tryz.prog 12 [.agg #[str Ar.Am, str Ar.An, str Ar.Ae, str Ar.Af, .slice aa Ar.Ao.length ab]] K [] (fun v K' H' => v = .bool r ∧ H' = []) := by
 refine Fn.enter Tryz.func12 Tryz.call12 rfl fun F => ?_
 unfold Jb4 at hm
 refine qaq ?_
 intro b1
 refine fa rfl (ro (ld r0 rfl rfl (ro (qa3 rfl (fa rfl (ro (ld r0 rfl rfl (ro (qa3 rfl ?_)))))))))
 refine qd0 ?_
 refine fa rfl (ro (ld r0 rfl rfl (ro (qa3 rfl ?_))))
 refine qd0 ?_
 refine fa rfl (ro (ld r0 rfl rfl (ro (qa3 rfl ?_))))
 refine qd0 ?_
 obtain ⟨s0, aM, hm⟩ := bnd hm
 refine lD (σ := (Int × Int)) ([3,4] ++ rg 20 24) [0, 1] (fun _ => []) (fun t0 => [(3, .int .i64 t0.1), (4, .int .i64 t0.2)]) (fun _ => []) (fun _ => True) (fun i0 t0 => JbP Ar i0 t0.1 t0.2 = some s0) (fun t0 => t0 = s0) (fun i0 => i0) n (_, _) aM (And.intro qe (And.intro ?_ ?_))
 clear aM
 rintro i0 ⟨ac, aN⟩ _ aM j0
 dsimp only at aM ⊢
 cases i0 with
 | zero => rw [JbP.eq_1] at aM; cases aM
 | succ i0 =>
  rw [JbP.eq_2] at aM
  refine fa rfl (ro (ld r0 rfl rfl (ro (qai rfl ?_))))
  refine cs rfl rfl aM ?_ ?_ <;> intro aT aM
  refine qal rfl ?_
  refine qa6 ⟨⟨[], false⟩, _, [(_, _)], []⟩ (by kernel_rfl) ⟨Hp.Le.refl _, (pf rfl), ci0⟩ ?_
  refine fa rfl (qan m0 rfl rfl ?_)
  obtain ⟨aS, aR, aO, aM⟩ := ixb aM
  refine qac rfl rfl (qec ae.rd aO) aR (qax rfl aR aO) (qa0 rfl (qec ae.rd aO) (qbp ((aN).toNat) 0 _ _ ae.rd rfl (mp aO) rfl rfl (qih rfl (fa rfl (qan m0 rfl rfl ?_)))))
  obtain ⟨aU, aQ, aP, aM⟩ := ixb aM
  refine qac rfl rfl (qec ae.rd aP) aQ (qax rfl aQ aP) (qa0 rfl (qec ae.rd aP) (qbp ((aN).toNat) 1 _ _ ae.rd rfl (mp aP) rfl rfl (qih rfl ?_)))
  refine qd0 ?_
  refine qd0 ?_
  refine qd0 ?_
  exact eR aM (_, (_, _))
  refine cT ?_
  exact eM aM _
 rintro t0 _ rfl j0
 refine qak rfl ?_
 refine qag ?_ ?_ <;> intro aL
 refine fa rfl (ct aL (ro (ld r0 rfl rfl (ct aL (ro (qai rfl (ct aL (ct aL ?_))))))))
 exact bE (qdp (b := decide ((Ar.Ao.length : Int) ≤ 40)) aL) (eE hm)
 refine cf aL (cf aL (cf aL (cf aL ?_)))
 exact bE (((qaz aL)).symm) (eE hm)

def JbY (rec_ : (Je → Option (Ja))) : List Je → Nat → (List Ja) → Option ((List Ja))
  | [], _, ac => some ac
  | e0 :: aM, i0, ac =>
    (rec_ e0).bind fun aL =>
    (chk (ac.length + [aL].length ≤ lim)).bind fun _ =>
    JbY rec_ aM (i0 + 1) (ac ++ [aL])
def Jb5 : Nat → Je → Option (Ja)
  | 0, _ => none
  | n + 1, n' =>
    (chk (n'.Aa.length ≤ qau)).bind fun _ =>
    (JbY (Jb5 n) n'.Aa 0 []).bind fun t0 =>
    some (⟨n'.Ab, n'.Ac, t0, n'.Ad⟩ : Ja)
theorem Jfp : ∀ {n : Nat} {n' : Je} {aa : Option Addr} {ab : Nat} {K : Hp} {r : Ja}
    (hm : Jb5 n n' = some r) (ae : LiC Je.R K aa ab 4 n'.Aa),
    Fn Tryz.prog 23 [.agg #[.int .i64 n'.Ab, str n'.Ac, .slice aa n'.Aa.length ab, .int .i64 n'.Ad]] K [] (fun v K' H' => ∃ ar_0 : Option Addr, ∃ cr_0 : Nat, ∃ sr_0 : List (List Value), v = .agg #[.int .i64 r.Ab, str r.Ac, .slice ar_0 r.Aa.length cr_0, .int .i64 r.Ad] ∧ (0 < r.Aa.length → Has ar_0) ∧ LR Ja.R K' sr_0 r.Aa ∧ H' = [OwnA ar_0 68 4 cr_0 sr_0]) := by
 intro n
 induction n with
 | zero =>
   intro n' aa ab K r hm ae
   rw [Jb5.eq_1] at hm; cases hm
 | succ n ih =>
   intro n' aa ab K r hm ae
   refine Fn.enter Tryz.func23 Tryz.call23 rfl fun F => ?_
   rw [Jb5.eq_2] at hm
   refine qaq ?_
   intro b1
   refine qao rfl fun b2 => ?_
   refine fa rfl (ro (ld r1 rfl rfl (fa rfl (ro (ld r1 rfl rfl (fa rfl (ro (ld r1 rfl rfl (qam rfl rfl (cT ?_))))))))))
   refine cT (cT ?_)
   refine qao rfl fun b3 => ?_
   refine qab r0 rfl ⟨rfl, rfl, (nl rfl), ?_⟩
   refine fa rfl (ro (ld r2 rfl rfl (ro (qai rfl ?_))))
   obtain ⟨bB, hm⟩ := qa2 hm
   obtain ⟨s0, aT, hm⟩ := bnd hm
   refine qnk (fun _ : Ja => []) 68 4 ?_
   refine lC (σ := ((List Ja)) × Option Addr × Nat × List (List Value)) ([5] ++ rg 16 12) [2, 3, 4] (fun i0 => [(16, .int .i64 (i0 : Int))]) (fun _ => []) (fun (t0, aO, aR, aQ) => [OwnA aO 68 4 aR aQ, Cells b3 68 [.int .i64 n'.Ab, str n'.Ac, .slice aO t0.length aR, .int .i64 n'.Ad]]) (fun zz K1 => match zz with | (t0, aO, aR, aQ) => LR Ja.R K1 aQ t0 ∧ (0 < t0.length → Has aO)) (fun i0 (t0, aO, aR, aQ) => JbY (Jb5 n) (n'.Aa.drop i0) i0 t0 = some s0) (fun (t0, aO, aR, aQ) => t0 = s0) (fun i0 => n'.Aa.length - i0) 0 (_, _, _, _) aT (And.intro qe (And.intro ?_ ?_))
   clear aT
   rintro i0 ⟨ac, bg, bb, bt⟩ bJ bv ⟨aV, ba⟩ aT j0
   conv at aT => whnf
   refine qae rfl ?_
   refine qag ?_ ?_ <;> intro w0
   obtain ⟨e0, aX, bz⟩ := ltx w0
   rw [bz, JbY.eq_2] at aT
   refine qal rfl ?_
   refine RStep.ofN (qac rfl rfl (qcl (LiC.mono Je.R_ok bv ae).rd aX) (nn _) (qbq aX) ?_)
   obtain ⟨bC, bD, a8, aZ, aY⟩ := LiR.get (LiC.mono Je.R_ok bv ae).rd aX
   obtain ⟨bj, bh, rfl, bn⟩ := Je.out aY
   refine ro (qaj i0 _ a8 rfl aZ rfl ?_)
   refine qao rfl fun b5 => ?_
   refine qab r0 rfl ⟨rfl, rfl, (nl rfl), ?_⟩
   refine qbe ⟨⟨[], false⟩, _, [(_, _), (_, _)], []⟩ 5 rfl (by kernel_rfl) ⟨Hp.Le.refl _, (sc [2,0] rfl), ci0⟩ ?_
   refine fa rfl (qan m0 rfl rfl (qb9 m1 rfl (nl rfl) ?_))
   refine cb aT fun aP bw aT => cfx (ih bw :) ?_
   rintro _ bN _ bf ⟨aN, aM, bu, rfl, bp, aU, rfl⟩
   refine qk (sc [3,1] rfl) ?_
   refine qAh Ja.R_ok r0 aU fun aW aS aL => ?_
   refine qz8 (R := Ja.R) (len := 1) (l := [aP]) (css := [[.int .i64 aP.Ab, str aP.Ac, .slice aN aP.Aa.length aM, .int .i64 aP.Ad]]) (cl := [.int .i64 aP.Ab, str aP.Ac, .slice aN aP.Aa.length aM, .int .i64 aP.Ad]) Ja.R_ok qt9 rfl rfl (LR.snoc LR.nil (Ja.of (x := aP) ⟨aN, aM, rfl, aL⟩)) rfl rfl rfl ?_ fun bG => ?_
   · conv => whnf
     refine cT ?_
     first | done | rfl
   refine ⟨⟨(bf.trans aS), (sc [3,1] rfl), ci0⟩, ?_⟩
   obtain ⟨bA, aT⟩ := qa2 aT
   refine qAf r2 (LR.mono Ja.R_ok (bf.trans aS) aV) rfl qt9 (qrg rfl r0 rfl Ja.R_ok (show LR Ja.R _ [[.int .i64 aP.Ab, str aP.Ac, .slice aN aP.Aa.length aM, .int .i64 aP.Ad]] [aP] from (LR.snoc LR.nil (Ja.of (x := aP) ⟨aN, aM, rfl, aL⟩)))) (show LR Ja.R _ [[.int .i64 aP.Ab, str aP.Ac, .slice aN aP.Aa.length aM, .int .i64 aP.Ad]] [aP] from (LR.snoc LR.nil (Ja.of (x := aP) ⟨aN, aM, rfl, aL⟩))) bA ?_
   intro bK bI bM r_25 bH
   refine ⟨⟨Hp.emp_le _, (pf rfl), ci0⟩, ?_⟩
   refine fa rfl ?_
   refine qab r3 rfl ⟨rfl, rfl, (nl rfl), ?_⟩
   refine ⟨⟨Hp.emp_le _, (pf rfl), ci0⟩, ?_⟩
   refine qap (qcf aX bB) ?_
   exact eR aT (_, _, _, _, _)
   rw [lty w0, JbY.eq_1] at aT
   refine cT ?_
   exact eM aT (_, _, _, _)
   rintro ⟨t0, aO, aR, aQ⟩ bL bF ⟨bo, bm⟩ rfl j0
   refine ro (qah r1 rfl (nl rfl) ?_)
   refine qab r2 rfl ⟨rfl, rfl, (nl rfl), ?_⟩
   exact ro (qah r0 rfl (nl rfl) (eE hm))

def JaE (depth : Int) (rec_ : (Ja → Int → Int → Option (Bool × Int))) : List Ja → Nat → Int → Option (Fl (Bool × Int) (Int))
  | [], _, ac => some (Fl.go ac)
  | e0 :: aM, i0, ac =>
    (chk (InI (depth - 1))).bind fun _ =>
    (rec_ e0 ac (depth - 1)).bind fun aL =>
    if (!aL.1) then
    some (Fl.ret (false, aL.2))
    else
    JaE depth rec_ aM (i0 + 1) aL.2
def JaC : Nat → Ja → Int → Int → Option (Bool × Int)
  | 0, _, _, _ => none
  | n + 1, n', nodes, depth =>
    (chk (InI (nodes - 1))).bind fun _ =>
    if (decide ((nodes - 1) < 0) || decide (depth < 1)) then
    some (false, (nodes - 1))
    else
    (chk (n'.Aa.length ≤ qau)).bind fun _ =>
    (JaE depth (JaC n) n'.Aa 0 (nodes - 1)).bind fun s0 => s0.el some fun t0 =>
    some (true, t0)
theorem Jei : ∀ {n : Nat} {n' : Ja} {nodes : Int} {depth : Int} {aa : Option Addr} {ab : Nat} {b1 : Nat} {K : Hp} {r : Bool × Int}
    (hm : JaC n n' nodes depth = some r) (ae : LiC Ja.R K aa ab 4 n'.Aa),
    Fn Tryz.prog 124 [.agg #[.int .i64 n'.Ab, str n'.Ac, .slice aa n'.Aa.length ab, .int .i64 n'.Ad], .pointer (some ⟨b1, 0, none⟩), .int .i64 depth] K [Cells b1 3 [.int .i64 nodes]] (fun v K' H' => v = .bool r.1 ∧ H' = [Cells b1 3 [.int .i64 r.2]]) := by
 intro n
 induction n with
 | zero =>
   intro n' nodes depth aa ab b1 K r hm ae
   rw [JaC.eq_1] at hm; cases hm
 | succ n ih =>
   intro n' nodes depth aa ab b1 K r hm ae
   refine Fn.enter Tryz.func124 Tryz.call124 rfl fun F => ?_
   rw [JaC.eq_2] at hm
   refine qaq ?_
   intro b3
   refine qaf (ro (ld r1 rfl rfl ?_))
   obtain ⟨aW, hm⟩ := qa2 hm
   refine qap aW (qaf ?_)
   refine qab r1 rfl ⟨rfl, rfl, (nl rfl), ?_⟩
   refine jR (σ := Unit) (rg 14 8) (fun _ => [(21, .bool (decide ((nodes - 1) < 0) || decide (depth < 1)))]) (fun aX => True) ?_ ?_
   refine qak rfl ?_
   refine qaf (ro (ld r0 rfl rfl ?_))
   refine qag ?_ ?_ <;> intro aL
   refine ct aL (ct aL ?_)
   exact eMt () ⟨bq (((qdo aL)).symm), trivial⟩
   refine cf aL (cf aL ?_)
   exact eMt () ⟨bq (qlv (b := decide (depth < 1)) aL), trivial⟩
   rintro _ _ a8
   refine cs rfl rfl hm ?_ ?_ <;> intro bf hm
   exact eE hm
   refine fa rfl (ro (ld r1 rfl rfl (ro (qai rfl ?_))))
   obtain ⟨aV, hm⟩ := qa2 hm
   obtain ⟨s0, aM, hm⟩ := bnd hm
   refine lD (σ := (Int)) ([6,8] ++ rg 25 11) [1, 2] (fun i0 => [(25, .int .i64 (i0 : Int))]) (fun _ => []) (fun t0 => [Cells b1 3 [.int .i64 t0]]) (fun _ => True) (fun i0 t0 => JaE depth (JaC n) (n'.Aa.drop i0) i0 t0 = some s0) (fun t0 => s0 = Fl.go t0) (fun i0 => n'.Aa.length - i0) 0 _ aM (And.intro qe (And.intro ?_ ?_))
   clear aM
   rintro i0 ac _ aM j0
   conv at aM => whnf
   refine qae rfl ?_
   refine qag ?_ ?_ <;> intro w0
   obtain ⟨e0, aN, aZ⟩ := ltx w0
   rw [aZ, JaE.eq_2] at aM
   refine qal rfl ?_
   refine RStep.ofN (qac rfl rfl (qcl ae.rd aN) (nn _) (qbq aN) ?_)
   obtain ⟨aY, aU, aO, aP, aQ⟩ := LiR.get ae.rd aN
   obtain ⟨aS, aR, rfl, aT⟩ := Ja.out aQ
   refine ro (qaj i0 _ aO rfl aP rfl ?_)
   refine qao rfl fun b8 => ?_
   refine qab r0 rfl ⟨rfl, rfl, (nl rfl), ?_⟩
   refine ro (qah r0 rfl (nl rfl) ?_)
   refine ci aM fun aM => ?_
   refine cb aM fun bb ba aM => cgx (ih ba :) ?_
   refine qay ?_
   refine cs rfl rfl aM ?_ ?_ <;> intro bg aM
   exact eE (er aM hm)
   refine qap (qcf aN aV) ?_
   exact eR aM (_, _)
   rw [lty w0, JaE.eq_1] at aM
   refine cT ?_
   exact eM aM _
   rintro t0 _ rfl j0
   replace hm := elg hm
   exact eE hm

def JaF (kind : Int) (text : Str) : Option (Bool) :=
  if decide (text = ([61, 61] : Str)) then
  some (decide (kind = 4))
  else
  if decide (text = ([33, 61] : Str)) then
  some (decide (kind = 4))
  else
  if decide (text = ([60] : Str)) then
  some (decide (kind = 4))
  else
  if decide (text = ([60, 61] : Str)) then
  some (decide (kind = 4))
  else
  if decide (text = ([115, 116, 97, 114, 116, 115] : Str)) then
  some (decide (kind = 1))
  else
  if decide (text = ([101, 110, 100, 115] : Str)) then
  some (decide (kind = 1))
  else
  if decide (text = ([99, 111, 110, 116, 97, 105, 110, 115] : Str)) then
  some (decide (kind = 1))
  else
  some false
theorem JcG {kind : Int} {text : Str} {K : Hp} {r : Bool}
    (hm : JaF kind text = some r)  :
    Fn Tryz.prog 222 [.int .i64 kind, str text] K [] (fun v K' H' => v = .bool r ∧ H' = []) := by
 refine Fn.enter Tryz.func222 Tryz.call222 rfl fun F => ?_
 unfold JaF at hm
 refine qal rfl ?_
 refine qat (cs rfl rfl hm ?_ ?_) <;> intro w6 hm
 refine qae rfl (ct w6 (qad ?_))
 exact eE hm
 refine qat (cs rfl rfl hm ?_ ?_) <;> intro w6 hm
 refine qae rfl (ct w6 (qad ?_))
 exact eE hm
 refine qat (cs rfl rfl hm ?_ ?_) <;> intro w6 hm
 refine qae rfl (ct w6 (qad ?_))
 exact eE hm
 refine qat (cs rfl rfl hm ?_ ?_) <;> intro w6 hm
 refine qad ?_
 exact eE hm
 refine qat (cs rfl rfl hm ?_ ?_) <;> intro aL hm
 refine qae rfl (ct aL (qad ?_))
 exact eE hm
 refine qat (cs rfl rfl hm ?_ ?_) <;> intro aL hm
 refine qae rfl (ct aL (qad ?_))
 exact eE hm
 refine qat (cs rfl rfl hm ?_ ?_) <;> intro aL hm
 refine qad ?_
 exact eE hm
 exact eE hm

def Jat : List UInt8 → Nat → Option (Fl (Bool) (Unit))
  | [], _ => some (Fl.go ())
  | e0 :: aM, i0 =>
    (if decide ((e0.toNat : Int) < 48) then some true else some (decide ((e0.toNat : Int) > 57))).bind fun aL =>
    if aL then
    some (Fl.ret false)
    else
    Jat aM (i0 + 1)
def Jbu (s : Str) : Option (Bool) :=
  (chk (s.length ≤ qau)).bind fun _ =>
  (Jat s 0).bind fun s0 => s0.el some fun t0 =>
  some (decide ((s.length : Int) ≥ 1) && decide ((s.length : Int) ≤ 9))
theorem JdW {s : Str} {K : Hp} {r : Bool}
    (hm : Jbu s = some r)  :
    Fn Tryz.prog 223 [str s] K [] (fun v K' H' => v = .bool r ∧ H' = []) := by
 refine Fn.enter Tryz.func223 Tryz.call223 rfl fun F => ?_
 unfold Jbu at hm
 refine ro (qa3 rfl ?_)
 obtain ⟨aR, hm⟩ := qa2 hm
 obtain ⟨s0, aN, hm⟩ := bnd hm
 refine lD (σ := (Unit)) ([2,3] ++ rg 6 14) [0] (fun i0 => [(6, .int .i64 (i0 : Int))]) (fun _ => []) (fun _ => []) (fun _ => True) (fun i0 _ => Jat (s.drop i0) i0 = some s0) (fun t0 => s0 = Fl.go t0) (fun i0 => s.length - i0) 0 () aN (And.intro qe (And.intro ?_ ?_))
 clear aN
 rintro i0 _ _ aN j0
 conv at aN => whnf
 refine qae rfl ?_
 refine qag ?_ ?_ <;> intro w0
 obtain ⟨e0, aP, aS⟩ := ltx w0
 rw [aS, Jat.eq_2] at aN
 refine qal rfl ?_
 refine qak rfl ?_
 refine qba rfl (nn _) aP ?_
 obtain ⟨aT, aO, aN⟩ := bnd aN
 refine cS aO (fun aL aO => ?_) fun aL aO => ?_
 refine ct aL (ct aL (ct aL (ct aL (qae rfl (cT ?_)))))
 replace aN := ift (si aO).symm aN
 exact eE (er aN hm)
 refine cf aL (cf aL (qba rfl (nn _) aP (cf aL (cf aL (qae rfl ?_)))))
 refine qag ?_ ?_ <;> intro aQ
 replace aN := ift ((si aO).symm.trans aQ) aN
 exact eE (er aN hm)
 replace aN := qbo ((si aO).symm.trans aQ) aN
 refine qap (qcf aP aR) ?_
 exact eR aN (_, ())
 rw [lty w0, Jat.eq_1] at aN
 refine cT ?_
 exact eM aN _
 rintro t0 _ rfl j0
 replace hm := elg hm
 refine qak rfl ?_
 refine ro (qa3 rfl ?_)
 refine qag ?_ ?_ <;> intro aM
 refine ct aM (ro (qa3 rfl (ct aM (ct aM ?_))))
 exact bE (qdp (b := decide ((s.length : Int) ≤ 9)) aM) (eE hm)
 refine cf aM (cf aM (cf aM ?_))
 exact bE (((qaz aM)).symm) (eE hm)

def Jau (s : Str) : Option (Bool) :=
  (JbM s).bind fun x7 =>
  some x7.2.isNone
theorem JbZ {s : Str} {K : Hp} {r : Bool}
    (hm : Jau s = some r)  :
    Fn Tryz.prog 158 [str s] K [] (fun v K' H' => v = .bool r ∧ H' = []) := by
 refine Fn.enter Tryz.func158 Tryz.call158 rfl fun F => ?_
 unfold Jau at hm
 refine cb hm fun x7 q7 hm => cg0 (Jdo q7 :) ?_
 refine qft rfl ?_
 exact eE hm

def JbS (c : UInt8) : Option (Bool) :=
  some ((decide ((c.toNat : Int) ≥ 97) && decide ((c.toNat : Int) ≤ 122)) || decide ((c.toNat : Int) = 95))
theorem Jda {c : UInt8} {K : Hp} {r : Bool}
    (hm : JbS c = some r)  :
    Fn Tryz.prog 248 [.int .u8 (c.toNat : Int)] K [] (fun v K' H' => v = .bool r ∧ H' = []) := by
 refine Fn.enter Tryz.func248 Tryz.call248 rfl fun F => ?_
 unfold JbS at hm
 refine qak rfl ?_
 refine qag ?_ ?_ <;> intro aL
 refine ct aL (ct aL ?_)
 refine qag ?_ ?_ <;> intro aM
 refine ct aM (ct aM ?_)
 exact bE (((qdo (qb7 aL aM))).symm) (eE hm)
 refine cf aM (qad (cf aM ?_))
 exact bE (qlv (b := decide ((c.toNat : Int) = 95)) (qcx aL aM)) (eE hm)
 refine cf aL (cf aL (cF (cF (qad (cF ?_)))))
 exact bE (qlv (b := decide ((c.toNat : Int) = 95)) (qaz aL)) (eE hm)

def JbA (c : UInt8) : Option (Bool) :=
  some (decide ((c.toNat : Int) ≥ 48) && decide ((c.toNat : Int) ≤ 57))
theorem JcE {c : UInt8} {K : Hp} {r : Bool}
    (hm : JbA c = some r)  :
    Fn Tryz.prog 249 [.int .u8 (c.toNat : Int)] K [] (fun v K' H' => v = .bool r ∧ H' = []) := by
 refine Fn.enter Tryz.func249 Tryz.call249 rfl fun F => ?_
 unfold JbA at hm
 refine qak rfl ?_
 refine qag ?_ ?_ <;> intro aL
 refine ct aL (ct aL ?_)
 exact bE (qdp (b := decide ((c.toNat : Int) ≤ 57)) aL) (eE hm)
 refine cf aL (cf aL ?_)
 exact bE (((qaz aL)).symm) (eE hm)

def JaQ (s : Str) : Nat → Str → Int → Option (Fl (Int × Str) (Str × Int))
  | 0, _, _ => none
  | aN + 1, ac, aL =>
    if decide (aL < (s.length : Int)) then
    (ix s aL).bind fun aM =>
    if decide ((aM.toNat : Int) = 34) then
    (chk (InI (aL + 1))).bind fun _ =>
    some (Fl.ret ((aL + 1), ac))
    else
    if decide ((aM.toNat : Int) = 92) then
    (chk (InI (aL + 1))).bind fun _ =>
    if decide ((aL + 1) = (s.length : Int)) then
    some (Fl.ret (0, ([] : Str)))
    else
    (ix s (aL + 1)).bind fun aR =>
    (if decide ((aR.toNat : Int) ≠ 34) then (ix s (aL + 1)).bind fun aQ =>
    some (decide ((aQ.toNat : Int) ≠ 92)) else some false).bind fun aP =>
    if aP then
    some (Fl.ret (0, ([] : Str)))
    else
    (ix s (aL + 1)).bind fun aO =>
    (chk (ac.length + ([aO] : Str).length ≤ lim)).bind fun _ =>
    (chk (InI ((aL + 1) + 1))).bind fun _ =>
    JaQ s aN (ac ++ ([aO] : Str)) ((aL + 1) + 1)
    else
    if (decide ((aM.toNat : Int) < 32) || decide ((aM.toNat : Int) > 126)) then
    some (Fl.ret (0, ([] : Str)))
    else
    (chk (ac.length + ([aM] : Str).length ≤ lim)).bind fun _ =>
    (chk (InI (aL + 1))).bind fun _ =>
    JaQ s aN (ac ++ ([aM] : Str)) (aL + 1)
    else
    some (Fl.go (ac, aL))
def Jcy (n : Nat) (s : Str) : Option (Int × Str) :=
  (JaQ s n [] 1).bind fun s0 => s0.el some fun t0 =>
  some (0, ([] : Str))
theorem Jej {n : Nat} {s : Str} {K : Hp} {r : Int × Str}
    (hm : Jcy n s = some r)  :
    Fn Tryz.prog 250 [str s] K [] (fun v K' H' => v = .tuple #[.int .i64 r.1, str r.2] ∧ H' = []) := by
 refine Fn.enter Tryz.func250 Tryz.call250 rfl fun F => ?_
 unfold Jcy at hm
 obtain ⟨s0, aL, hm⟩ := bnd hm
 refine qnk eU 5 1 ?_
 refine lD (σ := (Str × Int) × Option Addr × Nat) (rg 2 56) [1] (fun _ => []) (fun (t0, aP, aQ) => [(4, .slice aP t0.1.length aQ), (5, .int .i64 t0.2)]) (fun (t0, aP, aQ) => [OwnL eU aP 5 1 aQ t0.1]) (fun (t0, aP, aQ) => (0 < t0.1.length → Has aP) ∧ True) (fun i0 (t0, aP, aQ) => JaQ s i0 t0.1 t0.2 = some s0) (fun (t0, aP, aQ) => s0 = Fl.go t0) (fun i0 => i0) n ((_, _), _, _) aL (And.intro qe (And.intro ?_ ?_))
 clear aL
 rintro i0 ⟨⟨ac, bn⟩, bh, bb⟩ ⟨aW, _⟩ aL j0
 dsimp only at aL ⊢
 cases i0 with
 | zero => rw [JaQ.eq_1] at aL; cases aL
 | succ i0 =>
  rw [JaQ.eq_2] at aL
  refine ro (qa3 rfl ?_)
  refine cs rfl rfl aL ?_ ?_ <;> intro bD aL
  refine qal rfl ?_
  obtain ⟨aX, bm, bo, aL⟩ := ixb aL
  refine qba rfl bm bo ?_
  refine qal rfl ?_
  refine qad (cs rfl rfl aL ?_ ?_) <;> intro bz aL
  refine qa6 ⟨⟨[], false⟩, _, [], []⟩ (by kernel_rfl) ⟨Hp.Le.refl _, (pf rfl), ci0⟩ ?_
  refine ci aL fun aL => ?_
  refine qii rfl r0 rfl rfl rfl ?_
  exact eE (er aL hm)
  refine qad (cs rfl rfl aL ?_ ?_) <;> intro bA aL
  refine ci aL fun aL => ?_
  refine qak rfl ?_
  refine ro (qa3 rfl (qad ?_))
  refine cS aL (fun aM aL => ?_) fun aM aL => ?_
  refine ct aM (ct aM (ct aM (ct aM (ct aM (ct aM (qae rfl (cT ?_)))))))
  exact eE (er aL hm)
  refine cf aM (cf aM ?_)
  obtain ⟨bB, bv, bp, aL⟩ := ixb aL
  refine qba rfl bv bp (cf aM (qbd (cf aM ?_)))
  obtain ⟨bw, aR, aL⟩ := bnd aL
  refine cS aR (fun aN aR => ?_) fun aN aR => ?_
  refine ct aN (ct aN ?_)
  obtain ⟨bC, bu, bt, aR⟩ := ixb aR
  refine qba rfl bu bt (ct aN (qbd (cf aM (ct aN (cf aM (qae rfl ?_))))))
  refine qag ?_ ?_ <;> intro aY
  replace aL := ift ((si aR).symm.trans aY) aL
  exact eE (er aL hm)
  replace aL := qbo ((si aR).symm.trans aY) aL
  obtain ⟨aT, aV, aU, aL⟩ := ixb aL
  refine qba rfl aV aU ?_
  refine bsO (len := 1) (enc := eU) (l := ([aT] : Str)) (cl := [.int .u8 (aT.toNat : Int)]) qb3 rfl rfl (fun _ _ => rfl) rfl rfl rfl ?_ fun bg => ?_
  · conv => whnf
    refine cT ?_
    first | done | rfl
  obtain ⟨aS, aL⟩ := qa2 aL
  refine apE rfl r1 qb3 (qa5 rfl r0 rfl (fun _ => rfl) (fun _ => rfl)) aS ?_
  intro bf ba a8
  refine ci aL fun aL => ?_
  exact eR aL (_, (_, _), _, _)
  refine cf aN (cf aN (cf aN (cf aM (cf aN (cf aM (qae rfl (cF ?_)))))))
  replace aL := qbo (si aR).symm aL
  obtain ⟨aT, aV, aU, aL⟩ := ixb aL
  refine qba rfl aV aU ?_
  refine bsO (len := 1) (enc := eU) (l := ([aT] : Str)) (cl := [.int .u8 (aT.toNat : Int)]) qb3 rfl rfl (fun _ _ => rfl) rfl rfl rfl ?_ fun bg => ?_
  · conv => whnf
    refine cT ?_
    first | done | rfl
  obtain ⟨aS, aL⟩ := qa2 aL
  refine apE rfl r1 qb3 (qa5 rfl r0 rfl (fun _ => rfl) (fun _ => rfl)) aS ?_
  intro bf ba a8
  refine ci aL fun aL => ?_
  exact eR aL (_, (_, _), _, _)
  refine qak rfl ?_
  refine qag ?_ ?_ <;> intro aO
  refine ct aO (ct aO (qae rfl (cT ?_)))
  replace aL := ift (qdo aO) aL
  exact eE (er aL hm)
  refine cf aO (cf aO (qae rfl ?_))
  refine qag ?_ ?_ <;> intro bj
  replace aL := ift (qkj aO bj) aL
  exact eE (er aL hm)
  replace aL := qbo (qhn aO bj) aL
  refine bsO (len := 1) (enc := eU) (l := ([aX] : Str)) (cl := [.int .u8 (aX.toNat : Int)]) qb3 rfl rfl (fun _ _ => rfl) rfl rfl rfl ?_ fun bg => ?_
  · conv => whnf
    refine cT ?_
    first | done | rfl
  obtain ⟨aS, aL⟩ := qa2 aL
  refine apE rfl r1 qb3 (qa5 rfl r0 rfl (fun _ => rfl) (fun _ => rfl)) aS ?_
  intro bf ba a8
  refine ci aL fun aL => ?_
  exact eR aL (_, (_, _), _, _)
  refine cT ?_
  exact eM aL (_, _, _)
 rintro ⟨t0, aP, aQ⟩ ⟨aZ, _⟩ rfl j0
 replace hm := elg hm
 exact eE hm

def Jbi (s : Str) : Nat → Int → Option (Int)
  | 0, _ => none
  | aN + 1, aL =>
    if decide (aL < (s.length : Int)) then
    (ix s aL).bind fun aM =>
    (JbS aM).bind fun aO =>
    (if aO then some true else (ix s aL).bind fun aR =>
    (JbA aR).bind fun aP =>
    some aP).bind fun aQ =>
    if aQ then
    (chk (InI (aL + 1))).bind fun _ =>
    Jbi s aN (aL + 1)
    else
    some aL
    else
    some aL
def Jbj (s : Str) : Nat → Int → Option (Int)
  | 0, _ => none
  | aM + 1, aL =>
    (if decide (aL < (s.length : Int)) then (ix s aL).bind fun aP =>
    (JbA aP).bind fun aO =>
    some aO else some false).bind fun aN =>
    if aN then
    (chk (InI (aL + 1))).bind fun _ =>
    Jbj s aM (aL + 1)
    else
    some aL
def Jbk (s : Str) : Nat → Nat → Option (Fl (Int × Int × Str) (Unit))
  | 0, _ => some (Fl.go ())
  | aM + 1, i5 =>
    (ix ([([61, 61] : Str), ([33, 61] : Str), ([60, 61] : Str), ([60] : Str), ([43] : Str), ([45] : Str), ([42] : Str), ([40] : Str), ([41] : Str), ([123] : Str), ([125] : Str), ([44] : Str), ([59] : Str), ([61] : Str)]) (i5 : Int)).bind fun aL =>
    (JS s aL).bind fun aN =>
    if aN then
    some (Fl.ret (4, (aL.length : Int), aL))
    else
    Jbk s aM (i5 + 1)
def Jcp (n : Nat) (s : Str) : Option (Int × Int × Str) :=
  (ix s 0).bind fun av =>
  (JbS av).bind fun aM =>
  if aM then
  (Jbi s n 1).bind fun t1 =>
  (chk (0 ≤ (0 : Int) ∧ (0 : Int) ≤ t1 ∧ t1 ≤ (s.length : Int))).bind fun _ =>
  some (1, t1, (subL s (0 : Int) t1))
  else
  (JbA av).bind fun aN =>
  if aN then
  (Jbj s n 1).bind fun t3 =>
  if decide (t3 > 9) then
  some (0, 0, ([] : Str))
  else
  (chk (0 ≤ (0 : Int) ∧ (0 : Int) ≤ t3 ∧ t3 ≤ (s.length : Int))).bind fun _ =>
  some (2, t3, (subL s (0 : Int) t3))
  else
  if decide ((av.toNat : Int) = 34) then
  (Jcy n s).bind fun aL =>
  some (3, aL.1, aL.2)
  else
  (chk (InI (14 : Int))).bind fun _ =>
  (Jbk s (14 : Int).toNat 0).bind fun s5 => s5.el some fun t5 =>
  some (0, 0, ([] : Str))
theorem JeI {n : Nat} {s : Str} {K : Hp} {r : Int × Int × Str}
    (hm : Jcp n s = some r)  :
    Fn Tryz.prog 224 [str s] K [] (fun v K' H' => v = .tuple #[.int .i64 r.1, .int .i64 r.2.1, str r.2.2] ∧ H' = []) := by
 refine Fn.enter Tryz.func224 Tryz.call224 rfl fun F => ?_
 unfold Jcp at hm
 obtain ⟨av, aZ, bp, hm⟩ := ixb hm
 refine qba rfl aZ bp ?_
 refine qal rfl ?_
 refine cb hm fun bD ba hm => cg0 (Jda ba :) ?_
 refine cs rfl rfl hm ?_ ?_ <;> intro bJ hm
 obtain ⟨s1, aM, hm⟩ := bnd hm
 refine lD (σ := (Int)) ([5] ++ rg 16 18) [0] (fun _ => []) (fun t1 => [(5, .int .i64 t1)]) (fun _ => []) (fun _ => True) (fun i1 t1 => Jbi s i1 t1 = some s1) (fun t1 => t1 = s1) (fun i1 => i1) n _ aM (And.intro qe (And.intro ?_ ?_))
 clear aM
 rintro i1 bg _ aM j1
 conv at aM => whnf
 cases i1 with
 | zero => rw [Jbi.eq_1] at aM; cases aM
 | succ i1 =>
  rw [Jbi.eq_2] at aM
  refine qak rfl ?_
  refine ro (qa3 rfl ?_)
  refine cS aM (fun aL aM => ?_) fun aL aM => ?_
  refine ct aL (ct aL ?_)
  obtain ⟨bB, bm, bt, aM⟩ := ixb aM
  refine qba rfl bm bt (ct aL ?_)
  refine cb aM fun bT bf aM => cg0 (Jda bf :) ?_
  refine ct aL ?_
  obtain ⟨bG, aR, aM⟩ := bnd aM
  refine cS aR (fun aN aR => ?_) fun aN aR => ?_
  refine ct aN (ct aN (ct aN (ct aL (ct aN (ct aL (qae rfl (cT ?_)))))))
  replace aM := ift (si aR).symm aM
  refine qal rfl ?_
  refine ci aM fun aM => ?_
  exact eR aM (_, _)
  refine cf aN (cf aN ?_)
  obtain ⟨bI, bA, aX, aR⟩ := ixb aR
  refine qba rfl bA aX (cf aN ?_)
  refine cb aR fun bK bh aR => cg0 (JcE bh :) ?_
  refine ct aL (cf aN (ct aL (qae rfl ?_)))
  refine qag ?_ ?_ <;> intro aV
  replace aM := ift ((si aR).symm.trans aV) aM
  refine qal rfl ?_
  refine ci aM fun aM => ?_
  exact eR aM (_, _)
  replace aM := qbo ((si aR).symm.trans aV) aM
  refine cT ?_
  exact eM aM _
  refine cf aL (cf aL (cf aL (cf aL (cf aL (cf aL (qae rfl (cF ?_)))))))
  refine cT ?_
  exact eM aM _
 rintro t1 _ rfl j1
 refine qa6 ⟨⟨[], false⟩, _, [], []⟩ (by kernel_rfl) ⟨Hp.Le.refl _, (pf rfl), ci0⟩ ?_
 obtain ⟨bv, hm⟩ := qa2 hm
 refine qgr (lo := none) (hi := (some t1)) rfl bv ?_
 exact eE hm
 refine cb hm fun bL bo hm => cg0 (JcE bo :) ?_
 refine cs rfl rfl hm ?_ ?_ <;> intro bF hm
 obtain ⟨s3, aP, hm⟩ := bnd hm
 refine lD (σ := (Int)) ([5] ++ rg 41 12) [0] (fun _ => []) (fun t3 => [(5, .int .i64 t3)]) (fun _ => []) (fun _ => True) (fun i3 t3 => Jbj s i3 t3 = some s3) (fun t3 => t3 = s3) (fun i3 => i3) n _ aP (And.intro qe (And.intro ?_ ?_))
 clear aP
 rintro i3 bn _ aP j3
 conv at aP => whnf
 cases i3 with
 | zero => rw [Jbj.eq_1] at aP; cases aP
 | succ i3 =>
  rw [Jbj.eq_2] at aP
  refine qak rfl ?_
  refine ro (qa3 rfl ?_)
  obtain ⟨bM, aS, aP⟩ := bnd aP
  refine cS aS (fun aO aS => ?_) fun aO aS => ?_
  refine ct aO (ct aO ?_)
  obtain ⟨bR, bj, bz, aS⟩ := ixb aS
  refine qba rfl bj bz (ct aO ?_)
  refine cb aS fun bP a8 aS => cg0 (JcE a8 :) ?_
  refine ct aO (qae rfl ?_)
  refine qag ?_ ?_ <;> intro aW
  replace aP := ift ((si aS).symm.trans aW) aP
  refine qal rfl ?_
  refine ci aP fun aP => ?_
  exact eR aP (_, _)
  replace aP := qbo ((si aS).symm.trans aW) aP
  refine cT ?_
  exact eM aP _
  refine cf aO (cf aO (cf aO (cf aO (qae rfl (cF ?_)))))
  replace aP := qbo (si aS).symm aP
  refine cT ?_
  exact eM aP _
 rintro t3 _ rfl j3
 refine cs rfl rfl hm ?_ ?_ <;> intro bN hm
 exact eE hm
 refine qa6 ⟨⟨[], false⟩, _, [], []⟩ (by kernel_rfl) ⟨Hp.Le.refl _, (pf rfl), ci0⟩ ?_
 obtain ⟨bu, hm⟩ := qa2 hm
 refine qgr (lo := none) (hi := (some t3)) rfl bu ?_
 exact eE hm
 refine qad (cs rfl rfl hm ?_ ?_) <;> intro bO hm
 refine cb hm fun bC aY hm => cg0 (Jej aY :) ?_
 exact eE hm
 refine bsO (len := 14) (enc := eS) (l := [([61, 61] : Str), ([33, 61] : Str), ([60, 61] : Str), ([60] : Str), ([43] : Str), ([45] : Str), ([42] : Str), ([40] : Str), ([41] : Str), ([123] : Str), ([125] : Str), ([44] : Str), ([59] : Str), ([61] : Str)]) (cl := [str ([61, 61] : Str), str ([33, 61] : Str), str ([60, 61] : Str), str ([60] : Str), str ([43] : Str), str ([45] : Str), str ([42] : Str), str ([40] : Str), str ([41] : Str), str ([123] : Str), str ([125] : Str), str ([44] : Str), str ([59] : Str), str ([61] : Str)]) qka rfl rfl (fun _ _ => rfl) rfl rfl rfl ?_ fun bQ => ?_
 · conv => whnf
   refine cT (cT (cT (cT (cT (cT (cT (cT ?_)))))))
   refine cT (cT (cT (cT (cT (cT ?_)))))
   first | done | rfl
 refine ro (qai rfl ?_)
 obtain ⟨bb, hm⟩ := qa2 hm
 obtain ⟨s5, aQ, hm⟩ := bnd hm
 refine lD (σ := (Unit)) ([2,3,4,10] ++ rg 71 11) [0, 1] (fun i5 => [(71, .int .i64 (i5 : Int))]) (fun _ => []) (fun _ => []) (fun _ => True) (fun i5 _ => Jbk s ((14 : Int).toNat - i5) i5 = some s5) (fun t5 => s5 = Fl.go t5) (fun i5 => (14 : Int).toNat - i5) 0 () aQ (And.intro qe (And.intro ?_ ?_))
 clear aQ
 rintro i5 _ _ aQ j5
 conv at aQ => whnf
 refine qae rfl ?_
 refine qag ?_ ?_ <;> intro w5
 rw [ltn (n := (14 : Int)) w5, Jbk.eq_2] at aQ
 refine qal rfl ?_
 obtain ⟨bH, aU, aT, aQ⟩ := ixb aQ
 refine RStep.ofN (qac rfl rfl (qdj (fun _ => ⟨_, _, rfl⟩) aT) aU (qax rfl aU aT) (ro (qc2 (i := ((i5 : Int)).toNat) (o := 0) r0 rfl aT rfl rfl ?_)))
 refine cb aQ fun bS bw aQ => cg0 (Jbm bw :) ?_
 refine cs rfl rfl aQ ?_ ?_ <;> intro bU aQ
 refine ro (qa3 rfl ?_)
 exact eE (er aQ hm)
 refine qap (qrf w5 bb) ?_
 exact eR aQ (_, ())
 rw [lto (n := (14 : Int)) w5, Jbk.eq_1] at aQ
 refine cT ?_
 exact eM aQ _
 rintro t5 _ rfl j5
 replace hm := elg hm
 exact eE hm
