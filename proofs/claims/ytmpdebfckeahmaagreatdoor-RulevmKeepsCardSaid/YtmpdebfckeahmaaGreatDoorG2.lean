/- Functions of the program: mirrors, and that a call returns what the mirror says. Printed by gen.py. -/
import Derived.Test.YtmpdebfckeahmaaGreatDoorG1
set_option linter.unusedVariables false
set_option linter.unusedSimpArgs false
open Go Go.SL Go.Proofs
noncomputable section
set_option maxRecDepth 1000000
set_option maxHeartbeats 8000000
def JJ (op : Str) (a : Jd) (b : Jd) : Option (Jd × Bool) :=
  if decide (a.kind ≠ b.kind) then
  some ((⟨0, 0, ([] : Str), false⟩ : Jd), false)
  else
  if decide (op = ([43] : Str)) then
  if decide (a.kind = 1) then
  (chk (a.s.length + b.s.length ≤ lim)).bind fun _ =>
  (Jac (a.s ++ b.s)).bind fun aS =>
  some (aS, true)
  else
  (chk (InI (a.n + b.n))).bind fun _ =>
  (JaH (a.n + b.n)).bind fun aP =>
  some (aP, decide (a.kind = 2))
  else
  if decide (op = ([45] : Str)) then
  (chk (InI (a.n - b.n))).bind fun _ =>
  (JaH (a.n - b.n)).bind fun aR =>
  some (aR, decide (a.kind = 2))
  else
  if decide (op = ([42] : Str)) then
  if (!decide (a.kind = 2)) then
  some ((⟨0, 0, ([] : Str), false⟩ : Jd), false)
  else
  (JbV a.n b.n).bind fun aO =>
  some (aO, true)
  else
  if decide (op = ([61, 61] : Str)) then
  (Jat (decide (a.kind = b.kind) && (decide (a.n = b.n) && (decide (a.s = b.s) && (a.At == b.At))))).bind fun aN =>
  some (aN, true)
  else
  if decide (op = ([33, 61] : Str)) then
  (Jat (!(decide (a.kind = b.kind) && (decide (a.n = b.n) && (decide (a.s = b.s) && (a.At == b.At)))))).bind fun aW =>
  some (aW, true)
  else
  if decide (op = ([60] : Str)) then
  (Jat (decide (a.n < b.n))).bind fun aQ =>
  some (aQ, decide (a.kind = 2))
  else
  if decide (op = ([60, 61] : Str)) then
  (Jat (decide (a.n ≤ b.n))).bind fun aT =>
  some (aT, decide (a.kind = 2))
  else
  if decide (op = ([115, 116, 97, 114, 116, 115] : Str)) then
  (JV a.s b.s).bind fun aU =>
  (Jat aU).bind fun aV =>
  some (aV, decide (a.kind = 1))
  else
  if decide (op = ([101, 110, 100, 115] : Str)) then
  (Jbt a.s b.s).bind fun aK =>
  (Jat aK).bind fun aM =>
  some (aM, decide (a.kind = 1))
  else
  (qc2 a.s b.s).bind fun aL =>
  (Jat aL).bind fun aJ =>
  some (aJ, decide (a.kind = 1))
theorem JcW {op : Str} {a : Jd} {b : Jd} {K : Hp} {r : Jd × Bool}
    (hm : JJ op a b = some r) (hG : GG K) :
    Fn Tryz.prog 67 [str op, .agg #[.int .i64 a.kind, .int .i64 a.n, str a.s, .bool a.At], .agg #[.int .i64 b.kind, .int .i64 b.n, str b.s, .bool b.At]] K [] (fun v K' H' => v = .tuple #[.agg #[.int .i64 r.1.kind, .int .i64 r.1.n, str r.1.s, .bool r.1.At], .bool r.2] ∧ H' = []) := by
 refine Fn.enter Tryz.func67 Tryz.call67 rfl fun F => ?_
 unfold JJ at hm
 refine qas ?_
 intro b4
 refine qas ?_
 intro b5
 refine qal rfl fun b6 => ?_
 refine fa rfl (ro (ld r2 rfl rfl (fa rfl (ro (ld r1 rfl rfl (qbf ?_))))))
 refine cs rfl rfl hm ?_ ?_ <;> intro bz hm
 refine qam rfl rfl ?_
 refine qab r0 rfl ⟨rfl, rfl, (nl rfl), ?_⟩
 exact ro (qae r0 rfl (nl rfl) (eE hm))
 refine qa4 ⟨⟨[], false⟩, _, [(_, _)], []⟩ (by kernel_rfl) ⟨Hp.Le.refl _, (sc [2] rfl), ci0⟩ ?_
 refine fa rfl (qao m0 rfl rfl (qaf (fa rfl (qao m0 rfl rfl (qaf ?_)))))
 refine qak rfl ?_
 refine qar (cs rfl rfl hm ?_ ?_) <;> intro bm hm
 refine cs rfl rfl hm ?_ ?_ <;> intro bp hm
 refine fa rfl (ro (ld r2 rfl rfl (fa rfl (ro (ld r1 rfl rfl ?_)))))
 obtain ⟨aV, hm⟩ := qa7 hm
 refine qf1 aV ?_
 refine cb hm fun bh aT hm => cg0 (Jaa aT :) ?_
 refine qab r0 rfl ⟨rfl, rfl, (nl rfl), ?_⟩
 exact ro (qae r0 rfl (nl rfl) (eE hm))
 refine fa rfl (ro (ld r2 rfl rfl (fa rfl (ro (ld r1 rfl rfl ?_)))))
 refine ci hm fun hm => ?_
 refine cb hm fun bv aX hm => cg0 (Ja1 aX :) ?_
 refine qab r0 rfl ⟨rfl, rfl, (nl rfl), ?_⟩
 exact ro (qae r0 rfl (nl rfl) (eE hm))
 refine qar (cs rfl rfl hm ?_ ?_) <;> intro bt hm
 refine fa rfl (ro (ld r2 rfl rfl (fa rfl (ro (ld r1 rfl rfl ?_)))))
 refine ci hm fun hm => ?_
 refine cb hm fun bg aS hm => cg0 (Ja1 aS :) ?_
 refine qab r0 rfl ⟨rfl, rfl, (nl rfl), ?_⟩
 exact ro (qae r0 rfl (nl rfl) (eE hm))
 refine qar (cs rfl rfl hm ?_ ?_) <;> intro bc hm
 refine qax ?_
 refine cs rfl rfl hm ?_ ?_ <;> intro bD hm
 refine qam rfl rfl ?_
 refine qab r0 rfl ⟨rfl, rfl, (nl rfl), ?_⟩
 exact ro (qae r0 rfl (nl rfl) (eE hm))
 refine fa rfl (ro (ld r2 rfl rfl (fa rfl (ro (ld r1 rfl rfl ?_)))))
 refine cb hm fun bn aN hm => cg0 (Jeb aN :) ?_
 refine qab r0 rfl ⟨rfl, rfl, (nl rfl), ?_⟩
 exact ro (qae r0 rfl (nl rfl) (eE hm))
 refine qar (cs rfl rfl hm ?_ ?_) <;> intro bu hm
 refine ro (qae r2 rfl (nl rfl) (ro (qae r1 rfl (nl rfl) ?_)))
 refine qtu (b := (decide (a.kind = b.kind) && (decide (a.n = b.n) && (decide (a.s = b.s) && (a.At == b.At))))) rfl (by kernel_rfl) (by kernel_rfl) (by kernel_rfl) rfl ?_
 refine cb hm fun ba aR hm => cg0 (Jak aR :) ?_
 refine qab r0 rfl ⟨rfl, rfl, (nl rfl), ?_⟩
 exact ro (qae r0 rfl (nl rfl) (eE hm))
 refine qar (cs rfl rfl hm ?_ ?_) <;> intro bf hm
 refine ro (qae r2 rfl (nl rfl) (ro (qae r1 rfl (nl rfl) ?_)))
 refine qsd (b := (decide (a.kind = b.kind) && (decide (a.n = b.n) && (decide (a.s = b.s) && (a.At == b.At))))) rfl (by kernel_rfl) (by kernel_rfl) (by kernel_rfl) rfl ?_
 refine cb hm fun bA aY hm => cg0 (Jak aY :) ?_
 refine qab r0 rfl ⟨rfl, rfl, (nl rfl), ?_⟩
 exact ro (qae r0 rfl (nl rfl) (eE hm))
 refine qar (cs rfl rfl hm ?_ ?_) <;> intro bo hm
 refine fa rfl (ro (ld r2 rfl rfl (fa rfl (ro (ld r1 rfl rfl ?_)))))
 refine cb hm fun bB aZ hm => cg0 (Jak aZ :) ?_
 refine qab r0 rfl ⟨rfl, rfl, (nl rfl), ?_⟩
 exact ro (qae r0 rfl (nl rfl) (eE hm))
 refine qar (cs rfl rfl hm ?_ ?_) <;> intro bb hm
 refine fa rfl (ro (ld r2 rfl rfl (fa rfl (ro (ld r1 rfl rfl ?_)))))
 refine cb hm fun bF a6 hm => cg0 (Jak a6 :) ?_
 refine qab r0 rfl ⟨rfl, rfl, (nl rfl), ?_⟩
 exact ro (qae r0 rfl (nl rfl) (eE hm))
 refine qar (cs rfl rfl hm ?_ ?_) <;> intro br hm
 refine fa rfl (ro (ld r2 rfl rfl (fa rfl (ro (ld r1 rfl rfl ?_)))))
 refine cb hm fun bw aQ hm => cg0 (Ja0 aQ :) ?_
 refine cb hm fun bC aO hm => cg0 (Jak aO :) ?_
 refine qab r0 rfl ⟨rfl, rfl, (nl rfl), ?_⟩
 exact ro (qae r0 rfl (nl rfl) (eE hm))
 refine qar (cs rfl rfl hm ?_ ?_) <;> intro bj hm
 refine fa rfl (ro (ld r2 rfl rfl (fa rfl (ro (ld r1 rfl rfl ?_)))))
 refine cb hm fun aU aJ hm => cg0 (Jdz aJ :) ?_
 refine cb hm fun aW aK hm => cg0 (Jak aK :) ?_
 refine qab r0 rfl ⟨rfl, rfl, (nl rfl), ?_⟩
 exact ro (qae r0 rfl (nl rfl) (eE hm))
 refine fa rfl (ro (ld r2 rfl rfl (fa rfl (ro (ld r1 rfl rfl ?_)))))
 refine cb hm fun a8 aL hm => cg0 (qj2 aL (gg3 hG)) ?_
 refine cb hm fun aP aM hm => cg0 (Jak aM :) ?_
 refine qab r0 rfl ⟨rfl, rfl, (nl rfl), ?_⟩
 exact ro (qae r0 rfl (nl rfl) (eE hm))

def qbq (c : UInt8) : Option (Bool) :=
  if (decide ((c.toNat : Int) ≥ 48) && decide ((c.toNat : Int) ≤ 57)) then
  some true
  else
  if (decide ((c.toNat : Int) ≥ 97) && decide ((c.toNat : Int) ≤ 122)) then
  some true
  else
  if (decide ((c.toNat : Int) ≥ 65) && decide ((c.toNat : Int) ≤ 90)) then
  some true
  else
  (qhp ([33, 35, 36, 37, 38, 39, 42, 43, 45, 46, 94, 95, 96, 124, 126] : Str) c).bind fun aJ =>
  some (decide (aJ ≥ 0))
theorem qfl {c : UInt8} {K : Hp} {r : Bool}
    (hm : qbq c = some r)  :
    Fn Tryz.prog 213 [.int .u8 (c.toNat : Int)] K [] (fun v K' H' => v = .bool r ∧ H' = []) := by
 refine Fn.enter Tryz.func213 Tryz.call213 rfl fun F => ?_
 unfold qbq at hm
 refine qak rfl ?_
 refine jR (σ := Unit) (rg 3 7) (fun _ => [(3, .bool (decide ((c.toNat : Int) ≥ 48) && decide ((c.toNat : Int) ≤ 57)))]) (fun aO => True) ?_ ?_
 refine qaj rfl ?_
 refine qag ?_ ?_ <;> intro aL
 refine ct aL (ct aL ?_)
 exact eMt () ⟨bq (qdh (b := decide ((c.toNat : Int) ≤ 57)) aL), trivial⟩
 refine cf aL (cf aL ?_)
 exact eMt () ⟨bq (((qa0 aL)).symm), trivial⟩
 rintro _ _ aP
 refine cs rfl rfl hm ?_ ?_ <;> intro w3 hm
 refine qad rfl (ct w3 ?_)
 exact eE hm
 refine qaj rfl ?_
 refine qag ?_ ?_ <;> intro aK
 refine ct aK (ct aK (qad rfl ?_))
 refine qag ?_ ?_ <;> intro w3
 replace hm := ift (qb5 aK w3) hm
 refine qad rfl (ct w3 ?_)
 exact eE hm
 replace hm := qbp (qcs aK w3) hm
 refine qaj rfl ?_
 refine qag ?_ ?_ <;> intro aJ
 refine ct aJ (ct aJ (qad rfl ?_))
 refine qag ?_ ?_ <;> intro w3
 replace hm := ift (qb5 aJ w3) hm
 exact eE hm
 replace hm := qbp (qcs aJ w3) hm
 refine cb hm fun aN aM hm => cg0 (qlg aM) ?_
 exact eE hm
 refine cf aJ (cf aJ (qad rfl (cF ?_)))
 replace hm := qbp (qa0 aJ) hm
 refine cb hm fun aN aM hm => cg0 (qlg aM) ?_
 exact eE hm
 refine cf aK (cf aK (qad rfl (cF ?_)))
 replace hm := qbp (qa0 aK) hm
 refine qaj rfl ?_
 refine qag ?_ ?_ <;> intro aJ
 refine ct aJ (ct aJ (qad rfl ?_))
 refine qag ?_ ?_ <;> intro w3
 replace hm := ift (qb5 aJ w3) hm
 exact eE hm
 replace hm := qbp (qcs aJ w3) hm
 refine cb hm fun aN aM hm => cg0 (qlg aM) ?_
 exact eE hm
 refine cf aJ (cf aJ (qad rfl (cF ?_)))
 replace hm := qbp (qa0 aJ) hm
 refine cb hm fun aN aM hm => cg0 (qlg aM) ?_
 exact eE hm

def syntax_Token_L0 : List UInt8 → Nat → Option (Fl (Bool) (Unit))
  | [], _ => some (Fl.go ())
  | e0 :: aJ, i0 =>
    (qbq e0).bind fun av =>
    if (!av) then
    some (Fl.ret false)
    else
    syntax_Token_L0 aJ (i0 + 1)
def qb0 (s : Str) : Option (Bool) :=
  (chk (s.length ≤ qav)).bind fun _ =>
  (syntax_Token_L0 s 0).bind fun s0 => s0.el some fun t0 =>
  some (decide (s ≠ ([] : Str)))
theorem qfm {s : Str} {K : Hp} {r : Bool}
    (hm : qb0 s = some r)  :
    Fn Tryz.prog 183 [str s] K [] (fun v K' H' => v = .bool r ∧ H' = []) := by
 refine Fn.enter Tryz.func183 Tryz.call183 rfl fun F => ?_
 unfold qb0 at hm
 refine ro (qa2 rfl ?_)
 obtain ⟨aM, hm⟩ := qa7 hm
 obtain ⟨s0, aJ, hm⟩ := bnd hm
 refine lD (σ := (Unit)) ([2,3] ++ rg 6 9) [0] (fun i0 => [(6, .int .i64 (i0 : Int))]) (fun _ => []) (fun _ => []) (fun _ => True) (fun i0 _ => syntax_Token_L0 (s.drop i0) i0 = some s0) (fun t0 => s0 = Fl.go t0) (fun i0 => s.length - i0) 0 () aJ (And.intro qe (And.intro ?_ ?_))
 clear aJ
 rintro i0 _ _ aJ j0
 conv at aJ => whnf
 refine qad rfl ?_
 refine qag ?_ ?_ <;> intro w0
 obtain ⟨e0, aK, aN⟩ := ltx w0
 rw [aN, syntax_Token_L0.eq_2] at aJ
 refine qak rfl ?_
 refine qba rfl (nn _) aK ?_
 refine cb aJ fun av aL aJ => cg0 (qfl aL :) ?_
 refine qax ?_
 refine cs rfl rfl aJ ?_ ?_ <;> intro aO aJ
 exact eE (er aJ hm)
 refine qat (qcl aK aM) ?_
 exact eR aJ (_, ())
 rw [lty w0, syntax_Token_L0.eq_1] at aJ
 refine cT ?_
 exact eM aJ _
 rintro t0 _ rfl j0
 replace hm := elg hm
 refine qbz ?_
 exact eE hm

def JcX (s : Str) : Option (Str × Err) :=
  (qb0 s).bind fun x5 =>
  if (!x5) then
  some (([] : Str), (some 8))
  else
  if decide ((s.length : Int) > 64) then
  some (([] : Str), (some 5))
  else
  (Jbw s).bind fun aJ =>
  some (aJ, none)
theorem Je3 {s : Str} {K : Hp} {r : Str × Err}
    (hm : JcX s = some r)  :
    Fn Tryz.prog 150 [str s] K [] (fun v K' H' => v = .tuple #[str r.1, qcu 87 r.2] ∧ H' = []) := by
 refine Fn.enter Tryz.func150 Tryz.call150 rfl fun F => ?_
 unfold JcX at hm
 refine cb hm fun x5 q5 hm => cg0 (qfm q5 :) ?_
 refine qax ?_
 refine cs rfl rfl hm ?_ ?_ <;> intro w6 hm
 refine qa3 rfl ?_
 exact eE hm
 refine ro (qa2 rfl ?_)
 refine cs rfl rfl hm ?_ ?_ <;> intro aL hm
 refine qa3 rfl ?_
 exact eE hm
 refine cb hm fun aK aJ hm => cg0 (JbU aJ :) ?_
 exact eE hm

def JaV : List UInt8 → Nat → Option (Fl (Bool) (Unit))
  | [], _ => some (Fl.go ())
  | e0 :: aL, i0 =>
    (if decide ((e0.toNat : Int) < 32) then some (decide ((e0.toNat : Int) ≠ 9)) else some false).bind fun aJ =>
    (if aJ then some true else some (decide ((e0.toNat : Int) = 127))).bind fun aK =>
    if aK then
    some (Fl.ret true)
    else
    JaV aL (i0 + 1)
def Jb9 (s : Str) : Option (Bool) :=
  (chk (s.length ≤ qav)).bind fun _ =>
  (JaV s 0).bind fun s0 => s0.el some fun t0 =>
  some false
theorem Jex {s : Str} {K : Hp} {r : Bool}
    (hm : Jb9 s = some r)  :
    Fn Tryz.prog 184 [str s] K [] (fun v K' H' => v = .bool r ∧ H' = []) := by
 refine Fn.enter Tryz.func184 Tryz.call184 rfl fun F => ?_
 unfold Jb9 at hm
 refine ro (qa2 rfl ?_)
 obtain ⟨aQ, hm⟩ := qa7 hm
 obtain ⟨s0, aL, hm⟩ := bnd hm
 refine lD (σ := (Unit)) ([2,3] ++ rg 6 20) [0] (fun i0 => [(6, .int .i64 (i0 : Int))]) (fun _ => []) (fun _ => []) (fun _ => True) (fun i0 _ => JaV (s.drop i0) i0 = some s0) (fun t0 => s0 = Fl.go t0) (fun i0 => s.length - i0) 0 () aL (And.intro qe (And.intro ?_ ?_))
 clear aL
 rintro i0 _ _ aL j0
 conv at aL => whnf
 refine qad rfl ?_
 refine qag ?_ ?_ <;> intro w0
 obtain ⟨e0, aO, aR⟩ := ltx w0
 rw [aR, JaV.eq_2] at aL
 refine qak rfl ?_
 refine qaj rfl ?_
 refine qba rfl (nn _) aO ?_
 obtain ⟨aT, aN, aL⟩ := bnd aL
 refine cS aN (fun aK aN => ?_) fun aK aN => ?_
 refine ct aK (ct aK (qba rfl (nn _) aO (ct aK (qbf (ct aK ?_)))))
 obtain ⟨aS, aM, aL⟩ := bnd aL
 refine qag ?_ ?_ <;> intro aJ
 replace aM := ift ((si aN).symm.trans aJ) aM
 refine ct aJ (ct aJ (ct aJ (ct aJ (qad rfl (cT ?_)))))
 replace aL := ift (si aM).symm aL
 exact eE (er aL hm)
 replace aM := qbp ((si aN).symm.trans aJ) aM
 refine cf aJ (cf aJ (qba rfl (nn _) aO (cf aJ (qaf (cf aJ (qad rfl ?_))))))
 refine qag ?_ ?_ <;> intro aP
 replace aL := ift ((si aM).symm.trans aP) aL
 exact eE (er aL hm)
 replace aL := qbp ((si aM).symm.trans aP) aL
 refine qat (qcl aO aQ) ?_
 exact eR aL (_, ())
 refine cf aK (cf aK (cf aK (cf aK ?_)))
 obtain ⟨aS, aM, aL⟩ := bnd aL
 replace aM := qbp (si aN).symm aM
 refine cF (cF (cF (qba rfl (nn _) aO (cF (qaf (cF (qad rfl ?_)))))))
 refine qag ?_ ?_ <;> intro aP
 replace aL := ift ((si aM).symm.trans aP) aL
 exact eE (er aL hm)
 replace aL := qbp ((si aM).symm.trans aP) aL
 refine qat (qcl aO aQ) ?_
 exact eR aL (_, ())
 rw [lty w0, JaV.eq_1] at aL
 refine cT ?_
 exact eM aL _
 rintro t0 _ rfl j0
 replace hm := elg hm
 exact eE hm

def Jcy (s : Str) : Option (Str × Err) :=
  (Jb9 s).bind fun x5 =>
  if x5 then
  some (([] : Str), (some 2))
  else
  (qjh s ([32, 9] : Str)).bind fun x8 =>
  if decide ((x8.length : Int) > 2048) then
  some (([] : Str), (some 5))
  else
  some (x8, none)
theorem JeP {s : Str} {K : Hp} {r : Str × Err}
    (hm : Jcy s = some r)  :
    Fn Tryz.prog 151 [str s] K [] (fun v K' H' => v = .tuple #[str r.1, qcu 87 r.2] ∧ H' = []) := by
 refine Fn.enter Tryz.func151 Tryz.call151 rfl fun F => ?_
 unfold Jcy at hm
 refine cb hm fun x5 q5 hm => cg0 (Jex q5 :) ?_
 refine cs rfl rfl hm ?_ ?_ <;> intro w5 hm
 refine qa3 rfl ?_
 exact eE hm
 refine cb hm fun x8 q8 hm => cg0 (qs8 q8) ?_
 refine ro (qa2 rfl ?_)
 refine cs rfl rfl hm ?_ ?_ <;> intro aJ hm
 refine qa3 rfl ?_
 exact eE hm
 exact eE hm

def Ja4 (av : Str) (value : Str) : List Jc → Nat → (List Jc) → Bool → Option ((List Jc) × Bool)
  | [], _, ab, aJ => some (ab, aJ)
  | e0 :: aK, i0, ab, aJ =>
    (Jbw e0.Name).bind fun aL =>
    if decide (aL ≠ av) then
    (chk (ab.length + [e0].length ≤ lim)).bind fun _ =>
    Ja4 av value aK (i0 + 1) (ab ++ [e0]) aJ
    else
    if (!aJ) then
    (chk (ab.length + [(⟨av, value⟩ : Jc)].length ≤ lim)).bind fun _ =>
    Ja4 av value aK (i0 + 1) (ab ++ [(⟨av, value⟩ : Jc)]) true
    else
    Ja4 av value aK (i0 + 1) ab aJ
def Jdq (f : (List Jc)) (name : Str) (value : Str) : Option ((List Jc)) :=
  (Jbw name).bind fun av =>
  (chk (f.length ≤ qav)).bind fun _ =>
  (Ja4 av value f 0 [] false).bind fun t0 =>
  if (!t0.2) then
  (chk (t0.1.length + [(⟨av, value⟩ : Jc)].length ≤ lim)).bind fun _ =>
  some (t0.1 ++ [(⟨av, value⟩ : Jc)])
  else
  some t0.1
theorem Jfa {f : (List Jc)} {name : Str} {value : Str} {aa : Option Addr} {ac : Nat} {n0 : Nat} {K : Hp} {r : (List Jc)}
    (hm : Jdq f name value = some r) (hX : RdC Jc.enc K aa ac 2 f ∧ n0 = f.length) :
    Fn Tryz.prog 152 [.slice aa n0 ac, str name, str value] K [] (fun v K' H' => ∃ ar_0 : Option Addr, ∃ cr_0 : Nat, v = .slice ar_0 r.length cr_0 ∧ (0 < r.length → Has ar_0) ∧ H' = [OwnL Jc.enc ar_0 77 2 cr_0 r]) := by
 obtain ⟨ae, aX⟩ := hX
 subst aX
 refine Fn.enter Tryz.func152 Tryz.call152 rfl fun F => ?_
 unfold Jdq at hm
 refine cb hm fun av aV hm => cg0 (JbU aV :) ?_
 refine ro (qai rfl ?_)
 obtain ⟨aN, hm⟩ := qa7 hm
 obtain ⟨s0, aL, hm⟩ := bnd hm
 refine ql6 Jc.enc 77 2 ?_
 refine lD (σ := ((List Jc) × Bool) × Option Addr × Nat) ([7,8,10] ++ rg 15 24) [1] (fun i0 => [(15, .int .i64 (i0 : Int))]) (fun (t0, aJ, aK) => [(7, .slice aJ t0.1.length aK), (8, .bool t0.2)]) (fun (t0, aJ, aK) => [OwnL Jc.enc aJ 77 2 aK t0.1]) (fun (t0, aJ, aK) => (0 < t0.1.length → Has aJ) ∧ True) (fun i0 (t0, aJ, aK) => Ja4 av value (f.drop i0) i0 t0.1 t0.2 = some s0) (fun (t0, aJ, aK) => t0 = s0) (fun i0 => f.length - i0) 0 ((_, _), _, _) aL (And.intro qe (And.intro ?_ ?_))
 clear aL
 rintro i0 ⟨⟨ab, aS⟩, aR, aQ⟩ ⟨aO, _⟩ aL j0
 dsimp only at aL ⊢
 refine qad rfl ?_
 refine qag ?_ ?_ <;> intro w0
 obtain ⟨e0, aM, aZ⟩ := ltx w0
 rw [aZ, Ja4.eq_2] at aL
 refine qak rfl ?_
 refine RStep.ofN (qac rfl rfl (qdg ae.rd aM) (nn _) (qbs aM) (ro (qan i0 _ ae.rd rfl (mp aM) rfl ?_)))
 refine qal rfl fun a8 => ?_
 refine qab r0 rfl ⟨rfl, rfl, (nl rfl), ?_⟩
 refine qak rfl ?_
 refine fa rfl (ro (ld r0 rfl rfl ?_))
 refine cb aL fun bh aT aL => cg0 (JbU aT :) ?_
 refine qbz (cs rfl rfl aL ?_ ?_) <;> intro br aL
 refine ro (qae r0 rfl (nl rfl) ?_)
 refine bsO (len := 1) (enc := Jc.enc) (l := [e0]) (cl := [str e0.Name, str e0.Value]) qhx rfl rfl (fun _ _ => rfl) rfl rfl rfl ?_ fun bf => ?_
 · conv => whnf
   refine cT ?_
   first | done | rfl
 obtain ⟨aU, aL⟩ := qa7 aL
 refine apE rfl r2 qhx (qa6 rfl r0 rfl (fun _ => rfl) (fun _ => rfl)) aU ?_
 intro bg bj bp
 refine qat (qcl aM aN) ?_
 exact eR aL (_, (_, _), _, _)
 refine qax ?_
 refine cs rfl rfl aL ?_ ?_ <;> intro ba aL
 refine qam rfl rfl (cT (cT ?_))
 refine bsO (len := 1) (enc := Jc.enc) (l := [(⟨av, value⟩ : Jc)]) (cl := [str av, str value]) qhx rfl rfl (fun _ _ => rfl) rfl rfl rfl ?_ fun bb => ?_
 · conv => whnf
   refine cT ?_
   first | done | rfl
 obtain ⟨aY, aL⟩ := qa7 aL
 refine apE rfl r2 qhx (qa6 rfl r0 rfl (fun _ => rfl) (fun _ => rfl)) aY ?_
 intro bo bm bu
 refine qat (qcl aM aN) ?_
 exact eR aL (_, (_, _), _, _)
 refine qat (qcl aM aN) ?_
 exact eR aL (_, (_, _), _, _)
 rw [lty w0, Ja4.eq_1] at aL
 refine cT ?_
 exact eM aL (_, _, _)
 rintro ⟨t0, aJ, aK⟩ ⟨aP, _⟩ rfl j0
 refine qax ?_
 refine cs rfl rfl hm ?_ ?_ <;> intro bc hm
 refine qam rfl rfl (cT (cT ?_))
 refine bsO (len := 1) (enc := Jc.enc) (l := [(⟨av, value⟩ : Jc)]) (cl := [str av, str value]) qhx rfl rfl (fun _ _ => rfl) rfl rfl rfl ?_ fun bn => ?_
 · conv => whnf
   refine cT ?_
   first | done | rfl
 obtain ⟨aW, hm⟩ := qa7 hm
 refine apE rfl r1 qhx (qa6 rfl r0 rfl (fun _ => rfl) (fun _ => rfl)) aW ?_
 intro bv a6 bt
 exact eE hm
 exact eE hm

def JaR (r' : Je) (s : Str) (x : Jd) : Option (Err × Je) :=
  (cutM s ([58] : Str)).bind fun aL =>
  (JcX aL.2.1).bind fun aJ =>
  if aJ.2.isSome then
  some ((some 8), r')
  else
  if decide (aL.1 = ([118, 97, 114, 121] : Str)) then
  (JG r'.Vary aJ.1).bind fun aM =>
  if (!aM) then
  (chk (r'.Vary.length + [aJ.1].length ≤ lim)).bind fun _ =>
  some (none, (⟨r'.Ae, r'.Af, r'.Ag, (r'.Vary ++ [aJ.1]), r'.Ah, r'.TTL, r'.Ai, r'.Aj, r'.Ak, r'.Al⟩ : Je))
  else
  some (none, r')
  else
  (Jcy x.s).bind fun aK =>
  if aK.2.isSome then
  some (aK.2, r')
  else
  (Jdq r'.Ag aJ.1 aK.1).bind fun aN =>
  some (none, (⟨r'.Ae, r'.Af, aN, r'.Vary, r'.Ah, r'.TTL, r'.Ai, r'.Aj, r'.Ak, r'.Al⟩ : Je))
theorem JcY {r' : Je} {s : Str} {x : Jd} {b0 : Nat} {aa : Option Addr} {ac : Nat} {aj : Option Addr} {al : Nat} {ak : Option Addr} {am : Nat} {aH : TypeId} {az aG : List Value} {K : Hp} {r : Err × Je}
    (hm : JaR r' s x = some r) (hX : (0 < r'.Ag.length → Has aa) ∧ (0 < r'.Vary.length → Has aj) ∧ (0 < r'.Ah.length → Has ak) ∧ GG K) :
    Fn Tryz.prog 114 [.pointer (some ⟨b0, az.length + 0, none⟩), str s, .agg #[.int .i64 x.kind, .int .i64 x.n, str x.s, .bool x.At]] K [qeu b0 aH az aG [str r'.Ae, str r'.Af, .slice aa r'.Ag.length ac, .slice aj r'.Vary.length al, .slice ak r'.Ah.length am, .int .i64 r'.TTL, .int .i64 r'.Ai, .int .i64 r'.Aj, .bool r'.Ak, .bool r'.Al], OwnL Jc.enc aa 77 2 ac r'.Ag, OwnL eS aj 9 1 al r'.Vary, OwnL eS ak 9 1 am r'.Ah] (fun v K' H' => ∃ ar_0 : Option Addr, ∃ cr_0 : Nat, ∃ ar_1 : Option Addr, ∃ cr_1 : Nat, ∃ ar_2 : Option Addr, ∃ cr_2 : Nat, v = qcu 87 r.1 ∧ (0 < r.2.Ag.length → Has ar_0) ∧ (0 < r.2.Vary.length → Has ar_1) ∧ (0 < r.2.Ah.length → Has ar_2) ∧ H' = [qeu b0 aH az aG [str r.2.Ae, str r.2.Af, .slice ar_0 r.2.Ag.length cr_0, .slice ar_1 r.2.Vary.length cr_1, .slice ar_2 r.2.Ah.length cr_2, .int .i64 r.2.TTL, .int .i64 r.2.Ai, .int .i64 r.2.Aj, .bool r.2.Ak, .bool r.2.Al], OwnL Jc.enc ar_0 77 2 cr_0 r.2.Ag, OwnL eS ar_1 9 1 cr_1 r.2.Vary, OwnL eS ar_2 9 1 cr_2 r.2.Ah]) := by
 obtain ⟨ae, aU, aP, hG⟩ := hX
 refine Fn.enter Tryz.func114 Tryz.call114 rfl fun F => ?_
 unfold JaR at hm
 refine qas ?_
 intro b5
 refine cb hm fun ba aW hm => cg0 (qrm aW (gg3 hG)) ?_
 refine cb hm fun aL aZ hm => cg0 (Je3 aZ :) ?_
 refine qbg rfl ?_
 refine cs rfl rfl hm ?_ ?_ <;> intro bg hm
 refine qa3 rfl ?_
 exact eE hm
 refine qar (cs rfl rfl hm ?_ ?_) <;> intro bo hm
 refine qah ?_
 refine qcb (j' := 3) rfl rfl ?_
 refine ro (ld r1 rfl (qid rfl) ?_)
 refine cb hm fun bc aX hm => ck0 (Fn.lend Tryz.call113 (fun aS aN aK => (J9 (v' := aL.1) aX ⟨aK, rfl⟩)) (by exact fun _ _ _ _ h => h)) ?_
 rintro _ _ _ ⟨_, rfl, rfl, rfl⟩
 refine qax ?_
 refine cs rfl rfl hm ?_ ?_ <;> intro bp hm
 refine qah ?_
 refine qcb (j' := 3) rfl rfl ?_
 refine ro (ld r2 rfl (qid rfl) ?_)
 refine bsO (len := 1) (enc := eS) (l := [aL.1]) (cl := [str aL.1]) qfk rfl rfl (fun _ _ => rfl) rfl rfl rfl ?_ fun bj => ?_
 · conv => whnf
   refine cT ?_
   first | done | rfl
 obtain ⟨aY, hm⟩ := qa7 hm
 refine apE rfl r1 qfk (qa6 rfl r0 rfl (fun _ => rfl) (fun _ => rfl)) aY ?_
 intro bh bm bf
 refine qah ?_
 refine qcb (j' := 3) rfl rfl ?_
 refine qdj r3 rfl ?_
 refine ⟨rfl, rfl, (nl rfl), ?_⟩
 exact eE hm
 exact eE hm
 refine fa rfl (ro (ld r0 rfl rfl ?_))
 refine cb hm fun a8 aV hm => cg0 (JeP aV :) ?_
 refine qbg rfl ?_
 refine cs rfl rfl hm ?_ ?_ <;> intro bb hm
 exact eE hm
 refine qah ?_
 refine qcb (j' := 2) rfl rfl ?_
 refine ro (ld r1 rfl (qid rfl) ?_)
 refine cb hm fun bn a6 hm => ck0 (Fn.lend Tryz.call152 (fun aM aO aJ => (Jfa (name := aL.1) (value := a8.1) a6 ⟨aJ, rfl⟩)) (by exact fun _ _ _ _ h => h)) ?_
 rintro _ _ _ ⟨_, rfl, aQ, aR, rfl, aT, rfl⟩
 refine qah ?_
 refine qcb (j' := 2) rfl rfl ?_
 refine qdj r3 rfl ?_
 refine ⟨rfl, rfl, (nl rfl), ?_⟩
 exact eE hm

def JaK (r' : Je) (s : Str) (x : Jd) : Option (Err × Je) :=
  (((if (decide (s = ([112, 97, 115, 115] : Str)) || decide (s = ([116, 111, 107, 101, 110] : Str))) then some true else (JV s ([118, 97, 114, 121, 58] : Str)).bind fun aN =>
  some aN).bind fun aK =>
  if aK then
  some 0
  else
  if (decide (s = ([116, 116, 108] : Str)) || decide (s = ([100, 101, 110, 121] : Str))) then
  some 2
  else
  some 1 : Option (Int))).bind fun aJ =>
  if decide (x.kind ≠ aJ) then
  some ((some 9), r')
  else
  if decide (s = ([112, 97, 116, 104] : Str)) then
  some (none, (⟨x.s, r'.Af, r'.Ag, r'.Vary, r'.Ah, r'.TTL, r'.Ai, r'.Aj, r'.Ak, r'.Al⟩ : Je))
  else
  if decide (s = ([113, 117, 101, 114, 121] : Str)) then
  some (none, (⟨r'.Ae, x.s, r'.Ag, r'.Vary, r'.Ah, r'.TTL, r'.Ai, r'.Aj, r'.Ak, r'.Al⟩ : Je))
  else
  if decide (s = ([116, 97, 103] : Str)) then
  (JG r'.Ah x.s).bind fun aM =>
  if (!aM) then
  (chk (r'.Ah.length + [x.s].length ≤ lim)).bind fun _ =>
  some (none, (⟨r'.Ae, r'.Af, r'.Ag, r'.Vary, (r'.Ah ++ [x.s]), r'.TTL, r'.Ai, r'.Aj, r'.Ak, r'.Al⟩ : Je))
  else
  some (none, r')
  else
  if decide (s = ([116, 116, 108] : Str)) then
  some (none, (⟨r'.Ae, r'.Af, r'.Ag, r'.Vary, r'.Ah, (max 0 x.n), r'.Ai, r'.Aj, r'.Ak, r'.Al⟩ : Je))
  else
  if decide (s = ([100, 101, 110, 121] : Str)) then
  if (decide (x.n < 400) || decide (x.n > 499)) then
  some (none, (⟨r'.Ae, r'.Af, r'.Ag, r'.Vary, r'.Ah, r'.TTL, 403, r'.Aj, r'.Ak, r'.Al⟩ : Je))
  else
  some (none, (⟨r'.Ae, r'.Af, r'.Ag, r'.Vary, r'.Ah, r'.TTL, x.n, r'.Aj, r'.Ak, r'.Al⟩ : Je))
  else
  if decide (s = ([112, 97, 115, 115] : Str)) then
  some (none, (⟨r'.Ae, r'.Af, r'.Ag, r'.Vary, r'.Ah, r'.TTL, r'.Ai, r'.Aj, true, r'.Al⟩ : Je))
  else
  if decide (s = ([116, 111, 107, 101, 110] : Str)) then
  some (none, (⟨r'.Ae, r'.Af, r'.Ag, r'.Vary, r'.Ah, r'.TTL, r'.Ai, r'.Aj, r'.Ak, true⟩ : Je))
  else
  (JaR r' s x).bind fun aL =>
  some (aL.1, aL.2)
theorem Jch {r' : Je} {s : Str} {x : Jd} {b0 : Nat} {aa : Option Addr} {ac : Nat} {aj : Option Addr} {al : Nat} {ak : Option Addr} {am : Nat} {aH : TypeId} {az aG : List Value} {K : Hp} {r : Err × Je}
    (hm : JaK r' s x = some r) (hX : (0 < r'.Ag.length → Has aa) ∧ (0 < r'.Vary.length → Has aj) ∧ (0 < r'.Ah.length → Has ak) ∧ GG K) :
    Fn Tryz.prog 70 [.pointer (some ⟨b0, az.length + 0, none⟩), str s, .agg #[.int .i64 x.kind, .int .i64 x.n, str x.s, .bool x.At]] K [qeu b0 aH az aG [str r'.Ae, str r'.Af, .slice aa r'.Ag.length ac, .slice aj r'.Vary.length al, .slice ak r'.Ah.length am, .int .i64 r'.TTL, .int .i64 r'.Ai, .int .i64 r'.Aj, .bool r'.Ak, .bool r'.Al], OwnL Jc.enc aa 77 2 ac r'.Ag, OwnL eS aj 9 1 al r'.Vary, OwnL eS ak 9 1 am r'.Ah] (fun v K' H' => ∃ ar_0 : Option Addr, ∃ cr_0 : Nat, ∃ ar_1 : Option Addr, ∃ cr_1 : Nat, ∃ ar_2 : Option Addr, ∃ cr_2 : Nat, v = qcu 87 r.1 ∧ (0 < r.2.Ag.length → Has ar_0) ∧ (0 < r.2.Vary.length → Has ar_1) ∧ (0 < r.2.Ah.length → Has ar_2) ∧ H' = [qeu b0 aH az aG [str r.2.Ae, str r.2.Af, .slice ar_0 r.2.Ag.length cr_0, .slice ar_1 r.2.Vary.length cr_1, .slice ar_2 r.2.Ah.length cr_2, .int .i64 r.2.TTL, .int .i64 r.2.Ai, .int .i64 r.2.Aj, .bool r.2.Ak, .bool r.2.Al], OwnL Jc.enc ar_0 77 2 cr_0 r.2.Ag, OwnL eS ar_1 9 1 cr_1 r.2.Vary, OwnL eS ar_2 9 1 cr_2 r.2.Ah]) := by
 obtain ⟨ae, bg, aZ, hG⟩ := hX
 refine Fn.enter Tryz.func70 Tryz.call70 rfl fun F => ?_
 unfold JaK at hm
 refine qas ?_
 intro b5
 obtain ⟨aT, aJ, hm⟩ := bnd hm
 refine jD (σ := (Int)) (rg 7 19) [0, 1, 2, 3, 4, 5] (fun aQ => [(7, .int .i64 aQ)]) (fun aQ => []) (fun aQ => aQ = aT) (And.intro ?_ ?_)
 refine qak rfl ?_
 obtain ⟨aU, aL, aJ⟩ := bnd aJ
 refine jR (σ := Bool) (rg 8 11) (fun aR => [(8, .bool aR)]) (fun aR => aR = aU) ?_ ?_
 replace aL := bsm aL
 refine qaj rfl ?_
 refine qar ?_
 refine qag ?_ ?_ <;> intro aM
 refine ct aM (ct aM ?_)
 obtain ⟨bu, aP, aL⟩ := bnd aL
 replace aP := ift (qds aM) aP
 refine cT (cT (cT ?_))
 exact eMq aL _ ⟨bq (si aP), trivial⟩
 refine cf aM (qar (cf aM ?_))
 obtain ⟨bu, aP, aL⟩ := bnd aL
 refine qag ?_ ?_ <;> intro aO
 replace aP := ift (qi9 aM aO) aP
 refine ct aO (ct aO ?_)
 exact eMq aL _ ⟨bq (si aP), trivial⟩
 replace aP := qbp (qgw aM aO) aP
 refine cf aO ?_
 refine cb aP fun bN br aP => cg0 (Ja0 br :) ?_
 refine cf aO ?_
 exact eMq aL _ ⟨bq (si aP), trivial⟩
 rintro aR rfl bt
 refine cs rfl rfl aJ ?_ ?_ <;> intro w8 aJ
 exact eM aJ _
 refine qaj rfl ?_
 refine qar ?_
 refine qag ?_ ?_ <;> intro aN
 refine ct aN (ct aN (qad rfl (cT ?_)))
 replace aJ := ift (qds aN) aJ
 exact eM aJ _
 refine cf aN (qar (cf aN (qad rfl ?_)))
 refine qag ?_ ?_ <;> intro bf
 replace aJ := ift (qi9 aN bf) aJ
 exact eM aJ _
 replace aJ := qbp (qgw aN bf) aJ
 exact eM aJ _
 rintro aQ rfl bw
 refine fa rfl (ro (ld r0 rfl rfl (qbf ?_)))
 refine cs rfl rfl hm ?_ ?_ <;> intro bF hm
 refine qa3 rfl ?_
 exact eE hm
 refine qak rfl ?_
 refine qar (cs rfl rfl hm ?_ ?_) <;> intro bK hm
 refine fa rfl (ro (ld r0 rfl rfl (qah ?_)))
 refine qcb (j' := 0) rfl rfl ?_
 refine qdj r1 rfl ?_
 refine ⟨rfl, rfl, (nl rfl), ?_⟩
 exact eE hm
 refine qar (cs rfl rfl hm ?_ ?_) <;> intro bB hm
 refine fa rfl (ro (ld r0 rfl rfl (qah ?_)))
 refine qcb (j' := 1) rfl rfl ?_
 refine qdj r1 rfl ?_
 refine ⟨rfl, rfl, (nl rfl), ?_⟩
 exact eE hm
 refine qar (cs rfl rfl hm ?_ ?_) <;> intro bC hm
 refine qa4 ⟨⟨[], false⟩, _, [(_, _), (_, _)], []⟩ (by kernel_rfl) ⟨Hp.Le.refl _, (sc [1,0] rfl), ci0⟩ ?_
 refine qah ?_
 refine qcb (j' := 4) rfl rfl ?_
 refine qao m0 rfl (qid rfl) (fa rfl (qao m1 rfl rfl ?_))
 refine cb hm fun bz bp hm => ck0 (Fn.lend Tryz.call113 (fun bh aV aS => (J9 (v' := x.s) bp ⟨aS, rfl⟩)) (by exact fun _ _ _ _ h => h)) ?_
 rintro _ _ _ ⟨_, rfl, rfl, rfl⟩
 refine qk (sc [2,1] rfl) ?_
 refine qax ?_
 refine cs rfl rfl hm ?_ ?_ <;> intro bM hm
 refine qbm ⟨⟨[], false⟩, _, [(_, _), (_, _)], []⟩ 9 rfl (by kernel_rfl) ⟨Hp.Le.refl _, (sc [2,1] rfl), ci0⟩ ?_
 refine qah ?_
 refine qcb (j' := 4) rfl rfl ?_
 refine qao m0 rfl (qid rfl) (fa rfl (qao m1 rfl rfl ?_))
 refine bsO (len := 1) (enc := eS) (l := [x.s]) (cl := [str x.s]) qfk rfl rfl (fun _ _ => rfl) rfl rfl rfl ?_ fun bL => ?_
 · conv => whnf
   refine cT ?_
   first | done | rfl
 refine qk (sc [3,2] rfl) ?_
 obtain ⟨bv, hm⟩ := qa7 hm
 refine apE rfl r1 qfk (qa6 rfl r0 rfl (fun _ => rfl) (fun _ => rfl)) bv ?_
 intro bO bH bG
 refine qk (sc [3,2] rfl) ?_
 refine qah ?_
 refine qcb (j' := 4) rfl rfl ?_
 refine qdj r3 rfl ?_
 refine ⟨rfl, rfl, (nl rfl), ?_⟩
 refine ⟨⟨Hp.emp_le _, (pf rfl), ci0⟩, ?_⟩
 exact eE hm
 exact eE hm
 refine qar (cs rfl rfl hm ?_ ?_) <;> intro bI hm
 refine fa rfl (ro (ld r0 rfl rfl (ro (qdf (qah ?_)))))
 refine qcb (j' := 5) rfl rfl ?_
 refine qdj r1 rfl ?_
 refine ⟨rfl, rfl, (nl rfl), ?_⟩
 exact eE hm
 refine qar (cs rfl rfl hm ?_ ?_) <;> intro bA hm
 refine fa rfl (ro (ld r0 rfl rfl (qah ?_)))
 refine qcb (j' := 6) rfl rfl ?_
 refine qdj r1 rfl ?_
 refine ⟨rfl, rfl, (nl rfl), ?_⟩
 refine qaj rfl ?_
 refine fa rfl (ro (ld r1 rfl rfl ?_))
 refine qag ?_ ?_ <;> intro aK
 refine ct aK (ct aK (ct aK (qad rfl (cT ?_))))
 replace hm := ift (qds aK) hm
 refine qah ?_
 refine qcb (j' := 6) rfl rfl ?_
 refine qdj r0 rfl ?_
 refine ⟨rfl, rfl, (nl rfl), ?_⟩
 exact eE hm
 refine fa rfl (cf aK (ro (ld r1 rfl rfl (cf aK (cf aK (qad rfl ?_))))))
 refine qag ?_ ?_ <;> intro bb
 replace hm := ift (qi9 aK bb) hm
 refine qah ?_
 refine qcb (j' := 6) rfl rfl ?_
 refine qdj r0 rfl ?_
 refine ⟨rfl, rfl, (nl rfl), ?_⟩
 exact eE hm
 replace hm := qbp (qgw aK bb) hm
 exact eE hm
 refine qar (cs rfl rfl hm ?_ ?_) <;> intro bD hm
 refine qah ?_
 refine qcb (j' := 8) rfl rfl ?_
 refine qdj r1 rfl ?_
 refine ⟨rfl, rfl, (nl rfl), ?_⟩
 exact eE hm
 refine qar (cs rfl rfl hm ?_ ?_) <;> intro bn hm
 refine qah ?_
 refine qcb (j' := 9) rfl rfl ?_
 refine qdj r1 rfl ?_
 refine ⟨rfl, rfl, (nl rfl), ?_⟩
 exact eE hm
 refine ro (qae r0 rfl (nl rfl) ?_)
 refine cb hm fun bJ bo hm => ckx (JcY bo :) ?_
 rintro _ _ _ ⟨a8, aX, bm, aY, a6, aW, rfl, ba, bj, bc, rfl⟩
 exact eE hm

def JbZ (m : Jf) (atZ : Int) (x : Jj) : Option (Int × Err × Jf) :=
  (chk (InI (m.result.Aj + 1))).bind fun _ =>
  if decide ((m.result.Aj + 1) > m.most) then
  some (0, (some 13), (⟨m.Ar, m.most, (⟨m.result.Ae, m.result.Af, m.result.Ag, m.result.Vary, m.result.Ah, m.result.TTL, m.result.Ai, (m.result.Aj + 1), m.result.Ak, m.result.Al⟩ : Je), m.stack, m.Ap⟩ : Jf))
  else
  (chk (InI (atZ + 1))).bind fun _ =>
  if decide (x.Op = 1) then
  (JaH x.N).bind fun bh =>
  (J7 (⟨m.Ar, m.most, (⟨m.result.Ae, m.result.Af, m.result.Ag, m.result.Vary, m.result.Ah, m.result.TTL, m.result.Ai, (m.result.Aj + 1), m.result.Ak, m.result.Al⟩ : Je), m.stack, m.Ap⟩ : Jf) bh false).bind fun aY =>
  some ((atZ + 1), aY.1, (⟨m.Ar, aY.2.most, aY.2.result, aY.2.stack, aY.2.Ap⟩ : Jf))
  else
  if decide (x.Op = 2) then
  (Jac x.S).bind fun bf =>
  (J7 (⟨m.Ar, m.most, (⟨m.result.Ae, m.result.Af, m.result.Ag, m.result.Vary, m.result.Ah, m.result.TTL, m.result.Ai, (m.result.Aj + 1), m.result.Ak, m.result.Al⟩ : Je), m.stack, m.Ap⟩ : Jf) bf false).bind fun aX =>
  some ((atZ + 1), aX.1, (⟨m.Ar, aX.2.most, aX.2.result, aX.2.stack, aX.2.Ap⟩ : Jf))
  else
  if decide (x.Op = 3) then
  (ix m.Ap x.N).bind fun bc =>
  (J7 (⟨m.Ar, m.most, (⟨m.result.Ae, m.result.Af, m.result.Ag, m.result.Vary, m.result.Ah, m.result.TTL, m.result.Ai, (m.result.Aj + 1), m.result.Ak, m.result.Al⟩ : Je), m.stack, m.Ap⟩ : Jf) bc false).bind fun aW =>
  some ((atZ + 1), aW.1, (⟨m.Ar, aW.2.most, aW.2.result, aW.2.stack, aW.2.Ap⟩ : Jf))
  else
  if decide (x.Op = 5) then
  (Jae x.S m.Ar).bind fun bg =>
  (J7 (⟨m.Ar, m.most, (⟨m.result.Ae, m.result.Af, m.result.Ag, m.result.Vary, m.result.Ah, m.result.TTL, m.result.Ai, (m.result.Aj + 1), m.result.Ak, m.result.Al⟩ : Je), m.stack, m.Ap⟩ : Jf) bg false).bind fun aZ =>
  some ((atZ + 1), aZ.1, (⟨m.Ar, aZ.2.most, aZ.2.result, aZ.2.stack, aZ.2.Ap⟩ : Jf))
  else
  if decide (x.Op = 4) then
  (Jaf (⟨m.Ar, m.most, (⟨m.result.Ae, m.result.Af, m.result.Ag, m.result.Vary, m.result.Ah, m.result.TTL, m.result.Ai, (m.result.Aj + 1), m.result.Ak, m.result.Al⟩ : Je), m.stack, m.Ap⟩ : Jf)).bind fun aU =>
  (ix aU.2.Ap x.N).bind fun bj =>
  some ((atZ + 1), none, (⟨m.Ar, aU.2.most, aU.2.result, aU.2.stack, (aU.2.Ap.set ((x.N).toNat) aU.1)⟩ : Jf))
  else
  if decide (x.Op = 6) then
  (Jaf (⟨m.Ar, m.most, (⟨m.result.Ae, m.result.Af, m.result.Ag, m.result.Vary, m.result.Ah, m.result.TTL, m.result.Ai, (m.result.Aj + 1), m.result.Ak, m.result.Al⟩ : Je), m.stack, m.Ap⟩ : Jf)).bind fun aT =>
  (JE x.S aT.1 m.Ar).bind fun a6 =>
  if (!a6.2) then
  some (0, (some 9), (⟨m.Ar, aT.2.most, aT.2.result, aT.2.stack, aT.2.Ap⟩ : Jf))
  else
  (J7 (⟨m.Ar, aT.2.most, aT.2.result, aT.2.stack, aT.2.Ap⟩ : Jf) a6.1 true).bind fun aQ =>
  some ((atZ + 1), aQ.1, (⟨m.Ar, aQ.2.most, aQ.2.result, aQ.2.stack, aQ.2.Ap⟩ : Jf))
  else
  if decide (x.Op = 7) then
  (Jaf (⟨m.Ar, m.most, (⟨m.result.Ae, m.result.Af, m.result.Ag, m.result.Vary, m.result.Ah, m.result.TTL, m.result.Ai, (m.result.Aj + 1), m.result.Ak, m.result.Al⟩ : Je), m.stack, m.Ap⟩ : Jf)).bind fun aR =>
  (Jaf (⟨m.Ar, aR.2.most, aR.2.result, aR.2.stack, aR.2.Ap⟩ : Jf)).bind fun aM =>
  (JJ x.S aM.1 aR.1).bind fun aV =>
  if (!aV.2) then
  some (0, (some 9), (⟨m.Ar, aM.2.most, aM.2.result, aM.2.stack, aM.2.Ap⟩ : Jf))
  else
  (J7 (⟨m.Ar, aM.2.most, aM.2.result, aM.2.stack, aM.2.Ap⟩ : Jf) aV.1 true).bind fun aO =>
  some ((atZ + 1), aO.1, (⟨m.Ar, aO.2.most, aO.2.result, aO.2.stack, aO.2.Ap⟩ : Jf))
  else
  if decide (x.Op = 8) then
  (Jaf (⟨m.Ar, m.most, (⟨m.result.Ae, m.result.Af, m.result.Ag, m.result.Vary, m.result.Ah, m.result.TTL, m.result.Ai, (m.result.Aj + 1), m.result.Ak, m.result.Al⟩ : Je), m.stack, m.Ap⟩ : Jf)).bind fun aL =>
  if decide (aL.1.kind ≠ 3) then
  some (0, (some 9), (⟨m.Ar, aL.2.most, aL.2.result, aL.2.stack, aL.2.Ap⟩ : Jf))
  else
  (Jat (!aL.1.At)).bind fun a8 =>
  (J7 (⟨m.Ar, aL.2.most, aL.2.result, aL.2.stack, aL.2.Ap⟩ : Jf) a8 false).bind fun aP =>
  some ((atZ + 1), aP.1, (⟨m.Ar, aP.2.most, aP.2.result, aP.2.stack, aP.2.Ap⟩ : Jf))
  else
  if decide (x.Op = 9) then
  some (x.N, none, (⟨m.Ar, m.most, (⟨m.result.Ae, m.result.Af, m.result.Ag, m.result.Vary, m.result.Ah, m.result.TTL, m.result.Ai, (m.result.Aj + 1), m.result.Ak, m.result.Al⟩ : Je), m.stack, m.Ap⟩ : Jf))
  else
  if decide (x.Op = 10) then
  (Jaf (⟨m.Ar, m.most, (⟨m.result.Ae, m.result.Af, m.result.Ag, m.result.Vary, m.result.Ah, m.result.TTL, m.result.Ai, (m.result.Aj + 1), m.result.Ak, m.result.Al⟩ : Je), m.stack, m.Ap⟩ : Jf)).bind fun aK =>
  if decide (aK.1.kind ≠ 3) then
  some (0, (some 9), (⟨m.Ar, aK.2.most, aK.2.result, aK.2.stack, aK.2.Ap⟩ : Jf))
  else
  if (!aK.1.At) then
  some (x.N, none, (⟨m.Ar, aK.2.most, aK.2.result, aK.2.stack, aK.2.Ap⟩ : Jf))
  else
  some ((atZ + 1), none, (⟨m.Ar, aK.2.most, aK.2.result, aK.2.stack, aK.2.Ap⟩ : Jf))
  else
  if decide (x.Op = 11) then
  (if (decide (x.S ≠ ([112, 97, 115, 115] : Str)) && decide (x.S ≠ ([116, 111, 107, 101, 110] : Str))) then (JV x.S ([118, 97, 114, 121, 58] : Str)).bind fun ba =>
  some (!ba) else some false).bind fun bb =>
  ((if bb then
  (Jaf (⟨m.Ar, m.most, (⟨m.result.Ae, m.result.Af, m.result.Ag, m.result.Vary, m.result.Ah, m.result.TTL, m.result.Ai, (m.result.Aj + 1), m.result.Ak, m.result.Al⟩ : Je), m.stack, m.Ap⟩ : Jf)).bind fun aN =>
  some (aN.1.kind, aN.1.n, aN.1.s, aN.1.At, (⟨m.Ar, aN.2.most, aN.2.result, aN.2.stack, aN.2.Ap⟩ : Jf))
  else
  some (0, 0, ([] : Str), false, (⟨m.Ar, m.most, (⟨m.result.Ae, m.result.Af, m.result.Ag, m.result.Vary, m.result.Ah, m.result.TTL, m.result.Ai, (m.result.Aj + 1), m.result.Ak, m.result.Al⟩ : Je), m.stack, m.Ap⟩ : Jf)) : Option (Int × Int × Str × Bool × Jf))).bind fun aJ =>
  (JaK aJ.2.2.2.2.result x.S (⟨aJ.1, aJ.2.1, aJ.2.2.1, aJ.2.2.2.1⟩ : Jd)).bind fun aS =>
  if aS.1.isSome then
  some (0, aS.1, (⟨m.Ar, aJ.2.2.2.2.most, aS.2, aJ.2.2.2.2.stack, aJ.2.2.2.2.Ap⟩ : Jf))
  else
  if decide (x.S = ([100, 101, 110, 121] : Str)) then
  some ((-1), none, (⟨m.Ar, aJ.2.2.2.2.most, aS.2, aJ.2.2.2.2.stack, aJ.2.2.2.2.Ap⟩ : Jf))
  else
  some ((atZ + 1), none, (⟨m.Ar, aJ.2.2.2.2.most, aS.2, aJ.2.2.2.2.stack, aJ.2.2.2.2.Ap⟩ : Jf))
  else
  if decide (x.Op = 12) then
  some ((-1), none, (⟨m.Ar, m.most, (⟨m.result.Ae, m.result.Af, m.result.Ag, m.result.Vary, m.result.Ah, m.result.TTL, m.result.Ai, (m.result.Aj + 1), m.result.Ak, m.result.Al⟩ : Je), m.stack, m.Ap⟩ : Jf))
  else
  some ((atZ + 1), none, (⟨m.Ar, m.most, (⟨m.result.Ae, m.result.Af, m.result.Ag, m.result.Vary, m.result.Ah, m.result.TTL, m.result.Ai, (m.result.Aj + 1), m.result.Ak, m.result.Al⟩ : Je), m.stack, m.Ap⟩ : Jf))
theorem Jdl {m : Jf} {atZ : Int} {x : Jj} {b0 : Nat} {aa : Option Addr} {ac : Nat} {aj : Option Addr} {al : Nat} {ak : Option Addr} {am : Nat} {an : Option Addr} {ar : Nat} {au : Option Addr} {aw : Nat} {K : Hp} {r : Int × Err × Jf}
    (hm : JbZ m atZ x = some r) (hX : RdC Jc.enc K aa ac 2 m.Ar.Ao ∧ (0 < m.result.Ag.length → Has aj) ∧ (0 < m.result.Vary.length → Has ak) ∧ (0 < m.result.Ah.length → Has an) ∧ (0 < m.stack.length → Has au) ∧ m.Ap.length = 512 ∧ GG K) :
    Fn Tryz.prog 33 [.pointer (some ⟨b0, 0, none⟩), .int .i64 atZ, .agg #[.int .i64 x.Op, .int .i64 x.N, str x.S]] K [Cells b0 98 ((str m.Ar.Am) :: (str m.Ar.An) :: (str m.Ar.Ae) :: (str m.Ar.Af) :: (.slice aa m.Ar.Ao.length ac) :: (.int .i64 m.most) :: (str m.result.Ae) :: (str m.result.Af) :: (.slice aj m.result.Ag.length al) :: (.slice ak m.result.Vary.length am) :: (.slice an m.result.Ah.length ar) :: (.int .i64 m.result.TTL) :: (.int .i64 m.result.Ai) :: (.int .i64 m.result.Aj) :: (.bool m.result.Ak) :: (.bool m.result.Al) :: (.slice au m.stack.length aw) :: (m.Ap.map Jd.enc).flatten), OwnL Jc.enc aj 77 2 al m.result.Ag, OwnL eS ak 9 1 am m.result.Vary, OwnL eS an 9 1 ar m.result.Ah, OwnL Jd.enc au 95 4 aw m.stack] (fun v K' H' => ∃ ar_0 : Option Addr, ∃ cr_0 : Nat, ∃ ar_1 : Option Addr, ∃ cr_1 : Nat, ∃ ar_2 : Option Addr, ∃ cr_2 : Nat, ∃ ar_3 : Option Addr, ∃ cr_3 : Nat, v = .tuple #[.int .i64 r.1, qcu 87 r.2.1] ∧ (0 < r.2.2.result.Ag.length → Has ar_0) ∧ (0 < r.2.2.result.Vary.length → Has ar_1) ∧ (0 < r.2.2.result.Ah.length → Has ar_2) ∧ (0 < r.2.2.stack.length → Has ar_3) ∧ r.2.2.Ap.length = 512 ∧ H' = [Cells b0 98 ((str m.Ar.Am) :: (str m.Ar.An) :: (str m.Ar.Ae) :: (str m.Ar.Af) :: (.slice aa m.Ar.Ao.length ac) :: (.int .i64 r.2.2.most) :: (str r.2.2.result.Ae) :: (str r.2.2.result.Af) :: (.slice ar_0 r.2.2.result.Ag.length cr_0) :: (.slice ar_1 r.2.2.result.Vary.length cr_1) :: (.slice ar_2 r.2.2.result.Ah.length cr_2) :: (.int .i64 r.2.2.result.TTL) :: (.int .i64 r.2.2.result.Ai) :: (.int .i64 r.2.2.result.Aj) :: (.bool r.2.2.result.Ak) :: (.bool r.2.2.result.Al) :: (.slice ar_3 r.2.2.stack.length cr_3) :: (r.2.2.Ap.map Jd.enc).flatten), OwnL Jc.enc ar_0 77 2 cr_0 r.2.2.result.Ag, OwnL eS ar_1 9 1 cr_1 r.2.2.result.Vary, OwnL eS ar_2 9 1 cr_2 r.2.2.result.Ah, OwnL Jd.enc ar_3 95 4 cr_3 r.2.2.stack]) := by
 obtain ⟨ae, fb, eW, fM, eH, bw, hG⟩ := hX
 refine Fn.enter Tryz.func33 Tryz.call33 rfl fun F => ?_
 unfold JbZ at hm
 refine qas ?_
 intro b5
 refine qah (fa rfl (fa rfl (ro (ld r1 rfl rfl ?_))))
 obtain ⟨gv, hm⟩ := qa7 hm
 refine qat gv (qah (fa rfl (fa rfl ?_)))
 refine qnb (cs' := (str m.Ar.Am) :: (str m.Ar.An) :: (str m.Ar.Ae) :: (str m.Ar.Af) :: (.slice aa m.Ar.Ao.length ac) :: (.int .i64 m.most) :: (str m.result.Ae) :: (str m.result.Af) :: (.slice aj m.result.Ag.length al) :: (.slice ak m.result.Vary.length am) :: (.slice an m.result.Ah.length ar) :: (.int .i64 m.result.TTL) :: (.int .i64 m.result.Ai) :: (.int .i64 (m.result.Aj + 1)) :: (.bool m.result.Ak) :: (.bool m.result.Al) :: (.slice au m.stack.length aw) :: (m.Ap.map Jd.enc).flatten) r1 rfl rfl (by exact rfl) (by exact nl rfl) (by exact rfl) ?_
 refine qa4 ⟨⟨[], false⟩, _, [(_, _)], []⟩ (by kernel_rfl) ⟨Hp.Le.refl _, (pf rfl), ci0⟩ ?_
 refine qah (fa rfl (fa rfl (qao m0 rfl rfl (qah (fa rfl (qao m0 rfl rfl ?_))))))
 refine cs rfl rfl hm ?_ ?_ <;> intro hU hm
 refine qa3 rfl ?_
 exact eE hm
 obtain ⟨gl, hm⟩ := qa7 hm
 refine qat gl (fa rfl (ro (ld r1 rfl rfl ?_)))
 refine qak rfl ?_
 refine qaf (cs rfl rfl hm ?_ ?_) <;> intro ip hm
 refine fa rfl (ro (ld r1 rfl rfl ?_))
 refine cb hm fun ia gk hm => cg0 (Ja1 gk :) ?_
 refine cb hm fun hZ gK hm => ckx (Jab gK :) ?_
 rintro _ _ _ ⟨fG, fm, eG, e8, fe, fh, ga, e6, rfl, e5, eu, e7, f8, eZ, rfl⟩
 exact eE hm
 refine qaf (cs rfl rfl hm ?_ ?_) <;> intro ic hm
 refine fa rfl (ro (ld r1 rfl rfl ?_))
 refine cb hm fun ij gu hm => cg0 (Jaa gu :) ?_
 refine cb hm fun hJ gi hm => ckx (Jab gi :) ?_
 rintro _ _ _ ⟨fZ, fv, fX, f9, fY, fE, eY, fU, rfl, eT, fP, fQ, eF, fC, rfl⟩
 exact eE hm
 refine qaf (cs rfl rfl hm ?_ ?_) <;> intro hO hm
 refine qa4 ⟨⟨[], true⟩, _, [], []⟩ (by kernel_rfl) ⟨Hp.Le.refl _, (pf rfl), ci0⟩ ?_
 refine fa rfl ?_
 refine ld r1 rfl rfl ?_
 refine qah (fa rfl ?_)
 obtain ⟨hY, ez, fl, hm⟩ := ixb hm
 refine qbo (sz := 4) rfl rfl ez (qtv bw ez fl) ?_
 refine qvd (enc := Jd.enc) (sz := 4) r0 rfl (by exact rfl) fl (by exact rfl) ?_
 refine cb hm fun im gC hm => ckx (Jab gC :) ?_
 rintro _ _ _ ⟨fJ, fq, eL, fB, eP, fI, fO, fW, rfl, fu, fA, ff, e9, eA, rfl⟩
 refine qk (pf rfl) ?_
 exact eE hm
 refine qaf (cs rfl rfl hm ?_ ?_) <;> intro hH hm
 refine qa4 ⟨⟨[], false⟩, _, [(_, _)], [(b0, [str m.Ar.Am, str m.Ar.An, str m.Ar.Ae, str m.Ar.Af, .slice aa m.Ar.Ao.length ac])]⟩ (by kernel_rfl) ⟨Hp.Le.refl _, (sc [1] rfl), (ci1 r0 (by exact rfl))⟩ ?_
 refine fa rfl (qao m0 rfl rfl (qah (fa rfl ?_)))
 refine qnd m0 rfl (nl rfl) ?_
 refine cb hm fun ib gN hm => cgx (Jcn gN :) ?_
 refine ⟨⟨lr, (sc [1] rfl), (ci1 r0 (by exact rfl))⟩, ?_⟩
 refine cb hm fun g9 gR hm => ckx (Jab gR :) ?_
 rintro _ _ _ ⟨fT, ep, ey, fw, fN, eC, fy, fo, rfl, fL, fc, fS, eV, eO, rfl⟩
 refine ⟨⟨lr, (sc [5] rfl), (ci1 r0 (by exact rfl))⟩, ?_⟩
 exact eE hm
 refine qaf (cs rfl rfl hm ?_ ?_) <;> intro gY hm
 refine qa4 ⟨⟨[], false⟩, _, [(_, _)], []⟩ (by kernel_rfl) ⟨Hp.Le.refl _, (sc [1] rfl), ci0⟩ ?_
 refine fa rfl (qao m0 rfl rfl ?_)
 refine cb hm fun aX gF hm => ckx (Jaj gF :) ?_
 rintro _ _ _ ⟨bb, aZ, bf, a8, bh, bg, bc, a6, rfl, bt, br, bu, bv, ba, rfl⟩
 refine qk (sc [5] rfl) ?_
 refine qah (fa rfl ?_)
 obtain ⟨hP, eK, fR, hm⟩ := ixb hm
 refine qbo (sz := 4) rfl rfl eK (qtv ba eK fR) ?_
 refine qve (sz := 4) (enc := Jd.enc) (y := aX.1) (cs' := (str m.Ar.Am) :: (str m.Ar.An) :: (str m.Ar.Ae) :: (str m.Ar.Af) :: (.slice aa m.Ar.Ao.length ac) :: (.int .i64 aX.2.most) :: (str aX.2.result.Ae) :: (str aX.2.result.Af) :: (.slice bb aX.2.result.Ag.length aZ) :: (.slice bf aX.2.result.Vary.length a8) :: (.slice bh aX.2.result.Ah.length bg) :: (.int .i64 aX.2.result.TTL) :: (.int .i64 aX.2.result.Ai) :: (.int .i64 aX.2.result.Aj) :: (.bool aX.2.result.Ak) :: (.bool aX.2.result.Al) :: (.slice bc aX.2.stack.length a6) :: ((aX.2.Ap.set ((x.N).toNat) aX.1).map Jd.enc).flatten) r0 rfl (by exact rfl) fR rfl (fun _ => rfl) (fun _ => rfl) (by exact rfl) (by decide) ?_
 refine qk (sc [5] rfl) ?_
 cases hm
 exact en lr ⟨bb, aZ, bf, a8, bh, bg, bc, a6, rfl, bt, br, bu, bv, (List.length_set.trans ba), rfl⟩ (sc [0,0,0,0,0,1] rfl)
 refine qaf (cs rfl rfl hm ?_ ?_) <;> intro ie hm
 refine qc0 ⟨⟨[], false⟩, _, [(_, _)], [(b0, [str m.Ar.Am, str m.Ar.An, str m.Ar.Ae, str m.Ar.Af, .slice aa m.Ar.Ao.length ac])]⟩ 15 rfl (by kernel_rfl) ⟨Hp.Le.refl _, (sc [1] rfl), (ci1 r0 (by exact rfl))⟩ ?_
 refine fa rfl (qao m0 rfl rfl ?_)
 intro gr
 refine cb hm fun ik gy hm => ckx (Jaj gy :) ?_
 rintro _ _ _ ⟨fg, eJ, fp, fj, eQ, fD, fV, fk, rfl, eD, fH, eo, eX, fK, rfl⟩
 refine ⟨⟨lr, (sc [5] rfl), (ci1 r0 (by exact rfl))⟩, ?_⟩
 refine ⟨_, .cons r7 .nil, ⟨lr, (sc [5] rfl), (ci1 r0 (by exact rfl))⟩, ?_⟩
 refine qah (fa rfl ?_)
 refine qnd m0 rfl (nl rfl) ?_
 intro gX
 refine cb hm fun gB cn hm => cgx (JdD cn :) ?_
 refine ⟨⟨lr, (sc [5] rfl), (ci1 r0 (by exact rfl))⟩, ?_⟩
 refine ⟨_, .cons r7 .nil, ⟨lr, (sc [5] rfl), (ci1 r0 (by exact rfl))⟩, ?_⟩
 refine qg2 rfl ?_
 intro b9
 intro gw
 refine qab r0 rfl ⟨rfl, rfl, (nl rfl), ?_⟩
 refine ⟨⟨lr, (sc [6] rfl), (ci1 r1 (by exact rfl))⟩, ?_⟩
 refine ⟨_, .cons r8 .nil, ⟨lr, (sc [6] rfl), (ci1 r1 (by exact rfl))⟩, ?_⟩
 refine qax ?_
 refine cs rfl rfl hm ?_ ?_ <;> intro gL hm
 refine qa3 rfl ?_
 exact eE hm
 refine ro (qae r0 rfl (nl rfl) ?_)
 refine cb hm fun gz cB hm => ckx (Jab cB :) ?_
 rintro _ _ _ ⟨cr, d8, ca, dH, cN, dc, bW, dj, rfl, ee, bQ, ef, bV, dV, rfl⟩
 exact eE hm
 refine qaf (cs rfl rfl hm ?_ ?_) <;> intro gI hm
 refine cb hm fun gt bP hm => ckx (Jaj bP :) ?_
 rintro _ _ _ ⟨dL, cU, d7, cW, c6, dU, dI, c9, rfl, dh, dB, cX, bK, cG, rfl⟩
 refine qal rfl fun gZ => ?_
 refine qab r0 rfl ⟨rfl, rfl, (nl rfl), ?_⟩
 refine qc0 ⟨⟨[], false⟩, _, [(_, _), (_, _)], []⟩ 12 rfl (by kernel_rfl) ⟨Hp.Le.refl _, (sc [6,0] rfl), ci0⟩ ?_
 refine fa rfl (qao m0 rfl rfl ?_)
 intro gr
 refine cb hm fun gU dw hm => ckx (Jaj dw :) ?_
 rintro _ _ _ ⟨d3, dT, cA, bL, bF, cR, cE, dG, rfl, cz, bX, bU, bT, bG, rfl⟩
 refine ⟨⟨lr, (sc [6,5] rfl), ci0⟩, ?_⟩
 refine ⟨_, .cons r8 .nil, ⟨lr, (sc [6,5] rfl), ci0⟩, ?_⟩
 refine qbx m1 rfl (nl rfl) ?_
 intro il
 refine cb hm fun gc dX hm => cgx (JcW dX :) ?_
 refine ⟨⟨lr, (sc [6,5] rfl), ci0⟩, ?_⟩
 refine ⟨_, .cons r8 .nil, ⟨lr, (sc [6,5] rfl), ci0⟩, ?_⟩
 refine qg2 rfl ?_
 intro io
 intro gQ
 refine qab r0 rfl ⟨rfl, rfl, (nl rfl), ?_⟩
 refine ⟨⟨lr, (sc [7,6] rfl), ci0⟩, ?_⟩
 refine ⟨_, .cons r9 .nil, ⟨lr, (sc [7,6] rfl), ci0⟩, ?_⟩
 refine qax ?_
 refine cs rfl rfl hm ?_ ?_ <;> intro gJ hm
 refine qa3 rfl ?_
 exact eE hm
 refine ro (qae r0 rfl (nl rfl) ?_)
 refine cb hm fun gD dp hm => ckx (Jab dp :) ?_
 rintro _ _ _ ⟨d4, bB, cC, cu, bZ, d6, bR, dx, rfl, du, dO, di, cJ, ek, rfl⟩
 exact eE hm
 refine qaf (cs rfl rfl hm ?_ ?_) <;> intro gb hm
 refine cb hm fun gA cj hm => ckx (Jaj cj :) ?_
 rintro _ _ _ ⟨bH, cp, dq, dZ, bA, ce, cL, bC, rfl, cm, dN, de, co, dl, rfl⟩
 refine qal rfl fun ii => ?_
 refine qab r0 rfl ⟨rfl, rfl, (nl rfl), ?_⟩
 refine fa rfl (ro (ld r0 rfl rfl (qbf ?_)))
 refine cs rfl rfl hm ?_ ?_ <;> intro gH hm
 refine qa3 rfl ?_
 exact eE hm
 refine fa rfl (ro (ld r0 rfl rfl (qax ?_)))
 refine cb hm fun gP dy hm => cg0 (Jak dy :) ?_
 refine cb hm fun gp bI hm => ckx (Jab bI :) ?_
 rintro _ _ _ ⟨cw, ej, d5, dD, dt, dS, cY, dF, rfl, dC, cK, dK, cI, c5, rfl⟩
 exact eE hm
 refine qaf (cs rfl rfl hm ?_ ?_) <;> intro gx hm
 refine fa rfl (ro (ld r1 rfl rfl ?_))
 exact eE hm
 refine qaf (cs rfl rfl hm ?_ ?_) <;> intro gV hm
 refine cb hm fun gq dQ hm => ckx (Jaj dQ :) ?_
 rintro _ _ _ ⟨d9, df, bO, ei, cZ, bN, eh, cM, rfl, dP, cQ, em, dv, dE, rfl⟩
 refine qal rfl fun ig => ?_
 refine qab r0 rfl ⟨rfl, rfl, (nl rfl), ?_⟩
 refine fa rfl (ro (ld r0 rfl rfl (qbf ?_)))
 refine cs rfl rfl hm ?_ ?_ <;> intro gh hm
 refine qa3 rfl ?_
 exact eE hm
 refine fa rfl (ro (ld r0 rfl rfl (qax ?_)))
 refine cs rfl rfl hm ?_ ?_ <;> intro gO hm
 refine fa rfl (ro (ld r6 rfl rfl ?_))
 exact eE hm
 exact eE hm
 refine qaf (cs rfl rfl hm ?_ ?_) <;> intro gM hm
 refine qam rfl rfl ?_
 refine qal rfl fun gn => ?_
 refine qab r0 rfl ⟨rfl, rfl, (nl rfl), ?_⟩
 obtain ⟨bD, aU, hm⟩ := bnd hm
 refine jR (σ := Bool) (rg 168 14) (fun aY => [(181, .bool aY)]) (fun aY => aY = bD) ?_ ?_
 replace aU := bsm aU
 refine qaj rfl ?_
 refine fa rfl (ro (ld r2 rfl rfl (qbz ?_)))
 refine qag ?_ ?_ <;> intro aM
 refine fa rfl (ct aM (ro (ld r2 rfl rfl (ct aM (qbz (ct aM ?_))))))
 obtain ⟨bJ, aV, aU⟩ := bnd aU
 refine qag ?_ ?_ <;> intro aL
 replace aV := ift (qb5 aM aL) aV
 refine fa rfl (ct aL (ro (ld r2 rfl rfl (ct aL ?_))))
 refine cb aV fun gj cd aV => cg0 (Ja0 cd :) ?_
 refine ct aL (qax (ct aL ?_))
 exact eMq aU _ ⟨bq (si aV), trivial⟩
 replace aV := qbp (qcs aM aL) aV
 refine cf aL (cf aL (cf aL (cf aL ?_)))
 exact eMq aU _ ⟨bq (si aV), trivial⟩
 refine cf aM (cf aM (cf aM ?_))
 obtain ⟨bJ, aV, aU⟩ := bnd aU
 replace aV := qbp (qa0 aM) aV
 refine cF (cF (cF (cF (cF ?_))))
 exact eMq aU _ ⟨bq (si aV), trivial⟩
 rintro aY rfl gW
 obtain ⟨dW, aW, hm⟩ := bnd hm
 refine jD (σ := (Int × Int × Str × Bool × Jf) × Option Addr × Nat × Option Addr × Nat × Option Addr × Nat × Option Addr × Nat) [182,183] [2, 7] (fun (aJ, aN, aS, aQ, aT, aO, aR, aK, aP) => []) (fun (aJ, aN, aS, aQ, aT, aO, aR, aK, aP) => [Cells b0 98 ((str m.Ar.Am) :: (str m.Ar.An) :: (str m.Ar.Ae) :: (str m.Ar.Af) :: (.slice aa m.Ar.Ao.length ac) :: (.int .i64 aJ.2.2.2.2.most) :: (str aJ.2.2.2.2.result.Ae) :: (str aJ.2.2.2.2.result.Af) :: (.slice aN aJ.2.2.2.2.result.Ag.length aS) :: (.slice aQ aJ.2.2.2.2.result.Vary.length aT) :: (.slice aO aJ.2.2.2.2.result.Ah.length aR) :: (.int .i64 aJ.2.2.2.2.result.TTL) :: (.int .i64 aJ.2.2.2.2.result.Ai) :: (.int .i64 aJ.2.2.2.2.result.Aj) :: (.bool aJ.2.2.2.2.result.Ak) :: (.bool aJ.2.2.2.2.result.Al) :: (.slice aK aJ.2.2.2.2.stack.length aP) :: (aJ.2.2.2.2.Ap.map Jd.enc).flatten), OwnL Jc.enc aN 77 2 aS aJ.2.2.2.2.result.Ag, OwnL eS aQ 9 1 aT aJ.2.2.2.2.result.Vary, OwnL eS aO 9 1 aR aJ.2.2.2.2.result.Ah, OwnL Jd.enc aK 95 4 aP aJ.2.2.2.2.stack, Cells gn 95 [.int .i64 aJ.1, .int .i64 aJ.2.1, str aJ.2.2.1, .bool aJ.2.2.2.1]]) (fun (aJ, aN, aS, aQ, aT, aO, aR, aK, aP) => (0 < aJ.2.2.2.2.result.Ag.length → Has aN) ∧ (0 < aJ.2.2.2.2.result.Vary.length → Has aQ) ∧ (0 < aJ.2.2.2.2.result.Ah.length → Has aO) ∧ (0 < aJ.2.2.2.2.stack.length → Has aK) ∧ aJ.2.2.2.2.Ap.length = 512 ∧ aJ = dW) (And.intro ?_ ?_)
 refine cs rfl rfl aW ?_ ?_ <;> intro gG aW
 refine cb aW fun gm cD aW => ckx (Jaj cD :) ?_
 rintro _ _ _ ⟨db, da, bz, dk, cO, dY, bY, dJ, rfl, bS, dg, cP, bM, cV, rfl⟩
 refine qab r5 rfl ⟨rfl, rfl, (nl rfl), ?_⟩
 exact eM aW (_, _, _, _, _, _, _, _, _)
 exact eM aW (_, _, _, _, _, _, _, _, _)
 rintro ⟨aJ, aN, aS, aQ, aT, aO, aR, aK, aP⟩ ⟨bj, bo, bm, bn, bp, rfl⟩ gf
 refine qa4 ⟨⟨[], false⟩, _, [(_, _), (_, _)], []⟩ (by kernel_rfl) ⟨Hp.Le.refl _, (sc [6,5] rfl), ci0⟩ ?_
 refine qah (fa rfl (fa rfl (qao m0 rfl rfl (qbx m1 rfl (nl rfl) ?_))))
 refine cb hm fun gS dR hm => ckx (Jch (az := [str m.Ar.Am, str m.Ar.An, str m.Ar.Ae, str m.Ar.Af, .slice aa m.Ar.Ao.length ac, .int .i64 aJ.2.2.2.2.most]) (aG := (.slice aK aJ.2.2.2.2.stack.length aP) :: (aJ.2.2.2.2.Ap.map Jd.enc).flatten) dR :) ?_
 rintro _ _ _ ⟨cq, dz, d2, dA, dM, c8, rfl, eg, cH, dm, rfl⟩
 refine qk (sc [6,5] rfl) ?_
 refine qbg rfl ?_
 refine cs rfl rfl hm ?_ ?_ <;> intro ge hm
 exact eE hm
 refine fa rfl (ro (ld r6 rfl rfl (qar ?_)))
 refine cs rfl rfl hm ?_ ?_ <;> intro gE hm
 exact eE hm
 exact eE hm
 refine qaf (cs rfl rfl hm ?_ ?_) <;> intro gT hm
 exact eE hm
 exact eE hm

def Ja2 (code : (List Jj)) (Ar : JB) : Nat → Int → Jf → Option (Fl (Je × Err) (Int × Jf))
  | 0, _, _ => none
  | aL + 1, ab, aJ =>
    if decide (ab ≥ 0) then
    (ix code ab).bind fun aM =>
    (JbZ (⟨Ar, aJ.most, aJ.result, aJ.stack, aJ.Ap⟩ : Jf) ab aM).bind fun aK =>
    if aK.2.1.isSome then
    some (Fl.ret ((⟨([] : Str), ([] : Str), [], [], [], 0, 0, 0, false, false⟩ : Je), aK.2.1))
    else
    Ja2 code Ar aL aK.1 (⟨Ar, aK.2.2.most, aK.2.2.result, aK.2.2.stack, aK.2.2.Ap⟩ : Jf)
    else
    some (Fl.go (ab, (⟨Ar, aJ.most, aJ.result, aJ.stack, aJ.Ap⟩ : Jf)))
def Jbf (n : Nat) (code : (List Jj)) (Ar : JB) (most : Int) : Option (Je × Err) :=
  (JcP code).bind fun aJ =>
  if aJ.isSome then
  some ((⟨([] : Str), ([] : Str), [], [], [], 0, 0, 0, false, false⟩ : Je), (some 2))
  else
  (Ja2 code Ar n 0 (⟨Ar, most, (⟨Ar.Ae, Ar.Af, [], [], [], (-1), 0, 0, false, false⟩ : Je), [], (List.replicate 512 (⟨0, 0, ([] : Str), false⟩ : Jd))⟩ : Jf)).bind fun s0 => s0.el some fun t0 =>
  some (t0.2.result, none)
theorem Je4 {n : Nat} {code : (List Jj)} {Ar : JB} {most : Int} {aa : Option Addr} {ac : Nat} {n0 : Nat} {af : Option Addr} {ag : Nat} {K : Hp} {r : Je × Err}
    (hm : Jbf n code Ar most = some r) (hX : RdC Jj.enc K aa ac 3 code ∧ n0 = code.length ∧ RdC Jc.enc K af ag 2 Ar.Ao ∧ GG K) :
    Fn Tryz.prog 13 [.slice aa n0 ac, .agg #[str Ar.Am, str Ar.An, str Ar.Ae, str Ar.Af, .slice af Ar.Ao.length ag], .int .i64 most] K [] (fun v K' H' => ∃ ar_0 : Option Addr, ∃ cr_0 : Nat, ∃ ar_1 : Option Addr, ∃ cr_1 : Nat, ∃ ar_2 : Option Addr, ∃ cr_2 : Nat, v = .tuple #[.agg #[str r.1.Ae, str r.1.Af, .slice ar_0 r.1.Ag.length cr_0, .slice ar_1 r.1.Vary.length cr_1, .slice ar_2 r.1.Ah.length cr_2, .int .i64 r.1.TTL, .int .i64 r.1.Ai, .int .i64 r.1.Aj, .bool r.1.Ak, .bool r.1.Al], qcu 87 r.2] ∧ (0 < r.1.Ag.length → Has ar_0) ∧ (0 < r.1.Vary.length → Has ar_1) ∧ (0 < r.1.Ah.length → Has ar_2) ∧ H' = [OwnL Jc.enc ar_0 77 2 cr_0 r.1.Ag, OwnL eS ar_1 9 1 cr_1 r.1.Vary, OwnL eS ar_2 9 1 cr_2 r.1.Ah]) := by
 obtain ⟨ae, bK, ah, hG⟩ := hX
 subst bK
 refine Fn.enter Tryz.func13 Tryz.call13 rfl fun F => ?_
 unfold Jbf at hm
 refine qas ?_
 intro b4
 refine qal rfl fun b6 => ?_
 refine cb hm fun bP bI hm => cgx (Jea bI :) ?_
 refine qbg rfl ?_
 refine cs rfl rfl hm ?_ ?_ <;> intro bQ hm
 refine qam rfl rfl ?_
 refine qa3 rfl ?_
 refine qab r0 rfl ⟨rfl, rfl, (nl rfl), ?_⟩
 refine ro (qae r0 rfl (nl rfl) ?_)
 refine qjc Jc.enc 77 2 ?_
 refine qjc eS 9 1 ?_
 refine qjc eS 9 1 ?_
 exact eE hm
 refine ro (qae r1 rfl (nl rfl) (fa rfl (ro (ld r1 rfl rfl (fa rfl (ro (ld r1 rfl rfl (qam rfl rfl (cT (cT ?_))))))))))
 refine cT ?_
 refine qlt (enc := Jd.enc) [str ([] : Str), str ([] : Str), str ([] : Str), str ([] : Str), .slice none 0 0, .int .i64 0, str ([] : Str), str ([] : Str), .slice none 0 0, .slice none 0 0, .slice none 0 0, .int .i64 0, .int .i64 0, .int .i64 0, .bool false, .bool false, .slice none 0 0] (List.replicate 512 (⟨0, 0, ([] : Str), false⟩ : Jd)) (by kernel_rfl) rfl ?_
 refine cT (cT (cT ?_))
 refine qpk ?_
 intro bL
 obtain ⟨s0, aR, hm⟩ := bnd hm
 refine ql6 Jc.enc 77 2 ?_
 refine ql6 eS 9 1 ?_
 refine ql6 eS 9 1 ?_
 refine ql6 Jd.enc 95 4 ?_
 refine lD (σ := (Int × Jf) × Option Addr × Nat × Option Addr × Nat × Option Addr × Nat × Option Addr × Nat) ([7,9,10,11] ++ rg 26 17) [5, 6, 7] (fun _ => []) (fun (t0, aL, aQ, aM, aO, aJ, aP, aK, aN) => [(9, .int .i64 t0.1)]) (fun (t0, aL, aQ, aM, aO, aJ, aP, aK, aN) => [Cells bL 98 ((str Ar.Am) :: (str Ar.An) :: (str Ar.Ae) :: (str Ar.Af) :: (.slice af Ar.Ao.length ag) :: (.int .i64 t0.2.most) :: (str t0.2.result.Ae) :: (str t0.2.result.Af) :: (.slice aL t0.2.result.Ag.length aQ) :: (.slice aM t0.2.result.Vary.length aO) :: (.slice aJ t0.2.result.Ah.length aP) :: (.int .i64 t0.2.result.TTL) :: (.int .i64 t0.2.result.Ai) :: (.int .i64 t0.2.result.Aj) :: (.bool t0.2.result.Ak) :: (.bool t0.2.result.Al) :: (.slice aK t0.2.stack.length aN) :: (t0.2.Ap.map Jd.enc).flatten), OwnL Jc.enc aL 77 2 aQ t0.2.result.Ag, OwnL eS aM 9 1 aO t0.2.result.Vary, OwnL eS aJ 9 1 aP t0.2.result.Ah, OwnL Jd.enc aK 95 4 aN t0.2.stack]) (fun (t0, aL, aQ, aM, aO, aJ, aP, aK, aN) => (0 < t0.2.result.Ag.length → Has aL) ∧ (0 < t0.2.result.Vary.length → Has aM) ∧ (0 < t0.2.result.Ah.length → Has aJ) ∧ (0 < t0.2.stack.length → Has aK) ∧ t0.2.Ap.length = 512) (fun i0 (t0, aL, aQ, aM, aO, aJ, aP, aK, aN) => Ja2 code Ar i0 t0.1 t0.2 = some s0) (fun (t0, aL, aQ, aM, aO, aJ, aP, aK, aN) => s0 = Fl.go t0) (fun i0 => i0) n ((0, (⟨Ar, most, (⟨Ar.Ae, Ar.Af, [], [], [], (-1), 0, 0, false, false⟩ : Je), [], (List.replicate 512 (⟨0, 0, ([] : Str), false⟩ : Jd))⟩ : Jf)), none, 0, none, 0, none, 0, none, 0) aR (And.intro ⟨⟨(fun h => by simp at h), (fun h => by simp at h), (fun h => by simp at h), (fun h => by simp at h), List.length_replicate⟩, ⟨rfl, trivial⟩, _, (ss [4,3,2,1,0,0,0,0] rfl)⟩ (And.intro ?_ ?_))
 clear aR
 rintro i0 ⟨⟨ab, bH⟩, aY, aZ, bm, bh, bc, aX, bj, aS⟩ ⟨aT, a8, a6, bb, bg⟩ aR j0
 dsimp only at aR ⊢
 cases i0 with
 | zero => rw [Ja2.eq_1] at aR; cases aR
 | succ i0 =>
  rw [Ja2.eq_2] at aR
  refine cs rfl rfl aR ?_ ?_ <;> intro bM aR
  refine qak rfl ?_
  obtain ⟨bR, bA, bn, aR⟩ := ixb aR
  refine RStep.ofN (qac rfl rfl (qdg ae.rd bn) bA (qay rfl bA bn) (ro (qan ((ab).toNat) _ ae.rd rfl (mp bn) rfl ?_)))
  refine cb aR fun bN bJ aR => ckx (Jdl bJ :) ?_
  rintro _ _ _ ⟨bC, bw, bG, bz, bB, bv, bt, bu, rfl, br, bF, bD, bo, bp, rfl⟩
  refine qbg rfl ?_
  refine cs rfl rfl aR ?_ ?_ <;> intro bO aR
  refine qam rfl rfl ?_
  refine qab r5 rfl ⟨rfl, rfl, (nl rfl), ?_⟩
  refine ro (qae r0 rfl (nl rfl) ?_)
  refine qjc Jc.enc 77 2 ?_
  refine qjc eS 9 1 ?_
  refine qjc eS 9 1 ?_
  exact eE (er aR hm)
  exact eR aR (_, (_, _), _, _, _, _, _, _, _, _)
  refine cT ?_
  exact eM aR (_, _, _, _, _, _, _, _, _)
 rintro ⟨t0, aL, aQ, aM, aO, aJ, aP, aK, aN⟩ ⟨aW, aV, aU, ba, bf⟩ rfl j0
 replace hm := elg hm
 refine qah (fa rfl (ro (qae r0 rfl (nl rfl) ?_)))
 refine qab r5 rfl ⟨rfl, rfl, (nl rfl), ?_⟩
 exact ro (qae r0 rfl (nl rfl) (eE hm))

def Jad (n : Nat) : Option (Bool) :=
  (Jbf n ([(⟨2, 0, ([120] : Str)⟩ : Jj), (⟨11, 0, ([116, 97, 103] : Str)⟩ : Jj), (⟨12, 0, ([] : Str)⟩ : Jj)]) (⟨([] : Str), ([] : Str), ([47] : Str), ([] : Str), []⟩ : JB) 3).bind fun x9 =>
  (if (x9.2.isNone && decide ((x9.1.Ah.length : Int) = 1)) then (ix x9.1.Ah 0).bind fun aJ =>
  some (decide (aJ = ([120] : Str))) else some false).bind fun aK =>
  some (((aK && decide (x9.1.Aj = 3)) && decide (x9.1.TTL = (-1))) && decide (x9.1.Ae = ([47] : Str)))
theorem JdE {n : Nat}  {K : Hp} {r : Bool}
    (hm : Jad n = some r) (hG : GG K) :
    Fn Tryz.prog 10 [] K [] (fun v K' H' => v = .bool r ∧ H' = []) := by
 refine Fn.enter Tryz.func10 Tryz.call10 rfl fun F => ?_
 unfold Jad at hm
 refine qam rfl rfl (cT (cT (qam rfl rfl (cT (cT (qam rfl rfl (cT ?_)))))))
 refine bsO (len := 3) (enc := Jj.enc) (l := [(⟨2, 0, ([120] : Str)⟩ : Jj), (⟨11, 0, ([116, 97, 103] : Str)⟩ : Jj), (⟨12, 0, ([] : Str)⟩ : Jj)]) (cl := [.int .i64 2, .int .i64 0, str ([120] : Str), .int .i64 11, .int .i64 0, str ([116, 97, 103] : Str), .int .i64 12, .int .i64 0, str ([] : Str)]) qu0 rfl rfl (fun _ _ => rfl) rfl rfl rfl ?_ fun b7 => ?_
 · conv => whnf
   refine cT (cT (cT ?_))
   first | done | rfl
 refine qam rfl rfl (cT ?_)
 refine cb hm fun x9 q9 hm => ck0 (Fn.lend Tryz.call13 (fun aV aS aR => (Je4 (Ar := (⟨([] : Str), ([] : Str), ([47] : Str), ([] : Str), []⟩ : JB)) (most := 3) q9 ⟨aR, rfl, RdC.nil, (hG.mono aS)⟩)) (by exact fun _ _ _ _ h => h)) ?_
 rintro _ _ _ ⟨_, rfl, aY, aU, aX, aW, ba, bb, rfl, a8, aZ, aP, rfl⟩
 refine qal rfl fun b1 => ?_
 refine qab r0 rfl ⟨rfl, rfl, (nl rfl), ?_⟩
 refine qaj rfl ?_
 refine qf0 rfl ?_
 refine qag ?_ ?_ <;> intro aK
 refine fa rfl (ct aK (ro (ld r0 rfl rfl (ct aK (ro (qai rfl (ct aK (qaf (ct aK ?_)))))))))
 obtain ⟨a6, aO, hm⟩ := bnd hm
 refine qag ?_ ?_ <;> intro aJ
 replace aO := ift (qb5 aK aJ) aO
 refine fa rfl (ct aJ (ro (ld r0 rfl rfl (ct aJ ?_))))
 obtain ⟨bc, aT, aQ, aO⟩ := ixb aO
 refine RStep.ofN (qac rfl rfl (qdb aP aQ) aT (qay rfl aT aQ) (ct aJ (ro (qda (i := (0 : Int).toNat) (o := 0) r4 rfl aQ rfl rfl (ct aJ (qar (ct aJ ?_)))))))
 refine qag ?_ ?_ <;> intro aL
 refine fa rfl (ct aL (ro (ld r0 rfl rfl (ct aL (qaf (ct aL ?_))))))
 refine qag ?_ ?_ <;> intro aM
 refine fa rfl (ct aM (ro (ld r0 rfl rfl (ct aM (qaf (ct aM ?_))))))
 refine qag ?_ ?_ <;> intro aN
 refine fa rfl (ct aN (ro (ld r0 rfl rfl (ct aN (qar (ct aN ?_))))))
 exact bE (qdh (b := decide (x9.1.Ae = ([47] : Str))) (qb5 (qb5 ((si aO).symm.trans aL) aM) aN)) (eE hm)
 refine cf aN (cf aN (cf aN ?_))
 exact bE (((qa0 (qcs (qb5 ((si aO).symm.trans aL) aM) aN))).symm) (eE hm)
 refine cf aM (cf aM (cf aM (cF (cF (cF (cF ?_))))))
 exact bE (((qa0 (qa0 (qcs ((si aO).symm.trans aL) aM)))).symm) (eE hm)
 refine cf aL (cf aL (cf aL (cF (cF (cF (cF (cF ?_)))))))
 refine cF (cF (cF ?_))
 exact bE (((qa0 (qa0 (qa0 ((si aO).symm.trans aL))))).symm) (eE hm)
 replace aO := qbp (qcs aK aJ) aO
 refine cf aJ (cf aJ (cf aJ (cf aJ (cf aJ (cF (cF (cF ?_)))))))
 refine cF (cF (cF (cF (cF (cF (cF (cF ?_)))))))
 refine cF ?_
 exact bE (((qa0 (qa0 (qa0 (si aO).symm)))).symm) (eE hm)
 refine cf aK (cf aK (cf aK (cf aK ?_)))
 obtain ⟨a6, aO, hm⟩ := bnd hm
 replace aO := qbp (qa0 aK) aO
 refine cF (cF (cF (cF (cF (cF (cF (cF ?_)))))))
 refine cF (cF (cF (cF (cF (cF (cF (cF ?_)))))))
 refine cF (cF ?_)
 exact bE (((qa0 (qa0 (qa0 (si aO).symm)))).symm) (eE hm)

def Jbn (depth : Int) (rec_ : (Jb → Int → Option (Int))) : List Jb → Nat → Int → Option (Fl (Int) (Int))
  | [], _, ab => some (Fl.go ab)
  | e0 :: aK, i0, ab =>
    (chk (InI (depth - 1))).bind fun _ =>
    (rec_ e0 (depth - 1)).bind fun aJ =>
    (chk (InI (ab + aJ))).bind fun _ =>
    if decide ((ab + aJ) > 700) then
    some (Fl.ret (ab + aJ))
    else
    Jbn depth rec_ aK (i0 + 1) (ab + aJ)
def Jbo : Nat → Jb → Int → Option (Int)
  | 0, _, _ => none
  | n + 1, n', depth =>
    if (decide (depth = 0) || decide ((n'.Ac.length : Int) > 3000)) then
    some 1000
    else
    (chk (n'.Aa.length ≤ qav)).bind fun _ =>
    (Jbn depth (Jbo n) n'.Aa 0 1).bind fun s0 => s0.el some fun t0 =>
    some t0
theorem JeQ : ∀ {n : Nat} {n' : Jb} {depth : Int} {aa : Option Addr} {ac : Nat} {K : Hp} {r : Int}
    (hm : Jbo n n' depth = some r) (ae : LiC Jb.R K aa ac 4 n'.Aa),
    Fn Tryz.prog 83 [.agg #[.int .i64 n'.Ab, str n'.Ac, .slice aa n'.Aa.length ac, .int .i64 n'.Ad], .int .i64 depth] K [] (fun v K' H' => v = .int .i64 r ∧ H' = []) := by
 intro n
 induction n with
 | zero =>
   intro n' depth aa ac K r hm ae
   rw [Jbo.eq_1] at hm; cases hm
 | succ n ih =>
   intro n' depth aa ac K r hm ae
   refine Fn.enter Tryz.func83 Tryz.call83 rfl fun F => ?_
   rw [Jbo.eq_2] at hm
   refine qas ?_
   intro b2
   refine jR (σ := Unit) (rg 8 8) (fun _ => [(15, .bool (decide (depth = 0) || decide ((n'.Ac.length : Int) > 3000)))]) (fun aV => True) ?_ ?_
   refine qaj rfl ?_
   refine qaf ?_
   refine qag ?_ ?_ <;> intro aJ
   refine ct aJ (ct aJ (ct aJ (ct aJ ?_)))
   exact eMt () ⟨bq (((qds aJ)).symm), trivial⟩
   refine fa rfl (cf aJ (ro (ld r0 rfl rfl (cf aJ (ro (qa2 rfl (cf aJ (cf aJ ?_))))))))
   exact eMt () ⟨bq (qll (b := decide ((n'.Ac.length : Int) > 3000)) aJ), trivial⟩
   rintro _ _ aY
   refine cs rfl rfl hm ?_ ?_ <;> intro a6 hm
   exact eE hm
   refine fa rfl (ro (ld r0 rfl rfl (ro (qai rfl ?_))))
   obtain ⟨aS, hm⟩ := qa7 hm
   obtain ⟨s0, aK, hm⟩ := bnd hm
   refine lD (σ := (Int)) ([4,5,7] ++ rg 19 14) [0, 1] (fun i0 => [(19, .int .i64 (i0 : Int))]) (fun t0 => [(5, .int .i64 t0)]) (fun _ => []) (fun _ => True) (fun i0 t0 => Jbn depth (Jbo n) (n'.Aa.drop i0) i0 t0 = some s0) (fun t0 => s0 = Fl.go t0) (fun i0 => n'.Aa.length - i0) 0 _ aK (And.intro qe (And.intro ?_ ?_))
   clear aK
   rintro i0 ab _ aK j0
   conv at aK => whnf
   refine qad rfl ?_
   refine qag ?_ ?_ <;> intro w0
   obtain ⟨e0, aL, aX⟩ := ltx w0
   rw [aX, Jbn.eq_2] at aK
   refine qak rfl ?_
   refine RStep.ofN (qac rfl rfl (qdc ae.rd aL) (nn _) (qbs aL) ?_)
   obtain ⟨aU, aT, aN, aM, aO⟩ := LiR.get ae.rd aL
   obtain ⟨aR, aP, rfl, aQ⟩ := Jb.out aO
   refine ro (qan i0 _ aN rfl aM rfl ?_)
   refine qal rfl fun b7 => ?_
   refine qab r0 rfl ⟨rfl, rfl, (nl rfl), ?_⟩
   refine ro (qae r0 rfl (nl rfl) ?_)
   refine ci aK fun aK => ?_
   refine cb aK fun a8 aW aK => cgx (ih aW :) ?_
   refine ci aK fun aK => ?_
   refine cs rfl rfl aK ?_ ?_ <;> intro aZ aK
   exact eE (er aK hm)
   refine qat (qcl aL aS) ?_
   exact eR aK (_, _)
   rw [lty w0, Jbn.eq_1] at aK
   refine cT ?_
   exact eM aK _
   rintro t0 _ rfl j0
   replace hm := elg hm
   exact eE hm

def Jb0 (n : Nat) (n' : Jb) : Option (Bool) :=
  (Jbo n n' 40).bind fun x4 =>
  some (decide (x4 > 700))
theorem JeR {n : Nat} {n' : Jb} {aa : Option Addr} {ac : Nat} {K : Hp} {r : Bool}
    (hm : Jb0 n n' = some r) (ae : LiC Jb.R K aa ac 4 n'.Aa) :
    Fn Tryz.prog 50 [.agg #[.int .i64 n'.Ab, str n'.Ac, .slice aa n'.Aa.length ac, .int .i64 n'.Ad]] K [] (fun v K' H' => v = .bool r ∧ H' = []) := by
 refine Fn.enter Tryz.func50 Tryz.call50 rfl fun F => ?_
 unfold Jb0 at hm
 refine qas ?_
 intro b1
 refine ro (qae r0 rfl (nl rfl) ?_)
 refine cb hm fun x4 q4 hm => cgx (JeQ q4 :) ?_
 exact eE hm

def Jbx (n : Nat) (n' : Jb) : Option (Bool) :=
  (Jb0 n n').bind fun x4 =>
  some x4
theorem JeS {n : Nat} {n' : Jb} {aa : Option Addr} {ac : Nat} {K : Hp} {r : Bool}
    (hm : Jbx n n' = some r) (ae : LiC Jb.R K aa ac 4 n'.Aa) :
    Fn Tryz.prog 21 [.agg #[.int .i64 n'.Ab, str n'.Ac, .slice aa n'.Aa.length ac, .int .i64 n'.Ad]] K [] (fun v K' H' => v = .bool r ∧ H' = []) := by
 refine Fn.enter Tryz.func21 Tryz.call21 rfl fun F => ?_
 unfold Jbx at hm
 refine qas ?_
 intro b1
 refine ro (qae r0 rfl (nl rfl) ?_)
 refine cb hm fun x4 q4 hm => cgx (JeR q4 :) ?_
 exact eE hm

def Jby (Ar : Js) : Nat → Int → Int → Option (Int × Int)
  | 0, _, _ => none
  | aL + 1, ab, aJ =>
    if decide (aJ < (Ar.Ao.length : Int)) then
    (ix Ar.Ao aJ).bind fun aM =>
    (ix Ar.Ao aJ).bind fun aK =>
    Jby Ar aL (IntKind.i64.wrap (ab + (IntKind.i64.wrap ((aM.Name.length : Int) + (aK.Value.length : Int))))) (IntKind.i64.wrap (aJ + 1))
    else
    some (ab, aJ)
def JbC (n : Nat) (Ar : Js) : Option (Bool) :=
  (Jby Ar n (IntKind.i64.wrap ((IntKind.i64.wrap ((IntKind.i64.wrap ((Ar.Am.length : Int) + (Ar.An.length : Int))) + (Ar.Ae.length : Int))) + (Ar.Af.length : Int))) 0).bind fun t0 =>
  some (decide (t0.1 ≤ 8000) && decide ((Ar.Ao.length : Int) ≤ 40))
theorem Je5 {n : Nat} {Ar : Js} {aa : Option Addr} {ac : Nat} {K : Hp} {r : Bool}
    (hm : JbC n Ar = some r) (ae : RdC Jh.enc K aa ac 2 Ar.Ao) :
    Fn Tryz.prog 12 [.agg #[str Ar.Am, str Ar.An, str Ar.Ae, str Ar.Af, .slice aa Ar.Ao.length ac]] K [] (fun v K' H' => v = .bool r ∧ H' = []) := by
 refine Fn.enter Tryz.func12 Tryz.call12 rfl fun F => ?_
 unfold JbC at hm
 refine qas ?_
 intro b1
 refine fa rfl (ro (ld r0 rfl rfl (ro (qa2 rfl (fa rfl (ro (ld r0 rfl rfl (ro (qa2 rfl ?_)))))))))
 refine qdq ?_
 refine fa rfl (ro (ld r0 rfl rfl (ro (qa2 rfl ?_))))
 refine qdq ?_
 refine fa rfl (ro (ld r0 rfl rfl (ro (qa2 rfl ?_))))
 refine qdq ?_
 obtain ⟨s0, aK, hm⟩ := bnd hm
 refine lD (σ := (Int × Int)) ([3,4] ++ rg 20 24) [0, 1] (fun _ => []) (fun t0 => [(3, .int .i64 t0.1), (4, .int .i64 t0.2)]) (fun _ => []) (fun _ => True) (fun i0 t0 => Jby Ar i0 t0.1 t0.2 = some s0) (fun t0 => t0 = s0) (fun i0 => i0) n (_, _) aK (And.intro qe (And.intro ?_ ?_))
 clear aK
 rintro i0 ⟨ab, aL⟩ _ aK j0
 dsimp only at aK ⊢
 cases i0 with
 | zero => rw [Jby.eq_1] at aK; cases aK
 | succ i0 =>
  rw [Jby.eq_2] at aK
  refine fa rfl (ro (ld r0 rfl rfl (ro (qai rfl ?_))))
  refine cs rfl rfl aK ?_ ?_ <;> intro aR aK
  refine qak rfl ?_
  refine qa4 ⟨⟨[], false⟩, _, [(_, _)], []⟩ (by kernel_rfl) ⟨Hp.Le.refl _, (pf rfl), ci0⟩ ?_
  refine fa rfl (qao m0 rfl rfl ?_)
  obtain ⟨aQ, aP, aM, aK⟩ := ixb aK
  refine qac rfl rfl (qdg ae.rd aM) aP (qay rfl aP aM) (qaz rfl (qdg ae.rd aM) (qbk ((aL).toNat) 0 _ _ ae.rd rfl (mp aM) rfl rfl (qhj rfl (fa rfl (qao m0 rfl rfl ?_)))))
  obtain ⟨aS, aO, aN, aK⟩ := ixb aK
  refine qac rfl rfl (qdg ae.rd aN) aO (qay rfl aO aN) (qaz rfl (qdg ae.rd aN) (qbk ((aL).toNat) 1 _ _ ae.rd rfl (mp aN) rfl rfl (qhj rfl ?_)))
  refine qdq ?_
  refine qdq ?_
  refine qdq ?_
  exact eR aK (_, (_, _))
  refine cT ?_
  exact eM aK _
 rintro t0 _ rfl j0
 refine qaj rfl ?_
 refine qag ?_ ?_ <;> intro aJ
 refine fa rfl (ct aJ (ro (ld r0 rfl rfl (ct aJ (ro (qai rfl (ct aJ (ct aJ ?_))))))))
 exact bE (qdh (b := decide ((Ar.Ao.length : Int) ≤ 40)) aJ) (eE hm)
 refine cf aJ (cf aJ (cf aJ (cf aJ ?_)))
 exact bE (((qa0 aJ)).symm) (eE hm)

def JbI (rec_ : (Jb → Option (Ja))) : List Jb → Nat → (List Ja) → Option ((List Ja))
  | [], _, ab => some ab
  | e0 :: aK, i0, ab =>
    (rec_ e0).bind fun aJ =>
    (chk (ab.length + [aJ].length ≤ lim)).bind fun _ =>
    JbI rec_ aK (i0 + 1) (ab ++ [aJ])
def JbF : Nat → Jb → Option (Ja)
  | 0, _ => none
  | n + 1, n' =>
    (chk (n'.Aa.length ≤ qav)).bind fun _ =>
    (JbI (JbF n) n'.Aa 0 []).bind fun t0 =>
    some (⟨n'.Ab, n'.Ac, t0, n'.Ad⟩ : Ja)
theorem Jfi : ∀ {n : Nat} {n' : Jb} {aa : Option Addr} {ac : Nat} {K : Hp} {r : Ja}
    (hm : JbF n n' = some r) (ae : LiC Jb.R K aa ac 4 n'.Aa),
    Fn Tryz.prog 23 [.agg #[.int .i64 n'.Ab, str n'.Ac, .slice aa n'.Aa.length ac, .int .i64 n'.Ad]] K [] (fun v K' H' => ∃ ar_0 : Option Addr, ∃ cr_0 : Nat, ∃ sr_0 : List (List Value), v = .agg #[.int .i64 r.Ab, str r.Ac, .slice ar_0 r.Aa.length cr_0, .int .i64 r.Ad] ∧ (0 < r.Aa.length → Has ar_0) ∧ LR Ja.R K' sr_0 r.Aa ∧ H' = [OwnA ar_0 68 4 cr_0 sr_0]) := by
 intro n
 induction n with
 | zero =>
   intro n' aa ac K r hm ae
   rw [JbF.eq_1] at hm; cases hm
 | succ n ih =>
   intro n' aa ac K r hm ae
   refine Fn.enter Tryz.func23 Tryz.call23 rfl fun F => ?_
   rw [JbF.eq_2] at hm
   refine qas ?_
   intro b1
   refine qal rfl fun b2 => ?_
   refine fa rfl (ro (ld r1 rfl rfl (fa rfl (ro (ld r1 rfl rfl (fa rfl (ro (ld r1 rfl rfl (qam rfl rfl (cT ?_))))))))))
   refine cT (cT ?_)
   refine qal rfl fun b3 => ?_
   refine qab r0 rfl ⟨rfl, rfl, (nl rfl), ?_⟩
   refine fa rfl (ro (ld r2 rfl rfl (ro (qai rfl ?_))))
   obtain ⟨bu, hm⟩ := qa7 hm
   obtain ⟨s0, aR, hm⟩ := bnd hm
   refine ql6 (fun _ : Ja => []) 68 4 ?_
   refine lC (σ := ((List Ja)) × Option Addr × Nat × List (List Value)) ([5] ++ rg 16 12) [2, 3, 4] (fun i0 => [(16, .int .i64 (i0 : Int))]) (fun _ => []) (fun (t0, aM, aP, aO) => [OwnA aM 68 4 aP aO, Cells b3 68 [.int .i64 n'.Ab, str n'.Ac, .slice aM t0.length aP, .int .i64 n'.Ad]]) (fun zz K1 => match zz with | (t0, aM, aP, aO) => LR Ja.R K1 aO t0 ∧ (0 < t0.length → Has aM)) (fun i0 (t0, aM, aP, aO) => JbI (JbF n) (n'.Aa.drop i0) i0 t0 = some s0) (fun (t0, aM, aP, aO) => t0 = s0) (fun i0 => n'.Aa.length - i0) 0 (_, _, _, _) aR (And.intro qe (And.intro ?_ ?_))
   clear aR
   rintro i0 ⟨ab, ba, a6, bm⟩ bD bo ⟨aT, aZ⟩ aR j0
   conv at aR => whnf
   refine qad rfl ?_
   refine qag ?_ ?_ <;> intro w0
   obtain ⟨e0, aV, br⟩ := ltx w0
   rw [br, JbI.eq_2] at aR
   refine qak rfl ?_
   refine RStep.ofN (qac rfl rfl (qdc (LiC.mono Jb.R_ok bo ae).rd aV) (nn _) (qbs aV) ?_)
   obtain ⟨bv, bw, aY, aX, aW⟩ := LiR.get (LiC.mono Jb.R_ok bo ae).rd aV
   obtain ⟨bc, bb, rfl, bg⟩ := Jb.out aW
   refine ro (qan i0 _ aY rfl aX rfl ?_)
   refine qal rfl fun b5 => ?_
   refine qab r0 rfl ⟨rfl, rfl, (nl rfl), ?_⟩
   refine qbm ⟨⟨[], false⟩, _, [(_, _), (_, _)], []⟩ 5 rfl (by kernel_rfl) ⟨Hp.Le.refl _, (sc [2,0] rfl), ci0⟩ ?_
   refine fa rfl (qao m0 rfl rfl (qbx m1 rfl (nl rfl) ?_))
   refine cb aR fun aN bp aR => cfx (ih bp :) ?_
   rintro _ bI _ a8 ⟨aL, aK, bn, rfl, bj, aS, rfl⟩
   refine qk (sc [3,1] rfl) ?_
   refine qwc Ja.R_ok r0 aS fun aU aQ aJ => ?_
   refine qv1 (R := Ja.R) (len := 1) (l := [aN]) (css := [[.int .i64 aN.Ab, str aN.Ac, .slice aL aN.Aa.length aK, .int .i64 aN.Ad]]) (cl := [.int .i64 aN.Ab, str aN.Ac, .slice aL aN.Aa.length aK, .int .i64 aN.Ad]) Ja.R_ok qrn rfl rfl (LR.snoc LR.nil (Ja.of (x := aN) ⟨aL, aK, rfl, aJ⟩)) rfl rfl rfl ?_ fun bA => ?_
   · conv => whnf
     refine cT ?_
     first | done | rfl
   refine ⟨⟨(a8.trans aQ), (sc [3,1] rfl), ci0⟩, ?_⟩
   obtain ⟨bt, aR⟩ := qa7 aR
   refine qwa r2 (LR.mono Ja.R_ok (a8.trans aQ) aT) rfl qrn (qo4 rfl r0 rfl Ja.R_ok (show LR Ja.R _ [[.int .i64 aN.Ab, str aN.Ac, .slice aL aN.Aa.length aK, .int .i64 aN.Ad]] [aN] from (LR.snoc LR.nil (Ja.of (x := aN) ⟨aL, aK, rfl, aJ⟩)))) (show LR Ja.R _ [[.int .i64 aN.Ab, str aN.Ac, .slice aL aN.Aa.length aK, .int .i64 aN.Ad]] [aN] from (LR.snoc LR.nil (Ja.of (x := aN) ⟨aL, aK, rfl, aJ⟩))) bt ?_
   intro bF bC bH r_25 bB
   refine ⟨⟨Hp.emp_le _, (pf rfl), ci0⟩, ?_⟩
   refine fa rfl ?_
   refine qab r3 rfl ⟨rfl, rfl, (nl rfl), ?_⟩
   refine ⟨⟨Hp.emp_le _, (pf rfl), ci0⟩, ?_⟩
   refine qat (qcl aV bu) ?_
   exact eR aR (_, _, _, _, _)
   rw [lty w0, JbI.eq_1] at aR
   refine cT ?_
   exact eM aR (_, _, _, _)
   rintro ⟨t0, aM, aP, aO⟩ bG bz ⟨bh, bf⟩ rfl j0
   refine ro (qae r1 rfl (nl rfl) ?_)
   refine qab r2 rfl ⟨rfl, rfl, (nl rfl), ?_⟩
   exact ro (qae r0 rfl (nl rfl) (eE hm))

def JaS : List Jh → Nat → (List Jc) → Option ((List Jc))
  | [], _, ab => some ab
  | e0 :: aJ, i0, ab =>
    (chk (ab.length + [(⟨e0.Name, e0.Value⟩ : Jc)].length ≤ lim)).bind fun _ =>
    JaS aJ (i0 + 1) (ab ++ [(⟨e0.Name, e0.Value⟩ : Jc)])
def Jcp (l : (List Jh)) : Option ((List Jc)) :=
  (chk (l.length ≤ qav)).bind fun _ =>
  (JaS l 0 []).bind fun t0 =>
  some t0
theorem JeE {l : (List Jh)} {aa : Option Addr} {ac : Nat} {n0 : Nat} {K : Hp} {r : (List Jc)}
    (hm : Jcp l = some r) (hX : RdC Jh.enc K aa ac 2 l ∧ n0 = l.length) :
    Fn Tryz.prog 34 [.slice aa n0 ac] K [] (fun v K' H' => ∃ ar_0 : Option Addr, ∃ cr_0 : Nat, v = .slice ar_0 r.length cr_0 ∧ (0 < r.length → Has ar_0) ∧ H' = [OwnL Jc.enc ar_0 77 2 cr_0 r]) := by
 obtain ⟨ae, aS⟩ := hX
 subst aS
 refine Fn.enter Tryz.func34 Tryz.call34 rfl fun F => ?_
 unfold Jcp at hm
 refine ro (qai rfl ?_)
 obtain ⟨aT, hm⟩ := qa7 hm
 obtain ⟨s0, aL, hm⟩ := bnd hm
 refine ql6 Jc.enc 77 2 ?_
 refine lD (σ := ((List Jc)) × Option Addr × Nat) ([3,5] ++ rg 8 13) [1] (fun i0 => [(8, .int .i64 (i0 : Int))]) (fun (t0, aJ, aK) => [(3, .slice aJ t0.length aK)]) (fun (t0, aJ, aK) => [OwnL Jc.enc aJ 77 2 aK t0]) (fun (t0, aJ, aK) => (0 < t0.length → Has aJ) ∧ True) (fun i0 (t0, aJ, aK) => JaS (l.drop i0) i0 t0 = some s0) (fun (t0, aJ, aK) => t0 = s0) (fun i0 => l.length - i0) 0 (_, _, _) aL (And.intro qe (And.intro ?_ ?_))
 clear aL
 rintro i0 ⟨ab, aP, aQ⟩ ⟨aN, _⟩ aL j0
 conv at aL => whnf
 refine qad rfl ?_
 refine qag ?_ ?_ <;> intro w0
 obtain ⟨e0, aM, aU⟩ := ltx w0
 rw [aU, JaS.eq_2] at aL
 refine qak rfl ?_
 refine RStep.ofN (qac rfl rfl (qdg ae.rd aM) (nn _) (qbs aM) (ro (qan i0 _ ae.rd rfl (mp aM) rfl ?_)))
 refine qal rfl fun b5 => ?_
 refine qab r0 rfl ⟨rfl, rfl, (nl rfl), ?_⟩
 refine fa rfl (ro (ld r0 rfl rfl (fa rfl (ro (ld r0 rfl rfl (qam rfl rfl (cT (cT ?_))))))))
 refine bsO (len := 1) (enc := Jc.enc) (l := [(⟨e0.Name, e0.Value⟩ : Jc)]) (cl := [str e0.Name, str e0.Value]) qhx rfl rfl (fun _ _ => rfl) rfl rfl rfl ?_ fun aV => ?_
 · conv => whnf
   refine cT ?_
   first | done | rfl
 obtain ⟨aR, aL⟩ := qa7 aL
 refine apE rfl r2 qhx (qa6 rfl r0 rfl (fun _ => rfl) (fun _ => rfl)) aR ?_
 intro aY aW aX
 refine qat (qcl aM aT) ?_
 exact eR aL (_, _, _, _)
 rw [lty w0, JaS.eq_1] at aL
 refine cT ?_
 exact eM aL (_, _, _)
 rintro ⟨t0, aJ, aK⟩ ⟨aO, _⟩ rfl j0
 exact eE hm

def JaE (Ar : Js) : Option (JB) :=
  (Jcp Ar.Ao).bind fun aJ =>
  some (⟨Ar.Am, Ar.An, Ar.Ae, Ar.Af, aJ⟩ : JB)
theorem JeT {Ar : Js} {aa : Option Addr} {ac : Nat} {K : Hp} {r : JB}
    (hm : JaE Ar = some r) (ae : RdC Jh.enc K aa ac 2 Ar.Ao) :
    Fn Tryz.prog 15 [.agg #[str Ar.Am, str Ar.An, str Ar.Ae, str Ar.Af, .slice aa Ar.Ao.length ac]] K [] (fun v K' H' => ∃ ar_0 : Option Addr, ∃ cr_0 : Nat, v = .agg #[str r.Am, str r.An, str r.Ae, str r.Af, .slice ar_0 r.Ao.length cr_0] ∧ (0 < r.Ao.length → Has ar_0) ∧ H' = [OwnL Jc.enc ar_0 77 2 cr_0 r.Ao]) := by
 refine Fn.enter Tryz.func15 Tryz.call15 rfl fun F => ?_
 unfold JaE at hm
 refine qas ?_
 intro b1
 refine qal rfl fun b2 => ?_
 refine qa4 ⟨⟨[], false⟩, _, [(_, _)], []⟩ (by kernel_rfl) ⟨Hp.Le.refl _, (sc [1] rfl), ci0⟩ ?_
 refine fa rfl (qao m0 rfl rfl (fa rfl (qao m0 rfl rfl (fa rfl (qao m0 rfl rfl (fa rfl (qao m0 rfl rfl ?_)))))))
 refine fa rfl (qao m0 rfl rfl ?_)
 refine cb hm fun aN aM hm => ckx (JeE aM :) ?_
 rintro _ _ _ ⟨aL, aK, rfl, aJ, rfl⟩
 refine qk (sc [2] rfl) ?_
 refine qam rfl rfl (cT (cT (cT (cT (cT ?_)))))
 refine qab r1 rfl ⟨rfl, rfl, (nl rfl), ?_⟩
 refine qk (sc [2] rfl) ?_
 exact ro (qae r0 rfl (nl rfl) (eE hm))

def Jan (depth : Int) (rec_ : (Ja → Int → Int → Option (Bool × Int))) : List Ja → Nat → Int → Option (Fl (Bool × Int) (Int))
  | [], _, ab => some (Fl.go ab)
  | e0 :: aK, i0, ab =>
    (chk (InI (depth - 1))).bind fun _ =>
    (rec_ e0 ab (depth - 1)).bind fun aJ =>
    if (!aJ.1) then
    some (Fl.ret (false, aJ.2))
    else
    Jan depth rec_ aK (i0 + 1) aJ.2
def Jam : Nat → Ja → Int → Int → Option (Bool × Int)
  | 0, _, _, _ => none
  | n + 1, n', nodes, depth =>
    (chk (InI (nodes - 1))).bind fun _ =>
    if (decide ((nodes - 1) < 0) || decide (depth < 1)) then
    some (false, (nodes - 1))
    else
    (chk (n'.Aa.length ≤ qav)).bind fun _ =>
    (Jan depth (Jam n) n'.Aa 0 (nodes - 1)).bind fun s0 => s0.el some fun t0 =>
    some (true, t0)
theorem Jec : ∀ {n : Nat} {n' : Ja} {nodes : Int} {depth : Int} {aa : Option Addr} {ac : Nat} {b1 : Nat} {K : Hp} {r : Bool × Int}
    (hm : Jam n n' nodes depth = some r) (ae : LiC Ja.R K aa ac 4 n'.Aa),
    Fn Tryz.prog 124 [.agg #[.int .i64 n'.Ab, str n'.Ac, .slice aa n'.Aa.length ac, .int .i64 n'.Ad], .pointer (some ⟨b1, 0, none⟩), .int .i64 depth] K [Cells b1 3 [.int .i64 nodes]] (fun v K' H' => v = .bool r.1 ∧ H' = [Cells b1 3 [.int .i64 r.2]]) := by
 intro n
 induction n with
 | zero =>
   intro n' nodes depth aa ac b1 K r hm ae
   rw [Jam.eq_1] at hm; cases hm
 | succ n ih =>
   intro n' nodes depth aa ac b1 K r hm ae
   refine Fn.enter Tryz.func124 Tryz.call124 rfl fun F => ?_
   rw [Jam.eq_2] at hm
   refine qas ?_
   intro b3
   refine qah (ro (ld r1 rfl rfl ?_))
   obtain ⟨aU, hm⟩ := qa7 hm
   refine qat aU (qah ?_)
   refine qab r1 rfl ⟨rfl, rfl, (nl rfl), ?_⟩
   refine jR (σ := Unit) (rg 14 8) (fun _ => [(21, .bool (decide ((nodes - 1) < 0) || decide (depth < 1)))]) (fun aV => True) ?_ ?_
   refine qaj rfl ?_
   refine qah (ro (ld r0 rfl rfl ?_))
   refine qag ?_ ?_ <;> intro aJ
   refine ct aJ (ct aJ ?_)
   exact eMt () ⟨bq (((qds aJ)).symm), trivial⟩
   refine cf aJ (cf aJ ?_)
   exact eMt () ⟨bq (qll (b := decide (depth < 1)) aJ), trivial⟩
   rintro _ _ aY
   refine cs rfl rfl hm ?_ ?_ <;> intro a8 hm
   exact eE hm
   refine fa rfl (ro (ld r1 rfl rfl (ro (qai rfl ?_))))
   obtain ⟨aT, hm⟩ := qa7 hm
   obtain ⟨s0, aK, hm⟩ := bnd hm
   refine lD (σ := (Int)) ([6,8] ++ rg 25 11) [1, 2] (fun i0 => [(25, .int .i64 (i0 : Int))]) (fun _ => []) (fun t0 => [Cells b1 3 [.int .i64 t0]]) (fun _ => True) (fun i0 t0 => Jan depth (Jam n) (n'.Aa.drop i0) i0 t0 = some s0) (fun t0 => s0 = Fl.go t0) (fun i0 => n'.Aa.length - i0) 0 _ aK (And.intro qe (And.intro ?_ ?_))
   clear aK
   rintro i0 ab _ aK j0
   conv at aK => whnf
   refine qad rfl ?_
   refine qag ?_ ?_ <;> intro w0
   obtain ⟨e0, aL, aX⟩ := ltx w0
   rw [aX, Jan.eq_2] at aK
   refine qak rfl ?_
   refine RStep.ofN (qac rfl rfl (qdc ae.rd aL) (nn _) (qbs aL) ?_)
   obtain ⟨aW, aS, aM, aN, aO⟩ := LiR.get ae.rd aL
   obtain ⟨aQ, aP, rfl, aR⟩ := Ja.out aO
   refine ro (qan i0 _ aM rfl aN rfl ?_)
   refine qal rfl fun b8 => ?_
   refine qab r0 rfl ⟨rfl, rfl, (nl rfl), ?_⟩
   refine ro (qae r0 rfl (nl rfl) ?_)
   refine ci aK fun aK => ?_
   refine cb aK fun a6 aZ aK => cgx (ih aZ :) ?_
   refine qax ?_
   refine cs rfl rfl aK ?_ ?_ <;> intro ba aK
   exact eE (er aK hm)
   refine qat (qcl aL aT) ?_
   exact eR aK (_, _)
   rw [lty w0, Jan.eq_1] at aK
   refine cT ?_
   exact eM aK _
   rintro t0 _ rfl j0
   replace hm := elg hm
   exact eE hm

def Jao (kind : Int) (text : Str) : Option (Bool) :=
  if decide (text = ([61, 61] : Str)) then
  some (decide (kind = 4))
  else
  if decide (text = ([33, 61] : Str)) then
  some (decide (kind = 4))
  else
  if decide (text = ([60] : Str)) then
  some (decide (kind = 4))
  else
  if decide (text = ([60, 61] : Str)) then
  some (decide (kind = 4))
  else
  if decide (text = ([115, 116, 97, 114, 116, 115] : Str)) then
  some (decide (kind = 1))
  else
  if decide (text = ([101, 110, 100, 115] : Str)) then
  some (decide (kind = 1))
  else
  if decide (text = ([99, 111, 110, 116, 97, 105, 110, 115] : Str)) then
  some (decide (kind = 1))
  else
  some false
theorem Jcs {kind : Int} {text : Str} {K : Hp} {r : Bool}
    (hm : Jao kind text = some r)  :
    Fn Tryz.prog 222 [.int .i64 kind, str text] K [] (fun v K' H' => v = .bool r ∧ H' = []) := by
 refine Fn.enter Tryz.func222 Tryz.call222 rfl fun F => ?_
 unfold Jao at hm
 refine qak rfl ?_
 refine qar (cs rfl rfl hm ?_ ?_) <;> intro w6 hm
 refine qad rfl (ct w6 (qaf ?_))
 exact eE hm
 refine qar (cs rfl rfl hm ?_ ?_) <;> intro w6 hm
 refine qad rfl (ct w6 (qaf ?_))
 exact eE hm
 refine qar (cs rfl rfl hm ?_ ?_) <;> intro w6 hm
 refine qad rfl (ct w6 (qaf ?_))
 exact eE hm
 refine qar (cs rfl rfl hm ?_ ?_) <;> intro w6 hm
 refine qaf ?_
 exact eE hm
 refine qar (cs rfl rfl hm ?_ ?_) <;> intro aJ hm
 refine qad rfl (ct aJ (qaf ?_))
 exact eE hm
 refine qar (cs rfl rfl hm ?_ ?_) <;> intro aJ hm
 refine qad rfl (ct aJ (qaf ?_))
 exact eE hm
 refine qar (cs rfl rfl hm ?_ ?_) <;> intro aJ hm
 refine qaf ?_
 exact eE hm
 exact eE hm

def Jag : List UInt8 → Nat → Option (Fl (Bool) (Unit))
  | [], _ => some (Fl.go ())
  | e0 :: aK, i0 =>
    (if decide ((e0.toNat : Int) < 48) then some true else some (decide ((e0.toNat : Int) > 57))).bind fun aJ =>
    if aJ then
    some (Fl.ret false)
    else
    Jag aK (i0 + 1)
def Ja9 (s : Str) : Option (Bool) :=
  (chk (s.length ≤ qav)).bind fun _ =>
  (Jag s 0).bind fun s0 => s0.el some fun t0 =>
  some (decide ((s.length : Int) ≥ 1) && decide ((s.length : Int) ≤ 9))
theorem JdS {s : Str} {K : Hp} {r : Bool}
    (hm : Ja9 s = some r)  :
    Fn Tryz.prog 223 [str s] K [] (fun v K' H' => v = .bool r ∧ H' = []) := by
 refine Fn.enter Tryz.func223 Tryz.call223 rfl fun F => ?_
 unfold Ja9 at hm
 refine ro (qa2 rfl ?_)
 obtain ⟨aP, hm⟩ := qa7 hm
 obtain ⟨s0, aL, hm⟩ := bnd hm
 refine lD (σ := (Unit)) ([2,3] ++ rg 6 14) [0] (fun i0 => [(6, .int .i64 (i0 : Int))]) (fun _ => []) (fun _ => []) (fun _ => True) (fun i0 _ => Jag (s.drop i0) i0 = some s0) (fun t0 => s0 = Fl.go t0) (fun i0 => s.length - i0) 0 () aL (And.intro qe (And.intro ?_ ?_))
 clear aL
 rintro i0 _ _ aL j0
 conv at aL => whnf
 refine qad rfl ?_
 refine qag ?_ ?_ <;> intro w0
 obtain ⟨e0, aN, aQ⟩ := ltx w0
 rw [aQ, Jag.eq_2] at aL
 refine qak rfl ?_
 refine qaj rfl ?_
 refine qba rfl (nn _) aN ?_
 obtain ⟨aR, aM, aL⟩ := bnd aL
 refine cS aM (fun aJ aM => ?_) fun aJ aM => ?_
 refine ct aJ (ct aJ (ct aJ (ct aJ (qad rfl (cT ?_)))))
 replace aL := ift (si aM).symm aL
 exact eE (er aL hm)
 refine cf aJ (cf aJ (qba rfl (nn _) aN (cf aJ (cf aJ (qad rfl ?_)))))
 refine qag ?_ ?_ <;> intro aO
 replace aL := ift ((si aM).symm.trans aO) aL
 exact eE (er aL hm)
 replace aL := qbp ((si aM).symm.trans aO) aL
 refine qat (qcl aN aP) ?_
 exact eR aL (_, ())
 rw [lty w0, Jag.eq_1] at aL
 refine cT ?_
 exact eM aL _
 rintro t0 _ rfl j0
 replace hm := elg hm
 refine qaj rfl ?_
 refine ro (qa2 rfl ?_)
 refine qag ?_ ?_ <;> intro aK
 refine ct aK (ro (qa2 rfl (ct aK (ct aK ?_))))
 exact bE (qdh (b := decide ((s.length : Int) ≤ 9)) aK) (eE hm)
 refine cf aK (cf aK (cf aK ?_))
 exact bE (((qa0 aK)).symm) (eE hm)

def Jah (s : Str) : Option (Bool) :=
  (JbN s).bind fun x7 =>
  some x7.2.isNone
theorem JbJ {s : Str} {K : Hp} {r : Bool}
    (hm : Jah s = some r)  :
    Fn Tryz.prog 158 [str s] K [] (fun v K' H' => v = .bool r ∧ H' = []) := by
 refine Fn.enter Tryz.func158 Tryz.call158 rfl fun F => ?_
 unfold Jah at hm
 refine cb hm fun x7 q7 hm => cg0 (Jdd q7 :) ?_
 refine qf0 rfl ?_
 exact eE hm

def JbD (c : UInt8) : Option (Bool) :=
  some ((decide ((c.toNat : Int) ≥ 97) && decide ((c.toNat : Int) ≤ 122)) || decide ((c.toNat : Int) = 95))
theorem JcZ {c : UInt8} {K : Hp} {r : Bool}
    (hm : JbD c = some r)  :
    Fn Tryz.prog 248 [.int .u8 (c.toNat : Int)] K [] (fun v K' H' => v = .bool r ∧ H' = []) := by
 refine Fn.enter Tryz.func248 Tryz.call248 rfl fun F => ?_
 unfold JbD at hm
 refine qaj rfl ?_
 refine qag ?_ ?_ <;> intro aJ
 refine ct aJ (ct aJ ?_)
 refine qag ?_ ?_ <;> intro aK
 refine ct aK (ct aK ?_)
 exact bE (((qds (qb5 aJ aK))).symm) (eE hm)
 refine cf aK (qaf (cf aK ?_))
 exact bE (qll (b := decide ((c.toNat : Int) = 95)) (qcs aJ aK)) (eE hm)
 refine cf aJ (cf aJ (cF (cF (qaf (cF ?_)))))
 exact bE (qll (b := decide ((c.toNat : Int) = 95)) (qa0 aJ)) (eE hm)

def Jbi (c : UInt8) : Option (Bool) :=
  some (decide ((c.toNat : Int) ≥ 48) && decide ((c.toNat : Int) ≤ 57))
theorem Jcq {c : UInt8} {K : Hp} {r : Bool}
    (hm : Jbi c = some r)  :
    Fn Tryz.prog 249 [.int .u8 (c.toNat : Int)] K [] (fun v K' H' => v = .bool r ∧ H' = []) := by
 refine Fn.enter Tryz.func249 Tryz.call249 rfl fun F => ?_
 unfold Jbi at hm
 refine qaj rfl ?_
 refine qag ?_ ?_ <;> intro aJ
 refine ct aJ (ct aJ ?_)
 exact bE (qdh (b := decide ((c.toNat : Int) ≤ 57)) aJ) (eE hm)
 refine cf aJ (cf aJ ?_)
 exact bE (((qa0 aJ)).symm) (eE hm)

def JaA (s : Str) : Nat → Str → Int → Option (Fl (Int × Str) (Str × Int))
  | 0, _, _ => none
  | aL + 1, ab, aJ =>
    if decide (aJ < (s.length : Int)) then
    (ix s aJ).bind fun aK =>
    if decide ((aK.toNat : Int) = 34) then
    (chk (InI (aJ + 1))).bind fun _ =>
    some (Fl.ret ((aJ + 1), ab))
    else
    if decide ((aK.toNat : Int) = 92) then
    (chk (InI (aJ + 1))).bind fun _ =>
    if decide ((aJ + 1) = (s.length : Int)) then
    some (Fl.ret (0, ([] : Str)))
    else
    (ix s (aJ + 1)).bind fun aP =>
    (if decide ((aP.toNat : Int) ≠ 34) then (ix s (aJ + 1)).bind fun aO =>
    some (decide ((aO.toNat : Int) ≠ 92)) else some false).bind fun aN =>
    if aN then
    some (Fl.ret (0, ([] : Str)))
    else
    (ix s (aJ + 1)).bind fun aM =>
    (chk (ab.length + ([aM] : Str).length ≤ lim)).bind fun _ =>
    (chk (InI ((aJ + 1) + 1))).bind fun _ =>
    JaA s aL (ab ++ ([aM] : Str)) ((aJ + 1) + 1)
    else
    if (decide ((aK.toNat : Int) < 32) || decide ((aK.toNat : Int) > 126)) then
    some (Fl.ret (0, ([] : Str)))
    else
    (chk (ab.length + ([aK] : Str).length ≤ lim)).bind fun _ =>
    (chk (InI (aJ + 1))).bind fun _ =>
    JaA s aL (ab ++ ([aK] : Str)) (aJ + 1)
    else
    some (Fl.go (ab, aJ))
def Jcl (n : Nat) (s : Str) : Option (Int × Str) :=
  (JaA s n [] 1).bind fun s0 => s0.el some fun t0 =>
  some (0, ([] : Str))
theorem Jed {n : Nat} {s : Str} {K : Hp} {r : Int × Str}
    (hm : Jcl n s = some r)  :
    Fn Tryz.prog 250 [str s] K [] (fun v K' H' => v = .tuple #[.int .i64 r.1, str r.2] ∧ H' = []) := by
 refine Fn.enter Tryz.func250 Tryz.call250 rfl fun F => ?_
 unfold Jcl at hm
 obtain ⟨s0, aJ, hm⟩ := bnd hm
 refine ql6 eU 5 1 ?_
 refine lD (σ := (Str × Int) × Option Addr × Nat) (rg 2 56) [1] (fun _ => []) (fun (t0, aN, aO) => [(4, .slice aN t0.1.length aO), (5, .int .i64 t0.2)]) (fun (t0, aN, aO) => [OwnL eU aN 5 1 aO t0.1]) (fun (t0, aN, aO) => (0 < t0.1.length → Has aN) ∧ True) (fun i0 (t0, aN, aO) => JaA s i0 t0.1 t0.2 = some s0) (fun (t0, aN, aO) => s0 = Fl.go t0) (fun i0 => i0) n ((_, _), _, _) aJ (And.intro qe (And.intro ?_ ?_))
 clear aJ
 rintro i0 ⟨⟨ab, bg⟩, bb, a6⟩ ⟨aU, _⟩ aJ j0
 dsimp only at aJ ⊢
 cases i0 with
 | zero => rw [JaA.eq_1] at aJ; cases aJ
 | succ i0 =>
  rw [JaA.eq_2] at aJ
  refine ro (qa2 rfl ?_)
  refine cs rfl rfl aJ ?_ ?_ <;> intro bw aJ
  refine qak rfl ?_
  obtain ⟨aV, bf, bh, aJ⟩ := ixb aJ
  refine qba rfl bf bh ?_
  refine qak rfl ?_
  refine qaf (cs rfl rfl aJ ?_ ?_) <;> intro br aJ
  refine qa4 ⟨⟨[], false⟩, _, [], []⟩ (by kernel_rfl) ⟨Hp.Le.refl _, (pf rfl), ci0⟩ ?_
  refine ci aJ fun aJ => ?_
  refine qhl rfl r0 rfl rfl rfl ?_
  exact eE (er aJ hm)
  refine qaf (cs rfl rfl aJ ?_ ?_) <;> intro bt aJ
  refine ci aJ fun aJ => ?_
  refine qaj rfl ?_
  refine ro (qa2 rfl (qaf ?_))
  refine cS aJ (fun aK aJ => ?_) fun aK aJ => ?_
  refine ct aK (ct aK (ct aK (ct aK (ct aK (ct aK (qad rfl (cT ?_)))))))
  exact eE (er aJ hm)
  refine cf aK (cf aK ?_)
  obtain ⟨bu, bo, bj, aJ⟩ := ixb aJ
  refine qba rfl bo bj (cf aK (qbf (cf aK ?_)))
  obtain ⟨bp, aP, aJ⟩ := bnd aJ
  refine cS aP (fun aL aP => ?_) fun aL aP => ?_
  refine ct aL (ct aL ?_)
  obtain ⟨bv, bn, bm, aP⟩ := ixb aP
  refine qba rfl bn bm (ct aL (qbf (cf aK (ct aL (cf aK (qad rfl ?_))))))
  refine qag ?_ ?_ <;> intro aW
  replace aJ := ift ((si aP).symm.trans aW) aJ
  exact eE (er aJ hm)
  replace aJ := qbp ((si aP).symm.trans aW) aJ
  obtain ⟨aR, aT, aS, aJ⟩ := ixb aJ
  refine qba rfl aT aS ?_
  refine bsO (len := 1) (enc := eU) (l := ([aR] : Str)) (cl := [.int .u8 (aR.toNat : Int)]) qb2 rfl rfl (fun _ _ => rfl) rfl rfl rfl ?_ fun ba => ?_
  · conv => whnf
    refine cT ?_
    first | done | rfl
  obtain ⟨aQ, aJ⟩ := qa7 aJ
  refine apE rfl r1 qb2 (qa6 rfl r0 rfl (fun _ => rfl) (fun _ => rfl)) aQ ?_
  intro a8 aZ aY
  refine ci aJ fun aJ => ?_
  exact eR aJ (_, (_, _), _, _)
  refine cf aL (cf aL (cf aL (cf aK (cf aL (cf aK (qad rfl (cF ?_)))))))
  replace aJ := qbp (si aP).symm aJ
  obtain ⟨aR, aT, aS, aJ⟩ := ixb aJ
  refine qba rfl aT aS ?_
  refine bsO (len := 1) (enc := eU) (l := ([aR] : Str)) (cl := [.int .u8 (aR.toNat : Int)]) qb2 rfl rfl (fun _ _ => rfl) rfl rfl rfl ?_ fun ba => ?_
  · conv => whnf
    refine cT ?_
    first | done | rfl
  obtain ⟨aQ, aJ⟩ := qa7 aJ
  refine apE rfl r1 qb2 (qa6 rfl r0 rfl (fun _ => rfl) (fun _ => rfl)) aQ ?_
  intro a8 aZ aY
  refine ci aJ fun aJ => ?_
  exact eR aJ (_, (_, _), _, _)
  refine qaj rfl ?_
  refine qag ?_ ?_ <;> intro aM
  refine ct aM (ct aM (qad rfl (cT ?_)))
  replace aJ := ift (qds aM) aJ
  exact eE (er aJ hm)
  refine cf aM (cf aM (qad rfl ?_))
  refine qag ?_ ?_ <;> intro bc
  replace aJ := ift (qi9 aM bc) aJ
  exact eE (er aJ hm)
  replace aJ := qbp (qgw aM bc) aJ
  refine bsO (len := 1) (enc := eU) (l := ([aV] : Str)) (cl := [.int .u8 (aV.toNat : Int)]) qb2 rfl rfl (fun _ _ => rfl) rfl rfl rfl ?_ fun ba => ?_
  · conv => whnf
    refine cT ?_
    first | done | rfl
  obtain ⟨aQ, aJ⟩ := qa7 aJ
  refine apE rfl r1 qb2 (qa6 rfl r0 rfl (fun _ => rfl) (fun _ => rfl)) aQ ?_
  intro a8 aZ aY
  refine ci aJ fun aJ => ?_
  exact eR aJ (_, (_, _), _, _)
  refine cT ?_
  exact eM aJ (_, _, _)
 rintro ⟨t0, aN, aO⟩ ⟨aX, _⟩ rfl j0
 replace hm := elg hm
 exact eE hm
