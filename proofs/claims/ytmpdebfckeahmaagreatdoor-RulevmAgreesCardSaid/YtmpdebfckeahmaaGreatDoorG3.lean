/- Functions of the program: mirrors, and that a call returns what the mirror says. Printed by gen.py. -/
import Derived.Test.YtmpdebfckeahmaaGreatDoorG2
set_option linter.unusedVariables false
set_option linter.unusedSimpArgs false
open Go Go.SL Go.Proofs
noncomputable section
set_option maxRecDepth 1000000
set_option maxHeartbeats 8000000
def Jbh (text : Str) : Nat → Int → Option (Int)
  | 0, _ => none
  | aM + 1, aL =>
    (if decide (aL < (text.length : Int)) then (ix text aL).bind fun aN =>
    some (decide ((aN.toNat : Int) ≠ 10)) else some false).bind fun aO =>
    if aO then
    (chk (InI (aL + 1))).bind fun _ =>
    Jbh text aM (aL + 1)
    else
    some aL
def Jae (text : Str) (n : Nat) : Nat → (List JG) → Int → Int → Int → Option (Fl ((List JG) × Err) ((List JG) × Int × Int × Int))
  | 0, _, _, _, _ => none
  | aP + 1, ac, aN, aM, aL =>
    if decide (aL < (text.length : Int)) then
    (ix text aL).bind fun aQ =>
    if decide ((aQ.toNat : Int) = 10) then
    (chk (InI (aL + 1))).bind fun _ =>
    (chk (InI (aN + 1))).bind fun _ =>
    Jae text n aP ac (aN + 1) (aL + 1) (aL + 1)
    else
    if decide ((aQ.toNat : Int) = 32) then
    (chk (InI (aL + 1))).bind fun _ =>
    Jae text n aP ac aN aM (aL + 1)
    else
    if decide ((aQ.toNat : Int) = 9) then
    (chk (InI (aL + 1))).bind fun _ =>
    Jae text n aP ac aN aM (aL + 1)
    else
    if decide ((aQ.toNat : Int) = 13) then
    (chk (InI (aL + 1))).bind fun _ =>
    Jae text n aP ac aN aM (aL + 1)
    else
    if decide ((aQ.toNat : Int) = 35) then
    (Jbh text n aL).bind fun t3 =>
    Jae text n aP ac aN aM t3
    else
    (chk (0 ≤ aL ∧ aL ≤ (text.length : Int) ∧ (text.length : Int) ≤ (text.length : Int))).bind fun _ =>
    (Jck n (subL text aL (text.length : Int))).bind fun aO =>
    if decide (aO.2.1 = 0) then
    some (Fl.ret ([], (some 2)))
    else
    (chk (InI (aL - aM))).bind fun _ =>
    (chk (InI ((aL - aM) + 1))).bind fun _ =>
    (chk (ac.length + [(⟨aO.1, aO.2.2, aN, ((aL - aM) + 1)⟩ : JG)].length ≤ lim)).bind fun _ =>
    (chk (InI (aL + aO.2.1))).bind fun _ =>
    Jae text n aP (ac ++ [(⟨aO.1, aO.2.2, aN, ((aL - aM) + 1)⟩ : JG)]) aN aM (aL + aO.2.1)
    else
    some (Fl.go (ac, aN, aM, aL))
def Jcl (n : Nat) (text : Str) : Option ((List JG) × Err) :=
  if decide ((text.length : Int) > 4096) then
  some ([], (some 5))
  else
  (Jae text n n [] 1 0 0).bind fun s0 => s0.el some fun t0 =>
  (chk (InI ((text.length : Int) - t0.2.2.1))).bind fun _ =>
  (chk (InI (((text.length : Int) - t0.2.2.1) + 1))).bind fun _ =>
  (chk (t0.1.length + ([(⟨5, ([] : Str), t0.2.1, (((text.length : Int) - t0.2.2.1) + 1)⟩ : JG)]).length ≤ lim)).bind fun _ =>
  some ((t0.1 ++ [(⟨5, ([] : Str), t0.2.1, (((text.length : Int) - t0.2.2.1) + 1)⟩ : JG)]), none)
theorem JeG {n : Nat} {text : Str} {K : Hp} {r : (List JG) × Err}
    (hm : Jcl n text = some r)  :
    Fn Tryz.prog 192 [str text] K [] (fun v K' H' => ∃ ar_0 : Option Addr, ∃ cr_0 : Nat, v = .tuple #[.slice ar_0 r.1.length cr_0, qcx 87 r.2] ∧ (0 < r.1.length → Has ar_0) ∧ H' = [OwnL JG.enc ar_0 269 4 cr_0 r.1]) := by
 refine Fn.enter Tryz.func192 Tryz.call192 rfl fun F => ?_
 unfold Jcl at hm
 refine ro (qa2 rfl ?_)
 refine cs rfl rfl hm ?_ ?_ <;> intro bF hm
 refine qa3 rfl ?_
 refine qi7 JG.enc 269 4 ?_
 exact eE hm
 obtain ⟨s0, aL, hm⟩ := bnd hm
 refine qnr JG.enc 269 4 ?_
 refine lD (σ := ((List JG) × Int × Int × Int) × Option Addr × Nat) (rg 2 9 ++ rg 15 59) [1] (fun _ => []) (fun (t0, aN, aO) => [(4, .slice aN t0.1.length aO), (5, .int .i64 t0.2.1), (6, .int .i64 t0.2.2.1), (7, .int .i64 t0.2.2.2)]) (fun (t0, aN, aO) => [OwnL JG.enc aN 269 4 aO t0.1]) (fun (t0, aN, aO) => (0 < t0.1.length → Has aN) ∧ True) (fun i0 (t0, aN, aO) => Jae text n i0 t0.1 t0.2.1 t0.2.2.1 t0.2.2.2 = some s0) (fun (t0, aN, aO) => s0 = Fl.go t0) (fun i0 => i0) n ((_, _, _, _), _, _) aL (And.intro qe (And.intro ?_ ?_))
 clear aL
 rintro i0 ⟨⟨ac, aS, aT, aR⟩, ba, a8⟩ ⟨aX, _⟩ aL j0
 dsimp only at aL ⊢
 cases i0 with
 | zero => rw [Jae.eq_1] at aL; cases aL
 | succ i0 =>
  rw [Jae.eq_2] at aL
  refine ro (qa2 rfl ?_)
  refine cs rfl rfl aL ?_ ?_ <;> intro bN aL
  refine qal rfl ?_
  obtain ⟨bD, bm, bt, aL⟩ := ixb aL
  refine qbb rfl bm bt ?_
  refine qal rfl ?_
  refine qad (cs rfl rfl aL ?_ ?_) <;> intro bL aL
  refine ci aL fun aL => ?_
  obtain ⟨bh, aL⟩ := qa5 aL
  refine qat bh (cF (cT ?_))
  exact eR aL (_, (_, _, _, _), _, _)
  refine qad (cs rfl rfl aL ?_ ?_) <;> intro aV aL
  refine qaf rfl (ct aV ?_)
  obtain ⟨aU, aL⟩ := qa5 aL
  refine qat aU (cF (cT ?_))
  exact eR aL (_, (_, _, _, _), _, _)
  refine qad (cs rfl rfl aL ?_ ?_) <;> intro aV aL
  refine qaf rfl (ct aV ?_)
  obtain ⟨aU, aL⟩ := qa5 aL
  refine qat aU (cF (cT ?_))
  exact eR aL (_, (_, _, _, _), _, _)
  refine qad (cs rfl rfl aL ?_ ?_) <;> intro aV aL
  obtain ⟨aU, aL⟩ := qa5 aL
  refine qat aU (cF (cT ?_))
  exact eR aL (_, (_, _, _, _), _, _)
  refine qad (cs rfl rfl aL ?_ ?_) <;> intro bO aL
  obtain ⟨s3, aP, aL⟩ := bnd aL
  refine lD (σ := (Int)) ([7] ++ rg 37 12) [0, 1] (fun _ => []) (fun t3 => [(7, .int .i64 t3)]) (fun _ => []) (fun _ => True) (fun i3 t3 => Jbh text i3 t3 = some s3) (fun t3 => t3 = s3) (fun i3 => i3) n _ aP (And.intro qe (And.intro ?_ ?_))
  clear aP
  rintro i3 bp _ aP j3
  conv at aP => whnf
  cases i3 with
  | zero => rw [Jbh.eq_1] at aP; cases aP
  | succ i3 =>
   rw [Jbh.eq_2] at aP
   refine qam rfl ?_
   refine ro (qa2 rfl ?_)
   obtain ⟨bz, aQ, aP⟩ := bnd aP
   refine cS aQ (fun aM aQ => ?_) fun aM aQ => ?_
   refine ct aM (ct aM ?_)
   obtain ⟨bI, bn, bu, aQ⟩ := ixb aQ
   refine qbb rfl bn bu (ct aM (qbd (ct aM (qaf rfl ?_))))
   refine qah ?_ ?_ <;> intro aZ
   replace aP := ift ((si aQ).symm.trans aZ) aP
   refine qal rfl ?_
   refine ci aP fun aP => ?_
   exact eR aP (_, _)
   replace aP := qbs ((si aQ).symm.trans aZ) aP
   refine cT ?_
   exact eM aP _
   refine cf aM (cf aM (cf aM (cf aM (qaf rfl (cF ?_)))))
   replace aP := qbs (si aQ).symm aP
   refine cT ?_
   exact eM aP _
  rintro t3 _ rfl j3
  refine cF (cT ?_)
  exact eR aL (_, (_, _, _, _), _, _)
  obtain ⟨bv, aL⟩ := qa5 aL
  refine RStep.ofN (qgn (lo := (some aR)) (hi := none) rfl bv ?_)
  refine cb aL fun aW bf aL => cg0 (JeF bf :) ?_
  refine qad (cs rfl rfl aL ?_ ?_) <;> intro bC aL
  refine qa3 rfl ?_
  refine qi7 JG.enc 269 4 ?_
  exact eE (er aL hm)
  refine ci aL fun aL => ?_
  obtain ⟨bj, aL⟩ := qa5 aL
  refine qat bj (qak rfl rfl (cT (cT (cT (cT ?_)))))
  refine bsO (len := 1) (enc := JG.enc) (l := [(⟨aW.1, aW.2.2, aS, ((aR - aT) + 1)⟩ : JG)]) (cl := [.int .i64 aW.1, str aW.2.2, .int .i64 aS, .int .i64 ((aR - aT) + 1)]) qlc rfl rfl (fun _ _ => rfl) rfl rfl rfl ?_ fun bK => ?_
  · conv => whnf
    refine cT ?_
    first | done | rfl
  obtain ⟨bb, aL⟩ := qa5 aL
  refine apE rfl r1 qlc (qa6 rfl r0 rfl (fun _ => rfl) (fun _ => rfl)) bb ?_
  intro bB bJ bA
  refine ci aL fun aL => ?_
  exact eR aL (_, (_, _, _, _), _, _)
  refine cT ?_
  exact eM aL (_, _, _)
 rintro ⟨t0, aN, aO⟩ ⟨aY, _⟩ rfl j0
 replace hm := elg hm
 refine ro (qa2 rfl ?_)
 refine ci hm fun hm => ?_
 obtain ⟨bg, hm⟩ := qa5 hm
 refine qat bg (qak rfl rfl (cT (cT (cT (cT ?_)))))
 refine bsO (len := 1) (enc := JG.enc) (l := [(⟨5, ([] : Str), t0.2.1, (((text.length : Int) - t0.2.2.1) + 1)⟩ : JG)]) (cl := [.int .i64 5, str ([] : Str), .int .i64 t0.2.1, .int .i64 (((text.length : Int) - t0.2.2.1) + 1)]) qlc rfl rfl (fun _ _ => rfl) rfl rfl rfl ?_ fun bM => ?_
 · conv => whnf
   refine cT ?_
   first | done | rfl
 obtain ⟨bo, hm⟩ := qa5 hm
 refine apE rfl r1 qlc (qa6 rfl r0 rfl (fun _ => rfl) (fun _ => rfl)) bo ?_
 intro bH bG bw
 exact eE hm

def JbX (s : Str) : Option (Bool) :=
  (JM gkw0 s).bind fun x5 =>
  some x5
theorem Jd0 {s : Str} {K : Hp} {r : Bool}
    (hm : JbX s = some r) (hG : GG K) :
    Fn Tryz.prog 193 [str s] K [] (fun v K' H' => v = .bool r ∧ H' = []) := by
 obtain ⟨aP, aM, aO, gn_, aL, aN⟩ := gg4 hG
 subst gn_
 refine Fn.enter Tryz.func193 Tryz.call193 rfl fun F => ?_
 unfold JbX at hm
 refine ro (qlp aL rfl ?_)
 refine cb hm fun x5 q5 hm => cgx (Jan q5 :) ?_
 exact eE hm

def JbB (n : Nat) (s : Str) : Option (Bool) :=
  (Jcl n s).bind fun x7 =>
  (if (x7.2.isNone && decide ((x7.1.length : Int) = 2)) then (ix x7.1 0).bind fun aO =>
  some (decide (aO.Ab = 1)) else some false).bind fun aL =>
  (if aL then (ix x7.1 0).bind fun aN =>
  some (decide (aN.Ac = s)) else some false).bind fun aQ =>
  (if aQ then (JbX s).bind fun aP =>
  some (!aP) else some false).bind fun aM =>
  some aM
theorem Jcr {n : Nat} {s : Str} {K : Hp} {r : Bool}
    (hm : JbB n s = some r) (hG : GG K) :
    Fn Tryz.prog 159 [str s] K [] (fun v K' H' => v = .bool r ∧ H' = []) := by
 refine Fn.enter Tryz.func159 Tryz.call159 rfl fun F => ?_
 unfold JbB at hm
 refine cb hm fun x7 q7 hm => ck0 (JeG q7 :) ?_
 rintro _ _ _ ⟨a8, ba, rfl, aS, rfl⟩
 refine qam rfl ?_
 refine qgl rfl ?_
 refine qah ?_ ?_ <;> intro aN
 refine ct aN (ro (qai rfl (ct aN (qad (ct aN ?_)))))
 obtain ⟨aZ, aR, hm⟩ := bnd hm
 refine qah ?_ ?_ <;> intro aM
 replace aR := ift (qb8 aN aM) aR
 refine ct aM ?_
 obtain ⟨bf, aX, aT, aR⟩ := ixb aR
 refine RStep.ofN (qac rfl rfl (qdh aS aT) aX (qaw rfl aX aT) (ct aM (qax rfl (qdh aS aT) (ct aM (ro (qc2 (i := (0 : Int).toNat) (o := 0) r0 rfl aT rfl rfl (ct aM (qad (ct aM ?_)))))))))
 obtain ⟨aW, aQ, hm⟩ := bnd hm
 refine qah ?_ ?_ <;> intro aL
 replace aQ := ift ((si aR).symm.trans aL) aQ
 refine ct aL ?_
 obtain ⟨bh, aY, aU, aQ⟩ := ixb aQ
 refine RStep.ofN (qac rfl rfl (qdh aS aU) aY (qaw rfl aY aU) (ct aL (qax rfl (qdh aS aU) (ct aL (ro (qc2 (i := (0 : Int).toNat) (o := 1) r0 rfl aU rfl rfl (ct aL (ct aL (qas ?_)))))))))
 refine ct aL ?_
 obtain ⟨aV, aP, hm⟩ := bnd hm
 refine qah ?_ ?_ <;> intro aO
 replace aP := ift ((si aQ).symm.trans aO) aP
 refine ct aO ?_
 refine cb aP fun bg bb aP => cgx (Jd0 bb :) ?_
 refine ct aO (qaz (ct aO ?_))
 exact bE (si aP) (eE hm)
 replace aP := qbs ((si aQ).symm.trans aO) aP
 refine cf aO (cf aO (cf aO ?_))
 exact bE (si aP) (eE hm)
 replace aQ := qbs ((si aR).symm.trans aL) aQ
 refine cf aL (cf aL (cf aL (cf aL (cf aL (cf aL ?_)))))
 obtain ⟨aV, aP, hm⟩ := bnd hm
 replace aP := qbs (si aQ).symm aP
 refine cF (cF (cF (cF ?_)))
 exact bE (si aP) (eE hm)
 replace aR := qbs (qcw aN aM) aR
 refine cf aM (cf aM (cf aM (cf aM (cf aM ?_))))
 obtain ⟨aW, aQ, hm⟩ := bnd hm
 replace aQ := qbs (si aR).symm aQ
 refine cF (cF (cF (cF (cF (cF (cF ?_))))))
 obtain ⟨aV, aP, hm⟩ := bnd hm
 replace aP := qbs (si aQ).symm aP
 refine cF (cF (cF (cF ?_)))
 exact bE (si aP) (eE hm)
 refine cf aN (cf aN (cf aN ?_))
 obtain ⟨aZ, aR, hm⟩ := bnd hm
 replace aR := qbs (qa1 aN) aR
 refine cF (cF (cF (cF (cF (cF ?_)))))
 obtain ⟨aW, aQ, hm⟩ := bnd hm
 replace aQ := qbs (si aR).symm aQ
 refine cF (cF (cF (cF (cF (cF (cF ?_))))))
 obtain ⟨aV, aP, hm⟩ := bnd hm
 replace aP := qbs (si aQ).symm aP
 refine cF (cF (cF (cF ?_)))
 exact bE (si aP) (eE hm)

def JV (n : Nat) (n' : Ja) : Option (Int) :=
  if decide (n'.Ab = 13) then
  if (!decide (n'.Ac = ([] : Str))) then
  some (-2)
  else
  some 2
  else
  if decide (n'.Ab = 14) then
  if (!decide (n'.Ac = ([] : Str))) then
  some (-2)
  else
  some 2
  else
  if decide (n'.Ab = 17) then
  if (!decide (n'.Ac = ([] : Str))) then
  some (-2)
  else
  some 2
  else
  if decide (n'.Ab = 18) then
  if (!decide (n'.Ac = ([] : Str))) then
  some (-2)
  else
  some 2
  else
  if decide (n'.Ab = 19) then
  if (!decide (n'.Ac = ([] : Str))) then
  some (-2)
  else
  some 2
  else
  if decide (n'.Ab = 15) then
  if (!decide (n'.Ac = ([] : Str))) then
  some (-2)
  else
  some 1
  else
  if decide (n'.Ab = 16) then
  (JaF 4 n'.Ac).bind fun aP =>
  (if aP then some true else (JaF 1 n'.Ac).bind fun aR =>
  some aR).bind fun aO =>
  if (!aO) then
  some (-2)
  else
  some 2
  else
  if decide (n'.Ab = 20) then
  (Jbr n'.Ac).bind fun aQ =>
  if (!aQ) then
  some (-2)
  else
  some 0
  else
  if decide (n'.Ab = 21) then
  (Jax n'.Ac).bind fun aL =>
  if (!aL) then
  some (-2)
  else
  some 0
  else
  if decide (n'.Ab = 22) then
  if (!(decide (n'.Ac = ([116, 114, 117, 101] : Str)) || decide (n'.Ac = ([102, 97, 108, 115, 101] : Str)))) then
  some (-2)
  else
  some 0
  else
  if decide (n'.Ab = 23) then
  (JbB n n'.Ac).bind fun aM =>
  if (!aM) then
  some (-2)
  else
  some 0
  else
  if decide (n'.Ab = 24) then
  (JbB n n'.Ac).bind fun aN =>
  if (!aN) then
  some (-2)
  else
  some (-1)
  else
  some (-2)
theorem JdF {n : Nat} {n' : Ja} {aa : Option Addr} {ab : Nat} {K : Hp} {r : Int}
    (hm : JV n n' = some r) (hX : LiC Ja.R K aa ab 4 n'.Aa ∧ GG K) :
    Fn Tryz.prog 191 [.agg #[.int .i64 n'.Ab, str n'.Ac, .slice aa n'.Aa.length ab, .int .i64 n'.Ad]] K [] (fun v K' H' => v = .int .i64 r ∧ H' = []) := by
 obtain ⟨ae, hG⟩ := hX
 refine Fn.enter Tryz.func191 Tryz.call191 rfl fun F => ?_
 unfold JV at hm
 refine qap ?_
 intro b1
 refine fa rfl (ro (ld r0 rfl rfl (qas (fa rfl (ro (ld r0 rfl rfl ?_))))))
 refine qal rfl ?_
 refine qad (cs rfl rfl hm ?_ ?_) <;> intro aP hm
 refine qaf rfl (ct aP (qaz ?_))
 refine cs rfl rfl hm ?_ ?_ <;> intro aN hm
 exact eE hm
 exact eE hm
 refine qad (cs rfl rfl hm ?_ ?_) <;> intro aP hm
 refine qaf rfl (ct aP (qaz ?_))
 refine cs rfl rfl hm ?_ ?_ <;> intro aN hm
 exact eE hm
 exact eE hm
 refine qad (cs rfl rfl hm ?_ ?_) <;> intro aP hm
 refine qaf rfl (ct aP (qaz ?_))
 refine cs rfl rfl hm ?_ ?_ <;> intro aN hm
 exact eE hm
 exact eE hm
 refine qad (cs rfl rfl hm ?_ ?_) <;> intro aP hm
 refine qaf rfl (ct aP (qaz ?_))
 refine cs rfl rfl hm ?_ ?_ <;> intro aN hm
 exact eE hm
 exact eE hm
 refine qad (cs rfl rfl hm ?_ ?_) <;> intro aP hm
 refine qaz ?_
 refine cs rfl rfl hm ?_ ?_ <;> intro aN hm
 exact eE hm
 exact eE hm
 refine qad (cs rfl rfl hm ?_ ?_) <;> intro aW hm
 refine qaz ?_
 refine cs rfl rfl hm ?_ ?_ <;> intro aN hm
 exact eE hm
 exact eE hm
 refine qad (cs rfl rfl hm ?_ ?_) <;> intro bn hm
 refine qam rfl ?_
 refine fa rfl (ro (ld r0 rfl rfl ?_))
 refine cb hm fun aX aT hm => cg0 (JcD aT :) ?_
 obtain ⟨ba, aO, hm⟩ := bnd hm
 refine cS aO (fun aM aO => ?_) fun aM aO => ?_
 refine ct aM (ct aM (ct aM (qaz (qaf rfl (cF ?_)))))
 replace hm := qbs (qer (si aO).symm) hm
 exact eE hm
 refine fa rfl (cf aM (ro (ld r0 rfl rfl (cf aM ?_))))
 refine cb aO fun bm aR aO => cg0 (JcD aR :) ?_
 refine cf aM (qaz (qaf rfl ?_))
 refine qah ?_ ?_ <;> intro aN
 replace hm := ift (qke ((si aO).symm.trans (qua aN))) hm
 exact eE hm
 replace hm := qbs (qer ((si aO).symm.trans (qnq aN))) hm
 exact eE hm
 refine qad (cs rfl rfl hm ?_ ?_) <;> intro bo hm
 refine fa rfl (ro (ld r0 rfl rfl ?_))
 refine cb hm fun aZ aS hm => cg0 (JdZ aS :) ?_
 refine qaz ?_
 refine cs rfl rfl hm ?_ ?_ <;> intro aN hm
 exact eE hm
 exact eE hm
 refine qad (cs rfl rfl hm ?_ ?_) <;> intro bf hm
 refine fa rfl (ro (ld r0 rfl rfl ?_))
 refine cb hm fun a8 aV hm => cg0 (JbW aV :) ?_
 refine qaz ?_
 refine cs rfl rfl hm ?_ ?_ <;> intro aN hm
 exact eE hm
 exact eE hm
 refine qad (cs rfl rfl hm ?_ ?_) <;> intro bg hm
 refine qam rfl ?_
 refine fa rfl (ro (ld r0 rfl rfl (qas ?_)))
 refine qah ?_ ?_ <;> intro aL
 refine ct aL (ct aL (ct aL (qaz (qaf rfl (cF ?_)))))
 replace hm := qbs (qer (qd0 aL)) hm
 exact eE hm
 refine fa rfl (cf aL (ro (ld r0 rfl rfl (cf aL (qas (cf aL (qaz (qaf rfl ?_))))))))
 refine qah ?_ ?_ <;> intro aN
 replace hm := ift (qke (qhg aL (qua aN))) hm
 exact eE hm
 replace hm := qbs (qer (qkd aL (qnq aN))) hm
 exact eE hm
 refine qad (cs rfl rfl hm ?_ ?_) <;> intro aY hm
 refine fa rfl (ro (ld r0 rfl rfl ?_))
 refine cb hm fun bh aU hm => cgx (Jcr aU :) ?_
 refine qaz ?_
 refine cs rfl rfl hm ?_ ?_ <;> intro aN hm
 exact eE hm
 exact eE hm
 refine qad (cs rfl rfl hm ?_ ?_) <;> intro bb hm
 refine fa rfl (ro (ld r0 rfl rfl ?_))
 refine cb hm fun bj aQ hm => cgx (Jcr aQ :) ?_
 refine qaz ?_
 refine cs rfl rfl hm ?_ ?_ <;> intro aN hm
 exact eE hm
 exact eE hm
 exact eE hm

def JN (rec_ : (Ja → Option (Bool))) : List Ja → Nat → Option (Fl (Bool) (Unit))
  | [], _ => some (Fl.go ())
  | e0 :: aM, i0 =>
    (rec_ e0).bind fun aL =>
    if (!aL) then
    some (Fl.ret false)
    else
    JN rec_ aM (i0 + 1)
def Ju : Nat → Ja → Option (Bool)
  | 0, _ => none
  | n + 1, n' =>
    (JV n n').bind fun x7 =>
    if decide (x7 = (-2)) then
    some false
    else
    if (decide (x7 ≥ 0) && decide ((n'.Aa.length : Int) ≠ x7)) then
    some false
    else
    (chk (n'.Aa.length ≤ qau)).bind fun _ =>
    (JN (Ju n) n'.Aa 0).bind fun s0 => s0.el some fun t0 =>
    some true
theorem Jad : ∀ {n : Nat} {n' : Ja} {aa : Option Addr} {ab : Nat} {K : Hp} {r : Bool}
    (hm : Ju n n' = some r) (hX : LiC Ja.R K aa ab 4 n'.Aa ∧ GG K),
    Fn Tryz.prog 156 [.agg #[.int .i64 n'.Ab, str n'.Ac, .slice aa n'.Aa.length ab, .int .i64 n'.Ad]] K [] (fun v K' H' => v = .bool r ∧ H' = []) := by
 intro n
 induction n with
 | zero =>
   intro n' aa ab K r hm hX
   rw [Ju.eq_1] at hm; cases hm
 | succ n ih =>
   intro n' aa ab K r hm hX
   obtain ⟨ae, hG⟩ := hX
   refine Fn.enter Tryz.func156 Tryz.call156 rfl fun F => ?_
   rw [Ju.eq_2] at hm
   refine qap ?_
   intro b1
   refine ro (qag r0 rfl (nl rfl) ?_)
   refine cb hm fun x7 q7 hm => cgx (JdF q7 :) ?_
   refine qam rfl ?_
   refine qad ?_
   refine cS hm (fun aM hm => ?_) fun aM hm => ?_
   refine ct aM (ct aM (ct aM (ct aM (qaf rfl (cT ?_)))))
   exact eE hm
   refine cf aM (cf aM ?_)
   refine qah ?_ ?_ <;> intro aL
   refine fa rfl (ct aL (ro (ld r0 rfl rfl (ct aL (ro (qai rfl (ct aL (ct aL (qbd ?_)))))))))
   refine cf aM (ct aL (cf aM (qaf rfl ?_)))
   refine qah ?_ ?_ <;> intro a8
   replace hm := ift (qb8 aL a8) hm
   exact eE hm
   replace hm := qbs (qcw aL a8) hm
   refine fa rfl (ro (ld r0 rfl rfl (ro (qai rfl ?_))))
   obtain ⟨aW, hm⟩ := qa5 hm
   obtain ⟨s0, aN, hm⟩ := bnd hm
   refine lD (σ := (Unit)) ([2,5] ++ rg 24 8) [0, 1] (fun i0 => [(24, .int .i64 (i0 : Int))]) (fun _ => []) (fun _ => []) (fun _ => True) (fun i0 _ => JN (Ju n) (n'.Aa.drop i0) i0 = some s0) (fun t0 => s0 = Fl.go t0) (fun i0 => n'.Aa.length - i0) 0 () aN (And.intro qe (And.intro ?_ ?_))
   clear aN
   rintro i0 _ _ aN j0
   conv at aN => whnf
   refine qaf rfl ?_
   refine qah ?_ ?_ <;> intro w0
   obtain ⟨e0, aO, aZ⟩ := ltx w0
   rw [aZ, JN.eq_2] at aN
   refine qal rfl ?_
   refine RStep.ofN (qac rfl rfl (qcc ae.rd aO) (nn _) (qbr aO) ?_)
   obtain ⟨aX, aV, aP, aR, aQ⟩ := LiR.get ae.rd aO
   obtain ⟨aT, aU, rfl, aS⟩ := Ja.out aQ
   refine ro (qaj i0 _ aP rfl aR rfl ?_)
   refine qan rfl fun b5 => ?_
   refine qab r0 rfl ⟨rfl, rfl, (nl rfl), ?_⟩
   refine ro (qag r0 rfl (nl rfl) ?_)
   refine cb aN fun bb aY aN => cgx (ih aY :) ?_
   refine qaz ?_
   refine cs rfl rfl aN ?_ ?_ <;> intro ba aN
   exact eE (er aN hm)
   refine qat (qcn aO aW) ?_
   exact eR aN (_, ())
   rw [lty w0, JN.eq_1] at aN
   refine cT ?_
   exact eM aN _
   rintro t0 _ rfl j0
   replace hm := elg hm
   exact eE hm
   refine cf aL (cf aL (cf aL (cf aL (cf aM (cf aL (cf aM (qaf rfl ?_)))))))
   refine cF ?_
   replace hm := qbs (qa1 aL) hm
   refine fa rfl (ro (ld r0 rfl rfl (ro (qai rfl ?_))))
   obtain ⟨aW, hm⟩ := qa5 hm
   obtain ⟨s0, aN, hm⟩ := bnd hm
   refine lD (σ := (Unit)) ([2,5] ++ rg 24 8) [0, 1] (fun i0 => [(24, .int .i64 (i0 : Int))]) (fun _ => []) (fun _ => []) (fun _ => True) (fun i0 _ => JN (Ju n) (n'.Aa.drop i0) i0 = some s0) (fun t0 => s0 = Fl.go t0) (fun i0 => n'.Aa.length - i0) 0 () aN (And.intro qe (And.intro ?_ ?_))
   clear aN
   rintro i0 _ _ aN j0
   conv at aN => whnf
   refine qaf rfl ?_
   refine qah ?_ ?_ <;> intro w0
   obtain ⟨e0, aO, aZ⟩ := ltx w0
   rw [aZ, JN.eq_2] at aN
   refine qal rfl ?_
   refine RStep.ofN (qac rfl rfl (qcc ae.rd aO) (nn _) (qbr aO) ?_)
   obtain ⟨aX, aV, aP, aR, aQ⟩ := LiR.get ae.rd aO
   obtain ⟨aT, aU, rfl, aS⟩ := Ja.out aQ
   refine ro (qaj i0 _ aP rfl aR rfl ?_)
   refine qan rfl fun b5 => ?_
   refine qab r0 rfl ⟨rfl, rfl, (nl rfl), ?_⟩
   refine ro (qag r0 rfl (nl rfl) ?_)
   refine cb aN fun bb aY aN => cgx (ih aY :) ?_
   refine qaz ?_
   refine cs rfl rfl aN ?_ ?_ <;> intro ba aN
   exact eE (er aN hm)
   refine qat (qcn aO aW) ?_
   exact eR aN (_, ())
   rw [lty w0, JN.eq_1] at aN
   refine cT ?_
   exact eM aN _
   rintro t0 _ rfl j0
   replace hm := elg hm
   exact eE hm

def Jam (ay : (Ja → Option (Bool))) : List Ja → Nat → Option (Fl (Bool) (Unit))
  | [], _ => some (Fl.go ())
  | e0 :: aL, i0 =>
    (ay e0).bind fun aM =>
    if (!aM) then
    some (Fl.ret false)
    else
    Jam ay aL (i0 + 1)
def JaO (ay : (Ja → Option (Bool))) (n : Nat) (n' : Ja) : Option (Bool) :=
  if (decide (n'.Ab ≠ 12) || decide (n'.Ac ≠ ([] : Str))) then
  some false
  else
  (chk (n'.Aa.length ≤ qau)).bind fun _ =>
  (Jam ay n'.Aa 0).bind fun s0 => s0.el some fun t0 =>
  some true
theorem JcK {ay : (Ja → Option (Bool))} (ihrec0_0 : ∀ {n' : Ja} {aa : Option Addr} {ab : Nat} {K : Hp} {r : Bool} (hm : ay n' = some r) (hX : LiC Ja.R K aa ab 4 n'.Aa ∧ GG K), Fn Tryz.prog 125 [.agg #[.int .i64 n'.Ab, str n'.Ac, .slice aa n'.Aa.length ab, .int .i64 n'.Ad]] K [] (fun v K' H' => v = .bool r ∧ H' = [])) {n : Nat} {n' : Ja} {aa : Option Addr} {ab : Nat} {K : Hp} {r : Bool}
    (hm : JaO ay n n' = some r) (hX : LiC Ja.R K aa ab 4 n'.Aa ∧ GG K) :
    Fn Tryz.prog 157 [.agg #[.int .i64 n'.Ab, str n'.Ac, .slice aa n'.Aa.length ab, .int .i64 n'.Ad]] K [] (fun v K' H' => v = .bool r ∧ H' = []) := by
 obtain ⟨ae, hG⟩ := hX
 refine Fn.enter Tryz.func157 Tryz.call157 rfl fun F => ?_
 unfold JaO at hm
 refine qap ?_
 intro b1
 refine jR (σ := Unit) (rg 5 8) (fun _ => [(12, .bool (decide (n'.Ab ≠ 12) || decide (n'.Ac ≠ ([] : Str))))]) (fun aX => True) ?_ ?_
 refine qam rfl ?_
 refine fa rfl (ro (ld r0 rfl rfl (qbd ?_)))
 refine qah ?_ ?_ <;> intro aL
 refine ct aL (ct aL (ct aL ?_))
 exact eMt () ⟨bq (((qd0 aL)).symm), trivial⟩
 refine fa rfl (cf aL (ro (ld r0 rfl rfl (cf aL (qb2 (cf aL ?_))))))
 exact eMt () ⟨bq (qm6 (b := decide (n'.Ac ≠ ([] : Str))) aL), trivial⟩
 rintro _ _ a8
 refine cs rfl rfl hm ?_ ?_ <;> intro bf hm
 exact eE hm
 refine fa rfl (ro (ld r0 rfl rfl (ro (qai rfl ?_))))
 obtain ⟨aU, hm⟩ := qa5 hm
 obtain ⟨s0, aM, hm⟩ := bnd hm
 refine lD (σ := (Unit)) ([2,4] ++ rg 16 8) [0, 1] (fun i0 => [(16, .int .i64 (i0 : Int))]) (fun _ => []) (fun _ => []) (fun _ => True) (fun i0 _ => Jam ay (n'.Aa.drop i0) i0 = some s0) (fun t0 => s0 = Fl.go t0) (fun i0 => n'.Aa.length - i0) 0 () aM (And.intro qe (And.intro ?_ ?_))
 clear aM
 rintro i0 _ _ aM j0
 conv at aM => whnf
 refine qaf rfl ?_
 refine qah ?_ ?_ <;> intro w0
 obtain ⟨e0, aN, aZ⟩ := ltx w0
 rw [aZ, Jam.eq_2] at aM
 refine qal rfl ?_
 refine RStep.ofN (qac rfl rfl (qcc ae.rd aN) (nn _) (qbr aN) ?_)
 obtain ⟨aV, aW, aQ, aP, aO⟩ := LiR.get ae.rd aN
 obtain ⟨aR, aT, rfl, aS⟩ := Ja.out aO
 refine ro (qaj i0 _ aQ rfl aP rfl ?_)
 refine qan rfl fun b4 => ?_
 refine qab r0 rfl ⟨rfl, rfl, (nl rfl), ?_⟩
 refine ro (qag r0 rfl (nl rfl) ?_)
 refine cb aM fun ba aY aM => cgx (ihrec0_0 aY :) ?_
 refine qaz ?_
 refine cs rfl rfl aM ?_ ?_ <;> intro bb aM
 exact eE (er aM hm)
 refine qat (qcn aN aU) ?_
 exact eR aM (_, ())
 rw [lty w0, Jam.eq_1] at aM
 refine cT ?_
 exact eM aM _
 rintro t0 _ rfl j0
 replace hm := elg hm
 exact eE hm

def Jz : Nat → Ja → Option (Bool)
  | 0, _ => none
  | n + 1, n' =>
    if decide (n'.Ab = 2) then
    (if ((decide (n'.Ac ≠ ([] : Str)) || decide ((n'.Aa.length : Int) < 2)) || decide ((n'.Aa.length : Int) > 3)) then some true else (ix n'.Aa 0).bind fun aQ =>
    (Ju n aQ).bind fun aY =>
    some (!aY)).bind fun aU =>
    (if aU then some true else (ix n'.Aa 1).bind fun bf =>
    (JaO (Jz n) n bf).bind fun bb =>
    some (!bb)).bind fun aR =>
    if aR then
    some false
    else
    (if decide ((n'.Aa.length : Int) = 2) then some true else (ix n'.Aa 2).bind fun aZ =>
    (JaO (Jz n) n aZ).bind fun aX =>
    some aX).bind fun aS =>
    if aS then
    some true
    else
    (ix n'.Aa 2).bind fun aW =>
    (if decide (aW.Ab = 2) then (ix n'.Aa 2).bind fun a8 =>
    ((Jz n) a8).bind fun aV =>
    some aV else some false).bind fun aT =>
    some aT
    else
    if decide (n'.Ab = 6) then
    (Jax n'.Ac).bind fun ba =>
    some (ba && decide ((n'.Aa.length : Int) = 0))
    else
    if decide (n'.Ab = 10) then
    some (decide (n'.Ac = ([] : Str)) && decide ((n'.Aa.length : Int) = 0))
    else
    if decide (n'.Ab = 11) then
    some (decide (n'.Ac = ([] : Str)) && decide ((n'.Aa.length : Int) = 0))
    else
    if decide (n'.Ab = 3) then
    (JbB n n'.Ac).bind fun aP =>
    if (!aP) then
    some false
    else
    (if decide ((n'.Aa.length : Int) = 1) then (ix n'.Aa 0).bind fun aL =>
    (Ju n aL).bind fun aM =>
    some aM else some false).bind fun aN =>
    some aN
    else
    if decide (n'.Ab = 4) then
    if (decide (n'.Ac ≠ ([112, 97, 116, 104] : Str)) && decide (n'.Ac ≠ ([113, 117, 101, 114, 121] : Str))) then
    some false
    else
    (if decide ((n'.Aa.length : Int) = 1) then (ix n'.Aa 0).bind fun aL =>
    (Ju n aL).bind fun aM =>
    some aM else some false).bind fun aN =>
    some aN
    else
    if decide (n'.Ab = 5) then
    (Jax n'.Ac).bind fun aO =>
    if (!aO) then
    some false
    else
    (if decide ((n'.Aa.length : Int) = 1) then (ix n'.Aa 0).bind fun aL =>
    (Ju n aL).bind fun aM =>
    some aM else some false).bind fun aN =>
    some aN
    else
    if decide (n'.Ab = 7) then
    if decide (n'.Ac ≠ ([] : Str)) then
    some false
    else
    (if decide ((n'.Aa.length : Int) = 1) then (ix n'.Aa 0).bind fun aL =>
    (Ju n aL).bind fun aM =>
    some aM else some false).bind fun aN =>
    some aN
    else
    if decide (n'.Ab = 8) then
    if decide (n'.Ac ≠ ([] : Str)) then
    some false
    else
    (if decide ((n'.Aa.length : Int) = 1) then (ix n'.Aa 0).bind fun aL =>
    (Ju n aL).bind fun aM =>
    some aM else some false).bind fun aN =>
    some aN
    else
    if decide (n'.Ab = 9) then
    if decide (n'.Ac ≠ ([] : Str)) then
    some false
    else
    (if decide ((n'.Aa.length : Int) = 1) then (ix n'.Aa 0).bind fun aL =>
    (Ju n aL).bind fun aM =>
    some aM else some false).bind fun aN =>
    some aN
    else
    some false
theorem Jd1 : ∀ {n : Nat} {n' : Ja} {aa : Option Addr} {ab : Nat} {K : Hp} {r : Bool}
    (hm : Jz n n' = some r) (hX : LiC Ja.R K aa ab 4 n'.Aa ∧ GG K),
    Fn Tryz.prog 125 [.agg #[.int .i64 n'.Ab, str n'.Ac, .slice aa n'.Aa.length ab, .int .i64 n'.Ad]] K [] (fun v K' H' => v = .bool r ∧ H' = []) := by
 intro n
 induction n with
 | zero =>
   intro n' aa ab K r hm hX
   rw [Jz.eq_1] at hm; cases hm
 | succ n ih =>
   intro n' aa ab K r hm hX
   obtain ⟨ae, hG⟩ := hX
   refine Fn.enter Tryz.func125 Tryz.call125 rfl fun F => ?_
   rw [Jz.eq_2] at hm
   refine qap ?_
   intro b1
   refine fa rfl (ro (ld r0 rfl rfl ?_))
   refine qal rfl ?_
   refine qad (cs rfl rfl hm ?_ ?_) <;> intro w6 hm
   refine fa rfl (ro (ld r0 rfl rfl (ro (qai rfl ?_))))
   refine qam rfl ?_
   refine fa rfl (ro (ld r0 rfl rfl (qb2 ?_)))
   refine qah ?_ ?_ <;> intro bg
   refine ct bg (ct bg (cT (cT (cT ?_))))
   obtain ⟨cr, bo, hm⟩ := bnd hm
   replace bo := ift (qd0 (qd0 bg)) bo
   refine cT (cT (cT (cT (cT (cT (cT ?_))))))
   obtain ⟨bV, bj, hm⟩ := bnd hm
   replace bj := ift (si bo).symm bj
   refine cT (cT (cT (cT (cT (cT (cT (qaf rfl ?_)))))))
   refine cT ?_
   replace hm := ift (si bj).symm hm
   exact eE hm
   refine cf bg (cf bg ?_)
   refine qah ?_ ?_ <;> intro bh
   refine ct bh (ct bh ?_)
   obtain ⟨cr, bo, hm⟩ := bnd hm
   replace bo := ift (qd0 (qkd bg bh)) bo
   refine cT (cT (cT (cT (cT (cT (cT ?_))))))
   obtain ⟨bV, bj, hm⟩ := bnd hm
   replace bj := ift (si bo).symm bj
   refine cT (cT (cT (cT (cT (cT (cT (qaf rfl ?_)))))))
   refine cT ?_
   replace hm := ift (si bj).symm hm
   exact eE hm
   refine cf bh (cf bh ?_)
   obtain ⟨cr, bo, hm⟩ := bnd hm
   refine qah ?_ ?_ <;> intro aQ
   replace bo := ift (qkd (qhg bg bh) aQ) bo
   refine ct aQ (ct aQ (ct aQ (ct aQ (ct aQ (ct aQ ?_)))))
   obtain ⟨bV, bj, hm⟩ := bnd hm
   replace bj := ift (si bo).symm bj
   refine cT (cT (cT (cT (cT (cT (cT (qaf rfl ?_)))))))
   refine cT ?_
   replace hm := ift (si bj).symm hm
   exact eE hm
   replace bo := qbs (qhg (qhg bg bh) aQ) bo
   refine fa rfl (cf aQ (ro (ld r0 rfl rfl (cf aQ ?_))))
   obtain ⟨dw, cK, bD, bo⟩ := ixb bo
   refine RStep.ofN (qac rfl rfl (qcc ae.rd bD) cK (qaw rfl cK bD) (cf aQ ?_))
   obtain ⟨cX, cZ, bN, bP, bG⟩ := LiR.get ae.rd bD
   obtain ⟨cu, cp, rfl, cI⟩ := Ja.out bG
   refine ro (qaj ((0 : Int).toNat) _ bN rfl bP rfl (cf aQ ?_))
   refine cb bo fun dk db bo => cgx (Jad db :) ?_
   refine cf aQ (qaz (cf aQ ?_))
   obtain ⟨bV, bj, hm⟩ := bnd hm
   refine qah ?_ ?_ <;> intro aR
   replace bj := ift ((si bo).symm.trans (qke (qua aR))) bj
   refine ct aR (ct aR (ct aR (ct aR (ct aR (ct aR (qaf rfl (cT ?_)))))))
   replace hm := ift (si bj).symm hm
   exact eE hm
   replace bj := qbs ((si bo).symm.trans (qer (qnq aR))) bj
   refine fa rfl (cf aR (ro (ld r0 rfl rfl (cf aR ?_))))
   obtain ⟨dv, cC, bW, bj⟩ := ixb bj
   refine RStep.ofN (qac rfl rfl (qcc ae.rd bW) cC (qaw rfl cC bW) (cf aR ?_))
   obtain ⟨cR, cO, bL, bY, bX⟩ := LiR.get ae.rd bW
   obtain ⟨ce, cA, rfl, cw⟩ := Ja.out bX
   refine ro (qaj ((1 : Int).toNat) _ bL rfl bY rfl (cf aR ?_))
   refine cb bj fun di cP bj => cgx (JcK ih cP :) ?_
   refine cf aR (qaz (cf aR (qaf rfl ?_)))
   refine qah ?_ ?_ <;> intro cG
   replace hm := ift ((si bj).symm.trans (qke (qua cG))) hm
   exact eE hm
   replace hm := qbs ((si bj).symm.trans (qer (qnq cG))) hm
   refine qam rfl ?_
   refine qad ?_
   obtain ⟨dq, bv, hm⟩ := bnd hm
   refine cS bv (fun aY bv => ?_) fun aY bv => ?_
   refine ct aY (ct aY (ct aY (ct aY (ct aY ?_))))
   replace hm := ift (si bv).symm hm
   refine cT (cT (cT (cT (cT (cT (cT (cT ?_)))))))
   refine cT ?_
   exact eE hm
   refine fa rfl (cf aY (ro (ld r0 rfl rfl (cf aY ?_))))
   obtain ⟨dy, cj, bS, bv⟩ := ixb bv
   refine RStep.ofN (qac rfl rfl (qcc ae.rd bS) cj (qaw rfl cj bS) (cf aY ?_))
   obtain ⟨cU, de, bR, bT, bK⟩ := LiR.get ae.rd bS
   obtain ⟨cz, cq, rfl, cn⟩ := Ja.out bK
   refine ro (qaj ((2 : Int).toNat) _ bR rfl bT rfl (cf aY ?_))
   refine cb bv fun dt c6 bv => cgx (JcK ih c6 :) ?_
   refine cf aY ?_
   refine qah ?_ ?_ <;> intro aO
   replace hm := ift ((si bv).symm.trans aO) hm
   refine ct aO (ct aO (ct aO (ct aO (ct aO (ct aO (ct aO (ct aO ?_)))))))
   exact eE hm
   replace hm := qbs ((si bv).symm.trans aO) hm
   refine fa rfl (cf aO (ro (ld r0 rfl rfl (cf aO ?_))))
   obtain ⟨dl, cL, bC, hm⟩ := ixb hm
   refine RStep.ofN (qac rfl rfl (qcc ae.rd bC) cL (qaw rfl cL bC) (cf aO (qax rfl (qcc ae.rd bC) (cf aO ?_))))
   obtain ⟨c8, cW, bU, bM, bJ⟩ := LiR.get ae.rd bC
   obtain ⟨ca, cd, rfl, cB⟩ := Ja.out bJ
   refine ro (qca ((2 : Int).toNat) 0 _ _ bU rfl bM rfl rfl (cf aO (qad (cf aO ?_))))
   obtain ⟨dj, bz, hm⟩ := bnd hm
   refine cS bz (fun aX bz => ?_) fun aX bz => ?_
   refine fa rfl (ct aX (ro (ld r0 rfl rfl (ct aX ?_))))
   obtain ⟨dg, cD, bH, bz⟩ := ixb bz
   refine RStep.ofN (qac rfl rfl (qcc ae.rd bH) cD (qaw rfl cD bH) (ct aX ?_))
   obtain ⟨c9, cY, bI, bF, bO⟩ := LiR.get ae.rd bH
   obtain ⟨cm, cH, rfl, bZ⟩ := Ja.out bO
   refine ro (qaj ((2 : Int).toNat) _ bI rfl bF rfl (ct aX ?_))
   refine cb bz fun df cM bz => cgx (ih cM :) ?_
   refine cf aO (ct aX (cf aO ?_))
   exact bE (si bz) (eE hm)
   refine cf aX (cf aX (cf aX (cf aX (cf aO (cf aX (cf aO ?_))))))
   exact bE (si bz) (eE hm)
   refine qad (cs rfl rfl hm ?_ ?_) <;> intro dz hm
   refine qam rfl ?_
   refine fa rfl (ro (ld r0 rfl rfl ?_))
   refine cb hm fun du c5 hm => cg0 (JbW c5 :) ?_
   refine qah ?_ ?_ <;> intro aZ
   refine fa rfl (ct aZ (ro (ld r0 rfl rfl (ct aZ (ro (qai rfl (ct aZ (qad (ct aZ ?_)))))))))
   exact bE (qd3 (b := decide ((n'.Aa.length : Int) = 0)) aZ) (eE hm)
   refine cf aZ (cf aZ (cf aZ (cf aZ ?_)))
   exact bE (((qa1 aZ)).symm) (eE hm)
   refine qad (cs rfl rfl hm ?_ ?_) <;> intro cJ hm
   refine qaf rfl (ct cJ ?_)
   refine qam rfl ?_
   refine fa rfl (ro (ld r0 rfl rfl (qas ?_)))
   refine qah ?_ ?_ <;> intro aN
   refine fa rfl (ct aN (ro (ld r0 rfl rfl (ct aN (ro (qai rfl (ct aN (qad (ct aN ?_)))))))))
   exact bE (qd3 (b := decide ((n'.Aa.length : Int) = 0)) aN) (eE hm)
   refine cf aN (cf aN (cf aN (cf aN ?_)))
   exact bE (((qa1 aN)).symm) (eE hm)
   refine qad (cs rfl rfl hm ?_ ?_) <;> intro cJ hm
   refine qam rfl ?_
   refine fa rfl (ro (ld r0 rfl rfl (qas ?_)))
   refine qah ?_ ?_ <;> intro aN
   refine fa rfl (ct aN (ro (ld r0 rfl rfl (ct aN (ro (qai rfl (ct aN (qad (ct aN ?_)))))))))
   exact bE (qd3 (b := decide ((n'.Aa.length : Int) = 0)) aN) (eE hm)
   refine cf aN (cf aN (cf aN (cf aN ?_)))
   exact bE (((qa1 aN)).symm) (eE hm)
   refine qad (cs rfl rfl hm ?_ ?_) <;> intro dh hm
   refine fa rfl (ro (ld r0 rfl rfl ?_))
   refine cb hm fun dm dc hm => cgx (Jcr dc :) ?_
   refine qaz ?_
   refine cs rfl rfl hm ?_ ?_ <;> intro dp hm
   exact eE hm
   refine qam rfl ?_
   refine fa rfl (ro (ld r0 rfl rfl (ro (qai rfl (qad ?_)))))
   obtain ⟨bt, aM, hm⟩ := bnd hm
   refine cS aM (fun aL aM => ?_) fun aL aM => ?_
   refine fa rfl (ct aL (ro (ld r0 rfl rfl (ct aL ?_))))
   obtain ⟨bu, aV, aP, aM⟩ := ixb aM
   refine RStep.ofN (qac rfl rfl (qcc ae.rd aP) aV (qaw rfl aV aP) (ct aL ?_))
   obtain ⟨bn, bm, aS, aT, aU⟩ := LiR.get ae.rd aP
   obtain ⟨bf, a8, rfl, ba⟩ := Ja.out aU
   refine ro (qaj ((0 : Int).toNat) _ aS rfl aT rfl (ct aL ?_))
   refine cb aM fun bp bb aM => cgx (Jad bb :) ?_
   refine ct aL ?_
   exact bE (si aM) (eE hm)
   refine cf aL (cf aL (cf aL (cf aL (cf aL ?_))))
   exact bE (si aM) (eE hm)
   refine qad (cs rfl rfl hm ?_ ?_) <;> intro dx hm
   refine qam rfl ?_
   refine fa rfl (ro (ld r0 rfl rfl (qb2 ?_)))
   refine qah ?_ ?_ <;> intro aW
   refine fa rfl (ct aW (ro (ld r0 rfl rfl (ct aW (qb2 (ct aW (qaf rfl ?_)))))))
   refine qah ?_ ?_ <;> intro bA
   replace hm := ift (qb8 aW bA) hm
   exact eE hm
   replace hm := qbs (qcw aW bA) hm
   refine qam rfl ?_
   refine fa rfl (ro (ld r0 rfl rfl (ro (qai rfl (qad ?_)))))
   obtain ⟨bt, aM, hm⟩ := bnd hm
   refine cS aM (fun aL aM => ?_) fun aL aM => ?_
   refine fa rfl (ct aL (ro (ld r0 rfl rfl (ct aL ?_))))
   obtain ⟨bu, aV, aP, aM⟩ := ixb aM
   refine RStep.ofN (qac rfl rfl (qcc ae.rd aP) aV (qaw rfl aV aP) (ct aL ?_))
   obtain ⟨bn, bm, aS, aT, aU⟩ := LiR.get ae.rd aP
   obtain ⟨bf, a8, rfl, ba⟩ := Ja.out aU
   refine ro (qaj ((0 : Int).toNat) _ aS rfl aT rfl (ct aL ?_))
   refine cb aM fun bp bb aM => cgx (Jad bb :) ?_
   refine ct aL ?_
   exact bE (si aM) (eE hm)
   refine cf aL (cf aL (cf aL (cf aL (cf aL ?_))))
   exact bE (si aM) (eE hm)
   refine cf aW (cf aW (cf aW (qaf rfl (cF ?_))))
   replace hm := qbs (qa1 aW) hm
   refine qam rfl ?_
   refine fa rfl (ro (ld r0 rfl rfl (ro (qai rfl (qad ?_)))))
   obtain ⟨bt, aM, hm⟩ := bnd hm
   refine cS aM (fun aL aM => ?_) fun aL aM => ?_
   refine fa rfl (ct aL (ro (ld r0 rfl rfl (ct aL ?_))))
   obtain ⟨bu, aV, aP, aM⟩ := ixb aM
   refine RStep.ofN (qac rfl rfl (qcc ae.rd aP) aV (qaw rfl aV aP) (ct aL ?_))
   obtain ⟨bn, bm, aS, aT, aU⟩ := LiR.get ae.rd aP
   obtain ⟨bf, a8, rfl, ba⟩ := Ja.out aU
   refine ro (qaj ((0 : Int).toNat) _ aS rfl aT rfl (ct aL ?_))
   refine cb aM fun bp bb aM => cgx (Jad bb :) ?_
   refine ct aL ?_
   exact bE (si aM) (eE hm)
   refine cf aL (cf aL (cf aL (cf aL (cf aL ?_))))
   exact bE (si aM) (eE hm)
   refine qad (cs rfl rfl hm ?_ ?_) <;> intro cV hm
   refine fa rfl (ro (ld r0 rfl rfl ?_))
   refine cb hm fun cQ bQ hm => cg0 (JbW bQ :) ?_
   refine qaz ?_
   refine cs rfl rfl hm ?_ ?_ <;> intro da hm
   exact eE hm
   refine qam rfl ?_
   refine fa rfl (ro (ld r0 rfl rfl (ro (qai rfl (qad ?_)))))
   obtain ⟨bt, aM, hm⟩ := bnd hm
   refine cS aM (fun aL aM => ?_) fun aL aM => ?_
   refine fa rfl (ct aL (ro (ld r0 rfl rfl (ct aL ?_))))
   obtain ⟨bu, aV, aP, aM⟩ := ixb aM
   refine RStep.ofN (qac rfl rfl (qcc ae.rd aP) aV (qaw rfl aV aP) (ct aL ?_))
   obtain ⟨bn, bm, aS, aT, aU⟩ := LiR.get ae.rd aP
   obtain ⟨bf, a8, rfl, ba⟩ := Ja.out aU
   refine ro (qaj ((0 : Int).toNat) _ aS rfl aT rfl (ct aL ?_))
   refine cb aM fun bp bb aM => cgx (Jad bb :) ?_
   refine ct aL ?_
   exact bE (si aM) (eE hm)
   refine cf aL (cf aL (cf aL (cf aL (cf aL ?_))))
   exact bE (si aM) (eE hm)
   refine qad (cs rfl rfl hm ?_ ?_) <;> intro bw hm
   refine qaf rfl (ct bw (fa rfl (ro (ld r0 rfl rfl (qb2 ?_)))))
   refine cs rfl rfl hm ?_ ?_ <;> intro bB hm
   exact eE hm
   refine qam rfl ?_
   refine fa rfl (ro (ld r0 rfl rfl (ro (qai rfl (qad ?_)))))
   obtain ⟨bt, aM, hm⟩ := bnd hm
   refine cS aM (fun aL aM => ?_) fun aL aM => ?_
   refine fa rfl (ct aL (ro (ld r0 rfl rfl (ct aL ?_))))
   obtain ⟨bu, aV, aP, aM⟩ := ixb aM
   refine RStep.ofN (qac rfl rfl (qcc ae.rd aP) aV (qaw rfl aV aP) (ct aL ?_))
   obtain ⟨bn, bm, aS, aT, aU⟩ := LiR.get ae.rd aP
   obtain ⟨bf, a8, rfl, ba⟩ := Ja.out aU
   refine ro (qaj ((0 : Int).toNat) _ aS rfl aT rfl (ct aL ?_))
   refine cb aM fun bp bb aM => cgx (Jad bb :) ?_
   refine ct aL ?_
   exact bE (si aM) (eE hm)
   refine cf aL (cf aL (cf aL (cf aL (cf aL ?_))))
   exact bE (si aM) (eE hm)
   refine qad (cs rfl rfl hm ?_ ?_) <;> intro bw hm
   refine qaf rfl (ct bw (fa rfl (ro (ld r0 rfl rfl (qb2 ?_)))))
   refine cs rfl rfl hm ?_ ?_ <;> intro bB hm
   exact eE hm
   refine qam rfl ?_
   refine fa rfl (ro (ld r0 rfl rfl (ro (qai rfl (qad ?_)))))
   obtain ⟨bt, aM, hm⟩ := bnd hm
   refine cS aM (fun aL aM => ?_) fun aL aM => ?_
   refine fa rfl (ct aL (ro (ld r0 rfl rfl (ct aL ?_))))
   obtain ⟨bu, aV, aP, aM⟩ := ixb aM
   refine RStep.ofN (qac rfl rfl (qcc ae.rd aP) aV (qaw rfl aV aP) (ct aL ?_))
   obtain ⟨bn, bm, aS, aT, aU⟩ := LiR.get ae.rd aP
   obtain ⟨bf, a8, rfl, ba⟩ := Ja.out aU
   refine ro (qaj ((0 : Int).toNat) _ aS rfl aT rfl (ct aL ?_))
   refine cb aM fun bp bb aM => cgx (Jad bb :) ?_
   refine ct aL ?_
   exact bE (si aM) (eE hm)
   refine cf aL (cf aL (cf aL (cf aL (cf aL ?_))))
   exact bE (si aM) (eE hm)
   refine qad (cs rfl rfl hm ?_ ?_) <;> intro bw hm
   refine fa rfl (ro (ld r0 rfl rfl (qb2 ?_)))
   refine cs rfl rfl hm ?_ ?_ <;> intro bB hm
   exact eE hm
   refine qam rfl ?_
   refine fa rfl (ro (ld r0 rfl rfl (ro (qai rfl (qad ?_)))))
   obtain ⟨bt, aM, hm⟩ := bnd hm
   refine cS aM (fun aL aM => ?_) fun aL aM => ?_
   refine fa rfl (ct aL (ro (ld r0 rfl rfl (ct aL ?_))))
   obtain ⟨bu, aV, aP, aM⟩ := ixb aM
   refine RStep.ofN (qac rfl rfl (qcc ae.rd aP) aV (qaw rfl aV aP) (ct aL ?_))
   obtain ⟨bn, bm, aS, aT, aU⟩ := LiR.get ae.rd aP
   obtain ⟨bf, a8, rfl, ba⟩ := Ja.out aU
   refine ro (qaj ((0 : Int).toNat) _ aS rfl aT rfl (ct aL ?_))
   refine cb aM fun bp bb aM => cgx (Jad bb :) ?_
   refine ct aL ?_
   exact bE (si aM) (eE hm)
   refine cf aL (cf aL (cf aL (cf aL (cf aL ?_))))
   exact bE (si aM) (eE hm)
   exact eE hm

def JaG (n : Nat) : List Ja → Nat → Option (Fl (Bool) (Unit))
  | [], _ => some (Fl.go ())
  | e0 :: aL, i0 =>
    (Jz n e0).bind fun aM =>
    if (!aM) then
    some (Fl.ret false)
    else
    JaG n aL (i0 + 1)
def Jap (n : Nat) (n' : Ja) : Option (Bool) :=
  if (decide (n'.Ab ≠ 1) || decide (n'.Ac ≠ ([] : Str))) then
  some false
  else
  (JaD n n' 512 32).bind fun aL =>
  if (!aL.1) then
  some false
  else
  (chk (n'.Aa.length ≤ qau)).bind fun _ =>
  (JaG n n'.Aa 0).bind fun s0 => s0.el some fun t0 =>
  some true
theorem Jem {n : Nat} {n' : Ja} {aa : Option Addr} {ab : Nat} {K : Hp} {r : Bool}
    (hm : Jap n n' = some r) (hX : LiC Ja.R K aa ab 4 n'.Aa ∧ GG K) :
    Fn Tryz.prog 84 [.agg #[.int .i64 n'.Ab, str n'.Ac, .slice aa n'.Aa.length ab, .int .i64 n'.Ad]] K [] (fun v K' H' => v = .bool r ∧ H' = []) := by
 obtain ⟨ae, hG⟩ := hX
 refine Fn.enter Tryz.func84 Tryz.call84 rfl fun F => ?_
 unfold Jap at hm
 refine qap ?_
 intro b1
 refine qan rfl fun b3 => ?_
 refine qab r0 rfl ⟨rfl, rfl, (nl rfl), ?_⟩
 refine qam rfl ?_
 refine fa rfl (ro (ld r1 rfl rfl (qbd ?_)))
 refine qah ?_ ?_ <;> intro aM
 refine ct aM (ct aM (ct aM ?_))
 replace hm := ift (qd0 aM) hm
 refine cT (cT (cT (cT (qaf rfl (cT ?_)))))
 exact eE hm
 refine fa rfl (cf aM (ro (ld r1 rfl rfl (cf aM (qb2 (cf aM ?_))))))
 refine qah ?_ ?_ <;> intro aL
 replace hm := ift (qkd aM aL) hm
 refine ct aL (ct aL (ct aL (qaf rfl (cT ?_))))
 exact eE hm
 replace hm := qbs (qhg aM aL) hm
 refine ro (qag r1 rfl (nl rfl) (cf aL ?_))
 refine cb hm fun bb a8 hm => cgx (Jek a8 :) ?_
 refine cf aL (qaz (cf aL ?_))
 refine cs rfl rfl hm ?_ ?_ <;> intro bf hm
 exact eE hm
 refine fa rfl (ro (ld r1 rfl rfl (ro (qai rfl ?_))))
 obtain ⟨aW, hm⟩ := qa5 hm
 obtain ⟨s0, aN, hm⟩ := bnd hm
 refine lD (σ := (Unit)) ([2,5] ++ rg 22 8) [0, 1, 2] (fun i0 => [(22, .int .i64 (i0 : Int))]) (fun _ => []) (fun _ => []) (fun _ => True) (fun i0 _ => JaG n (n'.Aa.drop i0) i0 = some s0) (fun t0 => s0 = Fl.go t0) (fun i0 => n'.Aa.length - i0) 0 () aN (And.intro qe (And.intro ?_ ?_))
 clear aN
 rintro i0 _ _ aN j0
 conv at aN => whnf
 refine qaf rfl ?_
 refine qah ?_ ?_ <;> intro w0
 obtain ⟨e0, aO, aZ⟩ := ltx w0
 rw [aZ, JaG.eq_2] at aN
 refine qal rfl ?_
 refine RStep.ofN (qac rfl rfl (qcc ae.rd aO) (nn _) (qbr aO) ?_)
 obtain ⟨aV, aX, aR, aP, aQ⟩ := LiR.get ae.rd aO
 obtain ⟨aS, aU, rfl, aT⟩ := Ja.out aQ
 refine ro (qaj i0 _ aR rfl aP rfl ?_)
 refine qan rfl fun b5 => ?_
 refine qab r0 rfl ⟨rfl, rfl, (nl rfl), ?_⟩
 refine ro (qag r0 rfl (nl rfl) ?_)
 refine cb aN fun ba aY aN => cgx (Jd1 aY :) ?_
 refine qaz ?_
 refine cs rfl rfl aN ?_ ?_ <;> intro bg aN
 exact eE (er aN hm)
 refine qat (qcn aO aW) ?_
 exact eR aN (_, ())
 rw [lty w0, JaG.eq_1] at aN
 refine cT ?_
 exact eM aN _
 rintro t0 _ rfl j0
 replace hm := elg hm
 exact eE hm

def Jb5 (name : Str) : Option (Bool) :=
  some (((decide (name = ([109, 101, 116, 104, 111, 100] : Str)) || decide (name = ([104, 111, 115, 116] : Str))) || decide (name = ([112, 97, 116, 104] : Str))) || decide (name = ([113, 117, 101, 114, 121] : Str)))
theorem Jdh {name : Str} {K : Hp} {r : Bool}
    (hm : Jb5 name = some r)  :
    Fn Tryz.prog 170 [str name] K [] (fun v K' H' => v = .bool r ∧ H' = []) := by
 refine Fn.enter Tryz.func170 Tryz.call170 rfl fun F => ?_
 unfold Jb5 at hm
 refine qam rfl ?_
 refine qas ?_
 refine qah ?_ ?_ <;> intro aM
 refine ct aM (ct aM (cT (cT (cT (cT (cT (cT ?_)))))))
 exact bE (((qd0 (qd0 (qd0 aM)))).symm) (eE hm)
 refine cf aM (qas (cf aM ?_))
 refine qah ?_ ?_ <;> intro aN
 refine ct aN (ct aN (cT (cT (cT ?_))))
 exact bE (((qd0 (qd0 (qkd aM aN)))).symm) (eE hm)
 refine cf aN (qas (cf aN ?_))
 refine qah ?_ ?_ <;> intro aL
 refine ct aL (ct aL ?_)
 exact bE (((qd0 (qkd (qhg aM aN) aL))).symm) (eE hm)
 refine cf aL (qas (cf aL ?_))
 exact bE (qm6 (b := decide (name = ([113, 117, 101, 114, 121] : Str))) (qhg (qhg aM aN) aL)) (eE hm)

def Jai (env : (List Jm)) (name : Str) : Nat → Int → Option (Fl (Int) (Int))
  | 0, _ => none
  | aL + 1, ac =>
    if decide (ac ≥ 0) then
    (ix env ac).bind fun aN =>
    if decide (aN.Name = name) then
    (ix env ac).bind fun aM =>
    some (Fl.ret aM.As)
    else
    (chk (InI (ac - 1))).bind fun _ =>
    Jai env name aL (ac - 1)
    else
    some (Fl.go ac)
def JaV (n : Nat) (name : Str) (env : (List Jm)) : Option (Int) :=
  (chk (InI ((env.length : Int) - 1))).bind fun _ =>
  (Jai env name n ((env.length : Int) - 1)).bind fun s0 => s0.el some fun t0 =>
  (Jb5 name).bind fun aL =>
  if aL then
  some 1
  else
  some 0
theorem JcW {n : Nat} {name : Str} {env : (List Jm)} {ah : Option Addr} {aj : Nat} {n1 : Nat} {K : Hp} {r : Int}
    (hm : JaV n name env = some r) (hX : RdC Jm.enc K ah aj 2 env ∧ n1 = env.length) :
    Fn Tryz.prog 137 [str name, .slice ah n1 aj] K [] (fun v K' H' => v = .int .i64 r ∧ H' = []) := by
 obtain ⟨ag, aR⟩ := hX
 subst aR
 refine Fn.enter Tryz.func137 Tryz.call137 rfl fun F => ?_
 unfold JaV at hm
 refine ro (qai rfl ?_)
 refine ci hm fun hm => ?_
 obtain ⟨s0, aL, hm⟩ := bnd hm
 refine lD (σ := (Int)) ([4,5] ++ rg 9 16) [0] (fun _ => []) (fun t0 => [(5, .int .i64 t0)]) (fun _ => []) (fun _ => True) (fun i0 t0 => Jai env name i0 t0 = some s0) (fun t0 => s0 = Fl.go t0) (fun i0 => i0) n _ aL (And.intro qe (And.intro ?_ ?_))
 clear aL
 rintro i0 ac _ aL j0
 conv at aL => whnf
 cases i0 with
 | zero => rw [Jai.eq_1] at aL; cases aL
 | succ i0 =>
  rw [Jai.eq_2] at aL
  refine cs rfl rfl aL ?_ ?_ <;> intro aX aL
  refine qal rfl ?_
  obtain ⟨aT, aO, aN, aL⟩ := ixb aL
  refine RStep.ofN (qac rfl rfl (qdm ag.rd aN) aO (qaw rfl aO aN) (qax rfl (qdm ag.rd aN) (ro (qca ((ac).toNat) 0 _ _ ag.rd rfl (mp aN) rfl rfl (qas ?_)))))
  refine cs rfl rfl aL ?_ ?_ <;> intro aV aL
  obtain ⟨aS, aP, aM, aL⟩ := ixb aL
  refine RStep.ofN (qac rfl rfl (qdm ag.rd aM) aP (qaw rfl aP aM) (qax rfl (qdm ag.rd aM) (ro (qca ((ac).toNat) 1 _ _ ag.rd rfl (mp aM) rfl rfl ?_))))
  exact eE (er aL hm)
  refine ci aL fun aL => ?_
  exact eR aL (_, _)
  refine cT ?_
  exact eM aL _
 rintro t0 _ rfl j0
 replace hm := elg hm
 refine cb hm fun aU aQ hm => cg0 (Jdh aQ :) ?_
 refine cs rfl rfl hm ?_ ?_ <;> intro aW hm
 exact eE hm
 exact eE hm

def JK (c : Jp) (n' : Ja) (err : Err) : Option (Jp) :=
  if c.err.isNone then
  some (⟨n'.Ad, err⟩ : Jp)
  else
  some c
theorem J9 {c : Jp} {n' : Ja} {err : Err} {b0 : Nat} {ah : Option Addr} {aj : Nat} {K : Hp} {r : Jp}
    (hm : JK c n' err = some r) (ag : LiC Ja.R K ah aj 4 n'.Aa) :
    Fn Tryz.prog 128 [.pointer (some ⟨b0, 0, none⟩), .agg #[.int .i64 n'.Ab, str n'.Ac, .slice ah n'.Aa.length aj, .int .i64 n'.Ad], qcx 87 err] K [Cells b0 171 [.int .i64 c.line, qcx 87 c.err]] (fun v K' H' => v = .tuple #[] ∧ H' = [Cells b0 171 [.int .i64 r.line, qcx 87 r.err]]) := by
 refine Fn.enter Tryz.func128 Tryz.call128 rfl fun F => ?_
 unfold JK at hm
 refine qap ?_
 intro b4
 refine qae (fa rfl (ro (ld r1 rfl rfl (qgl rfl ?_))))
 refine cs rfl rfl hm ?_ ?_ <;> intro aL hm
 refine fa rfl (ro (ld r0 rfl rfl (qae (fa rfl ?_))))
 refine qab r1 rfl ⟨rfl, rfl, (nl rfl), ?_⟩
 refine qae (fa rfl ?_)
 refine qom r0 rfl rfl ?_
 exact eE hm
 exact eE hm

def Jaq (name : Str) : Option (Int × Int) :=
  if decide (name = ([104, 101, 97, 100, 101, 114] : Str)) then
  some (1, 1)
  else
  if decide (name = ([97, 114, 103] : Str)) then
  some (1, 1)
  else
  if decide (name = ([108, 111, 119, 101, 114] : Str)) then
  some (1, 1)
  else
  if decide (name = ([104, 97, 115] : Str)) then
  some (1, 3)
  else
  if decide (name = ([108, 101, 110] : Str)) then
  some (1, 2)
  else
  if decide (name = ([110, 117, 109, 98, 101, 114] : Str)) then
  some (1, 2)
  else
  if decide (name = ([112, 97, 114, 116] : Str)) then
  some (2, 1)
  else
  if decide (name = ([116, 101, 120, 116] : Str)) then
  some (2, 1)
  else
  some (0, 0)
theorem JdG {name : Str} {K : Hp} {r : Int × Int}
    (hm : Jaq name = some r)  :
    Fn Tryz.prog 171 [str name] K [] (fun v K' H' => v = .tuple #[.int .i64 r.1, .int .i64 r.2] ∧ H' = []) := by
 refine Fn.enter Tryz.func171 Tryz.call171 rfl fun F => ?_
 unfold Jaq at hm
 refine qal rfl ?_
 refine qas (cs rfl rfl hm ?_ ?_) <;> intro w5 hm
 refine qaf rfl (ct w5 ?_)
 exact eE hm
 refine qas (cs rfl rfl hm ?_ ?_) <;> intro w5 hm
 refine qaf rfl (ct w5 ?_)
 exact eE hm
 refine qas (cs rfl rfl hm ?_ ?_) <;> intro w5 hm
 exact eE hm
 refine qas (cs rfl rfl hm ?_ ?_) <;> intro w9 hm
 exact eE hm
 refine qas (cs rfl rfl hm ?_ ?_) <;> intro aM hm
 refine qaf rfl (ct aM ?_)
 exact eE hm
 refine qas (cs rfl rfl hm ?_ ?_) <;> intro aM hm
 exact eE hm
 refine qas (cs rfl rfl hm ?_ ?_) <;> intro aL hm
 refine qaf rfl (ct aL ?_)
 exact eE hm
 refine qas (cs rfl rfl hm ?_ ?_) <;> intro aL hm
 exact eE hm
 exact eE hm

def J0 (c : Jp) (n' : Ja) (args : (List Int)) : Option (Int × Jp) :=
  (Jaq n'.Ac).bind fun au =>
  if decide (au.2 = 0) then
  (JK c n' (some 8)).bind fun aL =>
  some (au.2, aL)
  else
  (if decide ((args.length : Int) ≠ 1) then some true else (ix args 0).bind fun aN =>
  some (decide (aN ≠ au.1))).bind fun aM =>
  if aM then
  (JK c n' (some 9)).bind fun aO =>
  some (au.2, aO)
  else
  some (au.2, c)
theorem Jda {c : Jp} {n' : Ja} {args : (List Int)} {b0 : Nat} {ah : Option Addr} {aj : Nat} {ao : Option Addr} {aq : Nat} {n2 : Nat} {K : Hp} {r : Int × Jp}
    (hm : J0 c n' args = some r) (hX : LiC Ja.R K ah aj 4 n'.Aa ∧ RdC eN K ao aq 1 args ∧ n2 = args.length) :
    Fn Tryz.prog 138 [.pointer (some ⟨b0, 0, none⟩), .agg #[.int .i64 n'.Ab, str n'.Ac, .slice ah n'.Aa.length aj, .int .i64 n'.Ad], .slice ao n2 aq] K [Cells b0 171 [.int .i64 c.line, qcx 87 c.err]] (fun v K' H' => v = .int .i64 r.1 ∧ H' = [Cells b0 171 [.int .i64 r.2.line, qcx 87 r.2.err]]) := by
 obtain ⟨ag, aM, aV⟩ := hX
 subst aV
 refine Fn.enter Tryz.func138 Tryz.call138 rfl fun F => ?_
 unfold J0 at hm
 refine qap ?_
 intro b4
 refine fa rfl (ro (ld r0 rfl rfl ?_))
 refine cb hm fun au aS hm => cg0 (JdG aS :) ?_
 refine qad (cs rfl rfl hm ?_ ?_) <;> intro aW hm
 refine ro (qag r0 rfl (nl rfl) ?_)
 refine qa3 rfl ?_
 refine cb hm fun aX aU hm => cgx (J9 aU :) ?_
 exact eE hm
 refine qam rfl ?_
 refine ro (qai rfl (qbd ?_))
 obtain ⟨aZ, aN, hm⟩ := bnd hm
 refine cS aN (fun aL aN => ?_) fun aL aN => ?_
 refine ct aL (ct aL (ct aL (ct aL (ct aL (qaf rfl (cT ?_))))))
 replace hm := ift (si aN).symm hm
 refine ro (qag r0 rfl (nl rfl) ?_)
 refine qa3 rfl ?_
 refine cb hm fun aT aO hm => cgx (J9 aO :) ?_
 exact eE hm
 refine cf aL ?_
 obtain ⟨aY, aR, aP, aN⟩ := ixb aN
 refine RStep.ofN (qac rfl rfl (qdm aM.rd aP) aR (qaw rfl aR aP) (cf aL (ro (qca ((0 : Int).toNat) 0 _ _ aM.rd rfl (mp aP) rfl rfl (cf aL (cf aL (qbd (cf aL (qaf rfl ?_)))))))))
 refine qah ?_ ?_ <;> intro aQ
 replace hm := ift ((si aN).symm.trans aQ) hm
 refine ro (qag r0 rfl (nl rfl) ?_)
 refine qa3 rfl ?_
 refine cb hm fun aT aO hm => cgx (J9 aO :) ?_
 exact eE hm
 replace hm := qbs ((si aN).symm.trans aQ) hm
 exact eE hm

def JO (t : Int) : List Int → Nat → Option (Fl (Bool) (Unit))
  | [], _ => some (Fl.go ())
  | e0 :: aL, i0 =>
    if decide (e0 ≠ t) then
    some (Fl.ret false)
    else
    JO t aL (i0 + 1)
def Jv (t : Int) (aC : (List Int)) : Option (Bool) :=
  (chk (aC.length ≤ qau)).bind fun _ =>
  (JO t aC 0).bind fun s0 => s0.el some fun t0 =>
  some true
theorem JX {t : Int} {aC : (List Int)} {b1 : Nat} {ah : Option Addr} {aj : Nat} {K : Hp} {r : Bool}
    (hm : Jv t aC = some r) (ag : RdC eN K ah aj 1 aC) :
    Fn Tryz.prog 172 [.int .i64 t, .pointer (some ⟨b1, 0, none⟩)] K [Cells b1 150 [.slice ah aC.length aj]] (fun v K' H' => v = .bool r ∧ H' = [Cells b1 150 [.slice ah aC.length aj]]) := by
 refine Fn.enter Tryz.func172 Tryz.call172 rfl fun F => ?_
 unfold Jv at hm
 refine ro (ld r0 rfl rfl (ro (qai rfl ?_)))
 obtain ⟨aN, hm⟩ := qa5 hm
 obtain ⟨s0, aL, hm⟩ := bnd hm
 refine lD (σ := (Unit)) ([3,5] ++ rg 8 8) [0, 1] (fun i0 => [(8, .int .i64 (i0 : Int))]) (fun _ => []) (fun _ => []) (fun _ => True) (fun i0 _ => JO t (aC.drop i0) i0 = some s0) (fun t0 => s0 = Fl.go t0) (fun i0 => aC.length - i0) 0 () aL (And.intro qe (And.intro ?_ ?_))
 clear aL
 rintro i0 _ _ aL j0
 conv at aL => whnf
 refine qaf rfl ?_
 refine qah ?_ ?_ <;> intro w0
 obtain ⟨e0, aM, aO⟩ := ltx w0
 rw [aO, JO.eq_2] at aL
 refine qal rfl ?_
 refine RStep.ofN (qac rfl rfl (qdm ag.rd aM) (nn _) (qbr aM) (ro (qca i0 0 _ _ ag.rd rfl (mp aM) rfl rfl (qbd ?_))))
 refine cs rfl rfl aL ?_ ?_ <;> intro aP aL
 exact eE (er aL hm)
 refine qat (qcn aM aN) ?_
 exact eR aL (_, ())
 rw [lty w0, JO.eq_1] at aL
 refine cT ?_
 exact eM aL _
 rintro t0 _ rfl j0
 replace hm := elg hm
 exact eE hm

def J3 (n' : Ja) (args : (List Int)) : Option (Int) :=
  if decide (n'.Ab = 17) then
  (Jv 1 args).bind fun au =>
  if au then
  some 1
  else
  (Jv 2 args).bind fun aQ =>
  if aQ then
  some 2
  else
  some 0
  else
  if decide (n'.Ab = 18) then
  (Jv 2 args).bind fun aO =>
  if aO then
  some 2
  else
  some 0
  else
  if decide (n'.Ab = 19) then
  (Jv 2 args).bind fun aO =>
  if aO then
  some 2
  else
  some 0
  else
  if decide (n'.Ab = 13) then
  (Jv 3 args).bind fun aL =>
  if aL then
  some 3
  else
  some 0
  else
  if decide (n'.Ab = 14) then
  (Jv 3 args).bind fun aL =>
  if aL then
  some 3
  else
  some 0
  else
  if decide (n'.Ab = 15) then
  (Jv 3 args).bind fun aL =>
  if aL then
  some 3
  else
  some 0
  else
  if decide (n'.Ab = 16) then
  if decide (n'.Ac = ([61, 61] : Str)) then
  (ix args 0).bind fun aN =>
  (ix args 1).bind fun aM =>
  if decide (aN = aM) then
  some 3
  else
  some 0
  else
  if decide (n'.Ac = ([33, 61] : Str)) then
  (ix args 0).bind fun aN =>
  (ix args 1).bind fun aM =>
  if decide (aN = aM) then
  some 3
  else
  some 0
  else
  if decide (n'.Ac = ([60] : Str)) then
  (Jv 2 args).bind fun aP =>
  if aP then
  some 3
  else
  some 0
  else
  if decide (n'.Ac = ([60, 61] : Str)) then
  (Jv 2 args).bind fun aP =>
  if aP then
  some 3
  else
  some 0
  else
  (Jv 1 args).bind fun aR =>
  if aR then
  some 3
  else
  some 0
  else
  some 0
theorem JdH {n' : Ja} {args : (List Int)} {aa : Option Addr} {ab : Nat} {ah : Option Addr} {aj : Nat} {n1 : Nat} {K : Hp} {r : Int}
    (hm : J3 n' args = some r) (hX : LiC Ja.R K aa ab 4 n'.Aa ∧ RdC eN K ah aj 1 args ∧ n1 = args.length) :
    Fn Tryz.prog 139 [.agg #[.int .i64 n'.Ab, str n'.Ac, .slice aa n'.Aa.length ab, .int .i64 n'.Ad], .slice ah n1 aj] K [] (fun v K' H' => v = .int .i64 r ∧ H' = []) := by
 obtain ⟨ae, ag, bn⟩ := hX
 subst bn
 refine Fn.enter Tryz.func139 Tryz.call139 rfl fun F => ?_
 unfold J3 at hm
 refine qap ?_
 intro b2
 refine qap ?_
 intro b3
 refine mkFunc ?_
 refine fa rfl (ro (ld r1 rfl rfl ?_))
 refine qal rfl ?_
 refine qad (cs rfl rfl hm ?_ ?_) <;> intro w9 hm
 refine cb hm fun au bg hm => cgx (JX bg :) ?_
 refine cs rfl rfl hm ?_ ?_ <;> intro bw hm
 exact eE hm
 refine cb hm fun bv bf hm => cgx (JX bf :) ?_
 refine cs rfl rfl hm ?_ ?_ <;> intro bu hm
 exact eE hm
 exact eE hm
 refine qad (cs rfl rfl hm ?_ ?_) <;> intro aV hm
 refine qaf rfl (ct aV ?_)
 refine cb hm fun aZ aS hm => cgx (JX aS :) ?_
 refine cs rfl rfl hm ?_ ?_ <;> intro bm hm
 exact eE hm
 exact eE hm
 refine qad (cs rfl rfl hm ?_ ?_) <;> intro aV hm
 refine cb hm fun aZ aS hm => cgx (JX aS :) ?_
 refine cs rfl rfl hm ?_ ?_ <;> intro bm hm
 exact eE hm
 exact eE hm
 refine qad (cs rfl rfl hm ?_ ?_) <;> intro aQ hm
 refine qaf rfl (ct aQ ?_)
 refine cb hm fun aU aP hm => cgx (JX aP :) ?_
 refine cs rfl rfl hm ?_ ?_ <;> intro aT hm
 exact eE hm
 exact eE hm
 refine qad (cs rfl rfl hm ?_ ?_) <;> intro aQ hm
 refine qaf rfl (ct aQ ?_)
 refine cb hm fun aU aP hm => cgx (JX aP :) ?_
 refine cs rfl rfl hm ?_ ?_ <;> intro aT hm
 exact eE hm
 exact eE hm
 refine qad (cs rfl rfl hm ?_ ?_) <;> intro aQ hm
 refine cb hm fun aU aP hm => cgx (JX aP :) ?_
 refine cs rfl rfl hm ?_ ?_ <;> intro aT hm
 exact eE hm
 exact eE hm
 refine qad (cs rfl rfl hm ?_ ?_) <;> intro bt hm
 refine fa rfl (ro (ld r1 rfl rfl ?_))
 refine qal rfl ?_
 refine qas (cs rfl rfl hm ?_ ?_) <;> intro aW hm
 refine qaf rfl (ct aW ?_)
 refine qa4 ⟨⟨[], false⟩, _, [(_, _)], []⟩ (by kernel_rfl) ⟨Hp.Le.refl _, (pf rfl), ci0⟩ ?_
 refine qao m0 rfl rfl ?_
 obtain ⟨bj, aN, aL, hm⟩ := ixb hm
 refine qac rfl rfl (qdm ag.rd aL) aN (qaw rfl aN aL) (qbm ((0 : Int).toNat) 0 _ _ ag.rd rfl (mp aL) rfl rfl (qao m0 rfl rfl ?_))
 obtain ⟨aY, aO, aM, hm⟩ := ixb hm
 refine qac rfl rfl (qdm ag.rd aM) aO (qaw rfl aO aM) (qbm ((1 : Int).toNat) 0 _ _ ag.rd rfl (mp aM) rfl rfl (qad ?_))
 refine cs rfl rfl hm ?_ ?_ <;> intro bh hm
 exact eE hm
 exact eE hm
 refine qas (cs rfl rfl hm ?_ ?_) <;> intro aW hm
 refine qa4 ⟨⟨[], false⟩, _, [(_, _)], []⟩ (by kernel_rfl) ⟨Hp.Le.refl _, (pf rfl), ci0⟩ ?_
 refine qao m0 rfl rfl ?_
 obtain ⟨bj, aN, aL, hm⟩ := ixb hm
 refine qac rfl rfl (qdm ag.rd aL) aN (qaw rfl aN aL) (qbm ((0 : Int).toNat) 0 _ _ ag.rd rfl (mp aL) rfl rfl (qao m0 rfl rfl ?_))
 obtain ⟨aY, aO, aM, hm⟩ := ixb hm
 refine qac rfl rfl (qdm ag.rd aM) aO (qaw rfl aO aM) (qbm ((1 : Int).toNat) 0 _ _ ag.rd rfl (mp aM) rfl rfl (qad ?_))
 refine cs rfl rfl hm ?_ ?_ <;> intro bh hm
 exact eE hm
 exact eE hm
 refine qas (cs rfl rfl hm ?_ ?_) <;> intro aX hm
 refine qaf rfl (ct aX ?_)
 refine cb hm fun a8 aR hm => cgx (JX aR :) ?_
 refine cs rfl rfl hm ?_ ?_ <;> intro bb hm
 exact eE hm
 exact eE hm
 refine qas (cs rfl rfl hm ?_ ?_) <;> intro aX hm
 refine cb hm fun a8 aR hm => cgx (JX aR :) ?_
 refine cs rfl rfl hm ?_ ?_ <;> intro bb hm
 exact eE hm
 exact eE hm
 refine cb hm fun bp ba hm => cgx (JX ba :) ?_
 refine cs rfl rfl hm ?_ ?_ <;> intro bo hm
 exact eE hm
 exact eE hm
 exact eE hm

def JL (rec_ : (Jp → Ja → (List Jm) → Option (Int × Jp))) (env : (List Jm)) : List Ja → Nat → (List Int) → Int → Err → Option (Fl (Int × Jp) ((List Int) × Int × Err))
  | [], _, ac, aM, aL => some (Fl.go (ac, aM, aL))
  | e0 :: aO, i0, ac, aM, aL =>
    (rec_ (⟨aM, aL⟩ : Jp) e0 env).bind fun aN =>
    (chk (ac.length + [aN.1].length ≤ lim)).bind fun _ =>
    if aN.2.err.isSome then
    some (Fl.ret (0, aN.2))
    else
    JL rec_ env aO (i0 + 1) (ac ++ [aN.1]) aN.2.line aN.2.err
def JF : Nat → Jp → Ja → (List Jm) → Option (Int × Jp)
  | 0, _, _, _ => none
  | n + 1, c, n', env =>
    (chk (n'.Aa.length ≤ qau)).bind fun _ =>
    (JL (JF n) env n'.Aa 0 [] c.line c.err).bind fun s0 => s0.el some fun t0 =>
    if decide (n'.Ab = 20) then
    some (2, (⟨t0.2.1, t0.2.2⟩ : Jp))
    else
    if decide (n'.Ab = 21) then
    some (1, (⟨t0.2.1, t0.2.2⟩ : Jp))
    else
    if decide (n'.Ab = 22) then
    some (3, (⟨t0.2.1, t0.2.2⟩ : Jp))
    else
    if decide (n'.Ab = 23) then
    (JaV n n'.Ac env).bind fun aL =>
    if decide (aL = 0) then
    (JK (⟨t0.2.1, t0.2.2⟩ : Jp) n' (some 8)).bind fun aP =>
    some (aL, aP)
    else
    some (aL, (⟨t0.2.1, t0.2.2⟩ : Jp))
    else
    if decide (n'.Ab = 24) then
    (J0 (⟨t0.2.1, t0.2.2⟩ : Jp) n' t0.1).bind fun aN =>
    some (aN.1, aN.2)
    else
    (J3 n' t0.1).bind fun aM =>
    if decide (aM = 0) then
    (JK (⟨t0.2.1, t0.2.2⟩ : Jp) n' (some 9)).bind fun aO =>
    some (aM, aO)
    else
    some (aM, (⟨t0.2.1, t0.2.2⟩ : Jp))
theorem Jdb : ∀ {n : Nat} {c : Jp} {n' : Ja} {env : (List Jm)} {b0 : Nat} {ah : Option Addr} {aj : Nat} {ao : Option Addr} {aq : Nat} {n2 : Nat} {K : Hp} {r : Int × Jp}
    (hm : JF n c n' env = some r) (hX : LiC Ja.R K ah aj 4 n'.Aa ∧ RdC Jm.enc K ao aq 2 env ∧ n2 = env.length),
    Fn Tryz.prog 126 [.pointer (some ⟨b0, 0, none⟩), .agg #[.int .i64 n'.Ab, str n'.Ac, .slice ah n'.Aa.length aj, .int .i64 n'.Ad], .slice ao n2 aq] K [Cells b0 171 [.int .i64 c.line, qcx 87 c.err]] (fun v K' H' => v = .int .i64 r.1 ∧ H' = [Cells b0 171 [.int .i64 r.2.line, qcx 87 r.2.err]]) := by
 intro n
 induction n with
 | zero =>
   intro c n' env b0 ah aj ao aq n2 K r hm hX
   rw [JF.eq_1] at hm; cases hm
 | succ n ih =>
   intro c n' env b0 ah aj ao aq n2 K r hm hX
   obtain ⟨ag, bj, bz⟩ := hX
   subst bz
   refine Fn.enter Tryz.func126 Tryz.call126 rfl fun F => ?_
   rw [JF.eq_2] at hm
   refine qap ?_
   intro b4
   refine fa rfl (ro (ld r0 rfl rfl (ro (qai rfl ?_))))
   obtain ⟨bw, hm⟩ := qa5 hm
   obtain ⟨s0, aN, hm⟩ := bnd hm
   refine qnr eN 3 1 ?_
   refine lD (σ := ((List Int) × Int × Err) × Option Addr × Nat) ([6,7,9] ++ rg 15 17) [1, 3] (fun i0 => [(15, .int .i64 (i0 : Int))]) (fun (t0, aL, aM) => [(7, .slice aL t0.1.length aM)]) (fun (t0, aL, aM) => [OwnL eN aL 3 1 aM t0.1, Cells b0 171 [.int .i64 t0.2.1, qcx 87 t0.2.2]]) (fun (t0, aL, aM) => (0 < t0.1.length → Has aL) ∧ True) (fun i0 (t0, aL, aM) => JL (JF n) env (n'.Aa.drop i0) i0 t0.1 t0.2.1 t0.2.2 = some s0) (fun (t0, aL, aM) => s0 = Fl.go t0) (fun i0 => n'.Aa.length - i0) 0 ((_, _, _), _, _) aN (And.intro qe (And.intro ?_ ?_))
   clear aN
   rintro i0 ⟨⟨ac, bm, bC⟩, aZ, aY⟩ ⟨aW, _⟩ aN j0
   dsimp only at aN ⊢
   refine qaf rfl ?_
   refine qah ?_ ?_ <;> intro w0
   obtain ⟨e0, aS, bu⟩ := ltx w0
   rw [bu, JL.eq_2] at aN
   refine qal rfl ?_
   refine RStep.ofN (qac rfl rfl (qcc ag.rd aS) (nn _) (qbr aS) ?_)
   obtain ⟨bp, bA, aT, aU, aV⟩ := LiR.get ag.rd aS
   obtain ⟨a8, bg, rfl, bb⟩ := Ja.out aV
   refine ro (qaj i0 _ aT rfl aU rfl ?_)
   refine qan rfl fun b9 => ?_
   refine qab r0 rfl ⟨rfl, rfl, (nl rfl), ?_⟩
   refine ro (qag r0 rfl (nl rfl) ?_)
   refine cb aN fun ba bt aN => cgx (ih bt :) ?_
   refine bsO (len := 1) (enc := eN) (l := [ba.1]) (cl := [.int .i64 ba.1]) qsp rfl rfl (fun _ _ => rfl) rfl rfl rfl ?_ fun bH => ?_
   · conv => whnf
     refine cT ?_
     first | done | rfl
   obtain ⟨bv, aN⟩ := qa5 aN
   refine apE rfl r3 qsp (qa6 rfl r0 rfl (fun _ => rfl) (fun _ => rfl)) bv ?_
   intro bO bK bJ
   refine qae (fa rfl (ro (ld r2 rfl rfl (qbe rfl ?_))))
   refine cs rfl rfl aN ?_ ?_ <;> intro bL aN
   exact eE (er aN hm)
   refine qat (qcn aS bw) ?_
   exact eR aN (_, (_, _, _), _, _)
   rw [lty w0, JL.eq_1] at aN
   refine cT ?_
   exact eM aN (_, _, _)
   rintro ⟨t0, aL, aM⟩ ⟨bf, _⟩ rfl j0
   replace hm := elg hm
   refine fa rfl (ro (ld r2 rfl rfl ?_))
   refine qal rfl ?_
   refine qad (cs rfl rfl hm ?_ ?_) <;> intro bM hm
   exact eE hm
   refine qad (cs rfl rfl hm ?_ ?_) <;> intro bU hm
   exact eE hm
   refine qad (cs rfl rfl hm ?_ ?_) <;> intro bR hm
   exact eE hm
   refine qad (cs rfl rfl hm ?_ ?_) <;> intro bS hm
   refine fa rfl (ro (ld r2 rfl rfl ?_))
   refine cb hm fun bP bB hm => cgx (JcW bB :) ?_
   refine qad (cs rfl rfl hm ?_ ?_) <;> intro bW hm
   refine ro (qag r2 rfl (nl rfl) ?_)
   refine qa3 rfl ?_
   refine cb hm fun bI bD hm => cgx (J9 bD :) ?_
   exact eE hm
   exact eE hm
   refine qad (cs rfl rfl hm ?_ ?_) <;> intro bQ hm
   refine ro (qag r2 rfl (nl rfl) ?_)
   refine cb hm fun bG bo hm => ck0 (Fn.lend Tryz.call138 (fun aX aR aQ => (Jda (c := (⟨t0.2.1, t0.2.2⟩ : Jp)) (n' := n') bo ⟨(LiC.mono Ja.R_ok aR ag), aQ, rfl⟩)) (by exact fun _ _ _ _ h => h)) ?_
   rintro _ _ _ ⟨_, rfl, rfl, rfl⟩
   exact eE hm
   refine ro (qag r2 rfl (nl rfl) ?_)
   refine cb hm fun bT bF hm => ck0 (Fn.lend Tryz.call139 (fun bh aO aP => (JdH (n' := n') bF ⟨(LiC.mono Ja.R_ok aO ag), aP, rfl⟩)) (by exact fun _ _ _ _ h => h)) ?_
   rintro _ _ _ ⟨_, rfl, rfl, rfl⟩
   refine qad (cs rfl rfl hm ?_ ?_) <;> intro bN hm
   refine ro (qag r2 rfl (nl rfl) ?_)
   refine qa3 rfl ?_
   refine cb hm fun bV bn hm => cgx (J9 bn :) ?_
   exact eE hm
   exact eE hm

def JbC (n' : Ja) : Option (Int) :=
  if decide (n'.Ab = 2) then
  some 3
  else
  if decide (n'.Ab = 4) then
  some 1
  else
  if decide (n'.Ab = 5) then
  some 1
  else
  if decide (n'.Ab = 7) then
  some 1
  else
  if decide (n'.Ab = 8) then
  some 2
  else
  if decide (n'.Ab = 9) then
  some 2
  else
  some 0
theorem Jen {n' : Ja} {aa : Option Addr} {ab : Nat} {K : Hp} {r : Int}
    (hm : JbC n' = some r) (ae : LiC Ja.R K aa ab 4 n'.Aa) :
    Fn Tryz.prog 127 [.agg #[.int .i64 n'.Ab, str n'.Ac, .slice aa n'.Aa.length ab, .int .i64 n'.Ad]] K [] (fun v K' H' => v = .int .i64 r ∧ H' = []) := by
 refine Fn.enter Tryz.func127 Tryz.call127 rfl fun F => ?_
 unfold JbC at hm
 refine qap ?_
 intro b1
 refine fa rfl (ro (ld r0 rfl rfl ?_))
 refine qal rfl ?_
 refine qad (cs rfl rfl hm ?_ ?_) <;> intro w5 hm
 exact eE hm
 refine qad (cs rfl rfl hm ?_ ?_) <;> intro w7 hm
 refine qaf rfl (ct w7 ?_)
 exact eE hm
 refine qad (cs rfl rfl hm ?_ ?_) <;> intro w7 hm
 refine qaf rfl (ct w7 ?_)
 exact eE hm
 refine qad (cs rfl rfl hm ?_ ?_) <;> intro w7 hm
 exact eE hm
 refine qad (cs rfl rfl hm ?_ ?_) <;> intro aL hm
 refine qaf rfl (ct aL ?_)
 exact eE hm
 refine qad (cs rfl rfl hm ?_ ?_) <;> intro aL hm
 exact eE hm
 exact eE hm

def JaR (n : Nat) (name : Str) (env : (List Jm)) : Option (Bool) :=
  (JaV n name env).bind fun x7 =>
  some (decide (x7 ≠ 0))
theorem JcE {n : Nat} {name : Str} {env : (List Jm)} {ah : Option Addr} {aj : Nat} {n1 : Nat} {K : Hp} {r : Bool}
    (hm : JaR n name env = some r) (hX : RdC Jm.enc K ah aj 2 env ∧ n1 = env.length) :
    Fn Tryz.prog 129 [str name, .slice ah n1 aj] K [] (fun v K' H' => v = .bool r ∧ H' = []) := by
 obtain ⟨ag, aL⟩ := hX
 subst aL
 refine Fn.enter Tryz.func129 Tryz.call129 rfl fun F => ?_
 unfold JaR at hm
 refine cb hm fun x7 q7 hm => cgx (JcW q7 :) ?_
 refine qbd ?_
 exact eE hm

def Jag (env : (List Jm)) (name : Str) (t : Int) : Option ((List Jm)) :=
  (chk (InI ((env.length : Int) + 1))).bind fun _ =>
  (chk ((0 : Int) ≤ ((env.length : Int) + 1) ∧ ((env.length : Int) + 1) ≤ (lim : Int))).bind fun _ =>
  (chk (([] : List Jm).length + env.length ≤ lim)).bind fun _ =>
  (chk ((([] : List Jm) ++ env).length + [(⟨name, t⟩ : Jm)].length ≤ lim)).bind fun _ =>
  some ((([] : List Jm) ++ env) ++ [(⟨name, t⟩ : Jm)])
theorem JbE {env : (List Jm)} {name : Str} {t : Int} {aa : Option Addr} {ab : Nat} {n0 : Nat} {K : Hp} {r : (List Jm)}
    (hm : Jag env name t = some r) (hX : RdC Jm.enc K aa ab 2 env ∧ n0 = env.length) :
    Fn Tryz.prog 98 [.slice aa n0 ab, str name, .int .i64 t] K [] (fun v K' H' => ∃ ar_0 : Option Addr, ∃ cr_0 : Nat, v = .slice ar_0 r.length cr_0 ∧ (0 < r.length → Has ar_0) ∧ H' = [OwnL Jm.enc ar_0 233 2 cr_0 r]) := by
 obtain ⟨ae, aO⟩ := hX
 subst aO
 refine Fn.enter Tryz.func98 Tryz.call98 rfl fun F => ?_
 unfold Jag at hm
 refine ro (qai rfl ?_)
 refine ci hm fun hm => ?_
 obtain ⟨aN, hm⟩ := qa5 hm
 refine quj (enc := Jm.enc) qld rfl aN fun aS => ?_
 obtain ⟨aM, hm⟩ := qa5 hm
 refine apE rfl r0 qld (qyu rfl ae.rd rfl) aM ?_
 intro aP aW aV
 refine qak rfl rfl (cT (cT ?_))
 refine bsO (len := 1) (enc := Jm.enc) (l := [(⟨name, t⟩ : Jm)]) (cl := [str name, .int .i64 t]) qld rfl rfl (fun _ _ => rfl) rfl rfl rfl ?_ fun aQ => ?_
 · conv => whnf
   refine cT ?_
   first | done | rfl
 obtain ⟨aL, hm⟩ := qa5 hm
 refine apE rfl r1 qld (qa6 rfl r0 rfl (fun _ => rfl) (fun _ => rfl)) aL ?_
 intro aR aT aU
 exact eE hm

def JaM (n' : Ja) : Option ((List Ja)) :=
  if decide (n'.Ab = 12) then
  some n'.Aa
  else
  some [n']
theorem JcX {n' : Ja} {aa : Option Addr} {ab : Nat} {K : Hp} {r : (List Ja)}
    (hm : JaM n' = some r) (ae : LiC Ja.R K aa ab 4 n'.Aa) :
    Fn Tryz.prog 99 [.agg #[.int .i64 n'.Ab, str n'.Ac, .slice aa n'.Aa.length ab, .int .i64 n'.Ad]] K [] (fun v K' H' => ∃ ar_0 : Option Addr, ∃ cr_0 : Nat, v = .slice ar_0 r.length cr_0 ∧ LiC Ja.R K' ar_0 cr_0 4 r ∧ H' = []) := by
 refine Fn.enter Tryz.func99 Tryz.call99 rfl fun F => ?_
 unfold JaM at hm
 refine qap ?_
 intro b1
 refine fa rfl (ro (ld r0 rfl rfl (qad ?_)))
 refine cs rfl rfl hm ?_ ?_ <;> intro w5 hm
 refine fa rfl (ro (ld r0 rfl rfl ?_))
 exact eE hm
 refine ro (qag r0 rfl (nl rfl) ?_)
 refine qzw (R := Ja.R) (len := 1) (l := [n']) (css := [[.int .i64 n'.Ab, str n'.Ac, .slice aa n'.Aa.length ab, .int .i64 n'.Ad]]) (cl := [.int .i64 n'.Ab, str n'.Ac, .slice aa n'.Aa.length ab, .int .i64 n'.Ad]) Ja.R_ok qt0 rfl rfl (LR.snoc LR.nil (Ja.of (x := n') ⟨aa, ab, rfl, ae⟩)) rfl rfl rfl ?_ fun b9 => ?_
 · conv => whnf
   refine cT ?_
   first | done | rfl
 refine qz6 Ja.R_ok r0 (show LR Ja.R _ [[.int .i64 n'.Ab, str n'.Ac, .slice aa n'.Aa.length ab, .int .i64 n'.Ad]] [n'] from (LR.snoc LR.nil (Ja.of (x := n') ⟨aa, ab, rfl, ae⟩))) fun aM aL aN => ?_
 exact eE hm

def Jy (rec_ : (Jp → (List Ja) → (List Jm) → Option (Jp))) (ac : (List Jm)) : List Ja → Nat → Int → Err → Option (Int × Err)
  | [], _, aL, aM => some (aL, aM)
  | e3 :: aP, i3, aL, aM =>
    (JaM e3).bind fun aO =>
    (rec_ (⟨aL, aM⟩ : Jp) aO ac).bind fun aN =>
    Jy rec_ ac aP (i3 + 1) aN.line aN.err
def Js (n : Nat) (rec_ : (Jp → (List Ja) → (List Jm) → Option (Jp))) : List Ja → Nat → (List Jm) → Int → Err → Option (Fl (Jp) ((List Jm) × Int × Err))
  | [], _, ac, aQ, aO => some (Fl.go (ac, aQ, aO))
  | e0 :: aP, i0, ac, aQ, aO =>
    if decide ((e0.Aa.length : Int) = 0) then
    Js n rec_ aP (i0 + 1) ac aQ aO
    else
    (ix e0.Aa 0).bind fun aU =>
    (JF n (⟨aQ, aO⟩ : Jp) aU ac).bind fun aL =>
    (JbC e0).bind fun aT =>
    if ((aL.2.err.isNone && decide (aT ≠ 0)) && decide (aL.1 ≠ aT)) then
    (JK aL.2 e0 (some 9)).bind fun aM =>
    if aM.err.isSome then
    some (Fl.ret aM)
    else
    if decide (e0.Ab = 3) then
    (JaR n e0.Ac ac).bind fun aS =>
    if aS then
    (JK aM e0 (some 4)).bind fun aN =>
    (Jag ac e0.Ac aL.1).bind fun aR =>
    if aN.err.isSome then
    some (Fl.ret aN)
    else
    Js n rec_ aP (i0 + 1) aR aN.line aN.err
    else
    (Jag ac e0.Ac aL.1).bind fun aR =>
    if aM.err.isSome then
    some (Fl.ret aM)
    else
    Js n rec_ aP (i0 + 1) aR aM.line aM.err
    else
    if decide (e0.Ab = 2) then
    (chk (0 ≤ (1 : Int) ∧ (1 : Int) ≤ (e0.Aa.length : Int) ∧ (e0.Aa.length : Int) ≤ (e0.Aa.length : Int))).bind fun _ =>
    (chk ((subL e0.Aa (1 : Int) (e0.Aa.length : Int)).length ≤ qau)).bind fun _ =>
    (Jy rec_ ac (subL e0.Aa (1 : Int) (e0.Aa.length : Int)) 0 aM.line aM.err).bind fun t3 =>
    if t3.2.isSome then
    some (Fl.ret (⟨t3.1, t3.2⟩ : Jp))
    else
    Js n rec_ aP (i0 + 1) ac t3.1 t3.2
    else
    if aM.err.isSome then
    some (Fl.ret aM)
    else
    Js n rec_ aP (i0 + 1) ac aM.line aM.err
    else
    if aL.2.err.isSome then
    some (Fl.ret aL.2)
    else
    if decide (e0.Ab = 3) then
    (JaR n e0.Ac ac).bind fun aS =>
    if aS then
    (JK aL.2 e0 (some 4)).bind fun aN =>
    (Jag ac e0.Ac aL.1).bind fun aR =>
    if aN.err.isSome then
    some (Fl.ret aN)
    else
    Js n rec_ aP (i0 + 1) aR aN.line aN.err
    else
    (Jag ac e0.Ac aL.1).bind fun aR =>
    if aL.2.err.isSome then
    some (Fl.ret aL.2)
    else
    Js n rec_ aP (i0 + 1) aR aL.2.line aL.2.err
    else
    if decide (e0.Ab = 2) then
    (chk (0 ≤ (1 : Int) ∧ (1 : Int) ≤ (e0.Aa.length : Int) ∧ (e0.Aa.length : Int) ≤ (e0.Aa.length : Int))).bind fun _ =>
    (chk ((subL e0.Aa (1 : Int) (e0.Aa.length : Int)).length ≤ qau)).bind fun _ =>
    (Jy rec_ ac (subL e0.Aa (1 : Int) (e0.Aa.length : Int)) 0 aL.2.line aL.2.err).bind fun t3 =>
    if t3.2.isSome then
    some (Fl.ret (⟨t3.1, t3.2⟩ : Jp))
    else
    Js n rec_ aP (i0 + 1) ac t3.1 t3.2
    else
    if aL.2.err.isSome then
    some (Fl.ret aL.2)
    else
    Js n rec_ aP (i0 + 1) ac aL.2.line aL.2.err
def Jx : Nat → Jp → (List Ja) → (List Jm) → Option (Jp)
  | 0, _, _, _ => none
  | n + 1, c, list, env =>
    (chk (list.length ≤ qau)).bind fun _ =>
    (Js n (Jx n) list 0 env c.line c.err).bind fun s0 => s0.el some fun t0 =>
    some (⟨t0.2.1, t0.2.2⟩ : Jp)
theorem Jc1 : ∀ {n : Nat} {c : Jp} {list : (List Ja)} {env : (List Jm)} {b0 : Nat} {ah : Option Addr} {aj : Nat} {n1 : Nat} {ao : Option Addr} {aq : Nat} {n2 : Nat} {K : Hp} {r : Jp}
    (hm : Jx n c list env = some r) (hX : LiC Ja.R K ah aj 4 list ∧ n1 = list.length ∧ RdC Jm.enc K ao aq 2 env ∧ n2 = env.length),
    Fn Tryz.prog 85 [.pointer (some ⟨b0, 0, none⟩), .slice ah n1 aj, .slice ao n2 aq] K [Cells b0 171 [.int .i64 c.line, qcx 87 c.err]] (fun v K' H' => v = .tuple #[] ∧ H' = [Cells b0 171 [.int .i64 r.line, qcx 87 r.err]]) := by
 intro n
 induction n with
 | zero =>
   intro c list env b0 ah aj n1 ao aq n2 K r hm hX
   rw [Jx.eq_1] at hm; cases hm
 | succ n ih =>
   intro c list env b0 ah aj n1 ao aq n2 K r hm hX
   obtain ⟨ag, cW, ca, cJ⟩ := hX
   subst cW
   subst cJ
   refine Fn.enter Tryz.func85 Tryz.call85 rfl fun F => ?_
   rw [Jx.eq_2] at hm
   refine ro (qai rfl ?_)
   obtain ⟨ba, hm⟩ := qa5 hm
   obtain ⟨s0, aL, hm⟩ := bnd hm
   refine lC (σ := ((List Jm) × Int × Err) × Option Addr × Nat) ([2,7,8,9,11] ++ rg 14 79) [1] (fun i0 => [(14, .int .i64 (i0 : Int))]) (fun (t0, aP, aQ) => [(2, .slice aP t0.1.length aQ)]) (fun (t0, aP, aQ) => [Cells b0 171 [.int .i64 t0.2.1, qcx 87 t0.2.2]]) (fun zz K1 => match zz with | (t0, aP, aQ) => RdC Jm.enc K1 aP aQ 2 t0.1 ∧ True) (fun i0 (t0, aP, aQ) => Js n (Jx n) (list.drop i0) i0 t0.1 t0.2.1 t0.2.2 = some s0) (fun (t0, aP, aQ) => s0 = Fl.go t0) (fun i0 => list.length - i0) 0 ((_, _, _), _, _) aL (And.intro qe (And.intro ?_ ?_))
   clear aL
   rintro i0 ⟨⟨ac, cp, cQ⟩, bX, bU⟩ cY cj ⟨bT, _⟩ aL j0
   dsimp only at aL ⊢
   refine qaf rfl ?_
   refine qah ?_ ?_ <;> intro w0
   obtain ⟨e0, aS, cA⟩ := ltx w0
   rw [cA, Js.eq_2] at aL
   refine qal rfl ?_
   refine RStep.ofN (qac rfl rfl (qcc (LiC.mono Ja.R_ok cj ag).rd aS) (nn _) (qbr aS) ?_)
   obtain ⟨cR, cP, bG, bD, bz⟩ := LiR.get (LiC.mono Ja.R_ok cj ag).rd aS
   obtain ⟨bW, ce, rfl, aR⟩ := Ja.out bz
   refine ro (qaj i0 _ bG rfl bD rfl ?_)
   refine qan rfl fun b7 => ?_
   refine qab r0 rfl ⟨rfl, rfl, (nl rfl), ?_⟩
   refine fa rfl (ro (ld r0 rfl rfl (ro (qai rfl (qad ?_)))))
   refine cs rfl rfl aL ?_ ?_ <;> intro cZ aL
   refine cT (qat (qcn aS ba) ?_)
   exact eR aL (_, (_, _, _), _, _)
   refine fa rfl (ro (ld r0 rfl rfl ?_))
   obtain ⟨c6, cm, bw, aL⟩ := ixb aL
   refine RStep.ofN (qac rfl rfl (qcc aR.rd bw) cm (qaw rfl cm bw) ?_)
   obtain ⟨cB, cD, bK, bO, bB⟩ := LiR.get aR.rd bw
   obtain ⟨bY, bV, rfl, cd⟩ := Ja.out bB
   refine ro (qaj ((0 : Int).toNat) _ bK rfl bO rfl ?_)
   refine cb aL fun bF cz aL => cgx (Jdb cz :) ?_
   refine ro (qag r1 rfl (nl rfl) ?_)
   refine cb aL fun bP cu aL => cgx (Jen cu :) ?_
   refine jR (σ := Unit) (rg 31 14) (fun _ => [(44, .bool ((bF.2.err.isNone && decide (bP ≠ 0)) && decide (bF.1 ≠ bP)))]) (fun cU => True) ?_ ?_
   refine qam rfl ?_
   refine qae (fa rfl (ro (ld r0 rfl rfl (qgl rfl ?_))))
   refine qah ?_ ?_ <;> intro aO
   refine ct aO (qbd (ct aO ?_))
   refine qah ?_ ?_ <;> intro aM
   refine ct aM (ct aM (qbd (ct aM ?_)))
   exact eMt () ⟨bq (qd3 (b := decide (bF.1 ≠ bP)) (qb8 aO aM)), trivial⟩
   refine cf aM (cf aM (cf aM ?_))
   exact eMt () ⟨bq (((qa1 (qcw aO aM))).symm), trivial⟩
   refine cf aO (cf aO (cF (cF (cF (cF ?_)))))
   exact eMt () ⟨bq (((qa1 (qa1 aO))).symm), trivial⟩
   rintro _ _ cw
   refine cs rfl rfl aL ?_ ?_ <;> intro c8 aL
   refine ro (qag r1 rfl (nl rfl) ?_)
   refine qa3 rfl ?_
   refine cb aL fun c9 cO aL => cgx (J9 cO :) ?_
   refine qae (fa rfl (ro (ld r0 rfl rfl (qbe rfl ?_))))
   refine cs rfl rfl aL ?_ ?_ <;> intro cG aL
   exact eE (er aL hm)
   refine fa rfl (ro (ld r1 rfl rfl ?_))
   refine qal rfl ?_
   refine qad (cs rfl rfl aL ?_ ?_) <;> intro cn aL
   refine fa rfl (ro (ld r1 rfl rfl ?_))
   refine cb aL fun cL bS aL => cgx (JcE bS :) ?_
   refine cs rfl rfl aL ?_ ?_ <;> intro cI aL
   refine ro (qag r1 rfl (nl rfl) ?_)
   refine qa3 rfl ?_
   refine cb aL fun cM bM aL => cgx (J9 bM :) ?_
   refine fa rfl (ro (ld r1 rfl rfl ?_))
   refine cb aL fun bA bf aL => ckx (JbE bf :) ?_
   rintro _ _ _ ⟨aW, aU, rfl, aY, rfl⟩
   refine qae (fa rfl (ro (ld r1 rfl rfl (qbe rfl ?_))))
   refine cs rfl rfl aL ?_ ?_ <;> intro bg aL
   exact eE (er aL hm)
   refine qat (qcn aS ba) ?_
   refine fRo r0 fun aZ aT aX => ?_
   exact eR aL (_, (_, _, _), _, _)
   refine fa rfl (ro (ld r1 rfl rfl ?_))
   refine cb aL fun bA bf aL => ckx (JbE bf :) ?_
   rintro _ _ _ ⟨aW, aU, rfl, aY, rfl⟩
   refine qae (fa rfl (ro (ld r1 rfl rfl (qbe rfl ?_))))
   refine cs rfl rfl aL ?_ ?_ <;> intro bg aL
   exact eE (er aL hm)
   refine qat (qcn aS ba) ?_
   refine fRo r0 fun aZ aT aX => ?_
   exact eR aL (_, (_, _, _), _, _)
   refine qad (cs rfl rfl aL ?_ ?_) <;> intro cr aL
   refine fa rfl (ro (ld r1 rfl rfl ?_))
   obtain ⟨bm, aL⟩ := qa5 aL
   have aV := aR.subC bm
   refine RStep.ofN (qon (l := e0.Aa) (lo := (some 1)) (hi := none) (lo' := (1 : Int)) (hi' := (e0.Aa.length : Int)) rfl rfl rfl rfl rfl aR.le bm (ro (qai rfl ?_)))
   obtain ⟨bI, aL⟩ := qa5 aL
   obtain ⟨s3, aN, aL⟩ := bnd aL
   refine lD (σ := (Int × Err)) ([11] ++ rg 77 10) [1, 2] (fun i3 => [(77, .int .i64 (i3 : Int))]) (fun _ => []) (fun t3 => [Cells b0 171 [.int .i64 t3.1, qcx 87 t3.2]]) (fun _ => True) (fun i3 t3 => Jy (Jx n) ac ((subL e0.Aa (1 : Int) (e0.Aa.length : Int)).drop i3) i3 t3.1 t3.2 = some s3) (fun t3 => t3 = s3) (fun i3 => (subL e0.Aa (1 : Int) (e0.Aa.length : Int)).length - i3) 0 (_, _) aN (And.intro qe (And.intro ?_ ?_))
   clear aN
   rintro i3 ⟨bR, bH⟩ _ aN j3
   dsimp only at aN ⊢
   refine qaf rfl ?_
   refine qah ?_ ?_ <;> intro w3
   obtain ⟨e3, a8, bC⟩ := ltx w3
   rw [bC, Jy.eq_2] at aN
   refine qal rfl ?_
   refine RStep.ofN (qac rfl rfl (qcc aV.rd a8) (nn _) (qbr a8) ?_)
   obtain ⟨bL, bQ, bj, bh, bb⟩ := LiR.get aV.rd a8
   obtain ⟨bu, bt, rfl, bv⟩ := Ja.out bb
   refine ro (qaj i3 _ bj rfl bh rfl ?_)
   refine qan rfl fun cC => ?_
   refine qab r0 rfl ⟨rfl, rfl, (nl rfl), ?_⟩
   refine ro (qag r0 rfl (nl rfl) ?_)
   refine cb aN fun cK bN aN => cfx (JcX bN :) ?_
   rintro _ cV _ cH ⟨bp, bo, rfl, bn, rfl⟩
   refine cb aN fun cq bJ aN => cgx (ih bJ :) ?_
   refine qat (qcn a8 bI) ?_
   exact eR aN (_, (_, _))
   rw [lty w3, Jy.eq_1] at aN
   refine cT ?_
   exact eM aN _
   rintro t3 _ rfl j3
   refine qae (fa rfl (ro (ld r0 rfl rfl (qbe rfl ?_))))
   refine cs rfl rfl aL ?_ ?_ <;> intro bg aL
   exact eE (er aL hm)
   refine qat (qcn aS ba) ?_
   exact eR aL (_, (_, _, _), _, _)
   refine qae (fa rfl (ro (ld r0 rfl rfl (qbe rfl ?_))))
   refine cs rfl rfl aL ?_ ?_ <;> intro bg aL
   exact eE (er aL hm)
   refine qat (qcn aS ba) ?_
   exact eR aL (_, (_, _, _), _, _)
   refine qae (fa rfl (ro (ld r0 rfl rfl (qbe rfl ?_))))
   refine cs rfl rfl aL ?_ ?_ <;> intro cG aL
   exact eE (er aL hm)
   refine fa rfl (ro (ld r1 rfl rfl ?_))
   refine qal rfl ?_
   refine qad (cs rfl rfl aL ?_ ?_) <;> intro cn aL
   refine fa rfl (ro (ld r1 rfl rfl ?_))
   refine cb aL fun cL bS aL => cgx (JcE bS :) ?_
   refine cs rfl rfl aL ?_ ?_ <;> intro cI aL
   refine ro (qag r1 rfl (nl rfl) ?_)
   refine qa3 rfl ?_
   refine cb aL fun cM bM aL => cgx (J9 bM :) ?_
   refine fa rfl (ro (ld r1 rfl rfl ?_))
   refine cb aL fun bA bf aL => ckx (JbE bf :) ?_
   rintro _ _ _ ⟨aW, aU, rfl, aY, rfl⟩
   refine qae (fa rfl (ro (ld r1 rfl rfl (qbe rfl ?_))))
   refine cs rfl rfl aL ?_ ?_ <;> intro bg aL
   exact eE (er aL hm)
   refine qat (qcn aS ba) ?_
   refine fRo r0 fun aZ aT aX => ?_
   exact eR aL (_, (_, _, _), _, _)
   refine fa rfl (ro (ld r1 rfl rfl ?_))
   refine cb aL fun bA bf aL => ckx (JbE bf :) ?_
   rintro _ _ _ ⟨aW, aU, rfl, aY, rfl⟩
   refine qae (fa rfl (ro (ld r1 rfl rfl (qbe rfl ?_))))
   refine cs rfl rfl aL ?_ ?_ <;> intro bg aL
   exact eE (er aL hm)
   refine qat (qcn aS ba) ?_
   refine fRo r0 fun aZ aT aX => ?_
   exact eR aL (_, (_, _, _), _, _)
   refine qad (cs rfl rfl aL ?_ ?_) <;> intro cr aL
   refine fa rfl (ro (ld r1 rfl rfl ?_))
   obtain ⟨bm, aL⟩ := qa5 aL
   have aV := aR.subC bm
   refine RStep.ofN (qon (l := e0.Aa) (lo := (some 1)) (hi := none) (lo' := (1 : Int)) (hi' := (e0.Aa.length : Int)) rfl rfl rfl rfl rfl aR.le bm (ro (qai rfl ?_)))
   obtain ⟨bI, aL⟩ := qa5 aL
   obtain ⟨s3, aN, aL⟩ := bnd aL
   refine lD (σ := (Int × Err)) ([11] ++ rg 77 10) [1, 2] (fun i3 => [(77, .int .i64 (i3 : Int))]) (fun _ => []) (fun t3 => [Cells b0 171 [.int .i64 t3.1, qcx 87 t3.2]]) (fun _ => True) (fun i3 t3 => Jy (Jx n) ac ((subL e0.Aa (1 : Int) (e0.Aa.length : Int)).drop i3) i3 t3.1 t3.2 = some s3) (fun t3 => t3 = s3) (fun i3 => (subL e0.Aa (1 : Int) (e0.Aa.length : Int)).length - i3) 0 (_, _) aN (And.intro qe (And.intro ?_ ?_))
   clear aN
   rintro i3 ⟨bR, bH⟩ _ aN j3
   dsimp only at aN ⊢
   refine qaf rfl ?_
   refine qah ?_ ?_ <;> intro w3
   obtain ⟨e3, a8, bC⟩ := ltx w3
   rw [bC, Jy.eq_2] at aN
   refine qal rfl ?_
   refine RStep.ofN (qac rfl rfl (qcc aV.rd a8) (nn _) (qbr a8) ?_)
   obtain ⟨bL, bQ, bj, bh, bb⟩ := LiR.get aV.rd a8
   obtain ⟨bu, bt, rfl, bv⟩ := Ja.out bb
   refine ro (qaj i3 _ bj rfl bh rfl ?_)
   refine qan rfl fun cC => ?_
   refine qab r0 rfl ⟨rfl, rfl, (nl rfl), ?_⟩
   refine ro (qag r0 rfl (nl rfl) ?_)
   refine cb aN fun cK bN aN => cfx (JcX bN :) ?_
   rintro _ cV _ cH ⟨bp, bo, rfl, bn, rfl⟩
   refine cb aN fun cq bJ aN => cgx (ih bJ :) ?_
   refine qat (qcn a8 bI) ?_
   exact eR aN (_, (_, _))
   rw [lty w3, Jy.eq_1] at aN
   refine cT ?_
   exact eM aN _
   rintro t3 _ rfl j3
   refine qae (fa rfl (ro (ld r0 rfl rfl (qbe rfl ?_))))
   refine cs rfl rfl aL ?_ ?_ <;> intro bg aL
   exact eE (er aL hm)
   refine qat (qcn aS ba) ?_
   exact eR aL (_, (_, _, _), _, _)
   refine qae (fa rfl (ro (ld r0 rfl rfl (qbe rfl ?_))))
   refine cs rfl rfl aL ?_ ?_ <;> intro bg aL
   exact eE (er aL hm)
   refine qat (qcn aS ba) ?_
   exact eR aL (_, (_, _, _), _, _)
   rw [lty w0, Js.eq_1] at aL
   refine cT ?_
   exact eM aL (_, _, _)
   rintro ⟨t0, aP, aQ⟩ c5 cX ⟨bZ, _⟩ rfl j0
   replace hm := elg hm
   exact eE hm

def JbD (n : Nat) (program : Ja) : Option (Int × Err) :=
  (Jap n program).bind fun x6 =>
  if (!x6) then
  some (0, (some 2))
  else
  (Jx n (⟨0, none⟩ : Jp) program.Aa []).bind fun aL =>
  some (aL.line, aL.err)
theorem Jdc {n : Nat} {program : Ja} {aa : Option Addr} {ab : Nat} {K : Hp} {r : Int × Err}
    (hm : JbD n program = some r) (hX : LiC Ja.R K aa ab 4 program.Aa ∧ GG K) :
    Fn Tryz.prog 51 [.agg #[.int .i64 program.Ab, str program.Ac, .slice aa program.Aa.length ab, .int .i64 program.Ad]] K [] (fun v K' H' => v = .tuple #[.int .i64 r.1, qcx 87 r.2] ∧ H' = []) := by
 obtain ⟨ae, hG⟩ := hX
 refine Fn.enter Tryz.func51 Tryz.call51 rfl fun F => ?_
 unfold JbD at hm
 refine qap ?_
 intro b1
 refine ro (qag r0 rfl (nl rfl) ?_)
 refine cb hm fun x6 q6 hm => cgx (Jem q6 :) ?_
 refine qaz ?_
 refine cs rfl rfl hm ?_ ?_ <;> intro w7 hm
 refine qa3 rfl ?_
 exact eE hm
 refine qak rfl rfl ?_
 refine qap ?_
 intro aN
 refine fa rfl (ro (ld r1 rfl rfl ?_))
 refine cb hm fun aM aL hm => cgx (Jc1 aL :) ?_
 refine qa4 ⟨⟨[], false⟩, _, [(_, _)], []⟩ (by kernel_rfl) ⟨Hp.Le.refl _, (pf rfl), ci0⟩ ?_
 refine qae (fa rfl (qao m0 rfl rfl (qae (fa rfl (qao m0 rfl rfl ?_)))))
 exact eE hm

def Jd (c : Jb) (op : Int) (n' : Int) (s : Str) : Option (Int × Jb) :=
  (chk (c.code.length + [(⟨op, n', s⟩ : Jc)].length ≤ lim)).bind fun _ =>
  (chk (InI ((((c.code ++ [(⟨op, n', s⟩ : Jc)]).length) : Int) - 1))).bind fun _ =>
  some (((((c.code ++ [(⟨op, n', s⟩ : Jc)]).length) : Int) - 1), (⟨(c.code ++ [(⟨op, n', s⟩ : Jc)]), c.names, c.Ap⟩ : Jb))
theorem Ji {c : Jb} {op : Int} {n' : Int} {s : Str} {b0 : Nat} {aa : Option Addr} {ab : Nat} {af : Option Addr} {ak : Nat} {K : Hp} {r : Int × Jb}
    (hm : Jd c op n' s = some r) (hX : (0 < c.code.length → Has aa) ∧ (0 < c.names.length → Has af)) :
    Fn Tryz.prog 58 [.pointer (some ⟨b0, 0, none⟩), .int .i64 op, .int .i64 n', str s] K [Cells b0 134 [.slice aa c.code.length ab, .slice af c.names.length ak, .int .i64 c.Ap], OwnL Jc.enc aa 54 3 ab c.code, OwnL Jj.enc af 230 2 ak c.names] (fun v K' H' => ∃ ar_0 : Option Addr, ∃ cr_0 : Nat, ∃ ar_1 : Option Addr, ∃ cr_1 : Nat, v = .int .i64 r.1 ∧ (0 < r.2.code.length → Has ar_0) ∧ (0 < r.2.names.length → Has ar_1) ∧ H' = [Cells b0 134 [.slice ar_0 r.2.code.length cr_0, .slice ar_1 r.2.names.length cr_1, .int .i64 r.2.Ap], OwnL Jc.enc ar_0 54 3 cr_0 r.2.code, OwnL Jj.enc ar_1 230 2 cr_1 r.2.names]) := by
 obtain ⟨ae, aL⟩ := hX
 refine Fn.enter Tryz.func58 Tryz.call58 rfl fun F => ?_
 unfold Jd at hm
 refine qae (fa rfl (ro (ld r0 rfl rfl (qak rfl rfl (cT (cT (cT ?_)))))))
 refine bsO (len := 1) (enc := Jc.enc) (l := [(⟨op, n', s⟩ : Jc)]) (cl := [.int .i64 op, .int .i64 n', str s]) qtz rfl rfl (fun _ _ => rfl) rfl rfl rfl ?_ fun aN => ?_
 · conv => whnf
   refine cT ?_
   first | done | rfl
 obtain ⟨aM, hm⟩ := qa5 hm
 refine apE rfl r2 qtz (qa6 rfl r0 rfl (fun _ => rfl) (fun _ => rfl)) aM ?_
 intro aO aP aQ
 refine qae (fa rfl ?_)
 refine qab r2 rfl ⟨rfl, rfl, (nl rfl), ?_⟩
 refine qae (fa rfl (ro (ld r0 rfl rfl (ro (qai rfl ?_)))))
 refine ci hm fun hm => ?_
 exact eE hm

def JZ (c : Jb) (yes : Bool) : Option (Jb) :=
  if yes then
  (Jd c 1 0 ([] : Str)).bind fun x7 =>
  (Jd x7.2 1 0 ([] : Str)).bind fun aL =>
  (Jd aL.2 7 0 ([61, 61] : Str)).bind fun au =>
  some au.2
  else
  (Jd c 1 0 ([] : Str)).bind fun x7 =>
  (Jd x7.2 1 1 ([] : Str)).bind fun aL =>
  (Jd aL.2 7 0 ([61, 61] : Str)).bind fun au =>
  some au.2
theorem Jbu {c : Jb} {yes : Bool} {b0 : Nat} {aa : Option Addr} {ab : Nat} {af : Option Addr} {ak : Nat} {K : Hp} {r : Jb}
    (hm : JZ c yes = some r) (hX : (0 < c.code.length → Has aa) ∧ (0 < c.names.length → Has af)) :
    Fn Tryz.prog 167 [.pointer (some ⟨b0, 0, none⟩), .bool yes] K [Cells b0 134 [.slice aa c.code.length ab, .slice af c.names.length ak, .int .i64 c.Ap], OwnL Jc.enc aa 54 3 ab c.code, OwnL Jj.enc af 230 2 ak c.names] (fun v K' H' => ∃ ar_0 : Option Addr, ∃ cr_0 : Nat, ∃ ar_1 : Option Addr, ∃ cr_1 : Nat, v = .tuple #[] ∧ (0 < r.code.length → Has ar_0) ∧ (0 < r.names.length → Has ar_1) ∧ H' = [Cells b0 134 [.slice ar_0 r.code.length cr_0, .slice ar_1 r.names.length cr_1, .int .i64 r.Ap], OwnL Jc.enc ar_0 54 3 cr_0 r.code, OwnL Jj.enc ar_1 230 2 cr_1 r.names]) := by
 obtain ⟨ae, bh⟩ := hX
 refine Fn.enter Tryz.func167 Tryz.call167 rfl fun F => ?_
 unfold JZ at hm
 refine cs rfl rfl hm ?_ ?_ <;> intro w5 hm
 refine cb hm fun x7 q7 hm => ckx (Ji q7 :) ?_
 rintro _ _ _ ⟨bb, bf, ba, aY, rfl, a8, bg, rfl⟩
 refine cb hm fun bj aX hm => ckx (Ji aX :) ?_
 rintro _ _ _ ⟨aW, aO, aU, aQ, rfl, aS, aT, rfl⟩
 refine cb hm fun au aZ hm => ckx (Ji aZ :) ?_
 rintro _ _ _ ⟨aP, aN, aL, aR, rfl, aM, aV, rfl⟩
 exact eE hm
 refine cb hm fun x7 q7 hm => ckx (Ji q7 :) ?_
 rintro _ _ _ ⟨bb, bf, ba, aY, rfl, a8, bg, rfl⟩
 refine cb hm fun bj aX hm => ckx (Ji aX :) ?_
 rintro _ _ _ ⟨aW, aO, aU, aQ, rfl, aS, aT, rfl⟩
 refine cb hm fun au aZ hm => ckx (Ji aZ :) ?_
 rintro _ _ _ ⟨aP, aN, aL, aR, rfl, aM, aV, rfl⟩
 exact eE hm

def J1 (c : Jb) (s : Str) : Nat → Int → Option (Fl (Jb) (Int))
  | 0, _ => none
  | aM + 1, ac =>
    if decide (ac ≥ 0) then
    (ix c.names ac).bind fun aL =>
    if decide (aL.name = s) then
    (ix c.names ac).bind fun aO =>
    (Jd c 3 aO.slot ([] : Str)).bind fun aN =>
    some (Fl.ret aN.2)
    else
    (chk (InI (ac - 1))).bind fun _ =>
    J1 c s aM (ac - 1)
    else
    some (Fl.go ac)
def Ja1 (n : Nat) (c : Jb) (s : Str) : Option (Jb) :=
  (chk (InI ((c.names.length : Int) - 1))).bind fun _ =>
  (J1 c s n ((c.names.length : Int) - 1)).bind fun s0 => s0.el some fun t0 =>
  (Jd c 5 0 s).bind fun aL =>
  some aL.2
theorem Jc2 {n : Nat} {c : Jb} {s : Str} {b0 : Nat} {aa : Option Addr} {ab : Nat} {af : Option Addr} {ak : Nat} {K : Hp} {r : Jb}
    (hm : Ja1 n c s = some r) (hX : (0 < c.code.length → Has aa) ∧ (0 < c.names.length → Has af)) :
    Fn Tryz.prog 168 [.pointer (some ⟨b0, 0, none⟩), str s] K [Cells b0 134 [.slice aa c.code.length ab, .slice af c.names.length ak, .int .i64 c.Ap], OwnL Jc.enc aa 54 3 ab c.code, OwnL Jj.enc af 230 2 ak c.names] (fun v K' H' => ∃ ar_0 : Option Addr, ∃ cr_0 : Nat, ∃ ar_1 : Option Addr, ∃ cr_1 : Nat, v = .tuple #[] ∧ (0 < r.code.length → Has ar_0) ∧ (0 < r.names.length → Has ar_1) ∧ H' = [Cells b0 134 [.slice ar_0 r.code.length cr_0, .slice ar_1 r.names.length cr_1, .int .i64 r.Ap], OwnL Jc.enc ar_0 54 3 cr_0 r.code, OwnL Jj.enc ar_1 230 2 cr_1 r.names]) := by
 obtain ⟨ae, aM⟩ := hX
 refine Fn.enter Tryz.func168 Tryz.call168 rfl fun F => ?_
 unfold Ja1 at hm
 refine qae (fa rfl (ro (ld r0 rfl rfl (ro (qai rfl ?_)))))
 refine ci hm fun hm => ?_
 obtain ⟨s0, aL, hm⟩ := bnd hm
 refine lD (σ := (Int)) ([4] ++ rg 11 24) [0, 1, 2, 3] (fun _ => []) (fun t0 => [(4, .int .i64 t0)]) (fun _ => []) (fun _ => True) (fun i0 t0 => J1 c s i0 t0 = some s0) (fun t0 => s0 = Fl.go t0) (fun i0 => i0) n _ aL (And.intro qe (And.intro ?_ ?_))
 clear aL
 rintro i0 ac _ aL j0
 conv at aL => whnf
 cases i0 with
 | zero => rw [J1.eq_1] at aL; cases aL
 | succ i0 =>
  rw [J1.eq_2] at aL
  refine cs rfl rfl aL ?_ ?_ <;> intro bp aL
  refine qal rfl ?_
  refine qae (fa rfl (ro (ld r0 rfl rfl ?_)))
  obtain ⟨bn, aY, aO, aL⟩ := ixb aL
  refine RStep.ofN (qac rfl rfl (qdh aM aO) aY (qaw rfl aY aO) (qax rfl (qdh aM aO) (ro (qc2 (i := (ac).toNat) (o := 0) r2 rfl aO rfl rfl (qas ?_)))))
  refine cs rfl rfl aL ?_ ?_ <;> intro bj aL
  refine qae (fa rfl (ro (ld r0 rfl rfl ?_)))
  obtain ⟨bh, aW, aN, aL⟩ := ixb aL
  refine RStep.ofN (qac rfl rfl (qdh aM aN) aW (qaw rfl aW aN) (qax rfl (qdh aM aN) (ro (qc2 (i := (ac).toNat) (o := 1) r2 rfl aN rfl rfl ?_))))
  refine cb aL fun bm bf aL => ckx (Ji bf :) ?_
  rintro _ _ _ ⟨aR, aQ, aX, aT, rfl, bb, aZ, rfl⟩
  exact eE (er aL hm)
  refine ci aL fun aL => ?_
  exact eR aL (_, _)
  refine cT ?_
  exact eM aL _
 rintro t0 _ rfl j0
 replace hm := elg hm
 refine cb hm fun bo bg hm => ckx (Ji bg :) ?_
 rintro _ _ _ ⟨aV, aU, ba, aP, rfl, aS, a8, rfl⟩
 exact eE hm
