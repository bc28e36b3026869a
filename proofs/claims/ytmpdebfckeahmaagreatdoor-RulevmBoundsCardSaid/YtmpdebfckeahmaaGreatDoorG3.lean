/- Functions of the program: mirrors, and that a call returns what the mirror says. Printed by gen.py. -/
import Derived.Test.YtmpdebfckeahmaaGreatDoorG2
set_option linter.unusedVariables false
set_option linter.unusedSimpArgs false
open Go Go.SL Go.Proofs
noncomputable section
set_option maxRecDepth 1000000
set_option maxHeartbeats 8000000
def Jbl (text : Str) : Nat → Int → Option (Int)
  | 0, _ => none
  | aM + 1, aL =>
    (if decide (aL < (text.length : Int)) then (ix text aL).bind fun aN =>
    some (decide ((aN.toNat : Int) ≠ 10)) else some false).bind fun aO =>
    if aO then
    (chk (InI (aL + 1))).bind fun _ =>
    Jbl text aM (aL + 1)
    else
    some aL
def Jac (text : Str) (n : Nat) : Nat → (List JF) → Int → Int → Int → Option (Fl ((List JF) × Err) ((List JF) × Int × Int × Int))
  | 0, _, _, _, _ => none
  | aP + 1, ac, aN, aM, aL =>
    if decide (aL < (text.length : Int)) then
    (ix text aL).bind fun aQ =>
    if decide ((aQ.toNat : Int) = 10) then
    (chk (InI (aL + 1))).bind fun _ =>
    (chk (InI (aN + 1))).bind fun _ =>
    Jac text n aP ac (aN + 1) (aL + 1) (aL + 1)
    else
    if decide ((aQ.toNat : Int) = 32) then
    (chk (InI (aL + 1))).bind fun _ =>
    Jac text n aP ac aN aM (aL + 1)
    else
    if decide ((aQ.toNat : Int) = 9) then
    (chk (InI (aL + 1))).bind fun _ =>
    Jac text n aP ac aN aM (aL + 1)
    else
    if decide ((aQ.toNat : Int) = 13) then
    (chk (InI (aL + 1))).bind fun _ =>
    Jac text n aP ac aN aM (aL + 1)
    else
    if decide ((aQ.toNat : Int) = 35) then
    (Jbl text n aL).bind fun t3 =>
    Jac text n aP ac aN aM t3
    else
    (chk (0 ≤ aL ∧ aL ≤ (text.length : Int) ∧ (text.length : Int) ≤ (text.length : Int))).bind fun _ =>
    (Jcp n (subL text aL (text.length : Int))).bind fun aO =>
    if decide (aO.2.1 = 0) then
    some (Fl.ret ([], (some 2)))
    else
    (chk (InI (aL - aM))).bind fun _ =>
    (chk (InI ((aL - aM) + 1))).bind fun _ =>
    (chk (ac.length + [(⟨aO.1, aO.2.2, aN, ((aL - aM) + 1)⟩ : JF)].length ≤ lim)).bind fun _ =>
    (chk (InI (aL + aO.2.1))).bind fun _ =>
    Jac text n aP (ac ++ [(⟨aO.1, aO.2.2, aN, ((aL - aM) + 1)⟩ : JF)]) aN aM (aL + aO.2.1)
    else
    some (Fl.go (ac, aN, aM, aL))
def Jcq (n : Nat) (text : Str) : Option ((List JF) × Err) :=
  if decide ((text.length : Int) > 4096) then
  some ([], (some 5))
  else
  (Jac text n n [] 1 0 0).bind fun s0 => s0.el some fun t0 =>
  (chk (InI ((text.length : Int) - t0.2.2.1))).bind fun _ =>
  (chk (InI (((text.length : Int) - t0.2.2.1) + 1))).bind fun _ =>
  (chk (t0.1.length + ([(⟨5, ([] : Str), t0.2.1, (((text.length : Int) - t0.2.2.1) + 1)⟩ : JF)]).length ≤ lim)).bind fun _ =>
  some ((t0.1 ++ [(⟨5, ([] : Str), t0.2.1, (((text.length : Int) - t0.2.2.1) + 1)⟩ : JF)]), none)
theorem JeJ {n : Nat} {text : Str} {K : Hp} {r : (List JF) × Err}
    (hm : Jcq n text = some r)  :
    Fn Tryz.prog 192 [str text] K [] (fun v K' H' => ∃ ar_0 : Option Addr, ∃ cr_0 : Nat, v = .tuple #[.slice ar_0 r.1.length cr_0, qc9 87 r.2] ∧ (0 < r.1.length → Has ar_0) ∧ H' = [OwnL JF.enc ar_0 269 4 cr_0 r.1]) := by
 refine Fn.enter Tryz.func192 Tryz.call192 rfl fun F => ?_
 unfold Jcq at hm
 refine ro (qa3 rfl ?_)
 refine cs rfl rfl hm ?_ ?_ <;> intro bF hm
 refine qa4 rfl ?_
 refine qor JF.enc 269 4 ?_
 exact eE hm
 obtain ⟨s0, aL, hm⟩ := bnd hm
 refine qnk JF.enc 269 4 ?_
 refine lD (σ := ((List JF) × Int × Int × Int) × Option Addr × Nat) (rg 2 9 ++ rg 15 59) [1] (fun _ => []) (fun (t0, aN, aO) => [(4, .slice aN t0.1.length aO), (5, .int .i64 t0.2.1), (6, .int .i64 t0.2.2.1), (7, .int .i64 t0.2.2.2)]) (fun (t0, aN, aO) => [OwnL JF.enc aN 269 4 aO t0.1]) (fun (t0, aN, aO) => (0 < t0.1.length → Has aN) ∧ True) (fun i0 (t0, aN, aO) => Jac text n i0 t0.1 t0.2.1 t0.2.2.1 t0.2.2.2 = some s0) (fun (t0, aN, aO) => s0 = Fl.go t0) (fun i0 => i0) n ((_, _, _, _), _, _) aL (And.intro qe (And.intro ?_ ?_))
 clear aL
 rintro i0 ⟨⟨ac, aS, aT, aR⟩, ba, a8⟩ ⟨aX, _⟩ aL j0
 dsimp only at aL ⊢
 cases i0 with
 | zero => rw [Jac.eq_1] at aL; cases aL
 | succ i0 =>
  rw [Jac.eq_2] at aL
  refine ro (qa3 rfl ?_)
  refine cs rfl rfl aL ?_ ?_ <;> intro bN aL
  refine qal rfl ?_
  obtain ⟨bD, bm, bt, aL⟩ := ixb aL
  refine qba rfl bm bt ?_
  refine qal rfl ?_
  refine qad (cs rfl rfl aL ?_ ?_) <;> intro bL aL
  refine ci aL fun aL => ?_
  obtain ⟨bh, aL⟩ := qa2 aL
  refine qap bh (cF (cT ?_))
  exact eR aL (_, (_, _, _, _), _, _)
  refine qad (cs rfl rfl aL ?_ ?_) <;> intro aV aL
  refine qae rfl (ct aV ?_)
  obtain ⟨aU, aL⟩ := qa2 aL
  refine qap aU (cF (cT ?_))
  exact eR aL (_, (_, _, _, _), _, _)
  refine qad (cs rfl rfl aL ?_ ?_) <;> intro aV aL
  refine qae rfl (ct aV ?_)
  obtain ⟨aU, aL⟩ := qa2 aL
  refine qap aU (cF (cT ?_))
  exact eR aL (_, (_, _, _, _), _, _)
  refine qad (cs rfl rfl aL ?_ ?_) <;> intro aV aL
  obtain ⟨aU, aL⟩ := qa2 aL
  refine qap aU (cF (cT ?_))
  exact eR aL (_, (_, _, _, _), _, _)
  refine qad (cs rfl rfl aL ?_ ?_) <;> intro bO aL
  obtain ⟨s3, aP, aL⟩ := bnd aL
  refine lD (σ := (Int)) ([7] ++ rg 37 12) [0, 1] (fun _ => []) (fun t3 => [(7, .int .i64 t3)]) (fun _ => []) (fun _ => True) (fun i3 t3 => Jbl text i3 t3 = some s3) (fun t3 => t3 = s3) (fun i3 => i3) n _ aP (And.intro qe (And.intro ?_ ?_))
  clear aP
  rintro i3 bp _ aP j3
  conv at aP => whnf
  cases i3 with
  | zero => rw [Jbl.eq_1] at aP; cases aP
  | succ i3 =>
   rw [Jbl.eq_2] at aP
   refine qak rfl ?_
   refine ro (qa3 rfl ?_)
   obtain ⟨bz, aQ, aP⟩ := bnd aP
   refine cS aQ (fun aM aQ => ?_) fun aM aQ => ?_
   refine ct aM (ct aM ?_)
   obtain ⟨bI, bn, bu, aQ⟩ := ixb aQ
   refine qba rfl bn bu (ct aM (qbd (ct aM (qae rfl ?_))))
   refine qag ?_ ?_ <;> intro aZ
   replace aP := ift ((si aQ).symm.trans aZ) aP
   refine qal rfl ?_
   refine ci aP fun aP => ?_
   exact eR aP (_, _)
   replace aP := qbo ((si aQ).symm.trans aZ) aP
   refine cT ?_
   exact eM aP _
   refine cf aM (cf aM (cf aM (cf aM (qae rfl (cF ?_)))))
   replace aP := qbo (si aQ).symm aP
   refine cT ?_
   exact eM aP _
  rintro t3 _ rfl j3
  refine cF (cT ?_)
  exact eR aL (_, (_, _, _, _), _, _)
  obtain ⟨bv, aL⟩ := qa2 aL
  refine RStep.ofN (qgr (lo := (some aR)) (hi := none) rfl bv ?_)
  refine cb aL fun aW bf aL => cg0 (JeI bf :) ?_
  refine qad (cs rfl rfl aL ?_ ?_) <;> intro bC aL
  refine qa4 rfl ?_
  refine qor JF.enc 269 4 ?_
  exact eE (er aL hm)
  refine ci aL fun aL => ?_
  obtain ⟨bj, aL⟩ := qa2 aL
  refine qap bj (qam rfl rfl (cT (cT (cT (cT ?_)))))
  refine bsO (len := 1) (enc := JF.enc) (l := [(⟨aW.1, aW.2.2, aS, ((aR - aT) + 1)⟩ : JF)]) (cl := [.int .i64 aW.1, str aW.2.2, .int .i64 aS, .int .i64 ((aR - aT) + 1)]) qlk rfl rfl (fun _ _ => rfl) rfl rfl rfl ?_ fun bK => ?_
  · conv => whnf
    refine cT ?_
    first | done | rfl
  obtain ⟨bb, aL⟩ := qa2 aL
  refine apE rfl r1 qlk (qa5 rfl r0 rfl (fun _ => rfl) (fun _ => rfl)) bb ?_
  intro bB bJ bA
  refine ci aL fun aL => ?_
  exact eR aL (_, (_, _, _, _), _, _)
  refine cT ?_
  exact eM aL (_, _, _)
 rintro ⟨t0, aN, aO⟩ ⟨aY, _⟩ rfl j0
 replace hm := elg hm
 refine ro (qa3 rfl ?_)
 refine ci hm fun hm => ?_
 obtain ⟨bg, hm⟩ := qa2 hm
 refine qap bg (qam rfl rfl (cT (cT (cT (cT ?_)))))
 refine bsO (len := 1) (enc := JF.enc) (l := [(⟨5, ([] : Str), t0.2.1, (((text.length : Int) - t0.2.2.1) + 1)⟩ : JF)]) (cl := [.int .i64 5, str ([] : Str), .int .i64 t0.2.1, .int .i64 (((text.length : Int) - t0.2.2.1) + 1)]) qlk rfl rfl (fun _ _ => rfl) rfl rfl rfl ?_ fun bM => ?_
 · conv => whnf
   refine cT ?_
   first | done | rfl
 obtain ⟨bo, hm⟩ := qa2 hm
 refine apE rfl r1 qlk (qa5 rfl r0 rfl (fun _ => rfl) (fun _ => rfl)) bo ?_
 intro bH bG bw
 exact eE hm

def Jb0 (s : Str) : Option (Bool) :=
  (JL gkw0 s).bind fun x5 =>
  some x5
theorem JdX {s : Str} {K : Hp} {r : Bool}
    (hm : Jb0 s = some r) (hG : GG K) :
    Fn Tryz.prog 193 [str s] K [] (fun v K' H' => v = .bool r ∧ H' = []) := by
 obtain ⟨aP, aM, aO, gn_, aL, aN⟩ := gg4 hG
 subst gn_
 refine Fn.enter Tryz.func193 Tryz.call193 rfl fun F => ?_
 unfold Jb0 at hm
 refine ro (qlz aL rfl ?_)
 refine cb hm fun x5 q5 hm => cgx (Jam q5 :) ?_
 exact eE hm

def JbF (n : Nat) (s : Str) : Option (Bool) :=
  (Jcq n s).bind fun x7 =>
  (if (x7.2.isNone && decide ((x7.1.length : Int) = 2)) then (ix x7.1 0).bind fun aO =>
  some (decide (aO.Ab = 1)) else some false).bind fun aL =>
  (if aL then (ix x7.1 0).bind fun aN =>
  some (decide (aN.Ac = s)) else some false).bind fun aQ =>
  (if aQ then (Jb0 s).bind fun aP =>
  some (!aP) else some false).bind fun aM =>
  some aM
theorem Jcv {n : Nat} {s : Str} {K : Hp} {r : Bool}
    (hm : JbF n s = some r) (hG : GG K) :
    Fn Tryz.prog 159 [str s] K [] (fun v K' H' => v = .bool r ∧ H' = []) := by
 refine Fn.enter Tryz.func159 Tryz.call159 rfl fun F => ?_
 unfold JbF at hm
 refine cb hm fun x7 q7 hm => ck0 (JeJ q7 :) ?_
 rintro _ _ _ ⟨a8, ba, rfl, aS, rfl⟩
 refine qak rfl ?_
 refine qft rfl ?_
 refine qag ?_ ?_ <;> intro aN
 refine ct aN (ro (qai rfl (ct aN (qad (ct aN ?_)))))
 obtain ⟨aZ, aR, hm⟩ := bnd hm
 refine qag ?_ ?_ <;> intro aM
 replace aR := ift (qb7 aN aM) aR
 refine ct aM ?_
 obtain ⟨bf, aX, aT, aR⟩ := ixb aR
 refine RStep.ofN (qac rfl rfl (qdj aS aT) aX (qax rfl aX aT) (ct aM (qa0 rfl (qdj aS aT) (ct aM (ro (qc2 (i := (0 : Int).toNat) (o := 0) r0 rfl aT rfl rfl (ct aM (qad (ct aM ?_)))))))))
 obtain ⟨aW, aQ, hm⟩ := bnd hm
 refine qag ?_ ?_ <;> intro aL
 replace aQ := ift ((si aR).symm.trans aL) aQ
 refine ct aL ?_
 obtain ⟨bh, aY, aU, aQ⟩ := ixb aQ
 refine RStep.ofN (qac rfl rfl (qdj aS aU) aY (qax rfl aY aU) (ct aL (qa0 rfl (qdj aS aU) (ct aL (ro (qc2 (i := (0 : Int).toNat) (o := 1) r0 rfl aU rfl rfl (ct aL (ct aL (qat ?_)))))))))
 refine ct aL ?_
 obtain ⟨aV, aP, hm⟩ := bnd hm
 refine qag ?_ ?_ <;> intro aO
 replace aP := ift ((si aQ).symm.trans aO) aP
 refine ct aO ?_
 refine cb aP fun bg bb aP => cgx (JdX bb :) ?_
 refine ct aO (qay (ct aO ?_))
 exact bE (si aP) (eE hm)
 replace aP := qbo ((si aQ).symm.trans aO) aP
 refine cf aO (cf aO (cf aO ?_))
 exact bE (si aP) (eE hm)
 replace aQ := qbo ((si aR).symm.trans aL) aQ
 refine cf aL (cf aL (cf aL (cf aL (cf aL (cf aL ?_)))))
 obtain ⟨aV, aP, hm⟩ := bnd hm
 replace aP := qbo (si aQ).symm aP
 refine cF (cF (cF (cF ?_)))
 exact bE (si aP) (eE hm)
 replace aR := qbo (qcx aN aM) aR
 refine cf aM (cf aM (cf aM (cf aM (cf aM ?_))))
 obtain ⟨aW, aQ, hm⟩ := bnd hm
 replace aQ := qbo (si aR).symm aQ
 refine cF (cF (cF (cF (cF (cF (cF ?_))))))
 obtain ⟨aV, aP, hm⟩ := bnd hm
 replace aP := qbo (si aQ).symm aP
 refine cF (cF (cF (cF ?_)))
 exact bE (si aP) (eE hm)
 refine cf aN (cf aN (cf aN ?_))
 obtain ⟨aZ, aR, hm⟩ := bnd hm
 replace aR := qbo (qaz aN) aR
 refine cF (cF (cF (cF (cF (cF ?_)))))
 obtain ⟨aW, aQ, hm⟩ := bnd hm
 replace aQ := qbo (si aR).symm aQ
 refine cF (cF (cF (cF (cF (cF (cF ?_))))))
 obtain ⟨aV, aP, hm⟩ := bnd hm
 replace aP := qbo (si aQ).symm aP
 refine cF (cF (cF (cF ?_)))
 exact bE (si aP) (eE hm)

def JT (n : Nat) (n' : Ja) : Option (Int) :=
  if decide (n'.Ab = 13) then
  if (!decide (n'.Ac = ([] : Str))) then
  some (-2)
  else
  some 2
  else
  if decide (n'.Ab = 14) then
  if (!decide (n'.Ac = ([] : Str))) then
  some (-2)
  else
  some 2
  else
  if decide (n'.Ab = 17) then
  if (!decide (n'.Ac = ([] : Str))) then
  some (-2)
  else
  some 2
  else
  if decide (n'.Ab = 18) then
  if (!decide (n'.Ac = ([] : Str))) then
  some (-2)
  else
  some 2
  else
  if decide (n'.Ab = 19) then
  if (!decide (n'.Ac = ([] : Str))) then
  some (-2)
  else
  some 2
  else
  if decide (n'.Ab = 15) then
  if (!decide (n'.Ac = ([] : Str))) then
  some (-2)
  else
  some 1
  else
  if decide (n'.Ab = 16) then
  (JaF 4 n'.Ac).bind fun aP =>
  (if aP then some true else (JaF 1 n'.Ac).bind fun aR =>
  some aR).bind fun aO =>
  if (!aO) then
  some (-2)
  else
  some 2
  else
  if decide (n'.Ab = 20) then
  (Jbu n'.Ac).bind fun aQ =>
  if (!aQ) then
  some (-2)
  else
  some 0
  else
  if decide (n'.Ab = 21) then
  (Jau n'.Ac).bind fun aL =>
  if (!aL) then
  some (-2)
  else
  some 0
  else
  if decide (n'.Ab = 22) then
  if (!(decide (n'.Ac = ([116, 114, 117, 101] : Str)) || decide (n'.Ac = ([102, 97, 108, 115, 101] : Str)))) then
  some (-2)
  else
  some 0
  else
  if decide (n'.Ab = 23) then
  (JbF n n'.Ac).bind fun aM =>
  if (!aM) then
  some (-2)
  else
  some 0
  else
  if decide (n'.Ab = 24) then
  (JbF n n'.Ac).bind fun aN =>
  if (!aN) then
  some (-2)
  else
  some (-1)
  else
  some (-2)
theorem JdG {n : Nat} {n' : Ja} {aa : Option Addr} {ab : Nat} {K : Hp} {r : Int}
    (hm : JT n n' = some r) (hX : LiC Ja.R K aa ab 4 n'.Aa ∧ GG K) :
    Fn Tryz.prog 191 [.agg #[.int .i64 n'.Ab, str n'.Ac, .slice aa n'.Aa.length ab, .int .i64 n'.Ad]] K [] (fun v K' H' => v = .int .i64 r ∧ H' = []) := by
 obtain ⟨ae, hG⟩ := hX
 refine Fn.enter Tryz.func191 Tryz.call191 rfl fun F => ?_
 unfold JT at hm
 refine qaq ?_
 intro b1
 refine fa rfl (ro (ld r0 rfl rfl (qat (fa rfl (ro (ld r0 rfl rfl ?_))))))
 refine qal rfl ?_
 refine qad (cs rfl rfl hm ?_ ?_) <;> intro aP hm
 refine qae rfl (ct aP (qay ?_))
 refine cs rfl rfl hm ?_ ?_ <;> intro aN hm
 exact eE hm
 exact eE hm
 refine qad (cs rfl rfl hm ?_ ?_) <;> intro aP hm
 refine qae rfl (ct aP (qay ?_))
 refine cs rfl rfl hm ?_ ?_ <;> intro aN hm
 exact eE hm
 exact eE hm
 refine qad (cs rfl rfl hm ?_ ?_) <;> intro aP hm
 refine qae rfl (ct aP (qay ?_))
 refine cs rfl rfl hm ?_ ?_ <;> intro aN hm
 exact eE hm
 exact eE hm
 refine qad (cs rfl rfl hm ?_ ?_) <;> intro aP hm
 refine qae rfl (ct aP (qay ?_))
 refine cs rfl rfl hm ?_ ?_ <;> intro aN hm
 exact eE hm
 exact eE hm
 refine qad (cs rfl rfl hm ?_ ?_) <;> intro aP hm
 refine qay ?_
 refine cs rfl rfl hm ?_ ?_ <;> intro aN hm
 exact eE hm
 exact eE hm
 refine qad (cs rfl rfl hm ?_ ?_) <;> intro aW hm
 refine qay ?_
 refine cs rfl rfl hm ?_ ?_ <;> intro aN hm
 exact eE hm
 exact eE hm
 refine qad (cs rfl rfl hm ?_ ?_) <;> intro bn hm
 refine qak rfl ?_
 refine fa rfl (ro (ld r0 rfl rfl ?_))
 refine cb hm fun aX aT hm => cg0 (JcG aT :) ?_
 obtain ⟨ba, aO, hm⟩ := bnd hm
 refine cS aO (fun aM aO => ?_) fun aM aO => ?_
 refine ct aM (ct aM (ct aM (qay (qae rfl (cF ?_)))))
 replace hm := qbo (qes (si aO).symm) hm
 exact eE hm
 refine fa rfl (cf aM (ro (ld r0 rfl rfl (cf aM ?_))))
 refine cb aO fun bm aR aO => cg0 (JcG aR :) ?_
 refine cf aM (qay (qae rfl ?_))
 refine qag ?_ ?_ <;> intro aN
 replace hm := ift (qkk ((si aO).symm.trans (quj aN))) hm
 exact eE hm
 replace hm := qbo (qes ((si aO).symm.trans (qn5 aN))) hm
 exact eE hm
 refine qad (cs rfl rfl hm ?_ ?_) <;> intro bo hm
 refine fa rfl (ro (ld r0 rfl rfl ?_))
 refine cb hm fun aZ aS hm => cg0 (JdW aS :) ?_
 refine qay ?_
 refine cs rfl rfl hm ?_ ?_ <;> intro aN hm
 exact eE hm
 exact eE hm
 refine qad (cs rfl rfl hm ?_ ?_) <;> intro bf hm
 refine fa rfl (ro (ld r0 rfl rfl ?_))
 refine cb hm fun a8 aV hm => cg0 (JbZ aV :) ?_
 refine qay ?_
 refine cs rfl rfl hm ?_ ?_ <;> intro aN hm
 exact eE hm
 exact eE hm
 refine qad (cs rfl rfl hm ?_ ?_) <;> intro bg hm
 refine qak rfl ?_
 refine fa rfl (ro (ld r0 rfl rfl (qat ?_)))
 refine qag ?_ ?_ <;> intro aL
 refine ct aL (ct aL (ct aL (qay (qae rfl (cF ?_)))))
 replace hm := qbo (qes (qdo aL)) hm
 exact eE hm
 refine fa rfl (cf aL (ro (ld r0 rfl rfl (cf aL (qat (cf aL (qay (qae rfl ?_))))))))
 refine qag ?_ ?_ <;> intro aN
 replace hm := ift (qkk (qhn aL (quj aN))) hm
 exact eE hm
 replace hm := qbo (qes (qkj aL (qn5 aN))) hm
 exact eE hm
 refine qad (cs rfl rfl hm ?_ ?_) <;> intro aY hm
 refine fa rfl (ro (ld r0 rfl rfl ?_))
 refine cb hm fun bh aU hm => cgx (Jcv aU :) ?_
 refine qay ?_
 refine cs rfl rfl hm ?_ ?_ <;> intro aN hm
 exact eE hm
 exact eE hm
 refine qad (cs rfl rfl hm ?_ ?_) <;> intro bb hm
 refine fa rfl (ro (ld r0 rfl rfl ?_))
 refine cb hm fun bj aQ hm => cgx (Jcv aQ :) ?_
 refine qay ?_
 refine cs rfl rfl hm ?_ ?_ <;> intro aN hm
 exact eE hm
 exact eE hm
 exact eE hm

def JM (rec_ : (Ja → Option (Bool))) : List Ja → Nat → Option (Fl (Bool) (Unit))
  | [], _ => some (Fl.go ())
  | e0 :: aM, i0 =>
    (rec_ e0).bind fun aL =>
    if (!aL) then
    some (Fl.ret false)
    else
    JM rec_ aM (i0 + 1)
def Js : Nat → Ja → Option (Bool)
  | 0, _ => none
  | n + 1, n' =>
    (JT n n').bind fun x7 =>
    if decide (x7 = (-2)) then
    some false
    else
    if (decide (x7 ≥ 0) && decide ((n'.Aa.length : Int) ≠ x7)) then
    some false
    else
    (chk (n'.Aa.length ≤ qau)).bind fun _ =>
    (JM (Js n) n'.Aa 0).bind fun s0 => s0.el some fun t0 =>
    some true
theorem Jab : ∀ {n : Nat} {n' : Ja} {aa : Option Addr} {ab : Nat} {K : Hp} {r : Bool}
    (hm : Js n n' = some r) (hX : LiC Ja.R K aa ab 4 n'.Aa ∧ GG K),
    Fn Tryz.prog 156 [.agg #[.int .i64 n'.Ab, str n'.Ac, .slice aa n'.Aa.length ab, .int .i64 n'.Ad]] K [] (fun v K' H' => v = .bool r ∧ H' = []) := by
 intro n
 induction n with
 | zero =>
   intro n' aa ab K r hm hX
   rw [Js.eq_1] at hm; cases hm
 | succ n ih =>
   intro n' aa ab K r hm hX
   obtain ⟨ae, hG⟩ := hX
   refine Fn.enter Tryz.func156 Tryz.call156 rfl fun F => ?_
   rw [Js.eq_2] at hm
   refine qaq ?_
   intro b1
   refine ro (qah r0 rfl (nl rfl) ?_)
   refine cb hm fun x7 q7 hm => cgx (JdG q7 :) ?_
   refine qak rfl ?_
   refine qad ?_
   refine cS hm (fun aM hm => ?_) fun aM hm => ?_
   refine ct aM (ct aM (ct aM (ct aM (qae rfl (cT ?_)))))
   exact eE hm
   refine cf aM (cf aM ?_)
   refine qag ?_ ?_ <;> intro aL
   refine fa rfl (ct aL (ro (ld r0 rfl rfl (ct aL (ro (qai rfl (ct aL (ct aL (qbd ?_)))))))))
   refine cf aM (ct aL (cf aM (qae rfl ?_)))
   refine qag ?_ ?_ <;> intro a8
   replace hm := ift (qb7 aL a8) hm
   exact eE hm
   replace hm := qbo (qcx aL a8) hm
   refine fa rfl (ro (ld r0 rfl rfl (ro (qai rfl ?_))))
   obtain ⟨aW, hm⟩ := qa2 hm
   obtain ⟨s0, aN, hm⟩ := bnd hm
   refine lD (σ := (Unit)) ([2,5] ++ rg 24 8) [0, 1] (fun i0 => [(24, .int .i64 (i0 : Int))]) (fun _ => []) (fun _ => []) (fun _ => True) (fun i0 _ => JM (Js n) (n'.Aa.drop i0) i0 = some s0) (fun t0 => s0 = Fl.go t0) (fun i0 => n'.Aa.length - i0) 0 () aN (And.intro qe (And.intro ?_ ?_))
   clear aN
   rintro i0 _ _ aN j0
   conv at aN => whnf
   refine qae rfl ?_
   refine qag ?_ ?_ <;> intro w0
   obtain ⟨e0, aO, aZ⟩ := ltx w0
   rw [aZ, JM.eq_2] at aN
   refine qal rfl ?_
   refine RStep.ofN (qac rfl rfl (qcl ae.rd aO) (nn _) (qbq aO) ?_)
   obtain ⟨aX, aV, aP, aR, aQ⟩ := LiR.get ae.rd aO
   obtain ⟨aT, aU, rfl, aS⟩ := Ja.out aQ
   refine ro (qaj i0 _ aP rfl aR rfl ?_)
   refine qao rfl fun b5 => ?_
   refine qab r0 rfl ⟨rfl, rfl, (nl rfl), ?_⟩
   refine ro (qah r0 rfl (nl rfl) ?_)
   refine cb aN fun bb aY aN => cgx (ih aY :) ?_
   refine qay ?_
   refine cs rfl rfl aN ?_ ?_ <;> intro ba aN
   exact eE (er aN hm)
   refine qap (qcf aO aW) ?_
   exact eR aN (_, ())
   rw [lty w0, JM.eq_1] at aN
   refine cT ?_
   exact eM aN _
   rintro t0 _ rfl j0
   replace hm := elg hm
   exact eE hm
   refine cf aL (cf aL (cf aL (cf aL (cf aM (cf aL (cf aM (qae rfl ?_)))))))
   refine cF ?_
   replace hm := qbo (qaz aL) hm
   refine fa rfl (ro (ld r0 rfl rfl (ro (qai rfl ?_))))
   obtain ⟨aW, hm⟩ := qa2 hm
   obtain ⟨s0, aN, hm⟩ := bnd hm
   refine lD (σ := (Unit)) ([2,5] ++ rg 24 8) [0, 1] (fun i0 => [(24, .int .i64 (i0 : Int))]) (fun _ => []) (fun _ => []) (fun _ => True) (fun i0 _ => JM (Js n) (n'.Aa.drop i0) i0 = some s0) (fun t0 => s0 = Fl.go t0) (fun i0 => n'.Aa.length - i0) 0 () aN (And.intro qe (And.intro ?_ ?_))
   clear aN
   rintro i0 _ _ aN j0
   conv at aN => whnf
   refine qae rfl ?_
   refine qag ?_ ?_ <;> intro w0
   obtain ⟨e0, aO, aZ⟩ := ltx w0
   rw [aZ, JM.eq_2] at aN
   refine qal rfl ?_
   refine RStep.ofN (qac rfl rfl (qcl ae.rd aO) (nn _) (qbq aO) ?_)
   obtain ⟨aX, aV, aP, aR, aQ⟩ := LiR.get ae.rd aO
   obtain ⟨aT, aU, rfl, aS⟩ := Ja.out aQ
   refine ro (qaj i0 _ aP rfl aR rfl ?_)
   refine qao rfl fun b5 => ?_
   refine qab r0 rfl ⟨rfl, rfl, (nl rfl), ?_⟩
   refine ro (qah r0 rfl (nl rfl) ?_)
   refine cb aN fun bb aY aN => cgx (ih aY :) ?_
   refine qay ?_
   refine cs rfl rfl aN ?_ ?_ <;> intro ba aN
   exact eE (er aN hm)
   refine qap (qcf aO aW) ?_
   exact eR aN (_, ())
   rw [lty w0, JM.eq_1] at aN
   refine cT ?_
   exact eM aN _
   rintro t0 _ rfl j0
   replace hm := elg hm
   exact eE hm

def Jal (ay : (Ja → Option (Bool))) : List Ja → Nat → Option (Fl (Bool) (Unit))
  | [], _ => some (Fl.go ())
  | e0 :: aL, i0 =>
    (ay e0).bind fun aM =>
    if (!aM) then
    some (Fl.ret false)
    else
    Jal ay aL (i0 + 1)
def JaO (ay : (Ja → Option (Bool))) (n : Nat) (n' : Ja) : Option (Bool) :=
  if (decide (n'.Ab ≠ 12) || decide (n'.Ac ≠ ([] : Str))) then
  some false
  else
  (chk (n'.Aa.length ≤ qau)).bind fun _ =>
  (Jal ay n'.Aa 0).bind fun s0 => s0.el some fun t0 =>
  some true
theorem JcP {ay : (Ja → Option (Bool))} (ihrec0_0 : ∀ {n' : Ja} {aa : Option Addr} {ab : Nat} {K : Hp} {r : Bool} (hm : ay n' = some r) (hX : LiC Ja.R K aa ab 4 n'.Aa ∧ GG K), Fn Tryz.prog 125 [.agg #[.int .i64 n'.Ab, str n'.Ac, .slice aa n'.Aa.length ab, .int .i64 n'.Ad]] K [] (fun v K' H' => v = .bool r ∧ H' = [])) {n : Nat} {n' : Ja} {aa : Option Addr} {ab : Nat} {K : Hp} {r : Bool}
    (hm : JaO ay n n' = some r) (hX : LiC Ja.R K aa ab 4 n'.Aa ∧ GG K) :
    Fn Tryz.prog 157 [.agg #[.int .i64 n'.Ab, str n'.Ac, .slice aa n'.Aa.length ab, .int .i64 n'.Ad]] K [] (fun v K' H' => v = .bool r ∧ H' = []) := by
 obtain ⟨ae, hG⟩ := hX
 refine Fn.enter Tryz.func157 Tryz.call157 rfl fun F => ?_
 unfold JaO at hm
 refine qaq ?_
 intro b1
 refine jR (σ := Unit) (rg 5 8) (fun _ => [(12, .bool (decide (n'.Ab ≠ 12) || decide (n'.Ac ≠ ([] : Str))))]) (fun aX => True) ?_ ?_
 refine qak rfl ?_
 refine fa rfl (ro (ld r0 rfl rfl (qbd ?_)))
 refine qag ?_ ?_ <;> intro aL
 refine ct aL (ct aL (ct aL ?_))
 exact eMt () ⟨bq (((qdo aL)).symm), trivial⟩
 refine fa rfl (cf aL (ro (ld r0 rfl rfl (cf aL (qb0 (cf aL ?_))))))
 exact eMt () ⟨bq (qlv (b := decide (n'.Ac ≠ ([] : Str))) aL), trivial⟩
 rintro _ _ a8
 refine cs rfl rfl hm ?_ ?_ <;> intro bf hm
 exact eE hm
 refine fa rfl (ro (ld r0 rfl rfl (ro (qai rfl ?_))))
 obtain ⟨aU, hm⟩ := qa2 hm
 obtain ⟨s0, aM, hm⟩ := bnd hm
 refine lD (σ := (Unit)) ([2,4] ++ rg 16 8) [0, 1] (fun i0 => [(16, .int .i64 (i0 : Int))]) (fun _ => []) (fun _ => []) (fun _ => True) (fun i0 _ => Jal ay (n'.Aa.drop i0) i0 = some s0) (fun t0 => s0 = Fl.go t0) (fun i0 => n'.Aa.length - i0) 0 () aM (And.intro qe (And.intro ?_ ?_))
 clear aM
 rintro i0 _ _ aM j0
 conv at aM => whnf
 refine qae rfl ?_
 refine qag ?_ ?_ <;> intro w0
 obtain ⟨e0, aN, aZ⟩ := ltx w0
 rw [aZ, Jal.eq_2] at aM
 refine qal rfl ?_
 refine RStep.ofN (qac rfl rfl (qcl ae.rd aN) (nn _) (qbq aN) ?_)
 obtain ⟨aV, aW, aQ, aP, aO⟩ := LiR.get ae.rd aN
 obtain ⟨aR, aT, rfl, aS⟩ := Ja.out aO
 refine ro (qaj i0 _ aQ rfl aP rfl ?_)
 refine qao rfl fun b4 => ?_
 refine qab r0 rfl ⟨rfl, rfl, (nl rfl), ?_⟩
 refine ro (qah r0 rfl (nl rfl) ?_)
 refine cb aM fun ba aY aM => cgx (ihrec0_0 aY :) ?_
 refine qay ?_
 refine cs rfl rfl aM ?_ ?_ <;> intro bb aM
 exact eE (er aM hm)
 refine qap (qcf aN aU) ?_
 exact eR aM (_, ())
 rw [lty w0, Jal.eq_1] at aM
 refine cT ?_
 exact eM aM _
 rintro t0 _ rfl j0
 replace hm := elg hm
 exact eE hm

def Jz : Nat → Ja → Option (Bool)
  | 0, _ => none
  | n + 1, n' =>
    if decide (n'.Ab = 2) then
    (if ((decide (n'.Ac ≠ ([] : Str)) || decide ((n'.Aa.length : Int) < 2)) || decide ((n'.Aa.length : Int) > 3)) then some true else (ix n'.Aa 0).bind fun aQ =>
    (Js n aQ).bind fun aY =>
    some (!aY)).bind fun aU =>
    (if aU then some true else (ix n'.Aa 1).bind fun bf =>
    (JaO (Jz n) n bf).bind fun bb =>
    some (!bb)).bind fun aR =>
    if aR then
    some false
    else
    (if decide ((n'.Aa.length : Int) = 2) then some true else (ix n'.Aa 2).bind fun aZ =>
    (JaO (Jz n) n aZ).bind fun aX =>
    some aX).bind fun aS =>
    if aS then
    some true
    else
    (ix n'.Aa 2).bind fun aW =>
    (if decide (aW.Ab = 2) then (ix n'.Aa 2).bind fun a8 =>
    ((Jz n) a8).bind fun aV =>
    some aV else some false).bind fun aT =>
    some aT
    else
    if decide (n'.Ab = 6) then
    (Jau n'.Ac).bind fun ba =>
    some (ba && decide ((n'.Aa.length : Int) = 0))
    else
    if decide (n'.Ab = 10) then
    some (decide (n'.Ac = ([] : Str)) && decide ((n'.Aa.length : Int) = 0))
    else
    if decide (n'.Ab = 11) then
    some (decide (n'.Ac = ([] : Str)) && decide ((n'.Aa.length : Int) = 0))
    else
    if decide (n'.Ab = 3) then
    (JbF n n'.Ac).bind fun aP =>
    if (!aP) then
    some false
    else
    (if decide ((n'.Aa.length : Int) = 1) then (ix n'.Aa 0).bind fun aL =>
    (Js n aL).bind fun aM =>
    some aM else some false).bind fun aN =>
    some aN
    else
    if decide (n'.Ab = 4) then
    if (decide (n'.Ac ≠ ([112, 97, 116, 104] : Str)) && decide (n'.Ac ≠ ([113, 117, 101, 114, 121] : Str))) then
    some false
    else
    (if decide ((n'.Aa.length : Int) = 1) then (ix n'.Aa 0).bind fun aL =>
    (Js n aL).bind fun aM =>
    some aM else some false).bind fun aN =>
    some aN
    else
    if decide (n'.Ab = 5) then
    (Jau n'.Ac).bind fun aO =>
    if (!aO) then
    some false
    else
    (if decide ((n'.Aa.length : Int) = 1) then (ix n'.Aa 0).bind fun aL =>
    (Js n aL).bind fun aM =>
    some aM else some false).bind fun aN =>
    some aN
    else
    if decide (n'.Ab = 7) then
    if decide (n'.Ac ≠ ([] : Str)) then
    some false
    else
    (if decide ((n'.Aa.length : Int) = 1) then (ix n'.Aa 0).bind fun aL =>
    (Js n aL).bind fun aM =>
    some aM else some false).bind fun aN =>
    some aN
    else
    if decide (n'.Ab = 8) then
    if decide (n'.Ac ≠ ([] : Str)) then
    some false
    else
    (if decide ((n'.Aa.length : Int) = 1) then (ix n'.Aa 0).bind fun aL =>
    (Js n aL).bind fun aM =>
    some aM else some false).bind fun aN =>
    some aN
    else
    if decide (n'.Ab = 9) then
    if decide (n'.Ac ≠ ([] : Str)) then
    some false
    else
    (if decide ((n'.Aa.length : Int) = 1) then (ix n'.Aa 0).bind fun aL =>
    (Js n aL).bind fun aM =>
    some aM else some false).bind fun aN =>
    some aN
    else
    some false
theorem JdY : ∀ {n : Nat} {n' : Ja} {aa : Option Addr} {ab : Nat} {K : Hp} {r : Bool}
    (hm : Jz n n' = some r) (hX : LiC Ja.R K aa ab 4 n'.Aa ∧ GG K),
    Fn Tryz.prog 125 [.agg #[.int .i64 n'.Ab, str n'.Ac, .slice aa n'.Aa.length ab, .int .i64 n'.Ad]] K [] (fun v K' H' => v = .bool r ∧ H' = []) := by
 intro n
 induction n with
 | zero =>
   intro n' aa ab K r hm hX
   rw [Jz.eq_1] at hm; cases hm
 | succ n ih =>
   intro n' aa ab K r hm hX
   obtain ⟨ae, hG⟩ := hX
   refine Fn.enter Tryz.func125 Tryz.call125 rfl fun F => ?_
   rw [Jz.eq_2] at hm
   refine qaq ?_
   intro b1
   refine fa rfl (ro (ld r0 rfl rfl ?_))
   refine qal rfl ?_
   refine qad (cs rfl rfl hm ?_ ?_) <;> intro w6 hm
   refine fa rfl (ro (ld r0 rfl rfl (ro (qai rfl ?_))))
   refine qak rfl ?_
   refine fa rfl (ro (ld r0 rfl rfl (qb0 ?_)))
   refine qag ?_ ?_ <;> intro bg
   refine ct bg (ct bg (cT (cT (cT ?_))))
   obtain ⟨cr, bo, hm⟩ := bnd hm
   replace bo := ift (qdo (qdo bg)) bo
   refine cT (cT (cT (cT (cT (cT (cT ?_))))))
   obtain ⟨bV, bj, hm⟩ := bnd hm
   replace bj := ift (si bo).symm bj
   refine cT (cT (cT (cT (cT (cT (cT (qae rfl ?_)))))))
   refine cT ?_
   replace hm := ift (si bj).symm hm
   exact eE hm
   refine cf bg (cf bg ?_)
   refine qag ?_ ?_ <;> intro bh
   refine ct bh (ct bh ?_)
   obtain ⟨cr, bo, hm⟩ := bnd hm
   replace bo := ift (qdo (qkj bg bh)) bo
   refine cT (cT (cT (cT (cT (cT (cT ?_))))))
   obtain ⟨bV, bj, hm⟩ := bnd hm
   replace bj := ift (si bo).symm bj
   refine cT (cT (cT (cT (cT (cT (cT (qae rfl ?_)))))))
   refine cT ?_
   replace hm := ift (si bj).symm hm
   exact eE hm
   refine cf bh (cf bh ?_)
   obtain ⟨cr, bo, hm⟩ := bnd hm
   refine qag ?_ ?_ <;> intro aQ
   replace bo := ift (qkj (qhn bg bh) aQ) bo
   refine ct aQ (ct aQ (ct aQ (ct aQ (ct aQ (ct aQ ?_)))))
   obtain ⟨bV, bj, hm⟩ := bnd hm
   replace bj := ift (si bo).symm bj
   refine cT (cT (cT (cT (cT (cT (cT (qae rfl ?_)))))))
   refine cT ?_
   replace hm := ift (si bj).symm hm
   exact eE hm
   replace bo := qbo (qhn (qhn bg bh) aQ) bo
   refine fa rfl (cf aQ (ro (ld r0 rfl rfl (cf aQ ?_))))
   obtain ⟨dw, cK, bD, bo⟩ := ixb bo
   refine RStep.ofN (qac rfl rfl (qcl ae.rd bD) cK (qax rfl cK bD) (cf aQ ?_))
   obtain ⟨cX, cZ, bN, bP, bG⟩ := LiR.get ae.rd bD
   obtain ⟨cu, cp, rfl, cI⟩ := Ja.out bG
   refine ro (qaj ((0 : Int).toNat) _ bN rfl bP rfl (cf aQ ?_))
   refine cb bo fun dk db bo => cgx (Jab db :) ?_
   refine cf aQ (qay (cf aQ ?_))
   obtain ⟨bV, bj, hm⟩ := bnd hm
   refine qag ?_ ?_ <;> intro aR
   replace bj := ift ((si bo).symm.trans (qkk (quj aR))) bj
   refine ct aR (ct aR (ct aR (ct aR (ct aR (ct aR (qae rfl (cT ?_)))))))
   replace hm := ift (si bj).symm hm
   exact eE hm
   replace bj := qbo ((si bo).symm.trans (qes (qn5 aR))) bj
   refine fa rfl (cf aR (ro (ld r0 rfl rfl (cf aR ?_))))
   obtain ⟨dv, cC, bW, bj⟩ := ixb bj
   refine RStep.ofN (qac rfl rfl (qcl ae.rd bW) cC (qax rfl cC bW) (cf aR ?_))
   obtain ⟨cR, cO, bL, bY, bX⟩ := LiR.get ae.rd bW
   obtain ⟨ce, cA, rfl, cw⟩ := Ja.out bX
   refine ro (qaj ((1 : Int).toNat) _ bL rfl bY rfl (cf aR ?_))
   refine cb bj fun di cP bj => cgx (JcP ih cP :) ?_
   refine cf aR (qay (cf aR (qae rfl ?_)))
   refine qag ?_ ?_ <;> intro cG
   replace hm := ift ((si bj).symm.trans (qkk (quj cG))) hm
   exact eE hm
   replace hm := qbo ((si bj).symm.trans (qes (qn5 cG))) hm
   refine qak rfl ?_
   refine qad ?_
   obtain ⟨dq, bv, hm⟩ := bnd hm
   refine cS bv (fun aY bv => ?_) fun aY bv => ?_
   refine ct aY (ct aY (ct aY (ct aY (ct aY ?_))))
   replace hm := ift (si bv).symm hm
   refine cT (cT (cT (cT (cT (cT (cT (cT ?_)))))))
   refine cT ?_
   exact eE hm
   refine fa rfl (cf aY (ro (ld r0 rfl rfl (cf aY ?_))))
   obtain ⟨dy, cj, bS, bv⟩ := ixb bv
   refine RStep.ofN (qac rfl rfl (qcl ae.rd bS) cj (qax rfl cj bS) (cf aY ?_))
   obtain ⟨cU, de, bR, bT, bK⟩ := LiR.get ae.rd bS
   obtain ⟨cz, cq, rfl, cn⟩ := Ja.out bK
   refine ro (qaj ((2 : Int).toNat) _ bR rfl bT rfl (cf aY ?_))
   refine cb bv fun dt c6 bv => cgx (JcP ih c6 :) ?_
   refine cf aY ?_
   refine qag ?_ ?_ <;> intro aO
   replace hm := ift ((si bv).symm.trans aO) hm
   refine ct aO (ct aO (ct aO (ct aO (ct aO (ct aO (ct aO (ct aO ?_)))))))
   exact eE hm
   replace hm := qbo ((si bv).symm.trans aO) hm
   refine fa rfl (cf aO (ro (ld r0 rfl rfl (cf aO ?_))))
   obtain ⟨dl, cL, bC, hm⟩ := ixb hm
   refine RStep.ofN (qac rfl rfl (qcl ae.rd bC) cL (qax rfl cL bC) (cf aO (qa0 rfl (qcl ae.rd bC) (cf aO ?_))))
   obtain ⟨c8, cW, bU, bM, bJ⟩ := LiR.get ae.rd bC
   obtain ⟨ca, cd, rfl, cB⟩ := Ja.out bJ
   refine ro (qcw ((2 : Int).toNat) 0 _ _ bU rfl bM rfl rfl (cf aO (qad (cf aO ?_))))
   obtain ⟨dj, bz, hm⟩ := bnd hm
   refine cS bz (fun aX bz => ?_) fun aX bz => ?_
   refine fa rfl (ct aX (ro (ld r0 rfl rfl (ct aX ?_))))
   obtain ⟨dg, cD, bH, bz⟩ := ixb bz
   refine RStep.ofN (qac rfl rfl (qcl ae.rd bH) cD (qax rfl cD bH) (ct aX ?_))
   obtain ⟨c9, cY, bI, bF, bO⟩ := LiR.get ae.rd bH
   obtain ⟨cm, cH, rfl, bZ⟩ := Ja.out bO
   refine ro (qaj ((2 : Int).toNat) _ bI rfl bF rfl (ct aX ?_))
   refine cb bz fun df cM bz => cgx (ih cM :) ?_
   refine cf aO (ct aX (cf aO ?_))
   exact bE (si bz) (eE hm)
   refine cf aX (cf aX (cf aX (cf aX (cf aO (cf aX (cf aO ?_))))))
   exact bE (si bz) (eE hm)
   refine qad (cs rfl rfl hm ?_ ?_) <;> intro dz hm
   refine qak rfl ?_
   refine fa rfl (ro (ld r0 rfl rfl ?_))
   refine cb hm fun du c5 hm => cg0 (JbZ c5 :) ?_
   refine qag ?_ ?_ <;> intro aZ
   refine fa rfl (ct aZ (ro (ld r0 rfl rfl (ct aZ (ro (qai rfl (ct aZ (qad (ct aZ ?_)))))))))
   exact bE (qdp (b := decide ((n'.Aa.length : Int) = 0)) aZ) (eE hm)
   refine cf aZ (cf aZ (cf aZ (cf aZ ?_)))
   exact bE (((qaz aZ)).symm) (eE hm)
   refine qad (cs rfl rfl hm ?_ ?_) <;> intro cJ hm
   refine qae rfl (ct cJ ?_)
   refine qak rfl ?_
   refine fa rfl (ro (ld r0 rfl rfl (qat ?_)))
   refine qag ?_ ?_ <;> intro aN
   refine fa rfl (ct aN (ro (ld r0 rfl rfl (ct aN (ro (qai rfl (ct aN (qad (ct aN ?_)))))))))
   exact bE (qdp (b := decide ((n'.Aa.length : Int) = 0)) aN) (eE hm)
   refine cf aN (cf aN (cf aN (cf aN ?_)))
   exact bE (((qaz aN)).symm) (eE hm)
   refine qad (cs rfl rfl hm ?_ ?_) <;> intro cJ hm
   refine qak rfl ?_
   refine fa rfl (ro (ld r0 rfl rfl (qat ?_)))
   refine qag ?_ ?_ <;> intro aN
   refine fa rfl (ct aN (ro (ld r0 rfl rfl (ct aN (ro (qai rfl (ct aN (qad (ct aN ?_)))))))))
   exact bE (qdp (b := decide ((n'.Aa.length : Int) = 0)) aN) (eE hm)
   refine cf aN (cf aN (cf aN (cf aN ?_)))
   exact bE (((qaz aN)).symm) (eE hm)
   refine qad (cs rfl rfl hm ?_ ?_) <;> intro dh hm
   refine fa rfl (ro (ld r0 rfl rfl ?_))
   refine cb hm fun dm dc hm => cgx (Jcv dc :) ?_
   refine qay ?_
   refine cs rfl rfl hm ?_ ?_ <;> intro dp hm
   exact eE hm
   refine qak rfl ?_
   refine fa rfl (ro (ld r0 rfl rfl (ro (qai rfl (qad ?_)))))
   obtain ⟨bt, aM, hm⟩ := bnd hm
   refine cS aM (fun aL aM => ?_) fun aL aM => ?_
   refine fa rfl (ct aL (ro (ld r0 rfl rfl (ct aL ?_))))
   obtain ⟨bu, aV, aP, aM⟩ := ixb aM
   refine RStep.ofN (qac rfl rfl (qcl ae.rd aP) aV (qax rfl aV aP) (ct aL ?_))
   obtain ⟨bn, bm, aS, aT, aU⟩ := LiR.get ae.rd aP
   obtain ⟨bf, a8, rfl, ba⟩ := Ja.out aU
   refine ro (qaj ((0 : Int).toNat) _ aS rfl aT rfl (ct aL ?_))
   refine cb aM fun bp bb aM => cgx (Jab bb :) ?_
   refine ct aL ?_
   exact bE (si aM) (eE hm)
   refine cf aL (cf aL (cf aL (cf aL (cf aL ?_))))
   exact bE (si aM) (eE hm)
   refine qad (cs rfl rfl hm ?_ ?_) <;> intro dx hm
   refine qak rfl ?_
   refine fa rfl (ro (ld r0 rfl rfl (qb0 ?_)))
   refine qag ?_ ?_ <;> intro aW
   refine fa rfl (ct aW (ro (ld r0 rfl rfl (ct aW (qb0 (ct aW (qae rfl ?_)))))))
   refine qag ?_ ?_ <;> intro bA
   replace hm := ift (qb7 aW bA) hm
   exact eE hm
   replace hm := qbo (qcx aW bA) hm
   refine qak rfl ?_
   refine fa rfl (ro (ld r0 rfl rfl (ro (qai rfl (qad ?_)))))
   obtain ⟨bt, aM, hm⟩ := bnd hm
   refine cS aM (fun aL aM => ?_) fun aL aM => ?_
   refine fa rfl (ct aL (ro (ld r0 rfl rfl (ct aL ?_))))
   obtain ⟨bu, aV, aP, aM⟩ := ixb aM
   refine RStep.ofN (qac rfl rfl (qcl ae.rd aP) aV (qax rfl aV aP) (ct aL ?_))
   obtain ⟨bn, bm, aS, aT, aU⟩ := LiR.get ae.rd aP
   obtain ⟨bf, a8, rfl, ba⟩ := Ja.out aU
   refine ro (qaj ((0 : Int).toNat) _ aS rfl aT rfl (ct aL ?_))
   refine cb aM fun bp bb aM => cgx (Jab bb :) ?_
   refine ct aL ?_
   exact bE (si aM) (eE hm)
   refine cf aL (cf aL (cf aL (cf aL (cf aL ?_))))
   exact bE (si aM) (eE hm)
   refine cf aW (cf aW (cf aW (qae rfl (cF ?_))))
   replace hm := qbo (qaz aW) hm
   refine qak rfl ?_
   refine fa rfl (ro (ld r0 rfl rfl (ro (qai rfl (qad ?_)))))
   obtain ⟨bt, aM, hm⟩ := bnd hm
   refine cS aM (fun aL aM => ?_) fun aL aM => ?_
   refine fa rfl (ct aL (ro (ld r0 rfl rfl (ct aL ?_))))
   obtain ⟨bu, aV, aP, aM⟩ := ixb aM
   refine RStep.ofN (qac rfl rfl (qcl ae.rd aP) aV (qax rfl aV aP) (ct aL ?_))
   obtain ⟨bn, bm, aS, aT, aU⟩ := LiR.get ae.rd aP
   obtain ⟨bf, a8, rfl, ba⟩ := Ja.out aU
   refine ro (qaj ((0 : Int).toNat) _ aS rfl aT rfl (ct aL ?_))
   refine cb aM fun bp bb aM => cgx (Jab bb :) ?_
   refine ct aL ?_
   exact bE (si aM) (eE hm)
   refine cf aL (cf aL (cf aL (cf aL (cf aL ?_))))
   exact bE (si aM) (eE hm)
   refine qad (cs rfl rfl hm ?_ ?_) <;> intro cV hm
   refine fa rfl (ro (ld r0 rfl rfl ?_))
   refine cb hm fun cQ bQ hm => cg0 (JbZ bQ :) ?_
   refine qay ?_
   refine cs rfl rfl hm ?_ ?_ <;> intro da hm
   exact eE hm
   refine qak rfl ?_
   refine fa rfl (ro (ld r0 rfl rfl (ro (qai rfl (qad ?_)))))
   obtain ⟨bt, aM, hm⟩ := bnd hm
   refine cS aM (fun aL aM => ?_) fun aL aM => ?_
   refine fa rfl (ct aL (ro (ld r0 rfl rfl (ct aL ?_))))
   obtain ⟨bu, aV, aP, aM⟩ := ixb aM
   refine RStep.ofN (qac rfl rfl (qcl ae.rd aP) aV (qax rfl aV aP) (ct aL ?_))
   obtain ⟨bn, bm, aS, aT, aU⟩ := LiR.get ae.rd aP
   obtain ⟨bf, a8, rfl, ba⟩ := Ja.out aU
   refine ro (qaj ((0 : Int).toNat) _ aS rfl aT rfl (ct aL ?_))
   refine cb aM fun bp bb aM => cgx (Jab bb :) ?_
   refine ct aL ?_
   exact bE (si aM) (eE hm)
   refine cf aL (cf aL (cf aL (cf aL (cf aL ?_))))
   exact bE (si aM) (eE hm)
   refine qad (cs rfl rfl hm ?_ ?_) <;> intro bw hm
   refine qae rfl (ct bw (fa rfl (ro (ld r0 rfl rfl (qb0 ?_)))))
   refine cs rfl rfl hm ?_ ?_ <;> intro bB hm
   exact eE hm
   refine qak rfl ?_
   refine fa rfl (ro (ld r0 rfl rfl (ro (qai rfl (qad ?_)))))
   obtain ⟨bt, aM, hm⟩ := bnd hm
   refine cS aM (fun aL aM => ?_) fun aL aM => ?_
   refine fa rfl (ct aL (ro (ld r0 rfl rfl (ct aL ?_))))
   obtain ⟨bu, aV, aP, aM⟩ := ixb aM
   refine RStep.ofN (qac rfl rfl (qcl ae.rd aP) aV (qax rfl aV aP) (ct aL ?_))
   obtain ⟨bn, bm, aS, aT, aU⟩ := LiR.get ae.rd aP
   obtain ⟨bf, a8, rfl, ba⟩ := Ja.out aU
   refine ro (qaj ((0 : Int).toNat) _ aS rfl aT rfl (ct aL ?_))
   refine cb aM fun bp bb aM => cgx (Jab bb :) ?_
   refine ct aL ?_
   exact bE (si aM) (eE hm)
   refine cf aL (cf aL (cf aL (cf aL (cf aL ?_))))
   exact bE (si aM) (eE hm)
   refine qad (cs rfl rfl hm ?_ ?_) <;> intro bw hm
   refine qae rfl (ct bw (fa rfl (ro (ld r0 rfl rfl (qb0 ?_)))))
   refine cs rfl rfl hm ?_ ?_ <;> intro bB hm
   exact eE hm
   refine qak rfl ?_
   refine fa rfl (ro (ld r0 rfl rfl (ro (qai rfl (qad ?_)))))
   obtain ⟨bt, aM, hm⟩ := bnd hm
   refine cS aM (fun aL aM => ?_) fun aL aM => ?_
   refine fa rfl (ct aL (ro (ld r0 rfl rfl (ct aL ?_))))
   obtain ⟨bu, aV, aP, aM⟩ := ixb aM
   refine RStep.ofN (qac rfl rfl (qcl ae.rd aP) aV (qax rfl aV aP) (ct aL ?_))
   obtain ⟨bn, bm, aS, aT, aU⟩ := LiR.get ae.rd aP
   obtain ⟨bf, a8, rfl, ba⟩ := Ja.out aU
   refine ro (qaj ((0 : Int).toNat) _ aS rfl aT rfl (ct aL ?_))
   refine cb aM fun bp bb aM => cgx (Jab bb :) ?_
   refine ct aL ?_
   exact bE (si aM) (eE hm)
   refine cf aL (cf aL (cf aL (cf aL (cf aL ?_))))
   exact bE (si aM) (eE hm)
   refine qad (cs rfl rfl hm ?_ ?_) <;> intro bw hm
   refine fa rfl (ro (ld r0 rfl rfl (qb0 ?_)))
   refine cs rfl rfl hm ?_ ?_ <;> intro bB hm
   exact eE hm
   refine qak rfl ?_
   refine fa rfl (ro (ld r0 rfl rfl (ro (qai rfl (qad ?_)))))
   obtain ⟨bt, aM, hm⟩ := bnd hm
   refine cS aM (fun aL aM => ?_) fun aL aM => ?_
   refine fa rfl (ct aL (ro (ld r0 rfl rfl (ct aL ?_))))
   obtain ⟨bu, aV, aP, aM⟩ := ixb aM
   refine RStep.ofN (qac rfl rfl (qcl ae.rd aP) aV (qax rfl aV aP) (ct aL ?_))
   obtain ⟨bn, bm, aS, aT, aU⟩ := LiR.get ae.rd aP
   obtain ⟨bf, a8, rfl, ba⟩ := Ja.out aU
   refine ro (qaj ((0 : Int).toNat) _ aS rfl aT rfl (ct aL ?_))
   refine cb aM fun bp bb aM => cgx (Jab bb :) ?_
   refine ct aL ?_
   exact bE (si aM) (eE hm)
   refine cf aL (cf aL (cf aL (cf aL (cf aL ?_))))
   exact bE (si aM) (eE hm)
   exact eE hm

def JaG (n : Nat) : List Ja → Nat → Option (Fl (Bool) (Unit))
  | [], _ => some (Fl.go ())
  | e0 :: aL, i0 =>
    (Jz n e0).bind fun aM =>
    if (!aM) then
    some (Fl.ret false)
    else
    JaG n aL (i0 + 1)
def Jah (n : Nat) (n' : Ja) : Option (Bool) :=
  if (decide (n'.Ab ≠ 1) || decide (n'.Ac ≠ ([] : Str))) then
  some false
  else
  (JaC n n' 512 32).bind fun aL =>
  if (!aL.1) then
  some false
  else
  (chk (n'.Aa.length ≤ qau)).bind fun _ =>
  (JaG n n'.Aa 0).bind fun s0 => s0.el some fun t0 =>
  some true
theorem Jek {n : Nat} {n' : Ja} {aa : Option Addr} {ab : Nat} {K : Hp} {r : Bool}
    (hm : Jah n n' = some r) (hX : LiC Ja.R K aa ab 4 n'.Aa ∧ GG K) :
    Fn Tryz.prog 84 [.agg #[.int .i64 n'.Ab, str n'.Ac, .slice aa n'.Aa.length ab, .int .i64 n'.Ad]] K [] (fun v K' H' => v = .bool r ∧ H' = []) := by
 obtain ⟨ae, hG⟩ := hX
 refine Fn.enter Tryz.func84 Tryz.call84 rfl fun F => ?_
 unfold Jah at hm
 refine qaq ?_
 intro b1
 refine qao rfl fun b3 => ?_
 refine qab r0 rfl ⟨rfl, rfl, (nl rfl), ?_⟩
 refine qak rfl ?_
 refine fa rfl (ro (ld r1 rfl rfl (qbd ?_)))
 refine qag ?_ ?_ <;> intro aM
 refine ct aM (ct aM (ct aM ?_))
 replace hm := ift (qdo aM) hm
 refine cT (cT (cT (cT (qae rfl (cT ?_)))))
 exact eE hm
 refine fa rfl (cf aM (ro (ld r1 rfl rfl (cf aM (qb0 (cf aM ?_))))))
 refine qag ?_ ?_ <;> intro aL
 replace hm := ift (qkj aM aL) hm
 refine ct aL (ct aL (ct aL (qae rfl (cT ?_))))
 exact eE hm
 replace hm := qbo (qhn aM aL) hm
 refine ro (qah r1 rfl (nl rfl) (cf aL ?_))
 refine cb hm fun bb a8 hm => cgx (Jei a8 :) ?_
 refine cf aL (qay (cf aL ?_))
 refine cs rfl rfl hm ?_ ?_ <;> intro bf hm
 exact eE hm
 refine fa rfl (ro (ld r1 rfl rfl (ro (qai rfl ?_))))
 obtain ⟨aW, hm⟩ := qa2 hm
 obtain ⟨s0, aN, hm⟩ := bnd hm
 refine lD (σ := (Unit)) ([2,5] ++ rg 22 8) [0, 1, 2] (fun i0 => [(22, .int .i64 (i0 : Int))]) (fun _ => []) (fun _ => []) (fun _ => True) (fun i0 _ => JaG n (n'.Aa.drop i0) i0 = some s0) (fun t0 => s0 = Fl.go t0) (fun i0 => n'.Aa.length - i0) 0 () aN (And.intro qe (And.intro ?_ ?_))
 clear aN
 rintro i0 _ _ aN j0
 conv at aN => whnf
 refine qae rfl ?_
 refine qag ?_ ?_ <;> intro w0
 obtain ⟨e0, aO, aZ⟩ := ltx w0
 rw [aZ, JaG.eq_2] at aN
 refine qal rfl ?_
 refine RStep.ofN (qac rfl rfl (qcl ae.rd aO) (nn _) (qbq aO) ?_)
 obtain ⟨aV, aX, aR, aP, aQ⟩ := LiR.get ae.rd aO
 obtain ⟨aS, aU, rfl, aT⟩ := Ja.out aQ
 refine ro (qaj i0 _ aR rfl aP rfl ?_)
 refine qao rfl fun b5 => ?_
 refine qab r0 rfl ⟨rfl, rfl, (nl rfl), ?_⟩
 refine ro (qah r0 rfl (nl rfl) ?_)
 refine cb aN fun ba aY aN => cgx (JdY aY :) ?_
 refine qay ?_
 refine cs rfl rfl aN ?_ ?_ <;> intro bg aN
 exact eE (er aN hm)
 refine qap (qcf aO aW) ?_
 exact eR aN (_, ())
 rw [lty w0, JaG.eq_1] at aN
 refine cT ?_
 exact eM aN _
 rintro t0 _ rfl j0
 replace hm := elg hm
 exact eE hm

def Jb8 (name : Str) : Option (Bool) :=
  some (((decide (name = ([109, 101, 116, 104, 111, 100] : Str)) || decide (name = ([104, 111, 115, 116] : Str))) || decide (name = ([112, 97, 116, 104] : Str))) || decide (name = ([113, 117, 101, 114, 121] : Str)))
theorem Jdh {name : Str} {K : Hp} {r : Bool}
    (hm : Jb8 name = some r)  :
    Fn Tryz.prog 170 [str name] K [] (fun v K' H' => v = .bool r ∧ H' = []) := by
 refine Fn.enter Tryz.func170 Tryz.call170 rfl fun F => ?_
 unfold Jb8 at hm
 refine qak rfl ?_
 refine qat ?_
 refine qag ?_ ?_ <;> intro aM
 refine ct aM (ct aM (cT (cT (cT (cT (cT (cT ?_)))))))
 exact bE (((qdo (qdo (qdo aM)))).symm) (eE hm)
 refine cf aM (qat (cf aM ?_))
 refine qag ?_ ?_ <;> intro aN
 refine ct aN (ct aN (cT (cT (cT ?_))))
 exact bE (((qdo (qdo (qkj aM aN)))).symm) (eE hm)
 refine cf aN (qat (cf aN ?_))
 refine qag ?_ ?_ <;> intro aL
 refine ct aL (ct aL ?_)
 exact bE (((qdo (qkj (qhn aM aN) aL))).symm) (eE hm)
 refine cf aL (qat (cf aL ?_))
 exact bE (qlv (b := decide (name = ([113, 117, 101, 114, 121] : Str))) (qhn (qhn aM aN) aL)) (eE hm)

def Jai (env : (List Jk)) (name : Str) : Nat → Int → Option (Fl (Int) (Int))
  | 0, _ => none
  | aL + 1, ac =>
    if decide (ac ≥ 0) then
    (ix env ac).bind fun aN =>
    if decide (aN.Name = name) then
    (ix env ac).bind fun aM =>
    some (Fl.ret aM.As)
    else
    (chk (InI (ac - 1))).bind fun _ =>
    Jai env name aL (ac - 1)
    else
    some (Fl.go ac)
def JaX (n : Nat) (name : Str) (env : (List Jk)) : Option (Int) :=
  (chk (InI ((env.length : Int) - 1))).bind fun _ =>
  (Jai env name n ((env.length : Int) - 1)).bind fun s0 => s0.el some fun t0 =>
  (Jb8 name).bind fun aL =>
  if aL then
  some 1
  else
  some 0
theorem Jcr {n : Nat} {name : Str} {env : (List Jk)} {af : Option Addr} {ag : Nat} {n1 : Nat} {K : Hp} {r : Int}
    (hm : JaX n name env = some r) (hX : RdC Jk.enc K af ag 2 env ∧ n1 = env.length) :
    Fn Tryz.prog 137 [str name, .slice af n1 ag] K [] (fun v K' H' => v = .int .i64 r ∧ H' = []) := by
 obtain ⟨aj, aR⟩ := hX
 subst aR
 refine Fn.enter Tryz.func137 Tryz.call137 rfl fun F => ?_
 unfold JaX at hm
 refine ro (qai rfl ?_)
 refine ci hm fun hm => ?_
 obtain ⟨s0, aL, hm⟩ := bnd hm
 refine lD (σ := (Int)) ([4,5] ++ rg 9 16) [0] (fun _ => []) (fun t0 => [(5, .int .i64 t0)]) (fun _ => []) (fun _ => True) (fun i0 t0 => Jai env name i0 t0 = some s0) (fun t0 => s0 = Fl.go t0) (fun i0 => i0) n _ aL (And.intro qe (And.intro ?_ ?_))
 clear aL
 rintro i0 ac _ aL j0
 conv at aL => whnf
 cases i0 with
 | zero => rw [Jai.eq_1] at aL; cases aL
 | succ i0 =>
  rw [Jai.eq_2] at aL
  refine cs rfl rfl aL ?_ ?_ <;> intro aX aL
  refine qal rfl ?_
  obtain ⟨aT, aO, aN, aL⟩ := ixb aL
  refine RStep.ofN (qac rfl rfl (qec aj.rd aN) aO (qax rfl aO aN) (qa0 rfl (qec aj.rd aN) (ro (qcw ((ac).toNat) 0 _ _ aj.rd rfl (mp aN) rfl rfl (qat ?_)))))
  refine cs rfl rfl aL ?_ ?_ <;> intro aV aL
  obtain ⟨aS, aP, aM, aL⟩ := ixb aL
  refine RStep.ofN (qac rfl rfl (qec aj.rd aM) aP (qax rfl aP aM) (qa0 rfl (qec aj.rd aM) (ro (qcw ((ac).toNat) 1 _ _ aj.rd rfl (mp aM) rfl rfl ?_))))
  exact eE (er aL hm)
  refine ci aL fun aL => ?_
  exact eR aL (_, _)
  refine cT ?_
  exact eM aL _
 rintro t0 _ rfl j0
 replace hm := elg hm
 refine cb hm fun aU aQ hm => cg0 (Jdh aQ :) ?_
 refine cs rfl rfl hm ?_ ?_ <;> intro aW hm
 exact eE hm
 exact eE hm

def JH (c : Jn) (n' : Ja) (err : Err) : Option (Jn) :=
  if c.err.isNone then
  some (⟨n'.Ad, err⟩ : Jn)
  else
  some c
theorem J7 {c : Jn} {n' : Ja} {err : Err} {b0 : Nat} {af : Option Addr} {ag : Nat} {K : Hp} {r : Jn}
    (hm : JH c n' err = some r) (aj : LiC Ja.R K af ag 4 n'.Aa) :
    Fn Tryz.prog 128 [.pointer (some ⟨b0, 0, none⟩), .agg #[.int .i64 n'.Ab, str n'.Ac, .slice af n'.Aa.length ag, .int .i64 n'.Ad], qc9 87 err] K [Cells b0 171 [.int .i64 c.line, qc9 87 c.err]] (fun v K' H' => v = .tuple #[] ∧ H' = [Cells b0 171 [.int .i64 r.line, qc9 87 r.err]]) := by
 refine Fn.enter Tryz.func128 Tryz.call128 rfl fun F => ?_
 unfold JH at hm
 refine qaq ?_
 intro b4
 refine qaf (fa rfl (ro (ld r1 rfl rfl (qft rfl ?_))))
 refine cs rfl rfl hm ?_ ?_ <;> intro aL hm
 refine fa rfl (ro (ld r0 rfl rfl (qaf (fa rfl ?_))))
 refine qab r1 rfl ⟨rfl, rfl, (nl rfl), ?_⟩
 refine qaf (fa rfl ?_)
 refine qo1 r0 rfl rfl ?_
 exact eE hm
 exact eE hm

def Jan (name : Str) : Option (Int × Int) :=
  if decide (name = ([104, 101, 97, 100, 101, 114] : Str)) then
  some (1, 1)
  else
  if decide (name = ([97, 114, 103] : Str)) then
  some (1, 1)
  else
  if decide (name = ([108, 111, 119, 101, 114] : Str)) then
  some (1, 1)
  else
  if decide (name = ([104, 97, 115] : Str)) then
  some (1, 3)
  else
  if decide (name = ([108, 101, 110] : Str)) then
  some (1, 2)
  else
  if decide (name = ([110, 117, 109, 98, 101, 114] : Str)) then
  some (1, 2)
  else
  if decide (name = ([112, 97, 114, 116] : Str)) then
  some (2, 1)
  else
  if decide (name = ([116, 101, 120, 116] : Str)) then
  some (2, 1)
  else
  some (0, 0)
theorem JdH {name : Str} {K : Hp} {r : Int × Int}
    (hm : Jan name = some r)  :
    Fn Tryz.prog 171 [str name] K [] (fun v K' H' => v = .tuple #[.int .i64 r.1, .int .i64 r.2] ∧ H' = []) := by
 refine Fn.enter Tryz.func171 Tryz.call171 rfl fun F => ?_
 unfold Jan at hm
 refine qal rfl ?_
 refine qat (cs rfl rfl hm ?_ ?_) <;> intro w5 hm
 refine qae rfl (ct w5 ?_)
 exact eE hm
 refine qat (cs rfl rfl hm ?_ ?_) <;> intro w5 hm
 refine qae rfl (ct w5 ?_)
 exact eE hm
 refine qat (cs rfl rfl hm ?_ ?_) <;> intro w5 hm
 exact eE hm
 refine qat (cs rfl rfl hm ?_ ?_) <;> intro w9 hm
 exact eE hm
 refine qat (cs rfl rfl hm ?_ ?_) <;> intro aM hm
 refine qae rfl (ct aM ?_)
 exact eE hm
 refine qat (cs rfl rfl hm ?_ ?_) <;> intro aM hm
 exact eE hm
 refine qat (cs rfl rfl hm ?_ ?_) <;> intro aL hm
 refine qae rfl (ct aL ?_)
 exact eE hm
 refine qat (cs rfl rfl hm ?_ ?_) <;> intro aL hm
 exact eE hm
 exact eE hm

def JY (c : Jn) (n' : Ja) (args : (List Int)) : Option (Int × Jn) :=
  (Jan n'.Ac).bind fun av =>
  if decide (av.2 = 0) then
  (JH c n' (some 8)).bind fun aL =>
  some (av.2, aL)
  else
  (if decide ((args.length : Int) ≠ 1) then some true else (ix args 0).bind fun aN =>
  some (decide (aN ≠ av.1))).bind fun aM =>
  if aM then
  (JH c n' (some 9)).bind fun aO =>
  some (av.2, aO)
  else
  some (av.2, c)
theorem Jch {c : Jn} {n' : Ja} {args : (List Int)} {b0 : Nat} {af : Option Addr} {ag : Nat} {aq : Option Addr} {ar : Nat} {n2 : Nat} {K : Hp} {r : Int × Jn}
    (hm : JY c n' args = some r) (hX : LiC Ja.R K af ag 4 n'.Aa ∧ RdC eN K aq ar 1 args ∧ n2 = args.length) :
    Fn Tryz.prog 138 [.pointer (some ⟨b0, 0, none⟩), .agg #[.int .i64 n'.Ab, str n'.Ac, .slice af n'.Aa.length ag, .int .i64 n'.Ad], .slice aq n2 ar] K [Cells b0 171 [.int .i64 c.line, qc9 87 c.err]] (fun v K' H' => v = .int .i64 r.1 ∧ H' = [Cells b0 171 [.int .i64 r.2.line, qc9 87 r.2.err]]) := by
 obtain ⟨aj, aM, aV⟩ := hX
 subst aV
 refine Fn.enter Tryz.func138 Tryz.call138 rfl fun F => ?_
 unfold JY at hm
 refine qaq ?_
 intro b4
 refine fa rfl (ro (ld r0 rfl rfl ?_))
 refine cb hm fun av aS hm => cg0 (JdH aS :) ?_
 refine qad (cs rfl rfl hm ?_ ?_) <;> intro aW hm
 refine ro (qah r0 rfl (nl rfl) ?_)
 refine qa4 rfl ?_
 refine cb hm fun aX aU hm => cgx (J7 aU :) ?_
 exact eE hm
 refine qak rfl ?_
 refine ro (qai rfl (qbd ?_))
 obtain ⟨aZ, aN, hm⟩ := bnd hm
 refine cS aN (fun aL aN => ?_) fun aL aN => ?_
 refine ct aL (ct aL (ct aL (ct aL (ct aL (qae rfl (cT ?_))))))
 replace hm := ift (si aN).symm hm
 refine ro (qah r0 rfl (nl rfl) ?_)
 refine qa4 rfl ?_
 refine cb hm fun aT aO hm => cgx (J7 aO :) ?_
 exact eE hm
 refine cf aL ?_
 obtain ⟨aY, aR, aP, aN⟩ := ixb aN
 refine RStep.ofN (qac rfl rfl (qec aM.rd aP) aR (qax rfl aR aP) (cf aL (ro (qcw ((0 : Int).toNat) 0 _ _ aM.rd rfl (mp aP) rfl rfl (cf aL (cf aL (qbd (cf aL (qae rfl ?_)))))))))
 refine qag ?_ ?_ <;> intro aQ
 replace hm := ift ((si aN).symm.trans aQ) hm
 refine ro (qah r0 rfl (nl rfl) ?_)
 refine qa4 rfl ?_
 refine cb hm fun aT aO hm => cgx (J7 aO :) ?_
 exact eE hm
 replace hm := qbo ((si aN).symm.trans aQ) hm
 exact eE hm

def JN (t : Int) : List Int → Nat → Option (Fl (Bool) (Unit))
  | [], _ => some (Fl.go ())
  | e0 :: aL, i0 =>
    if decide (e0 ≠ t) then
    some (Fl.ret false)
    else
    JN t aL (i0 + 1)
def Jv (t : Int) (aB : (List Int)) : Option (Bool) :=
  (chk (aB.length ≤ qau)).bind fun _ =>
  (JN t aB 0).bind fun s0 => s0.el some fun t0 =>
  some true
theorem JV {t : Int} {aB : (List Int)} {b1 : Nat} {af : Option Addr} {ag : Nat} {K : Hp} {r : Bool}
    (hm : Jv t aB = some r) (aj : RdC eN K af ag 1 aB) :
    Fn Tryz.prog 172 [.int .i64 t, .pointer (some ⟨b1, 0, none⟩)] K [Cells b1 150 [.slice af aB.length ag]] (fun v K' H' => v = .bool r ∧ H' = [Cells b1 150 [.slice af aB.length ag]]) := by
 refine Fn.enter Tryz.func172 Tryz.call172 rfl fun F => ?_
 unfold Jv at hm
 refine ro (ld r0 rfl rfl (ro (qai rfl ?_)))
 obtain ⟨aN, hm⟩ := qa2 hm
 obtain ⟨s0, aL, hm⟩ := bnd hm
 refine lD (σ := (Unit)) ([3,5] ++ rg 8 8) [0, 1] (fun i0 => [(8, .int .i64 (i0 : Int))]) (fun _ => []) (fun _ => []) (fun _ => True) (fun i0 _ => JN t (aB.drop i0) i0 = some s0) (fun t0 => s0 = Fl.go t0) (fun i0 => aB.length - i0) 0 () aL (And.intro qe (And.intro ?_ ?_))
 clear aL
 rintro i0 _ _ aL j0
 conv at aL => whnf
 refine qae rfl ?_
 refine qag ?_ ?_ <;> intro w0
 obtain ⟨e0, aM, aO⟩ := ltx w0
 rw [aO, JN.eq_2] at aL
 refine qal rfl ?_
 refine RStep.ofN (qac rfl rfl (qec aj.rd aM) (nn _) (qbq aM) (ro (qcw i0 0 _ _ aj.rd rfl (mp aM) rfl rfl (qbd ?_))))
 refine cs rfl rfl aL ?_ ?_ <;> intro aP aL
 exact eE (er aL hm)
 refine qap (qcf aM aN) ?_
 exact eR aL (_, ())
 rw [lty w0, JN.eq_1] at aL
 refine cT ?_
 exact eM aL _
 rintro t0 _ rfl j0
 replace hm := elg hm
 exact eE hm

def JJ (n' : Ja) (args : (List Int)) : Option (Int) :=
  if decide (n'.Ab = 17) then
  (Jv 1 args).bind fun av =>
  if av then
  some 1
  else
  (Jv 2 args).bind fun aQ =>
  if aQ then
  some 2
  else
  some 0
  else
  if decide (n'.Ab = 18) then
  (Jv 2 args).bind fun aO =>
  if aO then
  some 2
  else
  some 0
  else
  if decide (n'.Ab = 19) then
  (Jv 2 args).bind fun aO =>
  if aO then
  some 2
  else
  some 0
  else
  if decide (n'.Ab = 13) then
  (Jv 3 args).bind fun aL =>
  if aL then
  some 3
  else
  some 0
  else
  if decide (n'.Ab = 14) then
  (Jv 3 args).bind fun aL =>
  if aL then
  some 3
  else
  some 0
  else
  if decide (n'.Ab = 15) then
  (Jv 3 args).bind fun aL =>
  if aL then
  some 3
  else
  some 0
  else
  if decide (n'.Ab = 16) then
  if decide (n'.Ac = ([61, 61] : Str)) then
  (ix args 0).bind fun aN =>
  (ix args 1).bind fun aM =>
  if decide (aN = aM) then
  some 3
  else
  some 0
  else
  if decide (n'.Ac = ([33, 61] : Str)) then
  (ix args 0).bind fun aN =>
  (ix args 1).bind fun aM =>
  if decide (aN = aM) then
  some 3
  else
  some 0
  else
  if decide (n'.Ac = ([60] : Str)) then
  (Jv 2 args).bind fun aP =>
  if aP then
  some 3
  else
  some 0
  else
  if decide (n'.Ac = ([60, 61] : Str)) then
  (Jv 2 args).bind fun aP =>
  if aP then
  some 3
  else
  some 0
  else
  (Jv 1 args).bind fun aR =>
  if aR then
  some 3
  else
  some 0
  else
  some 0
theorem JcH {n' : Ja} {args : (List Int)} {aa : Option Addr} {ab : Nat} {af : Option Addr} {ag : Nat} {n1 : Nat} {K : Hp} {r : Int}
    (hm : JJ n' args = some r) (hX : LiC Ja.R K aa ab 4 n'.Aa ∧ RdC eN K af ag 1 args ∧ n1 = args.length) :
    Fn Tryz.prog 139 [.agg #[.int .i64 n'.Ab, str n'.Ac, .slice aa n'.Aa.length ab, .int .i64 n'.Ad], .slice af n1 ag] K [] (fun v K' H' => v = .int .i64 r ∧ H' = []) := by
 obtain ⟨ae, aj, bn⟩ := hX
 subst bn
 refine Fn.enter Tryz.func139 Tryz.call139 rfl fun F => ?_
 unfold JJ at hm
 refine qaq ?_
 intro b2
 refine qaq ?_
 intro b3
 refine mkFunc ?_
 refine fa rfl (ro (ld r1 rfl rfl ?_))
 refine qal rfl ?_
 refine qad (cs rfl rfl hm ?_ ?_) <;> intro w9 hm
 refine cb hm fun av bg hm => cgx (JV bg :) ?_
 refine cs rfl rfl hm ?_ ?_ <;> intro bw hm
 exact eE hm
 refine cb hm fun bv bf hm => cgx (JV bf :) ?_
 refine cs rfl rfl hm ?_ ?_ <;> intro bu hm
 exact eE hm
 exact eE hm
 refine qad (cs rfl rfl hm ?_ ?_) <;> intro aV hm
 refine qae rfl (ct aV ?_)
 refine cb hm fun aZ aS hm => cgx (JV aS :) ?_
 refine cs rfl rfl hm ?_ ?_ <;> intro bm hm
 exact eE hm
 exact eE hm
 refine qad (cs rfl rfl hm ?_ ?_) <;> intro aV hm
 refine cb hm fun aZ aS hm => cgx (JV aS :) ?_
 refine cs rfl rfl hm ?_ ?_ <;> intro bm hm
 exact eE hm
 exact eE hm
 refine qad (cs rfl rfl hm ?_ ?_) <;> intro aQ hm
 refine qae rfl (ct aQ ?_)
 refine cb hm fun aU aP hm => cgx (JV aP :) ?_
 refine cs rfl rfl hm ?_ ?_ <;> intro aT hm
 exact eE hm
 exact eE hm
 refine qad (cs rfl rfl hm ?_ ?_) <;> intro aQ hm
 refine qae rfl (ct aQ ?_)
 refine cb hm fun aU aP hm => cgx (JV aP :) ?_
 refine cs rfl rfl hm ?_ ?_ <;> intro aT hm
 exact eE hm
 exact eE hm
 refine qad (cs rfl rfl hm ?_ ?_) <;> intro aQ hm
 refine cb hm fun aU aP hm => cgx (JV aP :) ?_
 refine cs rfl rfl hm ?_ ?_ <;> intro aT hm
 exact eE hm
 exact eE hm
 refine qad (cs rfl rfl hm ?_ ?_) <;> intro bt hm
 refine fa rfl (ro (ld r1 rfl rfl ?_))
 refine qal rfl ?_
 refine qat (cs rfl rfl hm ?_ ?_) <;> intro aW hm
 refine qae rfl (ct aW ?_)
 refine qa6 ⟨⟨[], false⟩, _, [(_, _)], []⟩ (by kernel_rfl) ⟨Hp.Le.refl _, (pf rfl), ci0⟩ ?_
 refine qan m0 rfl rfl ?_
 obtain ⟨bj, aN, aL, hm⟩ := ixb hm
 refine qac rfl rfl (qec aj.rd aL) aN (qax rfl aN aL) (qbp ((0 : Int).toNat) 0 _ _ aj.rd rfl (mp aL) rfl rfl (qan m0 rfl rfl ?_))
 obtain ⟨aY, aO, aM, hm⟩ := ixb hm
 refine qac rfl rfl (qec aj.rd aM) aO (qax rfl aO aM) (qbp ((1 : Int).toNat) 0 _ _ aj.rd rfl (mp aM) rfl rfl (qad ?_))
 refine cs rfl rfl hm ?_ ?_ <;> intro bh hm
 exact eE hm
 exact eE hm
 refine qat (cs rfl rfl hm ?_ ?_) <;> intro aW hm
 refine qa6 ⟨⟨[], false⟩, _, [(_, _)], []⟩ (by kernel_rfl) ⟨Hp.Le.refl _, (pf rfl), ci0⟩ ?_
 refine qan m0 rfl rfl ?_
 obtain ⟨bj, aN, aL, hm⟩ := ixb hm
 refine qac rfl rfl (qec aj.rd aL) aN (qax rfl aN aL) (qbp ((0 : Int).toNat) 0 _ _ aj.rd rfl (mp aL) rfl rfl (qan m0 rfl rfl ?_))
 obtain ⟨aY, aO, aM, hm⟩ := ixb hm
 refine qac rfl rfl (qec aj.rd aM) aO (qax rfl aO aM) (qbp ((1 : Int).toNat) 0 _ _ aj.rd rfl (mp aM) rfl rfl (qad ?_))
 refine cs rfl rfl hm ?_ ?_ <;> intro bh hm
 exact eE hm
 exact eE hm
 refine qat (cs rfl rfl hm ?_ ?_) <;> intro aX hm
 refine qae rfl (ct aX ?_)
 refine cb hm fun a8 aR hm => cgx (JV aR :) ?_
 refine cs rfl rfl hm ?_ ?_ <;> intro bb hm
 exact eE hm
 exact eE hm
 refine qat (cs rfl rfl hm ?_ ?_) <;> intro aX hm
 refine cb hm fun a8 aR hm => cgx (JV aR :) ?_
 refine cs rfl rfl hm ?_ ?_ <;> intro bb hm
 exact eE hm
 exact eE hm
 refine cb hm fun bp ba hm => cgx (JV ba :) ?_
 refine cs rfl rfl hm ?_ ?_ <;> intro bo hm
 exact eE hm
 exact eE hm
 exact eE hm

def JK (rec_ : (Jn → Ja → (List Jk) → Option (Int × Jn))) (env : (List Jk)) : List Ja → Nat → (List Int) → Int → Err → Option (Fl (Int × Jn) ((List Int) × Int × Err))
  | [], _, ac, aM, aL => some (Fl.go (ac, aM, aL))
  | e0 :: aO, i0, ac, aM, aL =>
    (rec_ (⟨aM, aL⟩ : Jn) e0 env).bind fun aN =>
    (chk (ac.length + [aN.1].length ≤ lim)).bind fun _ =>
    if aN.2.err.isSome then
    some (Fl.ret (0, aN.2))
    else
    JK rec_ env aO (i0 + 1) (ac ++ [aN.1]) aN.2.line aN.2.err
def JE : Nat → Jn → Ja → (List Jk) → Option (Int × Jn)
  | 0, _, _, _ => none
  | n + 1, c, n', env =>
    (chk (n'.Aa.length ≤ qau)).bind fun _ =>
    (JK (JE n) env n'.Aa 0 [] c.line c.err).bind fun s0 => s0.el some fun t0 =>
    if decide (n'.Ab = 20) then
    some (2, (⟨t0.2.1, t0.2.2⟩ : Jn))
    else
    if decide (n'.Ab = 21) then
    some (1, (⟨t0.2.1, t0.2.2⟩ : Jn))
    else
    if decide (n'.Ab = 22) then
    some (3, (⟨t0.2.1, t0.2.2⟩ : Jn))
    else
    if decide (n'.Ab = 23) then
    (JaX n n'.Ac env).bind fun aL =>
    if decide (aL = 0) then
    (JH (⟨t0.2.1, t0.2.2⟩ : Jn) n' (some 8)).bind fun aP =>
    some (aL, aP)
    else
    some (aL, (⟨t0.2.1, t0.2.2⟩ : Jn))
    else
    if decide (n'.Ab = 24) then
    (JY (⟨t0.2.1, t0.2.2⟩ : Jn) n' t0.1).bind fun aN =>
    some (aN.1, aN.2)
    else
    (JJ n' t0.1).bind fun aM =>
    if decide (aM = 0) then
    (JH (⟨t0.2.1, t0.2.2⟩ : Jn) n' (some 9)).bind fun aO =>
    some (aM, aO)
    else
    some (aM, (⟨t0.2.1, t0.2.2⟩ : Jn))
theorem Jdb : ∀ {n : Nat} {c : Jn} {n' : Ja} {env : (List Jk)} {b0 : Nat} {af : Option Addr} {ag : Nat} {aq : Option Addr} {ar : Nat} {n2 : Nat} {K : Hp} {r : Int × Jn}
    (hm : JE n c n' env = some r) (hX : LiC Ja.R K af ag 4 n'.Aa ∧ RdC Jk.enc K aq ar 2 env ∧ n2 = env.length),
    Fn Tryz.prog 126 [.pointer (some ⟨b0, 0, none⟩), .agg #[.int .i64 n'.Ab, str n'.Ac, .slice af n'.Aa.length ag, .int .i64 n'.Ad], .slice aq n2 ar] K [Cells b0 171 [.int .i64 c.line, qc9 87 c.err]] (fun v K' H' => v = .int .i64 r.1 ∧ H' = [Cells b0 171 [.int .i64 r.2.line, qc9 87 r.2.err]]) := by
 intro n
 induction n with
 | zero =>
   intro c n' env b0 af ag aq ar n2 K r hm hX
   rw [JE.eq_1] at hm; cases hm
 | succ n ih =>
   intro c n' env b0 af ag aq ar n2 K r hm hX
   obtain ⟨aj, bj, bz⟩ := hX
   subst bz
   refine Fn.enter Tryz.func126 Tryz.call126 rfl fun F => ?_
   rw [JE.eq_2] at hm
   refine qaq ?_
   intro b4
   refine fa rfl (ro (ld r0 rfl rfl (ro (qai rfl ?_))))
   obtain ⟨bw, hm⟩ := qa2 hm
   obtain ⟨s0, aN, hm⟩ := bnd hm
   refine qnk eN 3 1 ?_
   refine lD (σ := ((List Int) × Int × Err) × Option Addr × Nat) ([6,7,9] ++ rg 15 17) [1, 3] (fun i0 => [(15, .int .i64 (i0 : Int))]) (fun (t0, aL, aM) => [(7, .slice aL t0.1.length aM)]) (fun (t0, aL, aM) => [OwnL eN aL 3 1 aM t0.1, Cells b0 171 [.int .i64 t0.2.1, qc9 87 t0.2.2]]) (fun (t0, aL, aM) => (0 < t0.1.length → Has aL) ∧ True) (fun i0 (t0, aL, aM) => JK (JE n) env (n'.Aa.drop i0) i0 t0.1 t0.2.1 t0.2.2 = some s0) (fun (t0, aL, aM) => s0 = Fl.go t0) (fun i0 => n'.Aa.length - i0) 0 ((_, _, _), _, _) aN (And.intro qe (And.intro ?_ ?_))
   clear aN
   rintro i0 ⟨⟨ac, bm, bC⟩, aZ, aY⟩ ⟨aW, _⟩ aN j0
   dsimp only at aN ⊢
   refine qae rfl ?_
   refine qag ?_ ?_ <;> intro w0
   obtain ⟨e0, aS, bu⟩ := ltx w0
   rw [bu, JK.eq_2] at aN
   refine qal rfl ?_
   refine RStep.ofN (qac rfl rfl (qcl aj.rd aS) (nn _) (qbq aS) ?_)
   obtain ⟨bp, bA, aT, aU, aV⟩ := LiR.get aj.rd aS
   obtain ⟨a8, bg, rfl, bb⟩ := Ja.out aV
   refine ro (qaj i0 _ aT rfl aU rfl ?_)
   refine qao rfl fun b9 => ?_
   refine qab r0 rfl ⟨rfl, rfl, (nl rfl), ?_⟩
   refine ro (qah r0 rfl (nl rfl) ?_)
   refine cb aN fun ba bt aN => cgx (ih bt :) ?_
   refine bsO (len := 1) (enc := eN) (l := [ba.1]) (cl := [.int .i64 ba.1]) qll rfl rfl (fun _ _ => rfl) rfl rfl rfl ?_ fun bH => ?_
   · conv => whnf
     refine cT ?_
     first | done | rfl
   obtain ⟨bv, aN⟩ := qa2 aN
   refine apE rfl r3 qll (qa5 rfl r0 rfl (fun _ => rfl) (fun _ => rfl)) bv ?_
   intro bO bJ bI
   refine qaf (fa rfl (ro (ld r2 rfl rfl (qbh rfl ?_))))
   refine cs rfl rfl aN ?_ ?_ <;> intro bL aN
   exact eE (er aN hm)
   refine qap (qcf aS bw) ?_
   exact eR aN (_, (_, _, _), _, _)
   rw [lty w0, JK.eq_1] at aN
   refine cT ?_
   exact eM aN (_, _, _)
   rintro ⟨t0, aL, aM⟩ ⟨bf, _⟩ rfl j0
   replace hm := elg hm
   refine fa rfl (ro (ld r2 rfl rfl ?_))
   refine qal rfl ?_
   refine qad (cs rfl rfl hm ?_ ?_) <;> intro bM hm
   exact eE hm
   refine qad (cs rfl rfl hm ?_ ?_) <;> intro bU hm
   exact eE hm
   refine qad (cs rfl rfl hm ?_ ?_) <;> intro bR hm
   exact eE hm
   refine qad (cs rfl rfl hm ?_ ?_) <;> intro bS hm
   refine fa rfl (ro (ld r2 rfl rfl ?_))
   refine cb hm fun bP bB hm => cgx (Jcr bB :) ?_
   refine qad (cs rfl rfl hm ?_ ?_) <;> intro bW hm
   refine ro (qah r2 rfl (nl rfl) ?_)
   refine qa4 rfl ?_
   refine cb hm fun bK bD hm => cgx (J7 bD :) ?_
   exact eE hm
   exact eE hm
   refine qad (cs rfl rfl hm ?_ ?_) <;> intro bQ hm
   refine ro (qah r2 rfl (nl rfl) ?_)
   refine cb hm fun bG bo hm => ck0 (Fn.lend Tryz.call138 (fun aX aR aQ => (Jch (c := (⟨t0.2.1, t0.2.2⟩ : Jn)) (n' := n') bo ⟨(LiC.mono Ja.R_ok aR aj), aQ, rfl⟩)) (by exact fun _ _ _ _ h => h)) ?_
   rintro _ _ _ ⟨_, rfl, rfl, rfl⟩
   exact eE hm
   refine ro (qah r2 rfl (nl rfl) ?_)
   refine cb hm fun bT bF hm => ck0 (Fn.lend Tryz.call139 (fun bh aO aP => (JcH (n' := n') bF ⟨(LiC.mono Ja.R_ok aO aj), aP, rfl⟩)) (by exact fun _ _ _ _ h => h)) ?_
   rintro _ _ _ ⟨_, rfl, rfl, rfl⟩
   refine qad (cs rfl rfl hm ?_ ?_) <;> intro bN hm
   refine ro (qah r2 rfl (nl rfl) ?_)
   refine qa4 rfl ?_
   refine cb hm fun bV bn hm => cgx (J7 bn :) ?_
   exact eE hm
   exact eE hm

def JbG (n' : Ja) : Option (Int) :=
  if decide (n'.Ab = 2) then
  some 3
  else
  if decide (n'.Ab = 4) then
  some 1
  else
  if decide (n'.Ab = 5) then
  some 1
  else
  if decide (n'.Ab = 7) then
  some 1
  else
  if decide (n'.Ab = 8) then
  some 2
  else
  if decide (n'.Ab = 9) then
  some 2
  else
  some 0
theorem Jel {n' : Ja} {aa : Option Addr} {ab : Nat} {K : Hp} {r : Int}
    (hm : JbG n' = some r) (ae : LiC Ja.R K aa ab 4 n'.Aa) :
    Fn Tryz.prog 127 [.agg #[.int .i64 n'.Ab, str n'.Ac, .slice aa n'.Aa.length ab, .int .i64 n'.Ad]] K [] (fun v K' H' => v = .int .i64 r ∧ H' = []) := by
 refine Fn.enter Tryz.func127 Tryz.call127 rfl fun F => ?_
 unfold JbG at hm
 refine qaq ?_
 intro b1
 refine fa rfl (ro (ld r0 rfl rfl ?_))
 refine qal rfl ?_
 refine qad (cs rfl rfl hm ?_ ?_) <;> intro w5 hm
 exact eE hm
 refine qad (cs rfl rfl hm ?_ ?_) <;> intro w7 hm
 refine qae rfl (ct w7 ?_)
 exact eE hm
 refine qad (cs rfl rfl hm ?_ ?_) <;> intro w7 hm
 refine qae rfl (ct w7 ?_)
 exact eE hm
 refine qad (cs rfl rfl hm ?_ ?_) <;> intro w7 hm
 exact eE hm
 refine qad (cs rfl rfl hm ?_ ?_) <;> intro aL hm
 refine qae rfl (ct aL ?_)
 exact eE hm
 refine qad (cs rfl rfl hm ?_ ?_) <;> intro aL hm
 exact eE hm
 exact eE hm

def JaR (n : Nat) (name : Str) (env : (List Jk)) : Option (Bool) :=
  (JaX n name env).bind fun x7 =>
  some (decide (x7 ≠ 0))
theorem JcI {n : Nat} {name : Str} {env : (List Jk)} {af : Option Addr} {ag : Nat} {n1 : Nat} {K : Hp} {r : Bool}
    (hm : JaR n name env = some r) (hX : RdC Jk.enc K af ag 2 env ∧ n1 = env.length) :
    Fn Tryz.prog 129 [str name, .slice af n1 ag] K [] (fun v K' H' => v = .bool r ∧ H' = []) := by
 obtain ⟨aj, aL⟩ := hX
 subst aL
 refine Fn.enter Tryz.func129 Tryz.call129 rfl fun F => ?_
 unfold JaR at hm
 refine cb hm fun x7 q7 hm => cgx (Jcr q7 :) ?_
 refine qbd ?_
 exact eE hm

def Jae (env : (List Jk)) (name : Str) (t : Int) : Option ((List Jk)) :=
  (chk (InI ((env.length : Int) + 1))).bind fun _ =>
  (chk ((0 : Int) ≤ ((env.length : Int) + 1) ∧ ((env.length : Int) + 1) ≤ (lim : Int))).bind fun _ =>
  (chk (([] : List Jk).length + env.length ≤ lim)).bind fun _ =>
  (chk ((([] : List Jk) ++ env).length + [(⟨name, t⟩ : Jk)].length ≤ lim)).bind fun _ =>
  some ((([] : List Jk) ++ env) ++ [(⟨name, t⟩ : Jk)])
theorem Jbn {env : (List Jk)} {name : Str} {t : Int} {aa : Option Addr} {ab : Nat} {n0 : Nat} {K : Hp} {r : (List Jk)}
    (hm : Jae env name t = some r) (hX : RdC Jk.enc K aa ab 2 env ∧ n0 = env.length) :
    Fn Tryz.prog 98 [.slice aa n0 ab, str name, .int .i64 t] K [] (fun v K' H' => ∃ ar_0 : Option Addr, ∃ cr_0 : Nat, v = .slice ar_0 r.length cr_0 ∧ (0 < r.length → Has ar_0) ∧ H' = [OwnL Jk.enc ar_0 233 2 cr_0 r]) := by
 obtain ⟨ae, aO⟩ := hX
 subst aO
 refine Fn.enter Tryz.func98 Tryz.call98 rfl fun F => ?_
 unfold Jae at hm
 refine ro (qai rfl ?_)
 refine ci hm fun hm => ?_
 obtain ⟨aN, hm⟩ := qa2 hm
 refine quu (enc := Jk.enc) qlm rfl aN fun aS => ?_
 obtain ⟨aM, hm⟩ := qa2 hm
 refine apE rfl r0 qlm (qy4 rfl ae.rd rfl) aM ?_
 intro aP aW aV
 refine qam rfl rfl (cT (cT ?_))
 refine bsO (len := 1) (enc := Jk.enc) (l := [(⟨name, t⟩ : Jk)]) (cl := [str name, .int .i64 t]) qlm rfl rfl (fun _ _ => rfl) rfl rfl rfl ?_ fun aQ => ?_
 · conv => whnf
   refine cT ?_
   first | done | rfl
 obtain ⟨aL, hm⟩ := qa2 hm
 refine apE rfl r1 qlm (qa5 rfl r0 rfl (fun _ => rfl) (fun _ => rfl)) aL ?_
 intro aR aT aU
 exact eE hm

def Jax (n' : Ja) : Option ((List Ja)) :=
  if decide (n'.Ab = 12) then
  some n'.Aa
  else
  some [n']
theorem JbU {n' : Ja} {aa : Option Addr} {ab : Nat} {K : Hp} {r : (List Ja)}
    (hm : Jax n' = some r) (ae : LiC Ja.R K aa ab 4 n'.Aa) :
    Fn Tryz.prog 99 [.agg #[.int .i64 n'.Ab, str n'.Ac, .slice aa n'.Aa.length ab, .int .i64 n'.Ad]] K [] (fun v K' H' => ∃ ar_0 : Option Addr, ∃ cr_0 : Nat, v = .slice ar_0 r.length cr_0 ∧ LiC Ja.R K' ar_0 cr_0 4 r ∧ H' = []) := by
 refine Fn.enter Tryz.func99 Tryz.call99 rfl fun F => ?_
 unfold Jax at hm
 refine qaq ?_
 intro b1
 refine fa rfl (ro (ld r0 rfl rfl (qad ?_)))
 refine cs rfl rfl hm ?_ ?_ <;> intro w5 hm
 refine fa rfl (ro (ld r0 rfl rfl ?_))
 exact eE hm
 refine ro (qah r0 rfl (nl rfl) ?_)
 refine qz8 (R := Ja.R) (len := 1) (l := [n']) (css := [[.int .i64 n'.Ab, str n'.Ac, .slice aa n'.Aa.length ab, .int .i64 n'.Ad]]) (cl := [.int .i64 n'.Ab, str n'.Ac, .slice aa n'.Aa.length ab, .int .i64 n'.Ad]) Ja.R_ok qt9 rfl rfl (LR.snoc LR.nil (Ja.of (x := n') ⟨aa, ab, rfl, ae⟩)) rfl rfl rfl ?_ fun b9 => ?_
 · conv => whnf
   refine cT ?_
   first | done | rfl
 refine qAg Ja.R_ok r0 (show LR Ja.R _ [[.int .i64 n'.Ab, str n'.Ac, .slice aa n'.Aa.length ab, .int .i64 n'.Ad]] [n'] from (LR.snoc LR.nil (Ja.of (x := n') ⟨aa, ab, rfl, ae⟩))) fun aM aL aN => ?_
 exact eE hm

def Jy (rec_ : (Jn → (List Ja) → (List Jk) → Option (Jn))) (ac : (List Jk)) : List Ja → Nat → Int → Err → Option (Int × Err)
  | [], _, aL, aM => some (aL, aM)
  | e3 :: aP, i3, aL, aM =>
    (Jax e3).bind fun aO =>
    (rec_ (⟨aL, aM⟩ : Jn) aO ac).bind fun aN =>
    Jy rec_ ac aP (i3 + 1) aN.line aN.err
def Jr (n : Nat) (rec_ : (Jn → (List Ja) → (List Jk) → Option (Jn))) : List Ja → Nat → (List Jk) → Int → Err → Option (Fl (Jn) ((List Jk) × Int × Err))
  | [], _, ac, aQ, aO => some (Fl.go (ac, aQ, aO))
  | e0 :: aP, i0, ac, aQ, aO =>
    if decide ((e0.Aa.length : Int) = 0) then
    Jr n rec_ aP (i0 + 1) ac aQ aO
    else
    (ix e0.Aa 0).bind fun aU =>
    (JE n (⟨aQ, aO⟩ : Jn) aU ac).bind fun aL =>
    (JbG e0).bind fun aT =>
    if ((aL.2.err.isNone && decide (aT ≠ 0)) && decide (aL.1 ≠ aT)) then
    (JH aL.2 e0 (some 9)).bind fun aM =>
    if aM.err.isSome then
    some (Fl.ret aM)
    else
    if decide (e0.Ab = 3) then
    (JaR n e0.Ac ac).bind fun aS =>
    if aS then
    (JH aM e0 (some 4)).bind fun aN =>
    (Jae ac e0.Ac aL.1).bind fun aR =>
    if aN.err.isSome then
    some (Fl.ret aN)
    else
    Jr n rec_ aP (i0 + 1) aR aN.line aN.err
    else
    (Jae ac e0.Ac aL.1).bind fun aR =>
    if aM.err.isSome then
    some (Fl.ret aM)
    else
    Jr n rec_ aP (i0 + 1) aR aM.line aM.err
    else
    if decide (e0.Ab = 2) then
    (chk (0 ≤ (1 : Int) ∧ (1 : Int) ≤ (e0.Aa.length : Int) ∧ (e0.Aa.length : Int) ≤ (e0.Aa.length : Int))).bind fun _ =>
    (chk ((subL e0.Aa (1 : Int) (e0.Aa.length : Int)).length ≤ qau)).bind fun _ =>
    (Jy rec_ ac (subL e0.Aa (1 : Int) (e0.Aa.length : Int)) 0 aM.line aM.err).bind fun t3 =>
    if t3.2.isSome then
    some (Fl.ret (⟨t3.1, t3.2⟩ : Jn))
    else
    Jr n rec_ aP (i0 + 1) ac t3.1 t3.2
    else
    if aM.err.isSome then
    some (Fl.ret aM)
    else
    Jr n rec_ aP (i0 + 1) ac aM.line aM.err
    else
    if aL.2.err.isSome then
    some (Fl.ret aL.2)
    else
    if decide (e0.Ab = 3) then
    (JaR n e0.Ac ac).bind fun aS =>
    if aS then
    (JH aL.2 e0 (some 4)).bind fun aN =>
    (Jae ac e0.Ac aL.1).bind fun aR =>
    if aN.err.isSome then
    some (Fl.ret aN)
    else
    Jr n rec_ aP (i0 + 1) aR aN.line aN.err
    else
    (Jae ac e0.Ac aL.1).bind fun aR =>
    if aL.2.err.isSome then
    some (Fl.ret aL.2)
    else
    Jr n rec_ aP (i0 + 1) aR aL.2.line aL.2.err
    else
    if decide (e0.Ab = 2) then
    (chk (0 ≤ (1 : Int) ∧ (1 : Int) ≤ (e0.Aa.length : Int) ∧ (e0.Aa.length : Int) ≤ (e0.Aa.length : Int))).bind fun _ =>
    (chk ((subL e0.Aa (1 : Int) (e0.Aa.length : Int)).length ≤ qau)).bind fun _ =>
    (Jy rec_ ac (subL e0.Aa (1 : Int) (e0.Aa.length : Int)) 0 aL.2.line aL.2.err).bind fun t3 =>
    if t3.2.isSome then
    some (Fl.ret (⟨t3.1, t3.2⟩ : Jn))
    else
    Jr n rec_ aP (i0 + 1) ac t3.1 t3.2
    else
    if aL.2.err.isSome then
    some (Fl.ret aL.2)
    else
    Jr n rec_ aP (i0 + 1) ac aL.2.line aL.2.err
def Jx : Nat → Jn → (List Ja) → (List Jk) → Option (Jn)
  | 0, _, _, _ => none
  | n + 1, c, list, env =>
    (chk (list.length ≤ qau)).bind fun _ =>
    (Jr n (Jx n) list 0 env c.line c.err).bind fun s0 => s0.el some fun t0 =>
    some (⟨t0.2.1, t0.2.2⟩ : Jn)
theorem Jc2 : ∀ {n : Nat} {c : Jn} {list : (List Ja)} {env : (List Jk)} {b0 : Nat} {af : Option Addr} {ag : Nat} {n1 : Nat} {aq : Option Addr} {ar : Nat} {n2 : Nat} {K : Hp} {r : Jn}
    (hm : Jx n c list env = some r) (hX : LiC Ja.R K af ag 4 list ∧ n1 = list.length ∧ RdC Jk.enc K aq ar 2 env ∧ n2 = env.length),
    Fn Tryz.prog 85 [.pointer (some ⟨b0, 0, none⟩), .slice af n1 ag, .slice aq n2 ar] K [Cells b0 171 [.int .i64 c.line, qc9 87 c.err]] (fun v K' H' => v = .tuple #[] ∧ H' = [Cells b0 171 [.int .i64 r.line, qc9 87 r.err]]) := by
 intro n
 induction n with
 | zero =>
   intro c list env b0 af ag n1 aq ar n2 K r hm hX
   rw [Jx.eq_1] at hm; cases hm
 | succ n ih =>
   intro c list env b0 af ag n1 aq ar n2 K r hm hX
   obtain ⟨aj, cW, ca, cJ⟩ := hX
   subst cW
   subst cJ
   refine Fn.enter Tryz.func85 Tryz.call85 rfl fun F => ?_
   rw [Jx.eq_2] at hm
   refine ro (qai rfl ?_)
   obtain ⟨ba, hm⟩ := qa2 hm
   obtain ⟨s0, aL, hm⟩ := bnd hm
   refine lC (σ := ((List Jk) × Int × Err) × Option Addr × Nat) ([2,7,8,9,11] ++ rg 14 79) [1] (fun i0 => [(14, .int .i64 (i0 : Int))]) (fun (t0, aP, aQ) => [(2, .slice aP t0.1.length aQ)]) (fun (t0, aP, aQ) => [Cells b0 171 [.int .i64 t0.2.1, qc9 87 t0.2.2]]) (fun zz K1 => match zz with | (t0, aP, aQ) => RdC Jk.enc K1 aP aQ 2 t0.1 ∧ True) (fun i0 (t0, aP, aQ) => Jr n (Jx n) (list.drop i0) i0 t0.1 t0.2.1 t0.2.2 = some s0) (fun (t0, aP, aQ) => s0 = Fl.go t0) (fun i0 => list.length - i0) 0 ((_, _, _), _, _) aL (And.intro qe (And.intro ?_ ?_))
   clear aL
   rintro i0 ⟨⟨ac, cp, cQ⟩, bX, bU⟩ cY cj ⟨bT, _⟩ aL j0
   dsimp only at aL ⊢
   refine qae rfl ?_
   refine qag ?_ ?_ <;> intro w0
   obtain ⟨e0, aS, cA⟩ := ltx w0
   rw [cA, Jr.eq_2] at aL
   refine qal rfl ?_
   refine RStep.ofN (qac rfl rfl (qcl (LiC.mono Ja.R_ok cj aj).rd aS) (nn _) (qbq aS) ?_)
   obtain ⟨cR, cP, bG, bD, bz⟩ := LiR.get (LiC.mono Ja.R_ok cj aj).rd aS
   obtain ⟨bW, ce, rfl, aR⟩ := Ja.out bz
   refine ro (qaj i0 _ bG rfl bD rfl ?_)
   refine qao rfl fun b7 => ?_
   refine qab r0 rfl ⟨rfl, rfl, (nl rfl), ?_⟩
   refine fa rfl (ro (ld r0 rfl rfl (ro (qai rfl (qad ?_)))))
   refine cs rfl rfl aL ?_ ?_ <;> intro cZ aL
   refine cT (qap (qcf aS ba) ?_)
   exact eR aL (_, (_, _, _), _, _)
   refine fa rfl (ro (ld r0 rfl rfl ?_))
   obtain ⟨c6, cm, bw, aL⟩ := ixb aL
   refine RStep.ofN (qac rfl rfl (qcl aR.rd bw) cm (qax rfl cm bw) ?_)
   obtain ⟨cB, cD, bK, bO, bB⟩ := LiR.get aR.rd bw
   obtain ⟨bY, bV, rfl, cd⟩ := Ja.out bB
   refine ro (qaj ((0 : Int).toNat) _ bK rfl bO rfl ?_)
   refine cb aL fun bF cz aL => cgx (Jdb cz :) ?_
   refine ro (qah r1 rfl (nl rfl) ?_)
   refine cb aL fun bP cu aL => cgx (Jel cu :) ?_
   refine jR (σ := Unit) (rg 31 14) (fun _ => [(44, .bool ((bF.2.err.isNone && decide (bP ≠ 0)) && decide (bF.1 ≠ bP)))]) (fun cU => True) ?_ ?_
   refine qak rfl ?_
   refine qaf (fa rfl (ro (ld r0 rfl rfl (qft rfl ?_))))
   refine qag ?_ ?_ <;> intro aO
   refine ct aO (qbd (ct aO ?_))
   refine qag ?_ ?_ <;> intro aM
   refine ct aM (ct aM (qbd (ct aM ?_)))
   exact eMt () ⟨bq (qdp (b := decide (bF.1 ≠ bP)) (qb7 aO aM)), trivial⟩
   refine cf aM (cf aM (cf aM ?_))
   exact eMt () ⟨bq (((qaz (qcx aO aM))).symm), trivial⟩
   refine cf aO (cf aO (cF (cF (cF (cF ?_)))))
   exact eMt () ⟨bq (((qaz (qaz aO))).symm), trivial⟩
   rintro _ _ cw
   refine cs rfl rfl aL ?_ ?_ <;> intro c8 aL
   refine ro (qah r1 rfl (nl rfl) ?_)
   refine qa4 rfl ?_
   refine cb aL fun c9 cO aL => cgx (J7 cO :) ?_
   refine qaf (fa rfl (ro (ld r0 rfl rfl (qbh rfl ?_))))
   refine cs rfl rfl aL ?_ ?_ <;> intro cG aL
   exact eE (er aL hm)
   refine fa rfl (ro (ld r1 rfl rfl ?_))
   refine qal rfl ?_
   refine qad (cs rfl rfl aL ?_ ?_) <;> intro cn aL
   refine fa rfl (ro (ld r1 rfl rfl ?_))
   refine cb aL fun cL bS aL => cgx (JcI bS :) ?_
   refine cs rfl rfl aL ?_ ?_ <;> intro cI aL
   refine ro (qah r1 rfl (nl rfl) ?_)
   refine qa4 rfl ?_
   refine cb aL fun cM bM aL => cgx (J7 bM :) ?_
   refine fa rfl (ro (ld r1 rfl rfl ?_))
   refine cb aL fun bA bf aL => ckx (Jbn bf :) ?_
   rintro _ _ _ ⟨aW, aU, rfl, aY, rfl⟩
   refine qaf (fa rfl (ro (ld r1 rfl rfl (qbh rfl ?_))))
   refine cs rfl rfl aL ?_ ?_ <;> intro bg aL
   exact eE (er aL hm)
   refine qap (qcf aS ba) ?_
   refine fRo r0 fun aZ aT aX => ?_
   exact eR aL (_, (_, _, _), _, _)
   refine fa rfl (ro (ld r1 rfl rfl ?_))
   refine cb aL fun bA bf aL => ckx (Jbn bf :) ?_
   rintro _ _ _ ⟨aW, aU, rfl, aY, rfl⟩
   refine qaf (fa rfl (ro (ld r1 rfl rfl (qbh rfl ?_))))
   refine cs rfl rfl aL ?_ ?_ <;> intro bg aL
   exact eE (er aL hm)
   refine qap (qcf aS ba) ?_
   refine fRo r0 fun aZ aT aX => ?_
   exact eR aL (_, (_, _, _), _, _)
   refine qad (cs rfl rfl aL ?_ ?_) <;> intro cr aL
   refine fa rfl (ro (ld r1 rfl rfl ?_))
   obtain ⟨bm, aL⟩ := qa2 aL
   have aV := aR.subC bm
   refine RStep.ofN (qta (l := e0.Aa) (lo := (some 1)) (hi := none) (lo' := (1 : Int)) (hi' := (e0.Aa.length : Int)) rfl rfl rfl rfl rfl aR.le bm (ro (qai rfl ?_)))
   obtain ⟨bI, aL⟩ := qa2 aL
   obtain ⟨s3, aN, aL⟩ := bnd aL
   refine lD (σ := (Int × Err)) ([11] ++ rg 77 10) [1, 2] (fun i3 => [(77, .int .i64 (i3 : Int))]) (fun _ => []) (fun t3 => [Cells b0 171 [.int .i64 t3.1, qc9 87 t3.2]]) (fun _ => True) (fun i3 t3 => Jy (Jx n) ac ((subL e0.Aa (1 : Int) (e0.Aa.length : Int)).drop i3) i3 t3.1 t3.2 = some s3) (fun t3 => t3 = s3) (fun i3 => (subL e0.Aa (1 : Int) (e0.Aa.length : Int)).length - i3) 0 (_, _) aN (And.intro qe (And.intro ?_ ?_))
   clear aN
   rintro i3 ⟨bR, bH⟩ _ aN j3
   dsimp only at aN ⊢
   refine qae rfl ?_
   refine qag ?_ ?_ <;> intro w3
   obtain ⟨e3, a8, bC⟩ := ltx w3
   rw [bC, Jy.eq_2] at aN
   refine qal rfl ?_
   refine RStep.ofN (qac rfl rfl (qcl aV.rd a8) (nn _) (qbq a8) ?_)
   obtain ⟨bL, bQ, bj, bh, bb⟩ := LiR.get aV.rd a8
   obtain ⟨bu, bt, rfl, bv⟩ := Ja.out bb
   refine ro (qaj i3 _ bj rfl bh rfl ?_)
   refine qao rfl fun cC => ?_
   refine qab r0 rfl ⟨rfl, rfl, (nl rfl), ?_⟩
   refine ro (qah r0 rfl (nl rfl) ?_)
   refine cb aN fun cK bN aN => cfx (JbU bN :) ?_
   rintro _ cV _ cH ⟨bp, bo, rfl, bn, rfl⟩
   refine cb aN fun cq bJ aN => cgx (ih bJ :) ?_
   refine qap (qcf a8 bI) ?_
   exact eR aN (_, (_, _))
   rw [lty w3, Jy.eq_1] at aN
   refine cT ?_
   exact eM aN _
   rintro t3 _ rfl j3
   refine qaf (fa rfl (ro (ld r0 rfl rfl (qbh rfl ?_))))
   refine cs rfl rfl aL ?_ ?_ <;> intro bg aL
   exact eE (er aL hm)
   refine qap (qcf aS ba) ?_
   exact eR aL (_, (_, _, _), _, _)
   refine qaf (fa rfl (ro (ld r0 rfl rfl (qbh rfl ?_))))
   refine cs rfl rfl aL ?_ ?_ <;> intro bg aL
   exact eE (er aL hm)
   refine qap (qcf aS ba) ?_
   exact eR aL (_, (_, _, _), _, _)
   refine qaf (fa rfl (ro (ld r0 rfl rfl (qbh rfl ?_))))
   refine cs rfl rfl aL ?_ ?_ <;> intro cG aL
   exact eE (er aL hm)
   refine fa rfl (ro (ld r1 rfl rfl ?_))
   refine qal rfl ?_
   refine qad (cs rfl rfl aL ?_ ?_) <;> intro cn aL
   refine fa rfl (ro (ld r1 rfl rfl ?_))
   refine cb aL fun cL bS aL => cgx (JcI bS :) ?_
   refine cs rfl rfl aL ?_ ?_ <;> intro cI aL
   refine ro (qah r1 rfl (nl rfl) ?_)
   refine qa4 rfl ?_
   refine cb aL fun cM bM aL => cgx (J7 bM :) ?_
   refine fa rfl (ro (ld r1 rfl rfl ?_))
   refine cb aL fun bA bf aL => ckx (Jbn bf :) ?_
   rintro _ _ _ ⟨aW, aU, rfl, aY, rfl⟩
   refine qaf (fa rfl (ro (ld r1 rfl rfl (qbh rfl ?_))))
   refine cs rfl rfl aL ?_ ?_ <;> intro bg aL
   exact eE (er aL hm)
   refine qap (qcf aS ba) ?_
   refine fRo r0 fun aZ aT aX => ?_
   exact eR aL (_, (_, _, _), _, _)
   refine fa rfl (ro (ld r1 rfl rfl ?_))
   refine cb aL fun bA bf aL => ckx (Jbn bf :) ?_
   rintro _ _ _ ⟨aW, aU, rfl, aY, rfl⟩
   refine qaf (fa rfl (ro (ld r1 rfl rfl (qbh rfl ?_))))
   refine cs rfl rfl aL ?_ ?_ <;> intro bg aL
   exact eE (er aL hm)
   refine qap (qcf aS ba) ?_
   refine fRo r0 fun aZ aT aX => ?_
   exact eR aL (_, (_, _, _), _, _)
   refine qad (cs rfl rfl aL ?_ ?_) <;> intro cr aL
   refine fa rfl (ro (ld r1 rfl rfl ?_))
   obtain ⟨bm, aL⟩ := qa2 aL
   have aV := aR.subC bm
   refine RStep.ofN (qta (l := e0.Aa) (lo := (some 1)) (hi := none) (lo' := (1 : Int)) (hi' := (e0.Aa.length : Int)) rfl rfl rfl rfl rfl aR.le bm (ro (qai rfl ?_)))
   obtain ⟨bI, aL⟩ := qa2 aL
   obtain ⟨s3, aN, aL⟩ := bnd aL
   refine lD (σ := (Int × Err)) ([11] ++ rg 77 10) [1, 2] (fun i3 => [(77, .int .i64 (i3 : Int))]) (fun _ => []) (fun t3 => [Cells b0 171 [.int .i64 t3.1, qc9 87 t3.2]]) (fun _ => True) (fun i3 t3 => Jy (Jx n) ac ((subL e0.Aa (1 : Int) (e0.Aa.length : Int)).drop i3) i3 t3.1 t3.2 = some s3) (fun t3 => t3 = s3) (fun i3 => (subL e0.Aa (1 : Int) (e0.Aa.length : Int)).length - i3) 0 (_, _) aN (And.intro qe (And.intro ?_ ?_))
   clear aN
   rintro i3 ⟨bR, bH⟩ _ aN j3
   dsimp only at aN ⊢
   refine qae rfl ?_
   refine qag ?_ ?_ <;> intro w3
   obtain ⟨e3, a8, bC⟩ := ltx w3
   rw [bC, Jy.eq_2] at aN
   refine qal rfl ?_
   refine RStep.ofN (qac rfl rfl (qcl aV.rd a8) (nn _) (qbq a8) ?_)
   obtain ⟨bL, bQ, bj, bh, bb⟩ := LiR.get aV.rd a8
   obtain ⟨bu, bt, rfl, bv⟩ := Ja.out bb
   refine ro (qaj i3 _ bj rfl bh rfl ?_)
   refine qao rfl fun cC => ?_
   refine qab r0 rfl ⟨rfl, rfl, (nl rfl), ?_⟩
   refine ro (qah r0 rfl (nl rfl) ?_)
   refine cb aN fun cK bN aN => cfx (JbU bN :) ?_
   rintro _ cV _ cH ⟨bp, bo, rfl, bn, rfl⟩
   refine cb aN fun cq bJ aN => cgx (ih bJ :) ?_
   refine qap (qcf a8 bI) ?_
   exact eR aN (_, (_, _))
   rw [lty w3, Jy.eq_1] at aN
   refine cT ?_
   exact eM aN _
   rintro t3 _ rfl j3
   refine qaf (fa rfl (ro (ld r0 rfl rfl (qbh rfl ?_))))
   refine cs rfl rfl aL ?_ ?_ <;> intro bg aL
   exact eE (er aL hm)
   refine qap (qcf aS ba) ?_
   exact eR aL (_, (_, _, _), _, _)
   refine qaf (fa rfl (ro (ld r0 rfl rfl (qbh rfl ?_))))
   refine cs rfl rfl aL ?_ ?_ <;> intro bg aL
   exact eE (er aL hm)
   refine qap (qcf aS ba) ?_
   exact eR aL (_, (_, _, _), _, _)
   rw [lty w0, Jr.eq_1] at aL
   refine cT ?_
   exact eM aL (_, _, _)
   rintro ⟨t0, aP, aQ⟩ c5 cX ⟨bZ, _⟩ rfl j0
   replace hm := elg hm
   exact eE hm

def JbH (n : Nat) (program : Ja) : Option (Int × Err) :=
  (Jah n program).bind fun x6 =>
  if (!x6) then
  some (0, (some 2))
  else
  (Jx n (⟨0, none⟩ : Jn) program.Aa []).bind fun aL =>
  some (aL.line, aL.err)
theorem Jdc {n : Nat} {program : Ja} {aa : Option Addr} {ab : Nat} {K : Hp} {r : Int × Err}
    (hm : JbH n program = some r) (hX : LiC Ja.R K aa ab 4 program.Aa ∧ GG K) :
    Fn Tryz.prog 51 [.agg #[.int .i64 program.Ab, str program.Ac, .slice aa program.Aa.length ab, .int .i64 program.Ad]] K [] (fun v K' H' => v = .tuple #[.int .i64 r.1, qc9 87 r.2] ∧ H' = []) := by
 obtain ⟨ae, hG⟩ := hX
 refine Fn.enter Tryz.func51 Tryz.call51 rfl fun F => ?_
 unfold JbH at hm
 refine qaq ?_
 intro b1
 refine ro (qah r0 rfl (nl rfl) ?_)
 refine cb hm fun x6 q6 hm => cgx (Jek q6 :) ?_
 refine qay ?_
 refine cs rfl rfl hm ?_ ?_ <;> intro w7 hm
 refine qa4 rfl ?_
 exact eE hm
 refine qam rfl rfl ?_
 refine qaq ?_
 intro aN
 refine fa rfl (ro (ld r1 rfl rfl ?_))
 refine cb hm fun aM aL hm => cgx (Jc2 aL :) ?_
 refine qa6 ⟨⟨[], false⟩, _, [(_, _)], []⟩ (by kernel_rfl) ⟨Hp.Le.refl _, (pf rfl), ci0⟩ ?_
 refine qaf (fa rfl (qan m0 rfl rfl (qaf (fa rfl (qan m0 rfl rfl ?_)))))
 exact eE hm

def Jd (c : Jb) (op : Int) (n' : Int) (s : Str) : Option (Int × Jb) :=
  (chk (c.code.length + [(⟨op, n', s⟩ : Jc)].length ≤ lim)).bind fun _ =>
  (chk (InI ((((c.code ++ [(⟨op, n', s⟩ : Jc)]).length) : Int) - 1))).bind fun _ =>
  some (((((c.code ++ [(⟨op, n', s⟩ : Jc)]).length) : Int) - 1), (⟨(c.code ++ [(⟨op, n', s⟩ : Jc)]), c.names, c.Ap⟩ : Jb))
theorem Jh {c : Jb} {op : Int} {n' : Int} {s : Str} {b0 : Nat} {aa : Option Addr} {ab : Nat} {ah : Option Addr} {ak : Nat} {K : Hp} {r : Int × Jb}
    (hm : Jd c op n' s = some r) (hX : (0 < c.code.length → Has aa) ∧ (0 < c.names.length → Has ah)) :
    Fn Tryz.prog 58 [.pointer (some ⟨b0, 0, none⟩), .int .i64 op, .int .i64 n', str s] K [Cells b0 134 [.slice aa c.code.length ab, .slice ah c.names.length ak, .int .i64 c.Ap], OwnL Jc.enc aa 54 3 ab c.code, OwnL Ji.enc ah 230 2 ak c.names] (fun v K' H' => ∃ ar_0 : Option Addr, ∃ cr_0 : Nat, ∃ ar_1 : Option Addr, ∃ cr_1 : Nat, v = .int .i64 r.1 ∧ (0 < r.2.code.length → Has ar_0) ∧ (0 < r.2.names.length → Has ar_1) ∧ H' = [Cells b0 134 [.slice ar_0 r.2.code.length cr_0, .slice ar_1 r.2.names.length cr_1, .int .i64 r.2.Ap], OwnL Jc.enc ar_0 54 3 cr_0 r.2.code, OwnL Ji.enc ar_1 230 2 cr_1 r.2.names]) := by
 obtain ⟨ae, aL⟩ := hX
 refine Fn.enter Tryz.func58 Tryz.call58 rfl fun F => ?_
 unfold Jd at hm
 refine qaf (fa rfl (ro (ld r0 rfl rfl (qam rfl rfl (cT (cT (cT ?_)))))))
 refine bsO (len := 1) (enc := Jc.enc) (l := [(⟨op, n', s⟩ : Jc)]) (cl := [.int .i64 op, .int .i64 n', str s]) qt8 rfl rfl (fun _ _ => rfl) rfl rfl rfl ?_ fun aN => ?_
 · conv => whnf
   refine cT ?_
   first | done | rfl
 obtain ⟨aM, hm⟩ := qa2 hm
 refine apE rfl r2 qt8 (qa5 rfl r0 rfl (fun _ => rfl) (fun _ => rfl)) aM ?_
 intro aO aP aQ
 refine qaf (fa rfl ?_)
 refine qab r2 rfl ⟨rfl, rfl, (nl rfl), ?_⟩
 refine qaf (fa rfl (ro (ld r0 rfl rfl (ro (qai rfl ?_)))))
 refine ci hm fun hm => ?_
 exact eE hm

def JX (c : Jb) (yes : Bool) : Option (Jb) :=
  if yes then
  (Jd c 1 0 ([] : Str)).bind fun x7 =>
  (Jd x7.2 1 0 ([] : Str)).bind fun aL =>
  (Jd aL.2 7 0 ([61, 61] : Str)).bind fun av =>
  some av.2
  else
  (Jd c 1 0 ([] : Str)).bind fun x7 =>
  (Jd x7.2 1 1 ([] : Str)).bind fun aL =>
  (Jd aL.2 7 0 ([61, 61] : Str)).bind fun av =>
  some av.2
theorem Jbx {c : Jb} {yes : Bool} {b0 : Nat} {aa : Option Addr} {ab : Nat} {ah : Option Addr} {ak : Nat} {K : Hp} {r : Jb}
    (hm : JX c yes = some r) (hX : (0 < c.code.length → Has aa) ∧ (0 < c.names.length → Has ah)) :
    Fn Tryz.prog 167 [.pointer (some ⟨b0, 0, none⟩), .bool yes] K [Cells b0 134 [.slice aa c.code.length ab, .slice ah c.names.length ak, .int .i64 c.Ap], OwnL Jc.enc aa 54 3 ab c.code, OwnL Ji.enc ah 230 2 ak c.names] (fun v K' H' => ∃ ar_0 : Option Addr, ∃ cr_0 : Nat, ∃ ar_1 : Option Addr, ∃ cr_1 : Nat, v = .tuple #[] ∧ (0 < r.code.length → Has ar_0) ∧ (0 < r.names.length → Has ar_1) ∧ H' = [Cells b0 134 [.slice ar_0 r.code.length cr_0, .slice ar_1 r.names.length cr_1, .int .i64 r.Ap], OwnL Jc.enc ar_0 54 3 cr_0 r.code, OwnL Ji.enc ar_1 230 2 cr_1 r.names]) := by
 obtain ⟨ae, bh⟩ := hX
 refine Fn.enter Tryz.func167 Tryz.call167 rfl fun F => ?_
 unfold JX at hm
 refine cs rfl rfl hm ?_ ?_ <;> intro w5 hm
 refine cb hm fun x7 q7 hm => ckx (Jh q7 :) ?_
 rintro _ _ _ ⟨bb, bf, ba, aY, rfl, a8, bg, rfl⟩
 refine cb hm fun bj aX hm => ckx (Jh aX :) ?_
 rintro _ _ _ ⟨aW, aO, aU, aQ, rfl, aS, aT, rfl⟩
 refine cb hm fun av aZ hm => ckx (Jh aZ :) ?_
 rintro _ _ _ ⟨aP, aN, aL, aR, rfl, aM, aV, rfl⟩
 exact eE hm
 refine cb hm fun x7 q7 hm => ckx (Jh q7 :) ?_
 rintro _ _ _ ⟨bb, bf, ba, aY, rfl, a8, bg, rfl⟩
 refine cb hm fun bj aX hm => ckx (Jh aX :) ?_
 rintro _ _ _ ⟨aW, aO, aU, aQ, rfl, aS, aT, rfl⟩
 refine cb hm fun av aZ hm => ckx (Jh aZ :) ?_
 rintro _ _ _ ⟨aP, aN, aL, aR, rfl, aM, aV, rfl⟩
 exact eE hm

def JZ (c : Jb) (s : Str) : Nat → Int → Option (Fl (Jb) (Int))
  | 0, _ => none
  | aM + 1, ac =>
    if decide (ac ≥ 0) then
    (ix c.names ac).bind fun aL =>
    if decide (aL.name = s) then
    (ix c.names ac).bind fun aO =>
    (Jd c 3 aO.slot ([] : Str)).bind fun aN =>
    some (Fl.ret aN.2)
    else
    (chk (InI (ac - 1))).bind fun _ =>
    JZ c s aM (ac - 1)
    else
    some (Fl.go ac)
def Ja3 (n : Nat) (c : Jb) (s : Str) : Option (Jb) :=
  (chk (InI ((c.names.length : Int) - 1))).bind fun _ =>
  (JZ c s n ((c.names.length : Int) - 1)).bind fun s0 => s0.el some fun t0 =>
  (Jd c 5 0 s).bind fun aL =>
  some aL.2
theorem Jc3 {n : Nat} {c : Jb} {s : Str} {b0 : Nat} {aa : Option Addr} {ab : Nat} {ah : Option Addr} {ak : Nat} {K : Hp} {r : Jb}
    (hm : Ja3 n c s = some r) (hX : (0 < c.code.length → Has aa) ∧ (0 < c.names.length → Has ah)) :
    Fn Tryz.prog 168 [.pointer (some ⟨b0, 0, none⟩), str s] K [Cells b0 134 [.slice aa c.code.length ab, .slice ah c.names.length ak, .int .i64 c.Ap], OwnL Jc.enc aa 54 3 ab c.code, OwnL Ji.enc ah 230 2 ak c.names] (fun v K' H' => ∃ ar_0 : Option Addr, ∃ cr_0 : Nat, ∃ ar_1 : Option Addr, ∃ cr_1 : Nat, v = .tuple #[] ∧ (0 < r.code.length → Has ar_0) ∧ (0 < r.names.length → Has ar_1) ∧ H' = [Cells b0 134 [.slice ar_0 r.code.length cr_0, .slice ar_1 r.names.length cr_1, .int .i64 r.Ap], OwnL Jc.enc ar_0 54 3 cr_0 r.code, OwnL Ji.enc ar_1 230 2 cr_1 r.names]) := by
 obtain ⟨ae, aM⟩ := hX
 refine Fn.enter Tryz.func168 Tryz.call168 rfl fun F => ?_
 unfold Ja3 at hm
 refine qaf (fa rfl (ro (ld r0 rfl rfl (ro (qai rfl ?_)))))
 refine ci hm fun hm => ?_
 obtain ⟨s0, aL, hm⟩ := bnd hm
 refine lD (σ := (Int)) ([4] ++ rg 11 24) [0, 1, 2, 3] (fun _ => []) (fun t0 => [(4, .int .i64 t0)]) (fun _ => []) (fun _ => True) (fun i0 t0 => JZ c s i0 t0 = some s0) (fun t0 => s0 = Fl.go t0) (fun i0 => i0) n _ aL (And.intro qe (And.intro ?_ ?_))
 clear aL
 rintro i0 ac _ aL j0
 conv at aL => whnf
 cases i0 with
 | zero => rw [JZ.eq_1] at aL; cases aL
 | succ i0 =>
  rw [JZ.eq_2] at aL
  refine cs rfl rfl aL ?_ ?_ <;> intro bp aL
  refine qal rfl ?_
  refine qaf (fa rfl (ro (ld r0 rfl rfl ?_)))
  obtain ⟨bn, aY, aO, aL⟩ := ixb aL
  refine RStep.ofN (qac rfl rfl (qdj aM aO) aY (qax rfl aY aO) (qa0 rfl (qdj aM aO) (ro (qc2 (i := (ac).toNat) (o := 0) r2 rfl aO rfl rfl (qat ?_)))))
  refine cs rfl rfl aL ?_ ?_ <;> intro bj aL
  refine qaf (fa rfl (ro (ld r0 rfl rfl ?_)))
  obtain ⟨bh, aW, aN, aL⟩ := ixb aL
  refine RStep.ofN (qac rfl rfl (qdj aM aN) aW (qax rfl aW aN) (qa0 rfl (qdj aM aN) (ro (qc2 (i := (ac).toNat) (o := 1) r2 rfl aN rfl rfl ?_))))
  refine cb aL fun bm bf aL => ckx (Jh bf :) ?_
  rintro _ _ _ ⟨aR, aQ, aX, aT, rfl, bb, aZ, rfl⟩
  exact eE (er aL hm)
  refine ci aL fun aL => ?_
  exact eR aL (_, _)
  refine cT ?_
  exact eM aL _
 rintro t0 _ rfl j0
 replace hm := elg hm
 refine cb hm fun bo bg hm => ckx (Jh bg :) ?_
 rintro _ _ _ ⟨aV, aU, ba, aP, rfl, aS, a8, rfl⟩
 exact eE hm
