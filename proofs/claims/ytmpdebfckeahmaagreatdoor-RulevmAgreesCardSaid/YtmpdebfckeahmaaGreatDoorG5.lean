/- Functions of the program: mirrors, and that a call returns what the mirror says. Printed by gen.py. -/
import Derived.Test.YtmpdebfckeahmaaGreatDoorG4
set_option linter.unusedVariables false
set_option linter.unusedSimpArgs false
open Go Go.SL Go.Proofs
noncomputable section
set_option maxRecDepth 1000000
set_option maxHeartbeats 8000000
def JbO (r' : Jk) (w' : Jq) : Option (Bool) :=
  (if (decide (r'.Ae = w'.Ae) && decide (r'.Af = w'.Af)) then (Jdz r'.Ag w'.Ag).bind fun aP =>
  some aP else some false).bind fun aL =>
  (if aL then (JcG r'.Vary w'.Vary).bind fun aM =>
  some aM else some false).bind fun aN =>
  (if aN then (JcG r'.Ah w'.Ah).bind fun aO =>
  some aO else some false).bind fun aQ =>
  some (((((aQ && decide (r'.TTL = w'.TTL)) && decide (r'.Ai = w'.Ai)) && decide (r'.Aj = w'.Aj)) && (r'.Ak == w'.Ak)) && (r'.Al == w'.Al))
theorem Jfq {r' : Jk} {w' : Jq} {aa : Option Addr} {ab : Nat} {af : Option Addr} {ak : Nat} {al : Option Addr} {am : Nat} {ah : Option Addr} {aj : Nat} {aD : Option Addr} {aE : Nat} {aF : Option Addr} {aG : Nat} {K : Hp} {r : Bool}
    (hm : JbO r' w' = some r) (hX : RdC Jg.enc K aa ab 2 r'.Ag ∧ RdC eS K af ak 1 r'.Vary ∧ RdC eS K al am 1 r'.Ah ∧ RdC Jo.enc K ah aj 2 w'.Ag ∧ RdC eS K aD aE 1 w'.Vary ∧ RdC eS K aF aG 1 w'.Ah) :
    Fn Tryz.prog 18 [.agg #[str r'.Ae, str r'.Af, .slice aa r'.Ag.length ab, .slice af r'.Vary.length ak, .slice al r'.Ah.length am, .int .i64 r'.TTL, .int .i64 r'.Ai, .int .i64 r'.Aj, .bool r'.Ak, .bool r'.Al], .agg #[str w'.Ae, str w'.Af, .slice ah w'.Ag.length aj, .slice aD w'.Vary.length aE, .slice aF w'.Ah.length aG, .int .i64 w'.TTL, .int .i64 w'.Ai, .int .i64 w'.Aj, .bool w'.Ak, .bool w'.Al]] K [] (fun v K' H' => v = .bool r ∧ H' = []) := by
 obtain ⟨ae, ba, a8, ag, aZ, aY⟩ := hX
 refine Fn.enter Tryz.func18 Tryz.call18 rfl fun F => ?_
 unfold JbO at hm
 refine qap ?_
 intro b2
 refine qap ?_
 intro b3
 refine qam rfl ?_
 refine fa rfl (ro (ld r1 rfl rfl (fa rfl (ro (ld r0 rfl rfl (qas ?_))))))
 refine qah ?_ ?_ <;> intro aP
 refine fa rfl (ct aP (ro (ld r1 rfl rfl (ct aP (fa rfl (ct aP (ro (ld r0 rfl rfl (ct aP ?_)))))))))
 refine qas (ct aP ?_)
 obtain ⟨bf, aW, hm⟩ := bnd hm
 refine qah ?_ ?_ <;> intro aR
 replace aW := ift (qb8 aP aR) aW
 refine fa rfl (ct aR (ro (ld r1 rfl rfl (ct aR (fa rfl (ct aR (ro (ld r0 rfl rfl (ct aR ?_)))))))))
 refine cb aW fun bm bg aW => cgx (Jfi bg :) ?_
 refine ct aR ?_
 obtain ⟨bb, aV, hm⟩ := bnd hm
 refine qah ?_ ?_ <;> intro aS
 replace aV := ift ((si aW).symm.trans aS) aV
 refine fa rfl (ct aS (ro (ld r1 rfl rfl (ct aS (fa rfl (ct aS (ro (ld r0 rfl rfl (ct aS ?_)))))))))
 refine cb aV fun bn bj aV => cgx (Jd3 bj :) ?_
 refine ct aS ?_
 obtain ⟨aX, aU, hm⟩ := bnd hm
 refine qah ?_ ?_ <;> intro aQ
 replace aU := ift ((si aV).symm.trans aQ) aU
 refine fa rfl (ct aQ (ro (ld r1 rfl rfl (ct aQ (fa rfl (ct aQ (ro (ld r0 rfl rfl (ct aQ ?_)))))))))
 refine cb aU fun bo bh aU => cgx (Jd3 bh :) ?_
 refine ct aQ ?_
 refine qah ?_ ?_ <;> intro aL
 refine fa rfl (ct aL (ro (ld r1 rfl rfl (ct aL (fa rfl (ct aL (ro (ld r0 rfl rfl (ct aL ?_)))))))))
 refine qad (ct aL ?_)
 refine qah ?_ ?_ <;> intro aM
 refine fa rfl (ct aM (ro (ld r1 rfl rfl (ct aM (fa rfl (ct aM (ro (ld r0 rfl rfl (ct aM ?_)))))))))
 refine qad (ct aM ?_)
 refine qah ?_ ?_ <;> intro aN
 refine fa rfl (ct aN (ro (ld r1 rfl rfl (ct aN (fa rfl (ct aN (ro (ld r0 rfl rfl (ct aN ?_)))))))))
 refine qad (ct aN ?_)
 refine qah ?_ ?_ <;> intro aO
 refine fa rfl (ct aO (ro (ld r1 rfl rfl (ct aO (fa rfl (ct aO (ro (ld r0 rfl rfl (ct aO ?_)))))))))
 refine qn4 rfl (ct aO ?_)
 refine qah ?_ ?_ <;> intro aT
 refine fa rfl (ct aT (ro (ld r1 rfl rfl (ct aT (fa rfl (ct aT (ro (ld r0 rfl rfl (ct aT ?_)))))))))
 refine qn4 rfl (ct aT ?_)
 exact bE (qd3 (b := (r'.Al == w'.Al)) (qb8 (qb8 (qb8 (qb8 ((si aU).symm.trans aL) aM) aN) aO) aT)) (eE hm)
 refine cf aT (cf aT (cf aT (cf aT (cf aT ?_))))
 exact bE (((qa1 (qcw (qb8 (qb8 (qb8 ((si aU).symm.trans aL) aM) aN) aO) aT))).symm) (eE hm)
 refine cf aO (cf aO (cf aO (cf aO (cf aO (cF (cF (cF ?_)))))))
 refine cF (cF (cF ?_))
 exact bE (((qa1 (qa1 (qcw (qb8 (qb8 ((si aU).symm.trans aL) aM) aN) aO)))).symm) (eE hm)
 refine cf aN (cf aN (cf aN (cf aN (cf aN (cF (cF (cF ?_)))))))
 refine cF (cF (cF (cF (cF (cF (cF (cF ?_)))))))
 refine cF ?_
 exact bE (((qa1 (qa1 (qa1 (qcw (qb8 ((si aU).symm.trans aL) aM) aN))))).symm) (eE hm)
 refine cf aM (cf aM (cf aM (cf aM (cf aM (cF (cF (cF ?_)))))))
 refine cF (cF (cF (cF (cF (cF (cF (cF ?_)))))))
 refine cF (cF (cF (cF (cF (cF (cF ?_))))))
 exact bE (((qa1 (qa1 (qa1 (qa1 (qcw ((si aU).symm.trans aL) aM)))))).symm) (eE hm)
 refine cf aL (cf aL (cf aL (cf aL (cf aL (cF (cF (cF ?_)))))))
 refine cF (cF (cF (cF (cF (cF (cF (cF ?_)))))))
 refine cF (cF (cF (cF (cF (cF (cF (cF ?_)))))))
 refine cF (cF (cF (cF (cF ?_))))
 exact bE (((qa1 (qa1 (qa1 (qa1 (qa1 ((si aU).symm.trans aL))))))).symm) (eE hm)
 replace aU := qbs ((si aV).symm.trans aQ) aU
 refine cf aQ (cf aQ (cf aQ (cf aQ (cf aQ (cF (cF (cF ?_)))))))
 refine cF (cF (cF (cF (cF (cF (cF (cF ?_)))))))
 refine cF (cF (cF (cF (cF (cF (cF (cF ?_)))))))
 refine cF (cF (cF (cF (cF (cF (cF (cF ?_)))))))
 refine cF (cF (cF ?_))
 exact bE (((qa1 (qa1 (qa1 (qa1 (qa1 (si aU).symm)))))).symm) (eE hm)
 replace aV := qbs ((si aW).symm.trans aS) aV
 refine cf aS (cf aS (cf aS (cf aS (cf aS ?_))))
 obtain ⟨aX, aU, hm⟩ := bnd hm
 replace aU := qbs (si aV).symm aU
 refine cF (cF (cF (cF (cF (cF (cF (cF ?_)))))))
 refine cF (cF (cF (cF (cF (cF (cF (cF ?_)))))))
 refine cF (cF (cF (cF (cF (cF (cF (cF ?_)))))))
 refine cF (cF (cF (cF (cF (cF (cF (cF ?_)))))))
 refine cF (cF (cF (cF ?_)))
 exact bE (((qa1 (qa1 (qa1 (qa1 (qa1 (si aU).symm)))))).symm) (eE hm)
 replace aW := qbs (qcw aP aR) aW
 refine cf aR (cf aR (cf aR (cf aR (cf aR ?_))))
 obtain ⟨bb, aV, hm⟩ := bnd hm
 replace aV := qbs (si aW).symm aV
 refine cF (cF (cF (cF (cF (cF ?_)))))
 obtain ⟨aX, aU, hm⟩ := bnd hm
 replace aU := qbs (si aV).symm aU
 refine cF (cF (cF (cF (cF (cF (cF (cF ?_)))))))
 refine cF (cF (cF (cF (cF (cF (cF (cF ?_)))))))
 refine cF (cF (cF (cF (cF (cF (cF (cF ?_)))))))
 refine cF (cF (cF (cF (cF (cF (cF (cF ?_)))))))
 refine cF (cF (cF (cF ?_)))
 exact bE (((qa1 (qa1 (qa1 (qa1 (qa1 (si aU).symm)))))).symm) (eE hm)
 refine cf aP (cf aP (cf aP (cf aP (cf aP ?_))))
 obtain ⟨bf, aW, hm⟩ := bnd hm
 replace aW := qbs (qa1 aP) aW
 refine cF (cF (cF (cF (cF (cF ?_)))))
 obtain ⟨bb, aV, hm⟩ := bnd hm
 replace aV := qbs (si aW).symm aV
 refine cF (cF (cF (cF (cF (cF ?_)))))
 obtain ⟨aX, aU, hm⟩ := bnd hm
 replace aU := qbs (si aV).symm aU
 refine cF (cF (cF (cF (cF (cF (cF (cF ?_)))))))
 refine cF (cF (cF (cF (cF (cF (cF (cF ?_)))))))
 refine cF (cF (cF (cF (cF (cF (cF (cF ?_)))))))
 refine cF (cF (cF (cF (cF (cF (cF (cF ?_)))))))
 refine cF (cF (cF (cF ?_)))
 exact bE (((qa1 (qa1 (qa1 (qa1 (qa1 (si aU).symm)))))).symm) (eE hm)

def JbS (n : Nat) (n' : Je) (Ar : Jw) : Option (Bool) :=
  (((JaI n).bind fun au =>
  (if (!au) then some true else (JbU n n').bind fun aX =>
  some aX).bind fun aY =>
  (if aY then some true else (Jb2 n Ar).bind fun aS =>
  some (!aS)).bind fun aW =>
  some aW) : Option (Bool)).bind fun aO =>
  if aO then
  (JaI n).bind fun aT =>
  some aT
  else
  (Jb3 n n').bind fun aP =>
  (JaZ n aP).bind fun aQ =>
  if aQ.2.isSome then
  some true
  else
  (Ja2 Ar).bind fun aU =>
  (JaL n aQ.1 aU 1073741824).bind fun aL =>
  (Ja2 Ar).bind fun ba =>
  (JbY n aP ba).bind fun aM =>
  (if decide (aM.1.Aj ≠ 0) then some true else (JcF aL.2).bind fun aR =>
  (JcF aM.2).bind fun aV =>
  some (decide (aR ≠ aV))).bind fun aN =>
  if aN then
  some false
  else
  (JcO aM.1).bind fun aZ =>
  (JbO (⟨aL.1.Ae, aL.1.Af, aL.1.Ag, aL.1.Vary, aL.1.Ah, aL.1.TTL, aL.1.Ai, 0, aL.1.Ak, aL.1.Al⟩ : Jk) aZ).bind fun a8 =>
  some a8
theorem Jdu {n : Nat} {n' : Je} {Ar : Jw} {aa : Option Addr} {ab : Nat} {ah : Option Addr} {aj : Nat} {K : Hp} {r : Bool}
    (hm : JbS n n' Ar = some r) (hX : LiC Je.R K aa ab 4 n'.Aa ∧ RdC Jo.enc K ah aj 2 Ar.Ao ∧ GG K) :
    Fn Tryz.prog 9 [.agg #[.int .i64 n'.Ab, str n'.Ac, .slice aa n'.Aa.length ab, .int .i64 n'.Ad], .agg #[str Ar.Am, str Ar.An, str Ar.Ae, str Ar.Af, .slice ah Ar.Ao.length aj]] K [] (fun v K' H' => v = .bool r ∧ H' = []) := by
 obtain ⟨ae, ag, hG⟩ := hX
 refine Fn.enter Tryz.func9 Tryz.call9 rfl fun F => ?_
 unfold JbS at hm
 refine qap ?_
 intro b2
 refine qap ?_
 intro b3
 obtain ⟨bK, aM, hm⟩ := bnd hm
 refine jR (σ := Bool) (rg 12 11) (fun bb => [(22, .bool bb)]) (fun bb => bb = bK) ?_ ?_
 refine qam rfl ?_
 refine cb aM fun au cZ aM => cgx (JdJ cZ :) ?_
 refine qaz ?_
 obtain ⟨dA, bh, aM⟩ := bnd aM
 refine cS bh (fun aR bh => ?_) fun aR bh => ?_
 refine ct aR (ct aR ?_)
 obtain ⟨dc, aU, aM⟩ := bnd aM
 replace aU := ift (si bh).symm aU
 refine cT (cT (cT (cT ?_)))
 exact eMq aM _ ⟨bq (si aU), trivial⟩
 refine ro (qag r1 rfl (nl rfl) (cf aR ?_))
 refine cb bh fun dK da bh => cgx (JeY da :) ?_
 refine cf aR ?_
 obtain ⟨dc, aU, aM⟩ := bnd aM
 refine qah ?_ ?_ <;> intro aO
 replace aU := ift ((si bh).symm.trans aO) aU
 refine ct aO (ct aO (ct aO ?_))
 exact eMq aM _ ⟨bq (si aU), trivial⟩
 replace aU := qbs ((si bh).symm.trans aO) aU
 refine ro (qag r0 rfl (nl rfl) (cf aO ?_))
 refine cb aU fun dE cV aU => cgx (Jfa cV :) ?_
 refine cf aO (qaz (cf aO ?_))
 exact eMq aM _ ⟨bq (si aU), trivial⟩
 rintro bb rfl dg
 refine cs rfl rfl hm ?_ ?_ <;> intro dz hm
 refine cb hm fun dB c8 hm => cgx (JdJ c8 :) ?_
 exact eE hm
 refine ro (qag r1 rfl (nl rfl) ?_)
 refine cb hm fun dG de hm => cfx (Jfp de :) ?_
 rintro _ du _ dh ⟨cr, cd, bW, rfl, cK, bo, rfl⟩
 refine qan rfl fun b5 => ?_
 refine qab r0 rfl ⟨rfl, rfl, (nl rfl), ?_⟩
 refine ro (qag r0 rfl (nl rfl) ?_)
 refine qz8 Tryz.call29 Ja.R_ok r1 bo fun bt aZ bn => ?_
 refine cb hm fun dv c9 hm => ckx (JdV c9 :) ?_
 rintro _ _ _ ⟨cO, cz, rfl, cQ, rfl⟩
 refine qbe rfl ?_
 refine cs rfl rfl hm ?_ ?_ <;> intro dI hm
 exact eE hm
 refine ro (qag r2 rfl (nl rfl) ?_)
 refine cb hm fun c6 di hm => ckx (JdK di :) ?_
 rintro _ _ _ ⟨bU, cq, rfl, cm, rfl⟩
 refine fF Tryz.call13 r0 fun bD aX aY => ?_
 refine cb hm fun dH dk hm => ck0 (Fn.lend Tryz.call13 (fun bO bg bF => (JdY (Ar := c6) (most := 1073741824) dk ⟨bF, rfl, (aY.mono bg), (hG.mono (((dh.trans aZ).trans aX).trans bg))⟩)) (by exact fun _ _ _ _ h => h)) ?_
 rintro _ _ _ ⟨_, rfl, bV, cD, ce, bN, cH, cG, rfl, bP, ca, cU, rfl⟩
 refine qan rfl fun b8 => ?_
 refine qab r0 rfl ⟨rfl, rfl, (nl rfl), ?_⟩
 refine qdp ⟨⟨[], false⟩, _, [(_, _), (_, _)], []⟩ 10 rfl (by kernel_rfl) ⟨Hp.Le.refl _, (sc [5,5] rfl), ci0⟩ ?_
 refine qbq m0 rfl (nl rfl) (qbq m1 rfl (nl rfl) ?_)
 intro dt
 refine cb hm fun dJ db hm => ckx (JdK db :) ?_
 rintro _ _ _ ⟨cP, cA, rfl, bQ, rfl⟩
 refine ⟨⟨lr, (sc [6,6] rfl), ci0⟩, ?_⟩
 refine ⟨_, .cons r10 .nil, ⟨lr, (sc [6,6] rfl), ci0⟩, ?_⟩
 intro dy
 refine fF Tryz.call22 r0 fun bz aN bm => ?_
 refine cb hm fun dL cY hm => ckx (Je0 cY :) ?_
 rintro _ _ _ ⟨cp, bX, bS, bZ, cI, bR, rfl, bT, bM, cu, rfl⟩
 refine ⟨⟨aN, (sc [8,8] rfl), ci0⟩, ?_⟩
 refine ⟨_, .cons r12 .nil, ⟨aN, (sc [8,8] rfl), ci0⟩, ?_⟩
 refine qjb rfl ?_
 intro dq
 intro dp
 refine qab r0 rfl ⟨rfl, rfl, (nl rfl), ?_⟩
 refine ⟨⟨aN, (sc [9,9] rfl), ci0⟩, ?_⟩
 refine ⟨_, .cons r13 .nil, ⟨aN, (sc [9,9] rfl), ci0⟩, ?_⟩
 obtain ⟨bL, aP, hm⟩ := bnd hm
 refine jR (σ := Bool) (rg 47 10) (fun bf => [(56, .bool bf)]) (fun bf => bf = bL) ?_ ?_
 replace aP := bsm aP
 refine qam rfl ?_
 refine fa rfl (ro (ld r0 rfl rfl (qbd ?_)))
 obtain ⟨dm, ba, aP⟩ := bnd aP
 refine cS ba (fun aL ba => ?_) fun aL ba => ?_
 refine ct aL (ct aL (ct aL (ct aL (ct aL ?_))))
 exact eMq aP _ ⟨bq (si ba), trivial⟩
 refine cf aL ?_
 refine cb ba fun dD dj ba => cg0 (JeL dj :) ?_
 refine cf aL (cf aL ?_)
 refine cb ba fun dw cX ba => cg0 (JeL cX :) ?_
 refine cf aL (qbd (cf aL ?_))
 exact eMq aP _ ⟨bq (si ba), trivial⟩
 rintro bf rfl c5
 refine cs rfl rfl hm ?_ ?_ <;> intro dl hm
 exact eE hm
 refine fa rfl ?_
 refine qab r4 rfl ⟨rfl, rfl, (nl rfl), ?_⟩
 refine qa4 ⟨⟨[], false⟩, _, [(_, _), (_, _)], []⟩ (by kernel_rfl) ⟨Hp.Le.refl _, (pf rfl), ci0⟩ ?_
 refine qbq m0 rfl (nl rfl) (qbq m1 rfl (nl rfl) ?_)
 refine fF Tryz.call26 r2 fun bA aS bC => ?_
 refine fF Tryz.call26 r2 fun bj aT bJ => ?_
 refine fF Tryz.call26 r2 fun bp aQ bG => ?_
 refine cb hm fun dx cW hm => cfx (Jfh cW :) ?_
 rintro _ dC _ cR ⟨cL, cB, cC, cj, cM, cn, rfl, bY, cw, cJ, rfl⟩
 refine ⟨⟨(((aS.trans aT).trans aQ).trans cR), (pf rfl), ci0⟩, ?_⟩
 refine fF Tryz.call18 r3 fun bw aV bI => ?_
 refine fF Tryz.call18 r3 fun bB aW bu => ?_
 refine fF Tryz.call18 r3 fun bH a8 bv => ?_
 refine cb hm fun dF df hm => cgx (Jfq df :) ?_
 refine ⟨⟨((((((aS.trans aT).trans aQ).trans cR).trans aV).trans aW).trans a8), (pf rfl), ci0⟩, ?_⟩
 exact eE hm
