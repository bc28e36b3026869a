/- Functions of the program: mirrors, and that a call returns what the mirror says. Printed by gen.py. -/
import Derived.Test.YtiaaooopklhobaaGreatDoorG6
set_option linter.unusedVariables false
set_option linter.unusedSimpArgs false
open Go Go.SL Go.Proofs
noncomputable section
set_option maxRecDepth 1000000
set_option maxHeartbeats 8000000
def JdI (n : Nat) (a : Jn) : Option (Bool) :=
  if ((!a.HasQuery) && decide (a.Af ≠ ([] : Str))) then
  some false
  else
  if a.HasQuery then
  (chk (([63] : Str).length + a.Af.length ≤ lim)).bind fun _ =>
  (chk (a.Ae.length + (([63] : Str) ++ a.Af).length ≤ lim)).bind fun _ =>
  (Jbo n a.An (a.Ae ++ (([63] : Str) ++ a.Af))).bind fun aU =>
  some (aU.2.isNone && (decide (a.An = aU.1.An) && (decide (a.Ae = aU.1.Ae) && (decide (a.Af = aU.1.Af) && (a.HasQuery == aU.1.HasQuery)))))
  else
  (Jbo n a.An a.Ae).bind fun aU =>
  some (aU.2.isNone && (decide (a.An = aU.1.An) && (decide (a.Ae = aU.1.Ae) && (decide (a.Af = aU.1.Af) && (a.HasQuery == aU.1.HasQuery)))))
theorem Jeu {n : Nat} {a : Jn} {K : Hp} {r : Bool}
    (hm : JdI n a = some r) (hG : GG K) :
    Fn Tryz.prog 30 [.agg #[str a.An, str a.Ae, str a.Af, .bool a.HasQuery]] K [] (fun v K' H' => v = .bool r ∧ H' = []) := by
 refine Fn.enter Tryz.func30 Tryz.call30 rfl fun F => ?_
 unfold JdI at hm
 refine qar ?_
 intro b1
 refine jR (σ := Unit) (rg 6 8) (fun _ => [(13, .bool ((!a.HasQuery) && decide (a.Af ≠ ([] : Str))))]) (fun a6 => True) ?_ ?_
 refine qaj rfl ?_
 refine fa rfl (ro (ld r0 rfl rfl (qau ?_)))
 refine qae ?_ ?_ <;> intro aV
 refine fa rfl (ct aV (ro (ld r0 rfl rfl (ct aV (qbk (ct aV ?_))))))
 exact eMt () ⟨bq (qc1 (b := decide (a.Af ≠ ([] : Str))) (qdw (qik aV))), trivial⟩
 refine cf aV (cf aV (cf aV ?_))
 exact eMt () ⟨bq (((qbc (qc0 (qgn aV)))).symm), trivial⟩
 rintro _ _ a8
 refine cs rfl rfl hm ?_ ?_ <;> intro bb hm
 exact eE hm
 refine fa rfl (ro (ld r0 rfl rfl (fa rfl (ro (ld r0 rfl rfl ?_)))))
 refine cs rfl rfl hm ?_ ?_ <;> intro ba hm
 refine fa rfl (ro (ld r0 rfl rfl ?_))
 obtain ⟨aY, hm⟩ := qaw hm
 refine qbs aY ?_
 obtain ⟨aZ, hm⟩ := qaw hm
 refine qbs aZ ?_
 refine fa rfl (ro (ld r0 rfl rfl ?_))
 refine cb hm fun aW aX hm => cgx (Jcn aX :) ?_
 refine qaf rfl fun b4 => ?_
 refine qaa r0 rfl ⟨rfl, rfl, (nl rfl), ?_⟩
 refine qaj rfl ?_
 refine qd1 rfl ?_
 refine qae ?_ ?_ <;> intro aU
 refine ro (qab r1 rfl (nl rfl) (ct aU (ro (qab r0 rfl (nl rfl) (ct aU ?_)))))
 refine qmn (b := (decide (a.An = aW.1.An) && (decide (a.Ae = aW.1.Ae) && (decide (a.Af = aW.1.Af) && (a.HasQuery == aW.1.HasQuery))))) rfl (by kernel_rfl) (by kernel_rfl) (by kernel_rfl) rfl ?_
 refine ct aU ?_
 exact bE (qc1 (b := (decide (a.An = aW.1.An) && (decide (a.Ae = aW.1.Ae) && (decide (a.Af = aW.1.Af) && (a.HasQuery == aW.1.HasQuery))))) aU) (eE hm)
 refine cf aU (cf aU (cf aU ?_))
 exact bE (((qbc aU)).symm) (eE hm)
 refine fa rfl (ro (ld r0 rfl rfl ?_))
 refine cb hm fun aW aX hm => cgx (Jcn aX :) ?_
 refine qaf rfl fun b4 => ?_
 refine qaa r0 rfl ⟨rfl, rfl, (nl rfl), ?_⟩
 refine qaj rfl ?_
 refine qd1 rfl ?_
 refine qae ?_ ?_ <;> intro aU
 refine ro (qab r1 rfl (nl rfl) (ct aU (ro (qab r0 rfl (nl rfl) (ct aU ?_)))))
 refine qmn (b := (decide (a.An = aW.1.An) && (decide (a.Ae = aW.1.Ae) && (decide (a.Af = aW.1.Af) && (a.HasQuery == aW.1.HasQuery))))) rfl (by kernel_rfl) (by kernel_rfl) (by kernel_rfl) rfl ?_
 refine ct aU ?_
 exact bE (qc1 (b := (decide (a.An = aW.1.An) && (decide (a.Ae = aW.1.Ae) && (decide (a.Af = aW.1.Af) && (a.HasQuery == aW.1.HasQuery))))) aU) (eE hm)
 refine cf aU (cf aU (cf aU ?_))
 exact bE (((qbc aU)).symm) (eE hm)

def Jdx (n : Nat) (a : Jn) : Option (Str × Err) :=
  (JdI n a).bind fun x5 =>
  if (!x5) then
  some (([] : Str), (some 2))
  else
  (Jct a).bind fun x9 =>
  some (x9, none)
theorem Jeo {n : Nat} {a : Jn} {K : Hp} {r : Str × Err}
    (hm : Jdx n a = some r) (hG : GG K) :
    Fn Tryz.prog 57 [.agg #[str a.An, str a.Ae, str a.Af, .bool a.HasQuery]] K [] (fun v K' H' => v = .tuple #[str r.1, qcp 48 r.2] ∧ H' = []) := by
 refine Fn.enter Tryz.func57 Tryz.call57 rfl fun F => ?_
 unfold Jdx at hm
 refine qar ?_
 intro b1
 refine ro (qab r0 rfl (nl rfl) ?_)
 refine cb hm fun x5 q5 hm => cgx (Jeu q5 :) ?_
 refine qau ?_
 refine cs rfl rfl hm ?_ ?_ <;> intro w6 hm
 refine qas rfl ?_
 exact eE hm
 refine ro (qab r0 rfl (nl rfl) ?_)
 refine cb hm fun x9 q9 hm => cg0 (JdS q9 :) ?_
 exact eE hm

def qeb (n : Nat) (p : JF) : Option (Str) :=
  (Jdx n p.Cache).bind fun x8 =>
  if x8.2.isSome then
  (qll p.Tenant).bind fun aU =>
  (chk (aU.length + ([32] : Str).length ≤ lim)).bind fun _ =>
  (chk ((aU ++ ([32] : Str)).length + ([] : Str).length ≤ lim)).bind fun _ =>
  some ((aU ++ ([32] : Str)) ++ ([] : Str))
  else
  (qll p.Tenant).bind fun aU =>
  (chk (aU.length + ([32] : Str).length ≤ lim)).bind fun _ =>
  (chk ((aU ++ ([32] : Str)).length + x8.1.length ≤ lim)).bind fun _ =>
  some ((aU ++ ([32] : Str)) ++ x8.1)
theorem qgz {n : Nat} {p : JF} {aa : Option Addr} {ab : Nat} {ai : Option Addr} {ak : Nat} {am : Option Addr} {av : Nat} {K : Hp} {r : Str}
    (hm : qeb n p = some r) (hX : RdC Jc.enc K aa ab 2 p.Ao ∧ RdC eS K ai ak 1 p.Vary ∧ RdC eS K am av 1 p.Ah ∧ GG K) :
    Fn Tryz.prog 31 [.agg #[.int .i64 p.Tenant, .int .i64 p.TTL, .int .i64 p.Ai, str p.Asked.An, str p.Asked.Ae, str p.Asked.Af, .bool p.Asked.HasQuery, str p.Cache.An, str p.Cache.Ae, str p.Cache.Af, .bool p.Cache.HasQuery, .slice aa p.Ao.length ab, .slice ai p.Vary.length ak, .slice am p.Ah.length av, .bool p.Ak, .bool p.Al]] K [] (fun v K' H' => v = str r ∧ H' = []) := by
 obtain ⟨ae, aX, aY, hG⟩ := hX
 refine Fn.enter Tryz.func31 Tryz.call31 rfl fun F => ?_
 unfold qeb at hm
 refine qar ?_
 intro b1
 refine fa rfl (ro (qab r0 rfl (nl rfl) ?_))
 refine cb hm fun x8 q8 hm => cgx (Jeo q8 :) ?_
 refine qa5 rfl ?_
 refine cs rfl rfl hm ?_ ?_ <;> intro a6 hm
 refine fa rfl (ro (ld r0 rfl rfl ?_))
 refine cb hm fun aZ aU hm => cg0 (qkf aU (gg4 hG)) ?_
 obtain ⟨aW, hm⟩ := qaw hm
 refine qbs aW ?_
 obtain ⟨aV, hm⟩ := qaw hm
 refine qbs aV ?_
 exact eE hm
 refine fa rfl (ro (ld r0 rfl rfl ?_))
 refine cb hm fun aZ aU hm => cg0 (qkf aU (gg4 hG)) ?_
 obtain ⟨aW, hm⟩ := qaw hm
 refine qbs aW ?_
 obtain ⟨aV, hm⟩ := qaw hm
 refine qbs aV ?_
 exact eE hm

def Jdi (n : Nat) : Option (Bool) :=
  (qdk n ([(⟨([101, 120, 97, 109, 112, 108, 101, 46, 99, 111, 109] : Str), 3, ([112, 97, 116, 104, 32, 61, 32, 34, 47, 118, 49, 34, 32, 43, 32, 112, 97, 116, 104, 59, 32, 116, 116, 108, 32, 54, 48, 59, 32, 116, 97, 103, 32, 34, 97, 108, 108, 34, 59] : Str)⟩ : JK)])).bind fun x8 =>
  Option.elim x8.1 (
  ((if x8.2.2.isSome then
  some ()
  else
  some ()) : Option (Unit)).bind fun aX =>
  some false)
   fun o8 =>
  ((if x8.2.2.isSome then
  some true
  else
  some false) : Option (Bool)).bind fun aV =>
  if aV then
  some false
  else
  (qa4 n o8 (⟨([71, 69, 84] : Str), ([47, 97, 63, 120, 61, 49] : Str), [(⟨([104, 111, 115, 116] : Str), ([101, 120, 97, 109, 112, 108, 101, 46, 99, 111, 109] : Str)⟩ : Jc)]⟩ : JA)).bind fun aU =>
  (if (aU.2.isNone && decide (aU.1.TTL = 60)) then (qeb n aU.1).bind fun a6 =>
  some (decide (a6 = ([51, 32, 101, 120, 97, 109, 112, 108, 101, 46, 99, 111, 109, 47, 118, 49, 47, 97, 63, 120, 61, 49] : Str))) else some false).bind fun aW =>
  (if (aW && decide ((aU.1.Ah.length : Int) = 1)) then (ix aU.1.Ah 0).bind fun aY =>
  some (decide (aY = ([97, 108, 108] : Str))) else some false).bind fun aZ =>
  some aZ
theorem Jd3 {n : Nat}  {K : Hp} {r : Bool}
    (hm : Jdi n = some r) (hG : GG K) :
    Fn Tryz.prog 11 [] K [] (fun v K' H' => v = .bool r ∧ H' = []) := by
 refine Fn.enter Tryz.func11 Tryz.call11 rfl fun F => ?_
 unfold Jdi at hm
 refine qai rfl rfl (cT (cT (cT ?_)))
 refine bsO (len := 1) (enc := JK.enc) (l := [(⟨([101, 120, 97, 109, 112, 108, 101, 46, 99, 111, 109] : Str), 3, ([112, 97, 116, 104, 32, 61, 32, 34, 47, 118, 49, 34, 32, 43, 32, 112, 97, 116, 104, 59, 32, 116, 116, 108, 32, 54, 48, 59, 32, 116, 97, 103, 32, 34, 97, 108, 108, 34, 59] : Str)⟩ : JK)]) (cl := [str ([101, 120, 97, 109, 112, 108, 101, 46, 99, 111, 109] : Str), .int .i64 3, str ([112, 97, 116, 104, 32, 61, 32, 34, 47, 118, 49, 34, 32, 43, 32, 112, 97, 116, 104, 59, 32, 116, 116, 108, 32, 54, 48, 59, 32, 116, 97, 103, 32, 34, 97, 108, 108, 34, 59] : Str)]) qqm rfl rfl (fun _ _ => rfl) rfl rfl rfl ?_ fun b7 => ?_
 · conv => whnf
   refine cT ?_
   first | done | rfl
 refine fF Tryz.call12 r0 fun bQ bA bO => ?_
 refine cb hm fun x8 q8 hm => cfx (qej q8 :) ?_
 rintro v8 K8 H8 l8 p8
 rcases hq8 : x8.1 with _ | o8
 rw [hq8] at p8 hm
 obtain ⟨rfl, rfl⟩ := p8
 replace hm := qss hm
 obtain ⟨bt, ba, hm⟩ := bnd hm
 refine jR (σ := Unit) (rg 12 6) (fun _ => [(17, .bool true)]) (fun bv => bv = bt) ?_ ?_
 refine qaj rfl ?_
 refine qa5 rfl ?_
 refine cS ba (fun aW ba => ?_) fun aW ba => ?_
 refine ct aW (ct aW ?_)
 exact eM ba _
 refine cf aW ?_
 refine qha rfl ?_
 refine cf aW ?_
 exact eM ba _
 rintro _ rfl bW
 refine qac rfl (cT ?_)
 exact eE hm
 rw [hq8] at p8 hm
 obtain ⟨bU, bR, bN, rfl, bu, rfl⟩ := p8
 replace hm := qst hm
 obtain ⟨bB, a8, hm⟩ := bnd hm
 refine jR (σ := Bool) (rg 12 6) (fun bf => [(17, .bool bf)]) (fun bf => bf = bB) ?_ ?_
 refine qaj rfl ?_
 refine qa5 rfl ?_
 refine cS a8 (fun aW a8 => ?_) fun aW a8 => ?_
 refine ct aW (ct aW ?_)
 exact eM a8 _
 refine cf aW ?_
 refine qg9 rfl ?_
 refine cf aW ?_
 exact eM a8 _
 rintro bf rfl bT
 refine cs rfl rfl hm ?_ ?_ <;> intro ce hm
 exact eE hm
 refine qai rfl rfl (cT (cT ?_))
 refine bsO (len := 1) (enc := Jc.enc) (l := [(⟨([104, 111, 115, 116] : Str), ([101, 120, 97, 109, 112, 108, 101, 46, 99, 111, 109] : Str)⟩ : Jc)]) (cl := [str ([104, 111, 115, 116] : Str), str ([101, 120, 97, 109, 112, 108, 101, 46, 99, 111, 109] : Str)]) qf5 rfl rfl (fun _ _ => rfl) rfl rfl rfl ?_ fun bY => ?_
 · conv => whnf
   refine cT ?_
   first | done | rfl
 refine qai rfl rfl (cT (cT (cT ?_)))
 refine fF Tryz.call13 r0 fun bo a6 bd => ?_
 refine cb hm fun bX bV hm => ck0 (qb4 (d := o8) (r' := (⟨([71, 69, 84] : Str), ([47, 97, 63, 120, 61, 49] : Str), [(⟨([104, 111, 115, 116] : Str), ([101, 120, 97, 109, 112, 108, 101, 46, 99, 111, 109] : Str)⟩ : Jc)]⟩ : JA)) bV ⟨(MR.mono Jz.R_ok bu a6), bd, (hG.mono ((bA.trans l8).trans a6))⟩) ?_
 rintro _ _ _ ⟨bI, bF, bM, bK, bC, bH, rfl, bJ, bL, bG, rfl⟩
 refine qaf rfl fun b4 => ?_
 refine qaa r0 rfl ⟨rfl, rfl, (nl rfl), ?_⟩
 refine qaj rfl ?_
 refine qd1 rfl ?_
 refine qae ?_ ?_ <;> intro aX
 refine fa rfl (ct aX (ro (ld r0 rfl rfl (ct aX (qag (ct aX ?_))))))
 obtain ⟨bS, bc, hm⟩ := bnd hm
 refine qae ?_ ?_ <;> intro aY
 replace bc := ift (qcy aX aY) bc
 refine ro (qab r0 rfl (nl rfl) (ct aY ?_))
 refine fF Tryz.call31 r1 fun bl bg bn => ?_
 refine fF Tryz.call31 r1 fun bh bj bm => ?_
 refine fF Tryz.call31 r1 fun br bp bb => ?_
 refine cb bc fun ca bP bc => cgx (qgz bP :) ?_
 refine ct aY (qaq (ct aY ?_))
 refine qae ?_ ?_ <;> intro aV
 refine fa rfl (ct aV (ro (ld r0 rfl rfl (ct aV (ro (qak rfl (ct aV (qag (ct aV ?_)))))))))
 obtain ⟨bw, aZ, hm⟩ := bnd hm
 refine qae ?_ ?_ <;> intro aU
 replace aZ := ift (qcy ((si bc).symm.trans aV) aU) aZ
 refine fa rfl (ct aU (ro (ld r0 rfl rfl (ct aU ?_))))
 obtain ⟨bZ, bD, bz, aZ⟩ := ixb aZ
 refine RStep.ofN (qad rfl rfl (qff bb.rd bz) bD (qax rfl bD bz) (ct aU (ro (qcx ((0 : Int).toNat) 0 _ _ bb.rd rfl (mp bz) rfl rfl (ct aU (qaq (ct aU ?_)))))))
 exact bE (si aZ) (eE hm)
 replace aZ := qa9 (qcz ((si bc).symm.trans aV) aU) aZ
 refine cf aU (cf aU (cf aU (cf aU (cf aU ?_))))
 exact bE (si aZ) (eE hm)
 refine cf aV (cf aV (cf aV (cf aV ?_)))
 obtain ⟨bw, aZ, hm⟩ := bnd hm
 replace aZ := qa9 (qbc ((si bc).symm.trans aV)) aZ
 refine cF (cF (cF (cF (cF (cF ?_)))))
 exact bE (si aZ) (eE hm)
 replace bc := qa9 (qcz aX aY) bc
 refine cf aY (cf aY (cf aY (cF (cF (cF (cF (cF ?_)))))))
 obtain ⟨bw, aZ, hm⟩ := bnd hm
 replace aZ := qa9 (qbc (si bc).symm) aZ
 refine cF (cF (cF (cF (cF (cF ?_)))))
 exact bE (si aZ) (eE hm)
 refine cf aX (cf aX (cf aX ?_))
 obtain ⟨bS, bc, hm⟩ := bnd hm
 replace bc := qa9 (qbc aX) bc
 refine cF (cF (cF (cF (cF (cF (cF (cF ?_)))))))
 refine cF ?_
 obtain ⟨bw, aZ, hm⟩ := bnd hm
 replace aZ := qa9 (qbc (si bc).symm) aZ
 refine cF (cF (cF (cF (cF (cF ?_)))))
 exact bE (si aZ) (eE hm)

def qbi (r' : JA) : Option (JF × Err) :=
  some ((⟨0, 0, 0, (⟨([] : Str), ([] : Str), ([] : Str), false⟩ : Jn), (⟨([] : Str), ([] : Str), ([] : Str), false⟩ : Jn), [], [], [], false, false⟩ : JF), (some 3))
theorem qct {r' : JA} {af : Option Addr} {ag : Nat} {K : Hp} {r : JF × Err}
    (hm : qbi r' = some r) (ah : RdC Jc.enc K af ag 2 r'.Ao) :
    Fn Tryz.prog 13 [.pointer none, .agg #[str r'.Am, str r'.Target, .slice af r'.Ao.length ag]] K [] (fun v K' H' => ∃ ar_0 : Option Addr, ∃ cr_0 : Nat, ∃ ar_1 : Option Addr, ∃ cr_1 : Nat, ∃ ar_2 : Option Addr, ∃ cr_2 : Nat, v = .tuple #[.agg #[.int .i64 r.1.Tenant, .int .i64 r.1.TTL, .int .i64 r.1.Ai, str r.1.Asked.An, str r.1.Asked.Ae, str r.1.Asked.Af, .bool r.1.Asked.HasQuery, str r.1.Cache.An, str r.1.Cache.Ae, str r.1.Cache.Af, .bool r.1.Cache.HasQuery, .slice ar_0 r.1.Ao.length cr_0, .slice ar_1 r.1.Vary.length cr_1, .slice ar_2 r.1.Ah.length cr_2, .bool r.1.Ak, .bool r.1.Al], qcp 48 r.2] ∧ (0 < r.1.Ao.length → Has ar_0) ∧ (0 < r.1.Vary.length → Has ar_1) ∧ (0 < r.1.Ah.length → Has ar_2) ∧ H' = [qat Jc.enc ar_0 41 2 cr_0 r.1.Ao, qat eS ar_1 9 1 cr_1 r.1.Vary, qat eS ar_2 9 1 cr_2 r.1.Ah]) := by
 refine Fn.enter Tryz.func13 Tryz.call13 rfl fun F => ?_
 unfold qbi at hm
 refine qar ?_
 intro b3
 refine qaf rfl fun b4 => ?_
 refine qha rfl ?_
 refine qac rfl (cT (qai rfl rfl ?_))
 refine qas rfl ?_
 refine qaa r0 rfl ⟨rfl, rfl, (nl rfl), ?_⟩
 refine ro (qab r0 rfl (nl rfl) ?_)
 refine qci Jc.enc 41 2 ?_
 refine qci eS 9 1 ?_
 refine qci eS 9 1 ?_
 exact eE hm

def JeI (e : Err) : Option (Int) :=
  if e.isNone then
  some 0
  else
  if (!e.isSome) then
  some (-1)
  else
  some (e.getD 0)
theorem JeK {e : Err} {K : Hp} {r : Int}
    (hm : JeI e = some r)  :
    Fn Tryz.prog 26 [qcp 48 e] K [] (fun v K' H' => v = .int .i64 r ∧ H' = []) := by
 refine Fn.enter Tryz.func26 Tryz.call26 rfl fun F => ?_
 unfold JeI at hm
 refine qd1 rfl ?_
 refine cs rfl rfl hm ?_ ?_ <;> intro w6 hm
 exact eE hm
 refine qsz rfl rfl rfl ?_
 refine qau ?_
 refine cs rfl rfl hm ?_ ?_ <;> intro aU hm
 exact eE hm
 exact eE hm

def Jey (e : Err) (want : Int) : Option (Bool) :=
  (JeI e).bind fun x6 =>
  some (decide (x6 = want) && decide (want ≠ 0))
theorem JeF {e : Err} {want : Int} {K : Hp} {r : Bool}
    (hm : Jey e want = some r)  :
    Fn Tryz.prog 16 [qcp 48 e, .int .i64 want] K [] (fun v K' H' => v = .bool r ∧ H' = []) := by
 refine Fn.enter Tryz.func16 Tryz.call16 rfl fun F => ?_
 unfold Jey at hm
 refine qaj rfl ?_
 refine cb hm fun x6 q6 hm => cg0 (JeK q6 :) ?_
 refine qag ?_
 refine qae ?_ ?_ <;> intro aU
 refine ct aU (qa8 (ct aU ?_))
 exact bE (qc1 (b := decide (want ≠ 0)) aU) (eE hm)
 refine cf aU (cf aU ?_)
 exact bE (((qbc aU)).symm) (eE hm)

def JbM (b : (List Str)) : List Str → Nat → Option (Fl (Bool) (Unit))
  | [], _ => some (Fl.go ())
  | e0 :: aU, i0 =>
    (ix b (i0 : Int)).bind fun aV =>
    if decide (e0 ≠ aV) then
    some (Fl.ret false)
    else
    JbM b aU (i0 + 1)
def Jc8 (a : (List Str)) (b : (List Str)) : Option (Bool) :=
  if decide ((a.length : Int) ≠ (b.length : Int)) then
  some false
  else
  (chk (a.length ≤ qa3)).bind fun _ =>
  (JbM b a 0).bind fun s0 => s0.el some fun t0 =>
  some true
theorem Jcd {a : (List Str)} {b : (List Str)} {aa : Option Addr} {ab : Nat} {n0 : Nat} {af : Option Addr} {ag : Nat} {n1 : Nat} {K : Hp} {r : Bool}
    (hm : Jc8 a b = some r) (hX : RdC eS K aa ab 1 a ∧ n0 = a.length ∧ RdC eS K af ag 1 b ∧ n1 = b.length) :
    Fn Tryz.prog 23 [.slice aa n0 ab, .slice af n1 ag] K [] (fun v K' H' => v = .bool r ∧ H' = []) := by
 obtain ⟨ae, aY, ah, a8⟩ := hX
 subst aY
 subst a8
 refine Fn.enter Tryz.func23 Tryz.call23 rfl fun F => ?_
 unfold Jc8 at hm
 refine ro (qak rfl (ro (qak rfl (qa8 ?_))))
 refine cs rfl rfl hm ?_ ?_ <;> intro bc hm
 exact eE hm
 refine ro (qak rfl ?_)
 obtain ⟨aZ, hm⟩ := qaw hm
 obtain ⟨s0, aU, hm⟩ := bnd hm
 refine lD (σ := (Unit)) ([4,5] ++ rg 13 13) [0] (fun i0 => [(13, .int .i64 (i0 : Int))]) (fun _ => []) (fun _ => []) (fun _ => True) (fun i0 _ => JbM b (a.drop i0) i0 = some s0) (fun t0 => s0 = Fl.go t0) (fun i0 => a.length - i0) 0 () aU (And.intro qe (And.intro ?_ ?_))
 clear aU
 rintro i0 _ _ aU j0
 conv at aU => whnf
 refine qac rfl ?_
 refine qae ?_ ?_ <;> intro w0
 obtain ⟨e0, aV, a6⟩ := ltx w0
 rw [a6, JbM.eq_2] at aU
 refine qal rfl ?_
 refine qa6 ⟨⟨[], false⟩, _, [], []⟩ (by kernel_rfl) ⟨Hp.Le.refl _, (pf rfl), ci0⟩ ?_
 refine qad rfl rfl (qff ae.rd aV) (nn _) (qbl aV) (qdo i0 0 _ _ ae.rd rfl (mp aV) rfl rfl ?_)
 obtain ⟨ba, aX, aW, aU⟩ := ixb aU
 refine qad rfl rfl (qff ah.rd aW) aX (qax rfl aX aW) (qdo (((i0 : Int)).toNat) 0 _ _ ah.rd rfl (mp aW) rfl rfl (qbk ?_))
 refine cs rfl rfl aU ?_ ?_ <;> intro bb aU
 exact eE (er aU hm)
 refine qam (qbn aV aZ) ?_
 exact eR aU (_, ())
 rw [lty w0, JbM.eq_1] at aU
 refine cT ?_
 exact eM aU _
 rintro t0 _ rfl j0
 replace hm := elg hm
 exact eE hm

def JR (ao : JF × Err) (az : (List Jc)) : List Jc → Nat → Option (Fl (Bool) (Unit))
  | [], _ => some (Fl.go ())
  | e0 :: aW, i0 =>
    if decide (e0.Name = ([104, 111, 115, 116] : Str)) then
    some (Fl.ret false)
    else
    if decide (e0.Name = ([114, 97, 110, 103, 101] : Str)) then
    some (Fl.ret false)
    else
    if decide (e0.Name = ([105, 102, 45, 114, 97, 110, 103, 101] : Str)) then
    some (Fl.ret false)
    else
    if decide (e0.Name = ([105, 102, 45, 109, 97, 116, 99, 104] : Str)) then
    some (Fl.ret false)
    else
    if decide (e0.Name = ([105, 102, 45, 110, 111, 110, 101, 45, 109, 97, 116, 99, 104] : Str)) then
    some (Fl.ret false)
    else
    if decide (e0.Name = ([105, 102, 45, 109, 111, 100, 105, 102, 105, 101, 100, 45, 115, 105, 110, 99, 101] : Str)) then
    some (Fl.ret false)
    else
    if decide (e0.Name = ([105, 102, 45, 117, 110, 109, 111, 100, 105, 102, 105, 101, 100, 45, 115, 105, 110, 99, 101] : Str)) then
    some (Fl.ret false)
    else
    if decide (e0.Name = ([99, 111, 110, 110, 101, 99, 116, 105, 111, 110] : Str)) then
    some (Fl.ret false)
    else
    if decide (e0.Name = ([116, 101] : Str)) then
    some (Fl.ret false)
    else
    if decide (e0.Name = ([117, 112, 103, 114, 97, 100, 101] : Str)) then
    some (Fl.ret false)
    else
    (if decide ((e0.Name.length : Int) ≥ 5) then (chk (0 ≤ (0 : Int) ∧ (0 : Int) ≤ (5 : Int) ∧ (5 : Int) ≤ (e0.Name.length : Int))).bind fun _ =>
    some (decide ((subL e0.Name (0 : Int) (5 : Int)) = ([113, 117, 97, 121, 45] : Str))) else some false).bind fun aY =>
    (if aY then some true else (JbS ao.1.Ao e0.Name).bind fun aV =>
    (JbS az e0.Name).bind fun aU =>
    (Jc8 aV aU).bind fun aZ =>
    some (!aZ)).bind fun aX =>
    if aX then
    some (Fl.ret false)
    else
    JR ao az aW (i0 + 1)
def JS (ao : JF × Err) (az : (List Jc)) : Nat → Nat → Option (Fl (Bool) (Unit))
  | 0, _ => some (Fl.go ())
  | aY + 1, i3 =>
    (ix ([([97, 99, 99, 101, 112, 116] : Str), ([99, 111, 111, 107, 105, 101] : Str), ([99, 97, 99, 104, 101, 45, 99, 111, 110, 116, 114, 111, 108] : Str), ([120, 45, 97] : Str)]) (i3 : Int)).bind fun aX =>
    (JbS ao.1.Ao aX).bind fun aW =>
    (JbS az aX).bind fun aV =>
    (Jc8 aW aV).bind fun aU =>
    if (!aU) then
    some (Fl.ret false)
    else
    JS ao az aY (i3 + 1)
def Jb1 (n : Nat) (r' : JA) : Option (Bool) :=
  (((Jc9 [] r').bind fun a8 =>
  (if a8 then some true else (Jdc r').bind fun bc =>
  some (!bc)).bind fun a6 =>
  (if a6 then some true else (Jdi n).bind fun bb =>
  some (!bb)).bind fun aZ =>
  some aZ) : Option (Bool)).bind fun aX =>
  if aX then
  (Jdi n).bind fun aY =>
  some aY
  else
  (Jdh r'.Ao ([104, 111, 115, 116] : Str) ([101, 120, 97, 109, 112, 108, 101, 46, 99, 111, 109] : Str)).bind fun aU =>
  (qdk n ([(⟨([101, 120, 97, 109, 112, 108, 101, 46, 99, 111, 109] : Str), 0, ([] : Str)⟩ : JK)])).bind fun aW =>
  Option.elim aW.1 (
  if aW.2.2.isSome then
  some false
  else
  (qbi (⟨r'.Am, r'.Target, aU⟩ : JA)).bind fun ao =>
  if ao.2.isSome then
  (Jey ao.2 27).bind fun aV =>
  some aV
  else
  (Jcq n aU).bind fun az =>
  (chk (ao.1.Ao.length ≤ qa3)).bind fun _ =>
  (JR ao az ao.1.Ao 0).bind fun s0 => s0.el some fun t0 =>
  (chk (InI (4 : Int))).bind fun _ =>
  (JS ao az (4 : Int).toNat 0).bind fun s3 => s3.el some fun t3 =>
  some true)
   fun ba =>
  if aW.2.2.isSome then
  some false
  else
  (qa4 n ba (⟨r'.Am, r'.Target, aU⟩ : JA)).bind fun ao =>
  if ao.2.isSome then
  (Jey ao.2 27).bind fun aV =>
  some aV
  else
  (Jcq n aU).bind fun az =>
  (chk (ao.1.Ao.length ≤ qa3)).bind fun _ =>
  (JR ao az ao.1.Ao 0).bind fun s0 => s0.el some fun t0 =>
  (chk (InI (4 : Int))).bind fun _ =>
  (JS ao az (4 : Int).toNat 0).bind fun s3 => s3.el some fun t3 =>
  some true
theorem JdQ {n : Nat} {r' : JA} {aa : Option Addr} {ab : Nat} {K : Hp} {r : Bool}
    (hm : Jb1 n r' = some r) (hX : RdC Jc.enc K aa ab 2 r'.Ao ∧ GG K) :
    Fn Tryz.prog 6 [.agg #[str r'.Am, str r'.Target, .slice aa r'.Ao.length ab]] K [] (fun v K' H' => v = .bool r ∧ H' = []) := by
 obtain ⟨ae, hG⟩ := hX
 refine Fn.enter Tryz.func6 Tryz.call6 rfl fun F => ?_
 unfold Jb1 at hm
 refine qar ?_
 intro b1
 obtain ⟨cR, a6, hm⟩ := bnd hm
 refine jR (σ := Bool) (rg 12 11) (fun bO => [(22, .bool bO)]) (fun bO => bO = cR) ?_ ?_
 refine qaj rfl ?_
 refine ro (qab r0 rfl (nl rfl) ?_)
 refine cb a6 fun dX dJ a6 => cgx (Jez dJ :) ?_
 obtain ⟨dU, bP, a6⟩ := bnd a6
 refine cS bP (fun bd bP => ?_) fun bd bP => ?_
 refine ct bd (ct bd (ct bd ?_))
 obtain ⟨dE, bt, a6⟩ := bnd a6
 replace bt := ift (si bP).symm bt
 refine cT (cT (cT ?_))
 exact eMq a6 _ ⟨bq (si bt), trivial⟩
 refine ro (qab r0 rfl (nl rfl) (cf bd ?_))
 refine cb bP fun dV dx bP => cgx (JeC dx :) ?_
 refine cf bd (qau (cf bd ?_))
 obtain ⟨dE, bt, a6⟩ := bnd a6
 refine qae ?_ ?_ <;> intro bh
 replace bt := ift ((si bP).symm.trans (qdw (qik bh))) bt
 refine ct bh (ct bh ?_)
 exact eMq a6 _ ⟨bq (si bt), trivial⟩
 replace bt := qa9 ((si bP).symm.trans (qc0 (qgn bh))) bt
 refine cb bt fun dR dq bt => cgx (Jd3 dq :) ?_
 refine cf bh (qau (cf bh ?_))
 exact eMq a6 _ ⟨bq (si bt), trivial⟩
 rintro bO rfl dG
 refine cs rfl rfl hm ?_ ?_ <;> intro dQ hm
 refine cb hm fun dZ dM hm => cgx (Jd3 dM :) ?_
 exact eE hm
 refine fa rfl (ro (ld r0 rfl rfl ?_))
 refine cb hm fun dK dD hm => ckx (JdX dD :) ?_
 rintro _ _ _ ⟨dk, dh, rfl, dp, rfl⟩
 refine fa rfl ?_
 refine qaa r1 rfl ⟨rfl, rfl, (nl rfl), ?_⟩
 refine qai rfl rfl (cT ?_)
 refine bsO (len := 1) (enc := JK.enc) (l := [(⟨([101, 120, 97, 109, 112, 108, 101, 46, 99, 111, 109] : Str), 0, ([] : Str)⟩ : JK)]) (cl := [str ([101, 120, 97, 109, 112, 108, 101, 46, 99, 111, 109] : Str), .int .i64 0, str ([] : Str)]) qqm rfl rfl (fun _ _ => rfl) rfl rfl rfl ?_ fun dT => ?_
 · conv => whnf
   refine cT ?_
   first | done | rfl
 refine fF Tryz.call12 r0 fun dj cB dm => ?_
 refine cb hm fun dI dA hm => cfx (qej dA :) ?_
 rintro dW dS dY dv cQ
 rcases hq31 : dI.1 with _ | o31
 rw [hq31] at cQ hm
 obtain ⟨rfl, rfl⟩ := cQ
 replace hm := qss hm
 refine qa5 rfl ?_
 refine cs rfl rfl hm ?_ ?_ <;> intro dP hm
 exact eE hm
 refine ro (qab r0 rfl (nl rfl) ?_)
 refine fF Tryz.call13 r1 fun bJ bb bj => ?_
 refine cb hm fun ao cZ hm => ckx (qct cZ :) ?_
 rintro _ _ _ ⟨cG, cz, cA, cI, cL, cK, rfl, bv, cE, cO, rfl⟩
 refine qaf rfl fun b6 => ?_
 refine qaa r0 rfl ⟨rfl, rfl, (nl rfl), ?_⟩
 refine qa5 rfl ?_
 refine cs rfl rfl hm ?_ ?_ <;> intro dF hm
 refine cb hm fun dO dc hm => cg0 (JeF dc :) ?_
 exact eE hm
 refine fa rfl (ro (ld r4 rfl rfl ?_))
 refine cb hm fun az c4 hm => ckx (Jdw c4 :) ?_
 rintro _ _ _ ⟨cH, cN, rfl, cJ, rfl⟩
 refine fa rfl (ro (ld r1 rfl rfl (ro (qak rfl ?_))))
 obtain ⟨cD, hm⟩ := qaw hm
 obtain ⟨s0, aV, hm⟩ := bnd hm
 refine lD (σ := (Unit)) ([2,9] ++ rg 53 41) [0, 1, 2, 3, 4, 5, 6] (fun i0 => [(53, .int .i64 (i0 : Int))]) (fun _ => []) (fun _ => []) (fun _ => True) (fun i0 _ => JR ao az (ao.1.Ao.drop i0) i0 = some s0) (fun t0 => s0 = Fl.go t0) (fun i0 => ao.1.Ao.length - i0) 0 () aV (And.intro qe (And.intro ?_ ?_))
 clear aV
 rintro i0 _ _ aV j0
 conv at aV => whnf
 refine qac rfl ?_
 refine qae ?_ ?_ <;> intro w0
 obtain ⟨e0, bw, c6⟩ := ltx w0
 rw [c6, JR.eq_2] at aV
 refine qal rfl ?_
 refine RStep.ofN (qad rfl rfl (qco bv bw) (nn _) (qd2 rfl bw) (ro (qfg (i := i0) r2 rfl bw rfl rfl ?_)))
 refine qaf rfl fun b9 => ?_
 refine qaa r0 rfl ⟨rfl, rfl, (nl rfl), ?_⟩
 refine fa rfl (ro (ld r0 rfl rfl ?_))
 refine qal rfl ?_
 refine qaq (cs rfl rfl aV ?_ ?_) <;> intro aZ aV
 refine qac rfl (ct aZ ?_)
 exact eE (er aV hm)
 refine qaq (cs rfl rfl aV ?_ ?_) <;> intro aZ aV
 refine qac rfl (ct aZ ?_)
 exact eE (er aV hm)
 refine qaq (cs rfl rfl aV ?_ ?_) <;> intro aZ aV
 refine qac rfl (ct aZ ?_)
 exact eE (er aV hm)
 refine qaq (cs rfl rfl aV ?_ ?_) <;> intro aZ aV
 refine qac rfl (ct aZ ?_)
 exact eE (er aV hm)
 refine qaq (cs rfl rfl aV ?_ ?_) <;> intro aZ aV
 refine qac rfl (ct aZ ?_)
 exact eE (er aV hm)
 refine qaq (cs rfl rfl aV ?_ ?_) <;> intro aZ aV
 refine qac rfl (ct aZ ?_)
 exact eE (er aV hm)
 refine qaq (cs rfl rfl aV ?_ ?_) <;> intro aZ aV
 refine qac rfl (ct aZ ?_)
 exact eE (er aV hm)
 refine qaq (cs rfl rfl aV ?_ ?_) <;> intro aZ aV
 refine qac rfl (ct aZ ?_)
 exact eE (er aV hm)
 refine qaq (cs rfl rfl aV ?_ ?_) <;> intro aZ aV
 refine qac rfl (ct aZ ?_)
 exact eE (er aV hm)
 refine qaq (cs rfl rfl aV ?_ ?_) <;> intro aZ aV
 exact eE (er aV hm)
 refine DStep.ownLe r1 fun dB => ?_
 refine DStep.ownLe r3 fun dw => ?_
 refine DStep.ownLe r4 fun dt => ?_
 refine DStep.ownLe r5 fun dz => ?_
 refine qa6 ⟨⟨[], false⟩, _, [(_, _), (_, _)], []⟩ (by kernel_rfl) ⟨Hp.Le.refl _, (sc [0,1] rfl), ci0⟩ ?_
 refine fa rfl (qao m0 rfl rfl (qh1 rfl ?_))
 obtain ⟨du, bl, aV⟩ := bnd aV
 refine cS bl (fun aW bl => ?_) fun aW bl => ?_
 refine fa rfl (ct aW (qao m0 rfl rfl (ct aW ?_)))
 obtain ⟨cY, bl⟩ := qaw bl
 refine qdp (lo := none) (hi := (some 5)) rfl cY (ct aW (qaq (ct aW ?_)))
 obtain ⟨df, aX, aV⟩ := bnd aV
 refine qae ?_ ?_ <;> intro aU
 replace aX := ift ((si bl).symm.trans aU) aX
 refine ct aU (ct aU (ct aU (ct aU (ct aU (ct aU (ct aU (ct aU ?_)))))))
 refine ct aU (ct aU (ct aU (qac rfl (cT ?_))))
 replace aV := ift (si aX).symm aV
 exact eE (er aV hm)
 replace aX := qa9 ((si bl).symm.trans aU) aX
 refine fa rfl (cf aU (qao m1 rfl rfl (cf aU (fa rfl (cf aU (qao m0 rfl rfl (cf aU ?_)))))))
 refine cb aX fun cU bV aX => ck0 (Fn.lend Tryz.call24 (fun bG bz a8 => (J9 (name := e0.Name) bV ⟨a8, rfl⟩)) (by exact fun _ _ _ _ h => h)) ?_
 rintro _ _ _ ⟨_, rfl, bA, bD, rfl, bN, rfl⟩
 refine qk (sc [2,3] rfl) ?_
 refine cf aU (cf aU (fa rfl (cf aU (qao m0 rfl rfl (cf aU ?_)))))
 refine cb aX fun c8 ca aX => ck0 (Fn.lend Tryz.call24 (fun bu bH bf => (J9 (name := e0.Name) ca ⟨bf, rfl⟩)) (by exact fun _ _ _ _ h => h)) ?_
 rintro _ _ _ ⟨_, rfl, bK, bI, rfl, bM, rfl⟩
 refine qk (sc [4,4] rfl) ?_
 refine cf aU ?_
 refine cb aX fun de bX aX => ck0 (Fn.lend Tryz.call23 (fun bC bL bg => (Fn.lend Tryz.call23 (fun bF bc ba => (Jcd bX ⟨(bg.mono bc), rfl, ba, rfl⟩)) (by exact fun _ _ _ _ h => h))) (by exact fun _ _ _ _ h => h)) ?_
 rintro _ _ _ ⟨_, rfl, _, rfl, rfl, rfl⟩
 refine qk (sc [4,4] rfl) ?_
 refine cf aU (qau (cf aU (qac rfl ?_)))
 refine qae ?_ ?_ <;> intro bB
 replace aV := ift ((si aX).symm.trans (qdw (qik bB))) aV
 exact eE (er aV hm)
 replace aV := qa9 ((si aX).symm.trans (qc0 (qgn bB))) aV
 refine qam (qbn bw cD) ?_
 exact eR aV (_, ())
 refine cf aW (cf aW (cf aW (cf aW ?_)))
 obtain ⟨df, aX, aV⟩ := bnd aV
 replace aX := qa9 (si bl).symm aX
 refine cF (fa rfl (cF (qao m1 rfl rfl (cF (fa rfl (cF (qao m0 rfl rfl ?_)))))))
 refine cF ?_
 refine cb aX fun cU bV aX => ck0 (Fn.lend Tryz.call24 (fun bG bz a8 => (J9 (name := e0.Name) bV ⟨a8, rfl⟩)) (by exact fun _ _ _ _ h => h)) ?_
 rintro _ _ _ ⟨_, rfl, bA, bD, rfl, bN, rfl⟩
 refine qk (sc [2,3] rfl) ?_
 refine cF (cF (fa rfl (cF (qao m0 rfl rfl (cF ?_)))))
 refine cb aX fun c8 ca aX => ck0 (Fn.lend Tryz.call24 (fun bu bH bf => (J9 (name := e0.Name) ca ⟨bf, rfl⟩)) (by exact fun _ _ _ _ h => h)) ?_
 rintro _ _ _ ⟨_, rfl, bK, bI, rfl, bM, rfl⟩
 refine qk (sc [4,4] rfl) ?_
 refine cF ?_
 refine cb aX fun de bX aX => ck0 (Fn.lend Tryz.call23 (fun bC bL bg => (Fn.lend Tryz.call23 (fun bF bc ba => (Jcd bX ⟨(bg.mono bc), rfl, ba, rfl⟩)) (by exact fun _ _ _ _ h => h))) (by exact fun _ _ _ _ h => h)) ?_
 rintro _ _ _ ⟨_, rfl, _, rfl, rfl, rfl⟩
 refine qk (sc [4,4] rfl) ?_
 refine cF (qau (cF (qac rfl ?_)))
 refine qae ?_ ?_ <;> intro bB
 replace aV := ift ((si aX).symm.trans (qdw (qik bB))) aV
 exact eE (er aV hm)
 replace aV := qa9 ((si aX).symm.trans (qc0 (qgn bB))) aV
 refine qam (qbn bw cD) ?_
 exact eR aV (_, ())
 rw [lty w0, JR.eq_1] at aV
 refine cT ?_
 exact eM aV _
 rintro t0 _ rfl j0
 replace hm := elg hm
 refine bsO (len := 4) (enc := eS) (l := [([97, 99, 99, 101, 112, 116] : Str), ([99, 111, 111, 107, 105, 101] : Str), ([99, 97, 99, 104, 101, 45, 99, 111, 110, 116, 114, 111, 108] : Str), ([120, 45, 97] : Str)]) (cl := [str ([97, 99, 99, 101, 112, 116] : Str), str ([99, 111, 111, 107, 105, 101] : Str), str ([99, 97, 99, 104, 101, 45, 99, 111, 110, 116, 114, 111, 108] : Str), str ([120, 45, 97] : Str)]) qbw rfl rfl (fun _ _ => rfl) rfl rfl rfl ?_ fun dL => ?_
 · conv => whnf
   refine cT (cT (cT (cT ?_)))
   first | done | rfl
 refine ro (qak rfl ?_)
 obtain ⟨c5, hm⟩ := qaw hm
 obtain ⟨s3, aY, hm⟩ := bnd hm
 refine lD (σ := (Unit)) ([2,11] ++ rg 96 14) [0, 1, 2, 3, 4, 5, 6, 7] (fun i3 => [(96, .int .i64 (i3 : Int))]) (fun _ => []) (fun _ => []) (fun _ => True) (fun i3 _ => JS ao az ((4 : Int).toNat - i3) i3 = some s3) (fun t3 => s3 = Fl.go t3) (fun i3 => (4 : Int).toNat - i3) 0 () aY (And.intro qe (And.intro ?_ ?_))
 clear aY
 rintro i3 _ _ aY j3
 conv at aY => whnf
 refine qac rfl ?_
 refine qae ?_ ?_ <;> intro w3
 rw [ltn (n := (4 : Int)) w3, JS.eq_2] at aY
 refine qal rfl ?_
 obtain ⟨cM, cC, cu, aY⟩ := ixb aY
 refine RStep.ofN (qad rfl rfl (qco (fun _ => ⟨_, _, rfl⟩) cu) cC (qax rfl cC cu) (ro (qbv (i := ((i3 : Int)).toNat) (o := 0) r0 rfl cu rfl rfl (fa rfl (ro (ld r2 rfl rfl ?_))))))
 refine cb aY fun cV cj aY => ck0 (Fn.lend Tryz.call24 (fun bS ce bp => (J9 (name := cM) cj ⟨bp, rfl⟩)) (by exact fun _ _ _ _ h => h)) ?_
 rintro _ _ _ ⟨_, rfl, cm, bR, rfl, bZ, rfl⟩
 refine cb aY fun cX cn aY => ck0 (Fn.lend Tryz.call24 (fun bU bT bn => (J9 (name := cM) cn ⟨bn, rfl⟩)) (by exact fun _ _ _ _ h => h)) ?_
 rintro _ _ _ ⟨_, rfl, cr, bW, rfl, bY, rfl⟩
 refine cb aY fun cW bQ aY => ck0 (Fn.lend Tryz.call23 (fun cw co br => (Fn.lend Tryz.call23 (fun cy bo bm => (Jcd bQ ⟨(br.mono bo), rfl, bm, rfl⟩)) (by exact fun _ _ _ _ h => h))) (by exact fun _ _ _ _ h => h)) ?_
 rintro _ _ _ ⟨_, rfl, _, rfl, rfl, rfl⟩
 refine qau ?_
 refine cs rfl rfl aY ?_ ?_ <;> intro c9 aY
 exact eE (er aY hm)
 refine qam (qij w3 c5) ?_
 exact eR aY (_, ())
 rw [lto (n := (4 : Int)) w3, JS.eq_1] at aY
 refine cT ?_
 exact eM aY _
 rintro t3 _ rfl j3
 replace hm := elg hm
 exact eE hm
 rw [hq31] at cQ hm
 obtain ⟨di, dn, dg, rfl, cP, rfl⟩ := cQ
 replace hm := qst hm
 refine qa5 rfl ?_
 refine cs rfl rfl hm ?_ ?_ <;> intro dP hm
 exact eE hm
 refine ro (qab r2 rfl (nl rfl) ?_)
 refine fF Tryz.call13 r3 fun bJ bb bj => ?_
 refine cb hm fun ao cZ hm => ck0 (qb4 (d := o31) (r' := (⟨r'.Am, r'.Target, dK⟩ : JA)) cZ ⟨(MR.mono Jz.R_ok cP bb), bj, (hG.mono ((cB.trans dv).trans bb))⟩) ?_
 rintro _ _ _ ⟨cG, cz, cA, cI, cL, cK, rfl, bv, cE, cO, rfl⟩
 refine qaf rfl fun b6 => ?_
 refine qaa r0 rfl ⟨rfl, rfl, (nl rfl), ?_⟩
 refine qa5 rfl ?_
 refine cs rfl rfl hm ?_ ?_ <;> intro dF hm
 refine cb hm fun dO dc hm => cg0 (JeF dc :) ?_
 exact eE hm
 refine fa rfl (ro (ld r6 rfl rfl ?_))
 refine cb hm fun az c4 hm => ckx (Jdw c4 :) ?_
 rintro _ _ _ ⟨cH, cN, rfl, cJ, rfl⟩
 refine fa rfl (ro (ld r1 rfl rfl (ro (qak rfl ?_))))
 obtain ⟨cD, hm⟩ := qaw hm
 obtain ⟨s0, aV, hm⟩ := bnd hm
 refine lD (σ := (Unit)) ([2,9] ++ rg 53 41) [0, 1, 2, 3, 4, 5, 6, 7, 8] (fun i0 => [(53, .int .i64 (i0 : Int))]) (fun _ => []) (fun _ => []) (fun _ => True) (fun i0 _ => JR ao az (ao.1.Ao.drop i0) i0 = some s0) (fun t0 => s0 = Fl.go t0) (fun i0 => ao.1.Ao.length - i0) 0 () aV (And.intro qe (And.intro ?_ ?_))
 clear aV
 rintro i0 _ _ aV j0
 conv at aV => whnf
 refine qac rfl ?_
 refine qae ?_ ?_ <;> intro w0
 obtain ⟨e0, bw, c6⟩ := ltx w0
 rw [c6, JR.eq_2] at aV
 refine qal rfl ?_
 refine RStep.ofN (qad rfl rfl (qco bv bw) (nn _) (qd2 rfl bw) (ro (qfg (i := i0) r2 rfl bw rfl rfl ?_)))
 refine qaf rfl fun b9 => ?_
 refine qaa r0 rfl ⟨rfl, rfl, (nl rfl), ?_⟩
 refine fa rfl (ro (ld r0 rfl rfl ?_))
 refine qal rfl ?_
 refine qaq (cs rfl rfl aV ?_ ?_) <;> intro aZ aV
 refine qac rfl (ct aZ ?_)
 exact eE (er aV hm)
 refine qaq (cs rfl rfl aV ?_ ?_) <;> intro aZ aV
 refine qac rfl (ct aZ ?_)
 exact eE (er aV hm)
 refine qaq (cs rfl rfl aV ?_ ?_) <;> intro aZ aV
 refine qac rfl (ct aZ ?_)
 exact eE (er aV hm)
 refine qaq (cs rfl rfl aV ?_ ?_) <;> intro aZ aV
 refine qac rfl (ct aZ ?_)
 exact eE (er aV hm)
 refine qaq (cs rfl rfl aV ?_ ?_) <;> intro aZ aV
 refine qac rfl (ct aZ ?_)
 exact eE (er aV hm)
 refine qaq (cs rfl rfl aV ?_ ?_) <;> intro aZ aV
 refine qac rfl (ct aZ ?_)
 exact eE (er aV hm)
 refine qaq (cs rfl rfl aV ?_ ?_) <;> intro aZ aV
 refine qac rfl (ct aZ ?_)
 exact eE (er aV hm)
 refine qaq (cs rfl rfl aV ?_ ?_) <;> intro aZ aV
 refine qac rfl (ct aZ ?_)
 exact eE (er aV hm)
 refine qaq (cs rfl rfl aV ?_ ?_) <;> intro aZ aV
 refine qac rfl (ct aZ ?_)
 exact eE (er aV hm)
 refine qaq (cs rfl rfl aV ?_ ?_) <;> intro aZ aV
 exact eE (er aV hm)
 refine DStep.ownLe r1 fun dH => ?_
 refine DStep.ownLe r3 fun dN => ?_
 refine DStep.ownLe r4 fun dy => ?_
 refine DStep.ownLe r5 fun dC => ?_
 refine qa6 ⟨⟨[], false⟩, _, [(_, _), (_, _)], []⟩ (by kernel_rfl) ⟨Hp.Le.refl _, (sc [0,1] rfl), ci0⟩ ?_
 refine fa rfl (qao m0 rfl rfl (qh1 rfl ?_))
 obtain ⟨du, bl, aV⟩ := bnd aV
 refine cS bl (fun aW bl => ?_) fun aW bl => ?_
 refine fa rfl (ct aW (qao m0 rfl rfl (ct aW ?_)))
 obtain ⟨cY, bl⟩ := qaw bl
 refine qdp (lo := none) (hi := (some 5)) rfl cY (ct aW (qaq (ct aW ?_)))
 obtain ⟨df, aX, aV⟩ := bnd aV
 refine qae ?_ ?_ <;> intro aU
 replace aX := ift ((si bl).symm.trans aU) aX
 refine ct aU (ct aU (ct aU (ct aU (ct aU (ct aU (ct aU (ct aU ?_)))))))
 refine ct aU (ct aU (ct aU (qac rfl (cT ?_))))
 replace aV := ift (si aX).symm aV
 exact eE (er aV hm)
 replace aX := qa9 ((si bl).symm.trans aU) aX
 refine fa rfl (cf aU (qao m1 rfl rfl (cf aU (fa rfl (cf aU (qao m0 rfl rfl (cf aU ?_)))))))
 refine cb aX fun cU bV aX => ck0 (Fn.lend Tryz.call24 (fun bG bz a8 => (J9 (name := e0.Name) bV ⟨a8, rfl⟩)) (by exact fun _ _ _ _ h => h)) ?_
 rintro _ _ _ ⟨_, rfl, bA, bD, rfl, bN, rfl⟩
 refine qk (sc [2,3] rfl) ?_
 refine cf aU (cf aU (fa rfl (cf aU (qao m0 rfl rfl (cf aU ?_)))))
 refine cb aX fun c8 ca aX => ck0 (Fn.lend Tryz.call24 (fun bu bH bf => (J9 (name := e0.Name) ca ⟨bf, rfl⟩)) (by exact fun _ _ _ _ h => h)) ?_
 rintro _ _ _ ⟨_, rfl, bK, bI, rfl, bM, rfl⟩
 refine qk (sc [4,4] rfl) ?_
 refine cf aU ?_
 refine cb aX fun de bX aX => ck0 (Fn.lend Tryz.call23 (fun bC bL bg => (Fn.lend Tryz.call23 (fun bF bc ba => (Jcd bX ⟨(bg.mono bc), rfl, ba, rfl⟩)) (by exact fun _ _ _ _ h => h))) (by exact fun _ _ _ _ h => h)) ?_
 rintro _ _ _ ⟨_, rfl, _, rfl, rfl, rfl⟩
 refine qk (sc [4,4] rfl) ?_
 refine cf aU (qau (cf aU (qac rfl ?_)))
 refine qae ?_ ?_ <;> intro bB
 replace aV := ift ((si aX).symm.trans (qdw (qik bB))) aV
 exact eE (er aV hm)
 replace aV := qa9 ((si aX).symm.trans (qc0 (qgn bB))) aV
 refine qam (qbn bw cD) ?_
 exact eR aV (_, ())
 refine cf aW (cf aW (cf aW (cf aW ?_)))
 obtain ⟨df, aX, aV⟩ := bnd aV
 replace aX := qa9 (si bl).symm aX
 refine cF (fa rfl (cF (qao m1 rfl rfl (cF (fa rfl (cF (qao m0 rfl rfl ?_)))))))
 refine cF ?_
 refine cb aX fun cU bV aX => ck0 (Fn.lend Tryz.call24 (fun bG bz a8 => (J9 (name := e0.Name) bV ⟨a8, rfl⟩)) (by exact fun _ _ _ _ h => h)) ?_
 rintro _ _ _ ⟨_, rfl, bA, bD, rfl, bN, rfl⟩
 refine qk (sc [2,3] rfl) ?_
 refine cF (cF (fa rfl (cF (qao m0 rfl rfl (cF ?_)))))
 refine cb aX fun c8 ca aX => ck0 (Fn.lend Tryz.call24 (fun bu bH bf => (J9 (name := e0.Name) ca ⟨bf, rfl⟩)) (by exact fun _ _ _ _ h => h)) ?_
 rintro _ _ _ ⟨_, rfl, bK, bI, rfl, bM, rfl⟩
 refine qk (sc [4,4] rfl) ?_
 refine cF ?_
 refine cb aX fun de bX aX => ck0 (Fn.lend Tryz.call23 (fun bC bL bg => (Fn.lend Tryz.call23 (fun bF bc ba => (Jcd bX ⟨(bg.mono bc), rfl, ba, rfl⟩)) (by exact fun _ _ _ _ h => h))) (by exact fun _ _ _ _ h => h)) ?_
 rintro _ _ _ ⟨_, rfl, _, rfl, rfl, rfl⟩
 refine qk (sc [4,4] rfl) ?_
 refine cF (qau (cF (qac rfl ?_)))
 refine qae ?_ ?_ <;> intro bB
 replace aV := ift ((si aX).symm.trans (qdw (qik bB))) aV
 exact eE (er aV hm)
 replace aV := qa9 ((si aX).symm.trans (qc0 (qgn bB))) aV
 refine qam (qbn bw cD) ?_
 exact eR aV (_, ())
 rw [lty w0, JR.eq_1] at aV
 refine cT ?_
 exact eM aV _
 rintro t0 _ rfl j0
 replace hm := elg hm
 refine bsO (len := 4) (enc := eS) (l := [([97, 99, 99, 101, 112, 116] : Str), ([99, 111, 111, 107, 105, 101] : Str), ([99, 97, 99, 104, 101, 45, 99, 111, 110, 116, 114, 111, 108] : Str), ([120, 45, 97] : Str)]) (cl := [str ([97, 99, 99, 101, 112, 116] : Str), str ([99, 111, 111, 107, 105, 101] : Str), str ([99, 97, 99, 104, 101, 45, 99, 111, 110, 116, 114, 111, 108] : Str), str ([120, 45, 97] : Str)]) qbw rfl rfl (fun _ _ => rfl) rfl rfl rfl ?_ fun dL => ?_
 · conv => whnf
   refine cT (cT (cT (cT ?_)))
   first | done | rfl
 refine ro (qak rfl ?_)
 obtain ⟨c5, hm⟩ := qaw hm
 obtain ⟨s3, aY, hm⟩ := bnd hm
 refine lD (σ := (Unit)) ([2,11] ++ rg 96 14) [0, 1, 2, 3, 4, 5, 6, 7, 8, 9] (fun i3 => [(96, .int .i64 (i3 : Int))]) (fun _ => []) (fun _ => []) (fun _ => True) (fun i3 _ => JS ao az ((4 : Int).toNat - i3) i3 = some s3) (fun t3 => s3 = Fl.go t3) (fun i3 => (4 : Int).toNat - i3) 0 () aY (And.intro qe (And.intro ?_ ?_))
 clear aY
 rintro i3 _ _ aY j3
 conv at aY => whnf
 refine qac rfl ?_
 refine qae ?_ ?_ <;> intro w3
 rw [ltn (n := (4 : Int)) w3, JS.eq_2] at aY
 refine qal rfl ?_
 obtain ⟨cM, cC, cu, aY⟩ := ixb aY
 refine RStep.ofN (qad rfl rfl (qco (fun _ => ⟨_, _, rfl⟩) cu) cC (qax rfl cC cu) (ro (qbv (i := ((i3 : Int)).toNat) (o := 0) r0 rfl cu rfl rfl (fa rfl (ro (ld r2 rfl rfl ?_))))))
 refine cb aY fun cV cj aY => ck0 (Fn.lend Tryz.call24 (fun bS ce bp => (J9 (name := cM) cj ⟨bp, rfl⟩)) (by exact fun _ _ _ _ h => h)) ?_
 rintro _ _ _ ⟨_, rfl, cm, bR, rfl, bZ, rfl⟩
 refine cb aY fun cX cn aY => ck0 (Fn.lend Tryz.call24 (fun bU bT bn => (J9 (name := cM) cn ⟨bn, rfl⟩)) (by exact fun _ _ _ _ h => h)) ?_
 rintro _ _ _ ⟨_, rfl, cr, bW, rfl, bY, rfl⟩
 refine cb aY fun cW bQ aY => ck0 (Fn.lend Tryz.call23 (fun cw co br => (Fn.lend Tryz.call23 (fun cy bo bm => (Jcd bQ ⟨(br.mono bo), rfl, bm, rfl⟩)) (by exact fun _ _ _ _ h => h))) (by exact fun _ _ _ _ h => h)) ?_
 rintro _ _ _ ⟨_, rfl, _, rfl, rfl, rfl⟩
 refine qau ?_
 refine cs rfl rfl aY ?_ ?_ <;> intro c9 aY
 exact eE (er aY hm)
 refine qam (qij w3 c5) ?_
 exact eR aY (_, ())
 rw [lto (n := (4 : Int)) w3, JS.eq_1] at aY
 refine cT ?_
 exact eM aY _
 rintro t3 _ rfl j3
 replace hm := elg hm
 exact eE hm
