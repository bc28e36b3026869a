/- Functions of the program: mirrors, and that a call returns what the mirror says. Printed by gen.py. -/
import Derived.Test.YtiaaooopklhobaaGreatDoorG6
set_option linter.unusedVariables false
set_option linter.unusedSimpArgs false
open Go Go.SL Go.Proofs
noncomputable section
set_option maxRecDepth 1000000
set_option maxHeartbeats 8000000
def Jc2 (n : Nat) : Option (Bool) :=
  (qdf n ([(⟨([101, 120, 97, 109, 112, 108, 101, 46, 99, 111, 109] : Str), 3, ([112, 97, 116, 104, 32, 61, 32, 34, 47, 118, 49, 34, 32, 43, 32, 112, 97, 116, 104, 59, 32, 116, 116, 108, 32, 54, 48, 59, 32, 116, 97, 103, 32, 34, 97, 108, 108, 34, 59] : Str)⟩ : J3)])).bind fun x8 =>
  Option.elim x8.1 (
  ((if x8.2.2.isSome then
  some ()
  else
  some ()) : Option (Unit)).bind fun aV =>
  some false)
   fun o8 =>
  ((if x8.2.2.isSome then
  some true
  else
  some false) : Option (Bool)).bind fun aT =>
  if aT then
  some false
  else
  (qa2 n o8 (⟨([71, 69, 84] : Str), ([47, 97, 63, 120, 61, 49] : Str), [(⟨([104, 111, 115, 116] : Str), ([101, 120, 97, 109, 112, 108, 101, 46, 99, 111, 109] : Str)⟩ : Jc)]⟩ : JU)).bind fun aS =>
  (if (aS.2.isNone && decide (aS.1.TTL = 60)) then (qd9 n aS.1).bind fun aY =>
  some (decide (aY = ([51, 32, 101, 120, 97, 109, 112, 108, 101, 46, 99, 111, 109, 47, 118, 49, 47, 97, 63, 120, 61, 49] : Str))) else some false).bind fun aU =>
  (if (aU && decide ((aS.1.Ah.length : Int) = 1)) then (ix aS.1.Ah 0).bind fun aW =>
  some (decide (aW = ([97, 108, 108] : Str))) else some false).bind fun aX =>
  some aX
theorem JdO {n : Nat}  {K : Hp} {r : Bool}
    (hm : Jc2 n = some r) (hG : GG K) :
    Fn Tryz.prog 11 [] K [] (fun v K' H' => v = .bool r ∧ H' = []) := by
 refine Fn.enter Tryz.func11 Tryz.call11 rfl fun F => ?_
 unfold Jc2 at hm
 refine qag rfl rfl (cT (cT (cT ?_)))
 refine bsO (len := 1) (enc := J3.enc) (l := [(⟨([101, 120, 97, 109, 112, 108, 101, 46, 99, 111, 109] : Str), 3, ([112, 97, 116, 104, 32, 61, 32, 34, 47, 118, 49, 34, 32, 43, 32, 112, 97, 116, 104, 59, 32, 116, 116, 108, 32, 54, 48, 59, 32, 116, 97, 103, 32, 34, 97, 108, 108, 34, 59] : Str)⟩ : J3)]) (cl := [str ([101, 120, 97, 109, 112, 108, 101, 46, 99, 111, 109] : Str), .int .i64 3, str ([112, 97, 116, 104, 32, 61, 32, 34, 47, 118, 49, 34, 32, 43, 32, 112, 97, 116, 104, 59, 32, 116, 116, 108, 32, 54, 48, 59, 32, 116, 97, 103, 32, 34, 97, 108, 108, 34, 59] : Str)]) qo7 rfl rfl (fun _ _ => rfl) rfl rfl rfl ?_ fun b7 => ?_
 · conv => whnf
   refine cT ?_
   first | done | rfl
 refine fF Tryz.call12 r0 fun bO bw bM => ?_
 refine cb hm fun x8 q8 hm => cfx (qei q8 :) ?_
 rintro v8 K8 H8 l8 p8
 rcases hq8 : x8.1 with _ | o8
 rw [hq8] at p8 hm
 obtain ⟨rfl, rfl⟩ := p8
 replace hm := qq8 hm
 obtain ⟨bp, a6, hm⟩ := bnd hm
 refine jR (σ := Unit) (rg 12 6) (fun _ => [(17, .bool true)]) (fun bt => bt = bp) ?_ ?_
 refine qaj rfl ?_
 refine qa6 rfl ?_
 refine cS a6 (fun aU a6 => ?_) fun aU a6 => ?_
 refine ct aU (ct aU ?_)
 exact eM a6 _
 refine cf aU ?_
 refine qg6 rfl ?_
 refine cf aU ?_
 exact eM a6 _
 rintro _ rfl bU
 refine qac rfl (cT ?_)
 exact eE hm
 rw [hq8] at p8 hm
 obtain ⟨bS, bP, bL, rfl, br, rfl⟩ := p8
 replace hm := qq9 hm
 obtain ⟨bz, aZ, hm⟩ := bnd hm
 refine jR (σ := Bool) (rg 12 6) (fun bc => [(17, .bool bc)]) (fun bc => bc = bz) ?_ ?_
 refine qaj rfl ?_
 refine qa6 rfl ?_
 refine cS aZ (fun aU aZ => ?_) fun aU aZ => ?_
 refine ct aU (ct aU ?_)
 exact eM aZ _
 refine cf aU ?_
 refine qg5 rfl ?_
 refine cf aU ?_
 exact eM aZ _
 rintro bc rfl bR
 refine cs rfl rfl hm ?_ ?_ <;> intro bZ hm
 exact eE hm
 refine qag rfl rfl (cT (cT ?_))
 refine bsO (len := 1) (enc := Jc.enc) (l := [(⟨([104, 111, 115, 116] : Str), ([101, 120, 97, 109, 112, 108, 101, 46, 99, 111, 109] : Str)⟩ : Jc)]) (cl := [str ([104, 111, 115, 116] : Str), str ([101, 120, 97, 109, 112, 108, 101, 46, 99, 111, 109] : Str)]) qe6 rfl rfl (fun _ _ => rfl) rfl rfl rfl ?_ fun bW => ?_
 · conv => whnf
   refine cT ?_
   first | done | rfl
 refine qag rfl rfl (cT (cT (cT ?_)))
 refine fF Tryz.call13 r0 fun bm aY bb => ?_
 refine cb hm fun bV bT hm => ck0 (qb6 (d := o8) (r' := (⟨([71, 69, 84] : Str), ([47, 97, 63, 120, 61, 49] : Str), [(⟨([104, 111, 115, 116] : Str), ([101, 120, 97, 109, 112, 108, 101, 46, 99, 111, 109] : Str)⟩ : Jc)]⟩ : JU)) bT ⟨(MR.mono Jx.R_ok br aY), bb, (hG.mono ((bw.trans l8).trans aY))⟩) ?_
 rintro _ _ _ ⟨bG, bC, bK, bI, bA, bF, rfl, bH, bJ, bD, rfl⟩
 refine qai rfl fun b4 => ?_
 refine qaa r0 rfl ⟨rfl, rfl, (nl rfl), ?_⟩
 refine qaj rfl ?_
 refine qdq rfl ?_
 refine qae ?_ ?_ <;> intro aV
 refine fa rfl (ct aV (ro (ld r0 rfl rfl (ct aV (qaf (ct aV ?_))))))
 obtain ⟨bQ, ba, hm⟩ := bnd hm
 refine qae ?_ ?_ <;> intro aW
 replace ba := ift (qa5 aV aW) ba
 refine ro (qab r0 rfl (nl rfl) (ct aW ?_))
 refine fF Tryz.call31 r1 fun bh bd bl => ?_
 refine fF Tryz.call31 r1 fun bf bg bj => ?_
 refine fF Tryz.call31 r1 fun bo bn a8 => ?_
 refine cb ba fun bY bN ba => cgx (qgv bN :) ?_
 refine ct aW (qap (ct aW ?_))
 refine qae ?_ ?_ <;> intro aT
 refine fa rfl (ct aT (ro (ld r0 rfl rfl (ct aT (ro (qak rfl (ct aT (qaf (ct aT ?_)))))))))
 obtain ⟨bu, aX, hm⟩ := bnd hm
 refine qae ?_ ?_ <;> intro aS
 replace aX := ift (qa5 ((si ba).symm.trans aT) aS) aX
 refine fa rfl (ct aS (ro (ld r0 rfl rfl (ct aS ?_))))
 obtain ⟨bX, bB, bv, aX⟩ := ixb aX
 refine RStep.ofN (qad rfl rfl (qfs a8.rd bv) bB (qax rfl bB bv) (ct aS (ro (qcv ((0 : Int).toNat) 0 _ _ a8.rd rfl (mp bv) rfl rfl (ct aS (qap (ct aS ?_)))))))
 exact bE (si aX) (eE hm)
 replace aX := qba (qbs ((si ba).symm.trans aT) aS) aX
 refine cf aS (cf aS (cf aS (cf aS (cf aS ?_))))
 exact bE (si aX) (eE hm)
 refine cf aT (cf aT (cf aT (cf aT ?_)))
 obtain ⟨bu, aX, hm⟩ := bnd hm
 replace aX := qba (qav ((si ba).symm.trans aT)) aX
 refine cF (cF (cF (cF (cF (cF ?_)))))
 exact bE (si aX) (eE hm)
 replace ba := qba (qbs aV aW) ba
 refine cf aW (cf aW (cf aW (cF (cF (cF (cF (cF ?_)))))))
 obtain ⟨bu, aX, hm⟩ := bnd hm
 replace aX := qba (qav (si ba).symm) aX
 refine cF (cF (cF (cF (cF (cF ?_)))))
 exact bE (si aX) (eE hm)
 refine cf aV (cf aV (cf aV ?_))
 obtain ⟨bQ, ba, hm⟩ := bnd hm
 replace ba := qba (qav aV) ba
 refine cF (cF (cF (cF (cF (cF (cF (cF ?_)))))))
 refine cF ?_
 obtain ⟨bu, aX, hm⟩ := bnd hm
 replace aX := qba (qav (si ba).symm) aX
 refine cF (cF (cF (cF (cF (cF ?_)))))
 exact bE (si aX) (eE hm)

def qbi (r' : JU) : Option (Jz × Err) :=
  some ((⟨0, 0, 0, (⟨([] : Str), ([] : Str), ([] : Str), false⟩ : Jl), (⟨([] : Str), ([] : Str), ([] : Str), false⟩ : Jl), [], [], [], false, false⟩ : Jz), (some 3))
theorem qcp {r' : JU} {af : Option Addr} {ag : Nat} {K : Hp} {r : Jz × Err}
    (hm : qbi r' = some r) (ai : RdC Jc.enc K af ag 2 r'.Ao) :
    Fn Tryz.prog 13 [.pointer none, .agg #[str r'.Am, str r'.Target, .slice af r'.Ao.length ag]] K [] (fun v K' H' => ∃ ar_0 : Option Addr, ∃ cr_0 : Nat, ∃ ar_1 : Option Addr, ∃ cr_1 : Nat, ∃ ar_2 : Option Addr, ∃ cr_2 : Nat, v = .tuple #[.agg #[.int .i64 r.1.Tenant, .int .i64 r.1.TTL, .int .i64 r.1.Ai, str r.1.Asked.An, str r.1.Asked.Ae, str r.1.Asked.Af, .bool r.1.Asked.HasQuery, str r.1.Cache.An, str r.1.Cache.Ae, str r.1.Cache.Af, .bool r.1.Cache.HasQuery, .slice ar_0 r.1.Ao.length cr_0, .slice ar_1 r.1.Vary.length cr_1, .slice ar_2 r.1.Ah.length cr_2, .bool r.1.Ak, .bool r.1.Al], qcs 48 r.2] ∧ (0 < r.1.Ao.length → Has ar_0) ∧ (0 < r.1.Vary.length → Has ar_1) ∧ (0 < r.1.Ah.length → Has ar_2) ∧ H' = [qas Jc.enc ar_0 41 2 cr_0 r.1.Ao, qas eS ar_1 9 1 cr_1 r.1.Vary, qas eS ar_2 9 1 cr_2 r.1.Ah]) := by
 refine Fn.enter Tryz.func13 Tryz.call13 rfl fun F => ?_
 unfold qbi at hm
 refine qaq ?_
 intro b3
 refine qai rfl fun b4 => ?_
 refine qg6 rfl ?_
 refine qac rfl (cT (qag rfl rfl ?_))
 refine qar rfl ?_
 refine qaa r0 rfl ⟨rfl, rfl, (nl rfl), ?_⟩
 refine ro (qab r0 rfl (nl rfl) ?_)
 refine qcj Jc.enc 41 2 ?_
 refine qcj eS 9 1 ?_
 refine qcj eS 9 1 ?_
 exact eE hm

def Jcw (b : (List Str)) : List Str → Nat → Option (Fl (Bool) (Unit))
  | [], _ => some (Fl.go ())
  | e0 :: aS, i0 =>
    (ix b (i0 : Int)).bind fun aT =>
    if decide (e0 ≠ aT) then
    some (Fl.ret false)
    else
    Jcw b aS (i0 + 1)
def JdJ (a : (List Str)) (b : (List Str)) : Option (Bool) :=
  if decide ((a.length : Int) ≠ (b.length : Int)) then
  some false
  else
  (chk (a.length ≤ qbh)).bind fun _ =>
  (Jcw b a 0).bind fun s0 => s0.el some fun t0 =>
  some true
theorem Jd0 {a : (List Str)} {b : (List Str)} {aa : Option Addr} {ab : Nat} {n0 : Nat} {af : Option Addr} {ag : Nat} {n1 : Nat} {K : Hp} {r : Bool}
    (hm : JdJ a b = some r) (hX : RdC eS K aa ab 1 a ∧ n0 = a.length ∧ RdC eS K af ag 1 b ∧ n1 = b.length) :
    Fn Tryz.prog 23 [.slice aa n0 ab, .slice af n1 ag] K [] (fun v K' H' => v = .bool r ∧ H' = []) := by
 obtain ⟨ae, aW, ai, aZ⟩ := hX
 subst aW
 subst aZ
 refine Fn.enter Tryz.func23 Tryz.call23 rfl fun F => ?_
 unfold JdJ at hm
 refine ro (qak rfl (ro (qak rfl (qa8 ?_))))
 refine cs rfl rfl hm ?_ ?_ <;> intro ba hm
 exact eE hm
 refine ro (qak rfl ?_)
 obtain ⟨aX, hm⟩ := qaw hm
 obtain ⟨s0, aS, hm⟩ := bnd hm
 refine lD (σ := (Unit)) ([4,5] ++ rg 13 13) [0] (fun i0 => [(13, .int .i64 (i0 : Int))]) (fun _ => []) (fun _ => []) (fun _ => True) (fun i0 _ => Jcw b (a.drop i0) i0 = some s0) (fun t0 => s0 = Fl.go t0) (fun i0 => a.length - i0) 0 () aS (And.intro qe (And.intro ?_ ?_))
 clear aS
 rintro i0 _ _ aS j0
 conv at aS => whnf
 refine qac rfl ?_
 refine qae ?_ ?_ <;> intro w0
 obtain ⟨e0, aT, aY⟩ := ltx w0
 rw [aY, Jcw.eq_2] at aS
 refine qal rfl ?_
 refine qa4 ⟨⟨[], false⟩, _, [], []⟩ (by kernel_rfl) ⟨Hp.Le.refl _, (pf rfl), ci0⟩ ?_
 refine qad rfl rfl (qfs ae.rd aT) (nn _) (qbo aT) (qdj i0 0 _ _ ae.rd rfl (mp aT) rfl rfl ?_)
 obtain ⟨a6, aV, aU, aS⟩ := ixb aS
 refine qad rfl rfl (qfs ai.rd aU) aV (qax rfl aV aU) (qdj (((i0 : Int)).toNat) 0 _ _ ai.rd rfl (mp aU) rfl rfl (qbn ?_))
 refine cs rfl rfl aS ?_ ?_ <;> intro a8 aS
 exact eE (er aS hm)
 refine qam (qbu aT aX) ?_
 exact eR aS (_, ())
 rw [lty w0, Jcw.eq_1] at aS
 refine cT ?_
 exact eM aS _
 rintro t0 _ rfl j0
 replace hm := elg hm
 exact eE hm

def Jcx (b : Jz) : List Jc → Nat → Option (Fl (Bool) (Unit))
  | [], _ => some (Fl.go ())
  | e0 :: aT, i0 =>
    (ix b.Ao (i0 : Int)).bind fun aS =>
    if (!(decide (e0.Name = aS.Name) && decide (e0.Value = aS.Value))) then
    some (Fl.ret false)
    else
    Jcx b aT (i0 + 1)
def Jef (a : Jz) (b : Jz) : Option (Bool) :=
  if (((((((decide (a.Tenant ≠ b.Tenant) || decide (a.TTL ≠ b.TTL)) || decide (a.Ai ≠ b.Ai)) || (!(decide (a.Asked.An = b.Asked.An) && (decide (a.Asked.Ae = b.Asked.Ae) && (decide (a.Asked.Af = b.Asked.Af) && (a.Asked.HasQuery == b.Asked.HasQuery)))))) || (!(decide (a.Cache.An = b.Cache.An) && (decide (a.Cache.Ae = b.Cache.Ae) && (decide (a.Cache.Af = b.Cache.Af) && (a.Cache.HasQuery == b.Cache.HasQuery)))))) || (!(a.Ak == b.Ak))) || (!(a.Al == b.Al))) || decide ((a.Ao.length : Int) ≠ (b.Ao.length : Int))) then
  some false
  else
  (chk (a.Ao.length ≤ qbh)).bind fun _ =>
  (Jcx b a.Ao 0).bind fun s0 => s0.el some fun t0 =>
  (JdJ a.Vary b.Vary).bind fun aS =>
  (if aS then (JdJ a.Ah b.Ah).bind fun aT =>
  some aT else some false).bind fun aU =>
  some aU
theorem Jez {a : Jz} {b : Jz} {aa : Option Addr} {ab : Nat} {ah : Option Addr} {ak : Nat} {am : Option Addr} {ao : Nat} {af : Option Addr} {ag : Nat} {aH : Option Addr} {aI : Nat} {aJ : Option Addr} {aK : Nat} {K : Hp} {r : Bool}
    (hm : Jef a b = some r) (hX : RdC Jc.enc K aa ab 2 a.Ao ∧ RdC eS K ah ak 1 a.Vary ∧ RdC eS K am ao 1 a.Ah ∧ RdC Jc.enc K af ag 2 b.Ao ∧ RdC eS K aH aI 1 b.Vary ∧ RdC eS K aJ aK 1 b.Ah) :
    Fn Tryz.prog 18 [.agg #[.int .i64 a.Tenant, .int .i64 a.TTL, .int .i64 a.Ai, str a.Asked.An, str a.Asked.Ae, str a.Asked.Af, .bool a.Asked.HasQuery, str a.Cache.An, str a.Cache.Ae, str a.Cache.Af, .bool a.Cache.HasQuery, .slice aa a.Ao.length ab, .slice ah a.Vary.length ak, .slice am a.Ah.length ao, .bool a.Ak, .bool a.Al], .agg #[.int .i64 b.Tenant, .int .i64 b.TTL, .int .i64 b.Ai, str b.Asked.An, str b.Asked.Ae, str b.Asked.Af, .bool b.Asked.HasQuery, str b.Cache.An, str b.Cache.Ae, str b.Cache.Af, .bool b.Cache.HasQuery, .slice af b.Ao.length ag, .slice aH b.Vary.length aI, .slice aJ b.Ah.length aK, .bool b.Ak, .bool b.Al]] K [] (fun v K' H' => v = .bool r ∧ H' = []) := by
 obtain ⟨ae, bj, bf, ai, bd, bc⟩ := hX
 refine Fn.enter Tryz.func18 Tryz.call18 rfl fun F => ?_
 unfold Jef at hm
 refine qaq ?_
 intro b2
 refine qaq ?_
 intro b3
 refine jR (σ := Unit) (rg 6 56) (fun _ => [(61, .bool (((((((decide (a.Tenant ≠ b.Tenant) || decide (a.TTL ≠ b.TTL)) || decide (a.Ai ≠ b.Ai)) || (!(decide (a.Asked.An = b.Asked.An) && (decide (a.Asked.Ae = b.Asked.Ae) && (decide (a.Asked.Af = b.Asked.Af) && (a.Asked.HasQuery == b.Asked.HasQuery)))))) || (!(decide (a.Cache.An = b.Cache.An) && (decide (a.Cache.Ae = b.Cache.Ae) && (decide (a.Cache.Af = b.Cache.Af) && (a.Cache.HasQuery == b.Cache.HasQuery)))))) || (!(a.Ak == b.Ak))) || (!(a.Al == b.Al))) || decide ((a.Ao.length : Int) ≠ (b.Ao.length : Int))))]) (fun bn => True) ?_ ?_
 refine qaj rfl ?_
 refine fa rfl (ro (ld r1 rfl rfl (fa rfl (ro (ld r0 rfl rfl (qa8 ?_))))))
 refine qae ?_ ?_ <;> intro aS
 refine ct aS (ct aS (ct aS (ct aS (ct aS (cT (cT (cT ?_)))))))
 refine cT (cT (cT (cT (cT (cT (cT (cT ?_)))))))
 refine cT (cT (cT (cT (cT (cT (cT (cT ?_)))))))
 refine cT (cT (cT (cT (cT (cT (cT (cT ?_)))))))
 refine cT (cT (cT (cT (cT (cT (cT (cT ?_)))))))
 refine cT (cT (cT ?_))
 exact eMt () ⟨bq (((qbq (qbq (qbq (qbq (qbq (qbq (qbq aS)))))))).symm), trivial⟩
 refine fa rfl (cf aS (ro (ld r1 rfl rfl (cf aS (fa rfl (cf aS (ro (ld r0 rfl rfl (cf aS ?_)))))))))
 refine qa8 (cf aS ?_)
 refine qae ?_ ?_ <;> intro aT
 refine ct aT (ct aT (ct aT (ct aT (ct aT (cT (cT (cT ?_)))))))
 refine cT (cT (cT (cT (cT (cT (cT (cT ?_)))))))
 refine cT (cT (cT (cT (cT (cT (cT (cT ?_)))))))
 refine cT (cT (cT (cT (cT (cT (cT (cT ?_)))))))
 refine cT (cT (cT (cT (cT ?_))))
 exact eMt () ⟨bq (((qbq (qbq (qbq (qbq (qbq (qbq (qfr aS aT)))))))).symm), trivial⟩
 refine fa rfl (cf aT (ro (ld r1 rfl rfl (cf aT (fa rfl (cf aT (ro (ld r0 rfl rfl (cf aT ?_)))))))))
 refine qa8 (cf aT ?_)
 refine qae ?_ ?_ <;> intro aV
 refine ct aV (ct aV (ct aV (ct aV (ct aV (cT (cT (cT ?_)))))))
 refine cT (cT (cT (cT (cT (cT (cT (cT ?_)))))))
 refine cT (cT (cT (cT (cT (cT (cT (cT ?_)))))))
 refine cT (cT (cT (cT (cT (cT (cT ?_))))))
 exact eMt () ⟨bq (((qbq (qbq (qbq (qbq (qbq (qfr (qc0 aS aT) aV))))))).symm), trivial⟩
 refine fa rfl (cf aV (ro (qab r1 rfl (nl rfl) (cf aV (fa rfl (cf aV (ro (qab r0 rfl (nl rfl) (cf aV ?_)))))))))
 refine qh4 (b := (decide (a.Asked.An = b.Asked.An) && (decide (a.Asked.Ae = b.Asked.Ae) && (decide (a.Asked.Af = b.Asked.Af) && (a.Asked.HasQuery == b.Asked.HasQuery))))) rfl (by kernel_rfl) (by kernel_rfl) (by kernel_rfl) rfl ?_
 refine cf aV ?_
 refine qae ?_ ?_ <;> intro aW
 refine ct aW (ct aW (ct aW (ct aW (ct aW (cT (cT (cT ?_)))))))
 refine cT (cT (cT (cT (cT (cT (cT (cT ?_)))))))
 refine cT (cT (cT (cT (cT (cT (cT (cT ?_)))))))
 refine cT ?_
 exact eMt () ⟨bq (((qbq (qbq (qbq (qbq (qfr (qc0 (qc0 aS aT) aV) aW)))))).symm), trivial⟩
 refine fa rfl (cf aW (ro (qab r1 rfl (nl rfl) (cf aW (fa rfl (cf aW (ro (qab r0 rfl (nl rfl) (cf aW ?_)))))))))
 refine qh4 (b := (decide (a.Cache.An = b.Cache.An) && (decide (a.Cache.Ae = b.Cache.Ae) && (decide (a.Cache.Af = b.Cache.Af) && (a.Cache.HasQuery == b.Cache.HasQuery))))) rfl (by kernel_rfl) (by kernel_rfl) (by kernel_rfl) rfl ?_
 refine cf aW ?_
 refine qae ?_ ?_ <;> intro aX
 refine ct aX (ct aX (ct aX (ct aX (ct aX (cT (cT (cT ?_)))))))
 refine cT (cT (cT (cT (cT (cT (cT (cT ?_)))))))
 refine cT (cT (cT ?_))
 exact eMt () ⟨bq (((qbq (qbq (qbq (qfr (qc0 (qc0 (qc0 aS aT) aV) aW) aX))))).symm), trivial⟩
 refine fa rfl (cf aX (ro (ld r1 rfl rfl (cf aX (fa rfl (cf aX (ro (ld r0 rfl rfl (cf aX ?_)))))))))
 refine qfx rfl (cf aX ?_)
 refine qae ?_ ?_ <;> intro aY
 refine ct aY (ct aY (ct aY (ct aY (ct aY (cT (cT (cT ?_)))))))
 refine cT (cT (cT (cT (cT ?_))))
 exact eMt () ⟨bq (((qbq (qbq (qfr (qc0 (qc0 (qc0 (qc0 aS aT) aV) aW) aX) aY)))).symm), trivial⟩
 refine fa rfl (cf aY (ro (ld r1 rfl rfl (cf aY (fa rfl (cf aY (ro (ld r0 rfl rfl (cf aY ?_)))))))))
 refine qfx rfl (cf aY ?_)
 refine qae ?_ ?_ <;> intro aU
 refine ct aU (ct aU (ct aU (ct aU (ct aU (ct aU (ct aU ?_))))))
 exact eMt () ⟨bq (((qbq (qfr (qc0 (qc0 (qc0 (qc0 (qc0 aS aT) aV) aW) aX) aY) aU))).symm), trivial⟩
 refine fa rfl (cf aU (ro (ld r1 rfl rfl (cf aU (ro (qak rfl (cf aU (fa rfl (cf aU ?_)))))))))
 refine ro (ld r0 rfl rfl (cf aU (ro (qak rfl (cf aU (qa8 (cf aU ?_)))))))
 exact eMt () ⟨bq (qgx (b := decide ((a.Ao.length : Int) ≠ (b.Ao.length : Int))) (qc0 (qc0 (qc0 (qc0 (qc0 (qc0 aS aT) aV) aW) aX) aY) aU)), trivial⟩
 rintro _ _ br
 refine cs rfl rfl hm ?_ ?_ <;> intro bu hm
 exact eE hm
 refine fa rfl (ro (ld r1 rfl rfl (ro (qak rfl ?_))))
 obtain ⟨bm, hm⟩ := qaw hm
 obtain ⟨s0, a6, hm⟩ := bnd hm
 refine lD (σ := (Unit)) ([4,5] ++ rg 65 15) [0, 1, 2] (fun i0 => [(65, .int .i64 (i0 : Int))]) (fun _ => []) (fun _ => []) (fun _ => True) (fun i0 _ => Jcx b (a.Ao.drop i0) i0 = some s0) (fun t0 => s0 = Fl.go t0) (fun i0 => a.Ao.length - i0) 0 () a6 (And.intro qe (And.intro ?_ ?_))
 clear a6
 rintro i0 _ _ a6 j0
 conv at a6 => whnf
 refine qac rfl ?_
 refine qae ?_ ?_ <;> intro w0
 obtain ⟨e0, ba, bp⟩ := ltx w0
 rw [bp, Jcx.eq_2] at a6
 refine qal rfl ?_
 refine qa4 ⟨⟨[], false⟩, _, [(_, _), (_, _)], []⟩ (by kernel_rfl) ⟨Hp.Le.refl _, (sc [1,0] rfl), ci0⟩ ?_
 refine fa rfl (qao m0 rfl rfl (qad rfl rfl (qfs ae.rd ba) (nn _) (qbo ba) (qeu i0 _ ae.rd rfl (mp ba) rfl (fa rfl (qao m1 rfl rfl ?_)))))
 obtain ⟨bg, bh, bb, a6⟩ := ixb a6
 refine qad rfl rfl (qfs ai.rd bb) bh (qax rfl bh bb) (qeu (((i0 : Int)).toNat) _ ai.rd rfl (mp bb) rfl ?_)
 refine qh4 (b := (decide (e0.Name = bg.Name) && decide (e0.Value = bg.Value))) rfl (by kernel_rfl) (by kernel_rfl) (by kernel_rfl) rfl ?_
 refine cs rfl rfl a6 ?_ ?_ <;> intro bt a6
 exact eE (er a6 hm)
 refine qam (qbu ba bm) ?_
 exact eR a6 (_, ())
 rw [lty w0, Jcx.eq_1] at a6
 refine cT ?_
 exact eM a6 _
 rintro t0 _ rfl j0
 replace hm := elg hm
 refine qaj rfl ?_
 refine fa rfl (ro (ld r1 rfl rfl (fa rfl (ro (ld r0 rfl rfl ?_)))))
 refine cb hm fun bz bo hm => cgx (Jd0 bo :) ?_
 obtain ⟨bw, a8, hm⟩ := bnd hm
 refine cS a8 (fun aZ a8 => ?_) fun aZ a8 => ?_
 refine fa rfl (ct aZ (ro (ld r1 rfl rfl (ct aZ (fa rfl (ct aZ (ro (ld r0 rfl rfl (ct aZ ?_)))))))))
 refine cb a8 fun bv bl a8 => cgx (Jd0 bl :) ?_
 refine ct aZ ?_
 exact bE (si a8) (eE hm)
 refine cf aZ (cf aZ (cf aZ (cf aZ (cf aZ ?_))))
 exact bE (si a8) (eE hm)

def Jc3 (p : Jz) : Option (Bool) :=
  (Jef p (⟨0, 0, 0, (⟨([] : Str), ([] : Str), ([] : Str), false⟩ : Jl), (⟨([] : Str), ([] : Str), ([] : Str), false⟩ : Jl), [], [], [], false, false⟩ : Jz)).bind fun x5 =>
  some x5
theorem JdP {p : Jz} {aa : Option Addr} {ab : Nat} {ah : Option Addr} {ak : Nat} {am : Option Addr} {ao : Nat} {K : Hp} {r : Bool}
    (hm : Jc3 p = some r) (hX : RdC Jc.enc K aa ab 2 p.Ao ∧ RdC eS K ah ak 1 p.Vary ∧ RdC eS K am ao 1 p.Ah) :
    Fn Tryz.prog 15 [.agg #[.int .i64 p.Tenant, .int .i64 p.TTL, .int .i64 p.Ai, str p.Asked.An, str p.Asked.Ae, str p.Asked.Af, .bool p.Asked.HasQuery, str p.Cache.An, str p.Cache.Ae, str p.Cache.Af, .bool p.Cache.HasQuery, .slice aa p.Ao.length ab, .slice ah p.Vary.length ak, .slice am p.Ah.length ao, .bool p.Ak, .bool p.Al]] K [] (fun v K' H' => v = .bool r ∧ H' = []) := by
 obtain ⟨ae, aS, aT⟩ := hX
 refine Fn.enter Tryz.func15 Tryz.call15 rfl fun F => ?_
 unfold Jc3 at hm
 refine qaq ?_
 intro b1
 refine ro (qab r0 rfl (nl rfl) (qag rfl rfl ?_))
 refine cb hm fun x5 q5 hm => cgx (Jez q5 :) ?_
 exact eE hm

def JeA (e : Err) : Option (Int) :=
  if e.isNone then
  some 0
  else
  if (!e.isSome) then
  some (-1)
  else
  some (e.getD 0)
theorem JeC {e : Err} {K : Hp} {r : Int}
    (hm : JeA e = some r)  :
    Fn Tryz.prog 26 [qcs 48 e] K [] (fun v K' H' => v = .int .i64 r ∧ H' = []) := by
 refine Fn.enter Tryz.func26 Tryz.call26 rfl fun F => ?_
 unfold JeA at hm
 refine qdq rfl ?_
 refine cs rfl rfl hm ?_ ?_ <;> intro w6 hm
 exact eE hm
 refine qrf rfl rfl rfl ?_
 refine qau ?_
 refine cs rfl rfl hm ?_ ?_ <;> intro aS hm
 exact eE hm
 exact eE hm

def Jeq (e : Err) (want : Int) : Option (Bool) :=
  (JeA e).bind fun x6 =>
  some (decide (x6 = want) && decide (want ≠ 0))
theorem Jev {e : Err} {want : Int} {K : Hp} {r : Bool}
    (hm : Jeq e want = some r)  :
    Fn Tryz.prog 16 [qcs 48 e, .int .i64 want] K [] (fun v K' H' => v = .bool r ∧ H' = []) := by
 refine Fn.enter Tryz.func16 Tryz.call16 rfl fun F => ?_
 unfold Jeq at hm
 refine qaj rfl ?_
 refine cb hm fun x6 q6 hm => cg0 (JeC q6 :) ?_
 refine qaf ?_
 refine qae ?_ ?_ <;> intro aS
 refine ct aS (qa8 (ct aS ?_))
 exact bE (qcw (b := decide (want ≠ 0)) aS) (eE hm)
 refine cf aS (cf aS ?_)
 exact bE (((qav aS)).symm) (eE hm)

def Jb2 (n : Nat) (tenants : UInt8) (target : Str) (method : UInt8) : Option (Bool) :=
  (if decide ((target.length : Int) > 2000) then some true else (Jc2 n).bind fun a6 =>
  some (!a6)).bind fun aX =>
  if aX then
  (Jc2 n).bind fun a8 =>
  some a8
  else
  (ix ([([71, 69, 84] : Str), ([72, 69, 65, 68] : Str), ([80, 79, 83, 84] : Str)]) ((method % (3 : UInt8)).toNat : Int)).bind fun aV =>
  (qdf n ([(⟨([97, 46, 101, 120, 97, 109, 112, 108, 101] : Str), (Int.tmod (tenants.toNat : Int) 16), ([] : Str)⟩ : J3)])).bind fun aZ =>
  Option.elim aZ.1 (
  if aZ.2.2.isSome then
  some false
  else
  (qbi (⟨aV, target, [(⟨([104, 111, 115, 116] : Str), ([65, 46, 69, 120, 97, 109, 112, 108, 101] : Str)⟩ : Jc)]⟩ : JU)).bind fun aS =>
  (JaJ n ([97, 46, 101, 120, 97, 109, 112, 108, 101] : Str) target).bind fun aT =>
  if aT.2.isSome then
  (Jc3 aS.1).bind fun aY =>
  (if aY then (Jeq aS.2 27).bind fun ay =>
  some ay else some false).bind fun aW =>
  some aW
  else
  (if (((((((aS.2.isNone && decide (aS.1.Tenant = (Int.tmod (tenants.toNat : Int) 16))) && (decide (aS.1.Asked.An = aT.1.An) && (decide (aS.1.Asked.Ae = aT.1.Ae) && (decide (aS.1.Asked.Af = aT.1.Af) && (aS.1.Asked.HasQuery == aT.1.HasQuery))))) && (decide (aS.1.Cache.An = aT.1.An) && (decide (aS.1.Cache.Ae = aT.1.Ae) && (decide (aS.1.Cache.Af = aT.1.Af) && (aS.1.Cache.HasQuery == aT.1.HasQuery))))) && decide (aS.1.TTL = (-1))) && decide (aS.1.Ai = 0)) && (aS.1.Ak == (decide (aV = ([80, 79, 83, 84] : Str))))) && (!aS.1.Al)) then (chk (InI ((aS.1.Vary.length : Int) + (aS.1.Ah.length : Int)))).bind fun _ =>
  (chk (InI (((aS.1.Vary.length : Int) + (aS.1.Ah.length : Int)) + (aS.1.Ao.length : Int)))).bind fun _ =>
  some (decide ((((aS.1.Vary.length : Int) + (aS.1.Ah.length : Int)) + (aS.1.Ao.length : Int)) = 0)) else some false).bind fun aU =>
  some aU)
   fun ba =>
  if aZ.2.2.isSome then
  some false
  else
  (qa2 n ba (⟨aV, target, [(⟨([104, 111, 115, 116] : Str), ([65, 46, 69, 120, 97, 109, 112, 108, 101] : Str)⟩ : Jc)]⟩ : JU)).bind fun aS =>
  (JaJ n ([97, 46, 101, 120, 97, 109, 112, 108, 101] : Str) target).bind fun aT =>
  if aT.2.isSome then
  (Jc3 aS.1).bind fun aY =>
  (if aY then (Jeq aS.2 27).bind fun ay =>
  some ay else some false).bind fun aW =>
  some aW
  else
  (if (((((((aS.2.isNone && decide (aS.1.Tenant = (Int.tmod (tenants.toNat : Int) 16))) && (decide (aS.1.Asked.An = aT.1.An) && (decide (aS.1.Asked.Ae = aT.1.Ae) && (decide (aS.1.Asked.Af = aT.1.Af) && (aS.1.Asked.HasQuery == aT.1.HasQuery))))) && (decide (aS.1.Cache.An = aT.1.An) && (decide (aS.1.Cache.Ae = aT.1.Ae) && (decide (aS.1.Cache.Af = aT.1.Af) && (aS.1.Cache.HasQuery == aT.1.HasQuery))))) && decide (aS.1.TTL = (-1))) && decide (aS.1.Ai = 0)) && (aS.1.Ak == (decide (aV = ([80, 79, 83, 84] : Str))))) && (!aS.1.Al)) then (chk (InI ((aS.1.Vary.length : Int) + (aS.1.Ah.length : Int)))).bind fun _ =>
  (chk (InI (((aS.1.Vary.length : Int) + (aS.1.Ah.length : Int)) + (aS.1.Ao.length : Int)))).bind fun _ =>
  some (decide ((((aS.1.Vary.length : Int) + (aS.1.Ah.length : Int)) + (aS.1.Ao.length : Int)) = 0)) else some false).bind fun aU =>
  some aU
theorem JdK {n : Nat} {tenants : UInt8} {target : Str} {method : UInt8} {K : Hp} {r : Bool}
    (hm : Jb2 n tenants target method = some r) (hG : GG K) :
    Fn Tryz.prog 3 [.int .u8 (tenants.toNat : Int), str target, .int .u8 (method.toNat : Int)] K [] (fun v K' H' => v = .bool r ∧ H' = []) := by
 refine Fn.enter Tryz.func3 Tryz.call3 rfl fun F => ?_
 unfold Jb2 at hm
 obtain ⟨bQ, bc, hm⟩ := bnd hm
 refine jR (σ := Bool) (rg 15 7) (fun bz => [(21, .bool bz)]) (fun bz => bz = bQ) ?_ ?_
 replace bc := bsm bc
 refine qaj rfl ?_
 refine ro (qa3 rfl ?_)
 obtain ⟨cK, bC, bc⟩ := bnd bc
 refine cS bC (fun bg bC => ?_) fun bg bC => ?_
 refine ct bg (ct bg ?_)
 exact eMq bc _ ⟨bq (si bC), trivial⟩
 refine cb bC fun cM cw bC => cgx (JdO cw :) ?_
 refine cf bg (qau (cf bg ?_))
 exact eMq bc _ ⟨bq (si bC), trivial⟩
 rintro bz rfl cE
 refine cs rfl rfl hm ?_ ?_ <;> intro cJ hm
 refine cb hm fun cN cz hm => cgx (JdO cz :) ?_
 exact eE hm
 refine qes rfl rfl (qpc tenants) (qli (by decide) ?_)
 refine bsO (len := 3) (enc := eS) (l := [([71, 69, 84] : Str), ([72, 69, 65, 68] : Str), ([80, 79, 83, 84] : Str)]) (cl := [str ([71, 69, 84] : Str), str ([72, 69, 65, 68] : Str), str ([80, 79, 83, 84] : Str)]) qb1 rfl rfl (fun _ _ => rfl) rfl rfl rfl ?_ fun cG => ?_
 · conv => whnf
   refine cT (cT (cT ?_))
   first | done | rfl
 refine qpd (x := method) (y := (3 : UInt8)) rfl rfl (by decide) ?_
 obtain ⟨cu, bW, bR, hm⟩ := ixb hm
 refine RStep.ofN (qad rfl rfl (qcu (fun _ => ⟨_, _, rfl⟩) bR) bW (qax rfl bW bR) (ro (qbz (i := (((method % (3 : UInt8)).toNat : Int)).toNat) (o := 0) r0 rfl bR rfl rfl (qag rfl rfl (cT (cT ?_))))))
 refine bsO (len := 1) (enc := J3.enc) (l := [(⟨([97, 46, 101, 120, 97, 109, 112, 108, 101] : Str), (Int.tmod (tenants.toNat : Int) 16), ([] : Str)⟩ : J3)]) (cl := [str ([97, 46, 101, 120, 97, 109, 112, 108, 101] : Str), .int .i64 (Int.tmod (tenants.toNat : Int) 16), str ([] : Str)]) qo7 rfl rfl (fun _ _ => rfl) rfl rfl rfl ?_ fun cO => ?_
 · conv => whnf
   refine cT ?_
   first | done | rfl
 refine fF Tryz.call12 r0 fun ca bI bY => ?_
 refine cb hm fun cr co hm => cfx (qei co :) ?_
 rintro cL cH cI cC bP
 rcases hq35 : cr.1 with _ | o35
 rw [hq35] at bP hm
 obtain ⟨rfl, rfl⟩ := bP
 replace hm := qq8 hm
 refine qa6 rfl ?_
 refine cs rfl rfl hm ?_ ?_ <;> intro cA hm
 exact eE hm
 refine qag rfl rfl (cT (cT ?_))
 refine bsO (len := 1) (enc := Jc.enc) (l := [(⟨([104, 111, 115, 116] : Str), ([65, 46, 69, 120, 97, 109, 112, 108, 101] : Str)⟩ : Jc)]) (cl := [str ([104, 111, 115, 116] : Str), str ([65, 46, 69, 120, 97, 109, 112, 108, 101] : Str)]) qe6 rfl rfl (fun _ _ => rfl) rfl rfl rfl ?_ fun cB => ?_
 · conv => whnf
   refine cT ?_
   first | done | rfl
 refine qag rfl rfl (cT (cT (cT ?_)))
 refine fF Tryz.call13 r0 fun bw bb bf => ?_
 refine cb hm fun bh bU hm => ckx (qcp bU :) ?_
 rintro _ _ _ ⟨bK, bH, bM, bJ, bN, bO, rfl, bG, bF, bL, rfl⟩
 refine qai rfl fun cD => ?_
 refine qaa r0 rfl ⟨rfl, rfl, (nl rfl), ?_⟩
 refine cb hm fun bd bT hm => cgx (Ja5 bT :) ?_
 refine qai rfl fun cn => ?_
 refine qaa r0 rfl ⟨rfl, rfl, (nl rfl), ?_⟩
 refine qa6 rfl ?_
 refine cs rfl rfl hm ?_ ?_ <;> intro cy hm
 refine qaj rfl ?_
 refine ro (qab r1 rfl (nl rfl) ?_)
 refine fF Tryz.call15 r2 fun bp bm bn => ?_
 refine fF Tryz.call15 r2 fun br bv bl => ?_
 refine fF Tryz.call15 r2 fun bt bu bo => ?_
 refine cb hm fun cm bS hm => cgx (JdP bS :) ?_
 obtain ⟨cj, bj, hm⟩ := bnd hm
 refine cS bj (fun a8 bj => ?_) fun a8 bj => ?_
 refine ct a8 ?_
 refine cb bj fun ay bV bj => cg0 (Jev bV :) ?_
 refine ct a8 ?_
 exact bE (si bj) (eE hm)
 refine cf a8 (cf a8 ?_)
 exact bE (si bj) (eE hm)
 refine qaj rfl ?_
 refine qdq rfl ?_
 refine qae ?_ ?_ <;> intro aU
 refine fa rfl (ct aU (ro (ld r1 rfl rfl (ct aU (ct aU (qaf (ct aU ?_)))))))
 refine qae ?_ ?_ <;> intro aV
 refine fa rfl (ct aV (ro (qab r1 rfl (nl rfl) (ct aV (ro (qab r0 rfl (nl rfl) (ct aV ?_)))))))
 refine qgr (b := (decide (bh.1.Asked.An = bd.1.An) && (decide (bh.1.Asked.Ae = bd.1.Ae) && (decide (bh.1.Asked.Af = bd.1.Af) && (bh.1.Asked.HasQuery == bd.1.HasQuery))))) rfl (by kernel_rfl) (by kernel_rfl) (by kernel_rfl) rfl ?_
 refine ct aV ?_
 refine qae ?_ ?_ <;> intro aW
 refine fa rfl (ct aW (ro (qab r1 rfl (nl rfl) (ct aW (ro (qab r0 rfl (nl rfl) (ct aW ?_)))))))
 refine qgr (b := (decide (bh.1.Cache.An = bd.1.An) && (decide (bh.1.Cache.Ae = bd.1.Ae) && (decide (bh.1.Cache.Af = bd.1.Af) && (bh.1.Cache.HasQuery == bd.1.HasQuery))))) rfl (by kernel_rfl) (by kernel_rfl) (by kernel_rfl) rfl ?_
 refine ct aW ?_
 refine qae ?_ ?_ <;> intro aY
 refine fa rfl (ct aY (ro (ld r1 rfl rfl (ct aY (qaf (ct aY ?_))))))
 refine qae ?_ ?_ <;> intro a6
 refine fa rfl (ct a6 (ro (ld r1 rfl rfl (ct a6 (qaf (ct a6 ?_))))))
 refine qae ?_ ?_ <;> intro aX
 refine fa rfl (ct aX (ro (ld r1 rfl rfl (ct aX (ct aX (qap (ct aX (qla rfl ?_))))))))
 refine ct aX ?_
 refine qae ?_ ?_ <;> intro aZ
 refine fa rfl (ct aZ (ro (ld r1 rfl rfl (ct aZ (qau (ct aZ ?_))))))
 obtain ⟨ba, aT, hm⟩ := bnd hm
 refine qae ?_ ?_ <;> intro aS
 replace aT := ift (qa5 (qa5 (qa5 (qa5 (qa5 (qa5 (qa5 aU aV) aW) aY) a6) aX) aZ) (qef (qjb aS))) aT
 refine fa rfl (ct aS (ro (ld r1 rfl rfl (ct aS (ro (qak rfl (ct aS (fa rfl (ct aS ?_)))))))))
 refine ro (ld r1 rfl rfl (ct aS (ro (qak rfl (ct aS ?_)))))
 obtain ⟨bB, aT⟩ := qaw aT
 refine qam bB (ct aS (fa rfl (ct aS (ro (ld r1 rfl rfl (ct aS (ro (qak rfl (ct aS ?_)))))))))
 obtain ⟨bA, aT⟩ := qaw aT
 refine qam bA (ct aS (qaf (ct aS ?_)))
 exact bE (si aT) (eE hm)
 replace aT := qba (qbs (qa5 (qa5 (qa5 (qa5 (qa5 (qa5 aU aV) aW) aY) a6) aX) aZ) (qc5 (qhc aS))) aT
 refine cf aS (cf aS (cf aS (cf aS (cf aS (cf aS (cf aS (cf aS ?_)))))))
 refine cf aS (cf aS (cf aS (cf aS ?_)))
 exact bE (si aT) (eE hm)
 refine cf aZ (cf aZ (cf aZ ?_))
 obtain ⟨ba, aT, hm⟩ := bnd hm
 replace aT := qba (qav (qbs (qa5 (qa5 (qa5 (qa5 (qa5 aU aV) aW) aY) a6) aX) aZ)) aT
 refine cF (cF (cF (cF (cF (cF (cF (cF ?_)))))))
 refine cF (cF (cF (cF (cF ?_))))
 exact bE (si aT) (eE hm)
 refine cf aX (cf aX (cf aX (cf aX (cf aX (cF (cF (cF ?_)))))))
 refine cF ?_
 obtain ⟨ba, aT, hm⟩ := bnd hm
 replace aT := qba (qav (qav (qbs (qa5 (qa5 (qa5 (qa5 aU aV) aW) aY) a6) aX))) aT
 refine cF (cF (cF (cF (cF (cF (cF (cF ?_)))))))
 refine cF (cF (cF (cF (cF ?_))))
 exact bE (si aT) (eE hm)
 refine cf a6 (cf a6 (cf a6 (cF (cF (cF (cF (cF ?_)))))))
 refine cF (cF (cF (cF (cF ?_))))
 obtain ⟨ba, aT, hm⟩ := bnd hm
 replace aT := qba (qav (qav (qav (qbs (qa5 (qa5 (qa5 aU aV) aW) aY) a6)))) aT
 refine cF (cF (cF (cF (cF (cF (cF (cF ?_)))))))
 refine cF (cF (cF (cF (cF ?_))))
 exact bE (si aT) (eE hm)
 refine cf aY (cf aY (cf aY (cF (cF (cF (cF (cF ?_)))))))
 refine cF (cF (cF (cF (cF (cF (cF (cF ?_)))))))
 refine cF ?_
 obtain ⟨ba, aT, hm⟩ := bnd hm
 replace aT := qba (qav (qav (qav (qav (qbs (qa5 (qa5 aU aV) aW) aY))))) aT
 refine cF (cF (cF (cF (cF (cF (cF (cF ?_)))))))
 refine cF (cF (cF (cF (cF ?_))))
 exact bE (si aT) (eE hm)
 refine cf aW (cf aW (cf aW (cf aW (cF (cF (cF (cF ?_)))))))
 refine cF (cF (cF (cF (cF (cF (cF (cF ?_)))))))
 refine cF (cF (cF (cF (cF (cF ?_)))))
 obtain ⟨ba, aT, hm⟩ := bnd hm
 replace aT := qba (qav (qav (qav (qav (qav (qbs (qa5 aU aV) aW)))))) aT
 refine cF (cF (cF (cF (cF (cF (cF (cF ?_)))))))
 refine cF (cF (cF (cF (cF ?_))))
 exact bE (si aT) (eE hm)
 refine cf aV (cf aV (cf aV (cf aV (cF (cF (cF (cF ?_)))))))
 refine cF (cF (cF (cF (cF (cF (cF (cF ?_)))))))
 refine cF (cF (cF (cF (cF (cF (cF (cF ?_)))))))
 refine cF (cF (cF ?_))
 obtain ⟨ba, aT, hm⟩ := bnd hm
 replace aT := qba (qav (qav (qav (qav (qav (qav (qbs aU aV))))))) aT
 refine cF (cF (cF (cF (cF (cF (cF (cF ?_)))))))
 refine cF (cF (cF (cF (cF ?_))))
 exact bE (si aT) (eE hm)
 refine cf aU (cf aU (cf aU (cf aU (cF (cF (cF (cF ?_)))))))
 refine cF (cF (cF (cF (cF (cF (cF (cF ?_)))))))
 refine cF (cF (cF (cF (cF (cF (cF (cF ?_)))))))
 refine cF (cF (cF (cF (cF (cF (cF (cF ?_)))))))
 obtain ⟨ba, aT, hm⟩ := bnd hm
 replace aT := qba (qav (qav (qav (qav (qav (qav (qav aU))))))) aT
 refine cF (cF (cF (cF (cF (cF (cF (cF ?_)))))))
 refine cF (cF (cF (cF (cF ?_))))
 exact bE (si aT) (eE hm)
 rw [hq35] at bP hm
 obtain ⟨ce, bZ, bX, rfl, bD, rfl⟩ := bP
 replace hm := qq9 hm
 refine qa6 rfl ?_
 refine cs rfl rfl hm ?_ ?_ <;> intro cA hm
 exact eE hm
 refine qag rfl rfl (cT (cT ?_))
 refine bsO (len := 1) (enc := Jc.enc) (l := [(⟨([104, 111, 115, 116] : Str), ([65, 46, 69, 120, 97, 109, 112, 108, 101] : Str)⟩ : Jc)]) (cl := [str ([104, 111, 115, 116] : Str), str ([65, 46, 69, 120, 97, 109, 112, 108, 101] : Str)]) qe6 rfl rfl (fun _ _ => rfl) rfl rfl rfl ?_ fun cB => ?_
 · conv => whnf
   refine cT ?_
   first | done | rfl
 refine qag rfl rfl (cT (cT (cT ?_)))
 refine fF Tryz.call13 r0 fun bw bb bf => ?_
 refine cb hm fun bh bU hm => ck0 (qb6 (d := o35) (r' := (⟨cu, target, [(⟨([104, 111, 115, 116] : Str), ([65, 46, 69, 120, 97, 109, 112, 108, 101] : Str)⟩ : Jc)]⟩ : JU)) bU ⟨(MR.mono Jx.R_ok bD bb), bf, (hG.mono ((bI.trans cC).trans bb))⟩) ?_
 rintro _ _ _ ⟨bK, bH, bM, bJ, bN, bO, rfl, bG, bF, bL, rfl⟩
 refine qai rfl fun cD => ?_
 refine qaa r0 rfl ⟨rfl, rfl, (nl rfl), ?_⟩
 refine cb hm fun bd bT hm => cgx (Ja5 bT :) ?_
 refine qai rfl fun cn => ?_
 refine qaa r0 rfl ⟨rfl, rfl, (nl rfl), ?_⟩
 refine qa6 rfl ?_
 refine cs rfl rfl hm ?_ ?_ <;> intro cy hm
 refine qaj rfl ?_
 refine ro (qab r1 rfl (nl rfl) ?_)
 refine fF Tryz.call15 r2 fun bp bm bn => ?_
 refine fF Tryz.call15 r2 fun br bv bl => ?_
 refine fF Tryz.call15 r2 fun bt bu bo => ?_
 refine cb hm fun cm bS hm => cgx (JdP bS :) ?_
 obtain ⟨cj, bj, hm⟩ := bnd hm
 refine cS bj (fun a8 bj => ?_) fun a8 bj => ?_
 refine ct a8 ?_
 refine cb bj fun ay bV bj => cg0 (Jev bV :) ?_
 refine ct a8 ?_
 exact bE (si bj) (eE hm)
 refine cf a8 (cf a8 ?_)
 exact bE (si bj) (eE hm)
 refine qaj rfl ?_
 refine qdq rfl ?_
 refine qae ?_ ?_ <;> intro aU
 refine fa rfl (ct aU (ro (ld r1 rfl rfl (ct aU (ct aU (qaf (ct aU ?_)))))))
 refine qae ?_ ?_ <;> intro aV
 refine fa rfl (ct aV (ro (qab r1 rfl (nl rfl) (ct aV (ro (qab r0 rfl (nl rfl) (ct aV ?_)))))))
 refine qgr (b := (decide (bh.1.Asked.An = bd.1.An) && (decide (bh.1.Asked.Ae = bd.1.Ae) && (decide (bh.1.Asked.Af = bd.1.Af) && (bh.1.Asked.HasQuery == bd.1.HasQuery))))) rfl (by kernel_rfl) (by kernel_rfl) (by kernel_rfl) rfl ?_
 refine ct aV ?_
 refine qae ?_ ?_ <;> intro aW
 refine fa rfl (ct aW (ro (qab r1 rfl (nl rfl) (ct aW (ro (qab r0 rfl (nl rfl) (ct aW ?_)))))))
 refine qgr (b := (decide (bh.1.Cache.An = bd.1.An) && (decide (bh.1.Cache.Ae = bd.1.Ae) && (decide (bh.1.Cache.Af = bd.1.Af) && (bh.1.Cache.HasQuery == bd.1.HasQuery))))) rfl (by kernel_rfl) (by kernel_rfl) (by kernel_rfl) rfl ?_
 refine ct aW ?_
 refine qae ?_ ?_ <;> intro aY
 refine fa rfl (ct aY (ro (ld r1 rfl rfl (ct aY (qaf (ct aY ?_))))))
 refine qae ?_ ?_ <;> intro a6
 refine fa rfl (ct a6 (ro (ld r1 rfl rfl (ct a6 (qaf (ct a6 ?_))))))
 refine qae ?_ ?_ <;> intro aX
 refine fa rfl (ct aX (ro (ld r1 rfl rfl (ct aX (ct aX (qap (ct aX (qla rfl ?_))))))))
 refine ct aX ?_
 refine qae ?_ ?_ <;> intro aZ
 refine fa rfl (ct aZ (ro (ld r1 rfl rfl (ct aZ (qau (ct aZ ?_))))))
 obtain ⟨ba, aT, hm⟩ := bnd hm
 refine qae ?_ ?_ <;> intro aS
 replace aT := ift (qa5 (qa5 (qa5 (qa5 (qa5 (qa5 (qa5 aU aV) aW) aY) a6) aX) aZ) (qef (qjb aS))) aT
 refine fa rfl (ct aS (ro (ld r1 rfl rfl (ct aS (ro (qak rfl (ct aS (fa rfl (ct aS ?_)))))))))
 refine ro (ld r1 rfl rfl (ct aS (ro (qak rfl (ct aS ?_)))))
 obtain ⟨bB, aT⟩ := qaw aT
 refine qam bB (ct aS (fa rfl (ct aS (ro (ld r1 rfl rfl (ct aS (ro (qak rfl (ct aS ?_)))))))))
 obtain ⟨bA, aT⟩ := qaw aT
 refine qam bA (ct aS (qaf (ct aS ?_)))
 exact bE (si aT) (eE hm)
 replace aT := qba (qbs (qa5 (qa5 (qa5 (qa5 (qa5 (qa5 aU aV) aW) aY) a6) aX) aZ) (qc5 (qhc aS))) aT
 refine cf aS (cf aS (cf aS (cf aS (cf aS (cf aS (cf aS (cf aS ?_)))))))
 refine cf aS (cf aS (cf aS (cf aS ?_)))
 exact bE (si aT) (eE hm)
 refine cf aZ (cf aZ (cf aZ ?_))
 obtain ⟨ba, aT, hm⟩ := bnd hm
 replace aT := qba (qav (qbs (qa5 (qa5 (qa5 (qa5 (qa5 aU aV) aW) aY) a6) aX) aZ)) aT
 refine cF (cF (cF (cF (cF (cF (cF (cF ?_)))))))
 refine cF (cF (cF (cF (cF ?_))))
 exact bE (si aT) (eE hm)
 refine cf aX (cf aX (cf aX (cf aX (cf aX (cF (cF (cF ?_)))))))
 refine cF ?_
 obtain ⟨ba, aT, hm⟩ := bnd hm
 replace aT := qba (qav (qav (qbs (qa5 (qa5 (qa5 (qa5 aU aV) aW) aY) a6) aX))) aT
 refine cF (cF (cF (cF (cF (cF (cF (cF ?_)))))))
 refine cF (cF (cF (cF (cF ?_))))
 exact bE (si aT) (eE hm)
 refine cf a6 (cf a6 (cf a6 (cF (cF (cF (cF (cF ?_)))))))
 refine cF (cF (cF (cF (cF ?_))))
 obtain ⟨ba, aT, hm⟩ := bnd hm
 replace aT := qba (qav (qav (qav (qbs (qa5 (qa5 (qa5 aU aV) aW) aY) a6)))) aT
 refine cF (cF (cF (cF (cF (cF (cF (cF ?_)))))))
 refine cF (cF (cF (cF (cF ?_))))
 exact bE (si aT) (eE hm)
 refine cf aY (cf aY (cf aY (cF (cF (cF (cF (cF ?_)))))))
 refine cF (cF (cF (cF (cF (cF (cF (cF ?_)))))))
 refine cF ?_
 obtain ⟨ba, aT, hm⟩ := bnd hm
 replace aT := qba (qav (qav (qav (qav (qbs (qa5 (qa5 aU aV) aW) aY))))) aT
 refine cF (cF (cF (cF (cF (cF (cF (cF ?_)))))))
 refine cF (cF (cF (cF (cF ?_))))
 exact bE (si aT) (eE hm)
 refine cf aW (cf aW (cf aW (cf aW (cF (cF (cF (cF ?_)))))))
 refine cF (cF (cF (cF (cF (cF (cF (cF ?_)))))))
 refine cF (cF (cF (cF (cF (cF ?_)))))
 obtain ⟨ba, aT, hm⟩ := bnd hm
 replace aT := qba (qav (qav (qav (qav (qav (qbs (qa5 aU aV) aW)))))) aT
 refine cF (cF (cF (cF (cF (cF (cF (cF ?_)))))))
 refine cF (cF (cF (cF (cF ?_))))
 exact bE (si aT) (eE hm)
 refine cf aV (cf aV (cf aV (cf aV (cF (cF (cF (cF ?_)))))))
 refine cF (cF (cF (cF (cF (cF (cF (cF ?_)))))))
 refine cF (cF (cF (cF (cF (cF (cF (cF ?_)))))))
 refine cF (cF (cF ?_))
 obtain ⟨ba, aT, hm⟩ := bnd hm
 replace aT := qba (qav (qav (qav (qav (qav (qav (qbs aU aV))))))) aT
 refine cF (cF (cF (cF (cF (cF (cF (cF ?_)))))))
 refine cF (cF (cF (cF (cF ?_))))
 exact bE (si aT) (eE hm)
 refine cf aU (cf aU (cf aU (cf aU (cF (cF (cF (cF ?_)))))))
 refine cF (cF (cF (cF (cF (cF (cF (cF ?_)))))))
 refine cF (cF (cF (cF (cF (cF (cF (cF ?_)))))))
 refine cF (cF (cF (cF (cF (cF (cF (cF ?_)))))))
 obtain ⟨ba, aT, hm⟩ := bnd hm
 replace aT := qba (qav (qav (qav (qav (qav (qav (qav aU))))))) aT
 refine cF (cF (cF (cF (cF (cF (cF (cF ?_)))))))
 refine cF (cF (cF (cF (cF ?_))))
 exact bE (si aT) (eE hm)
