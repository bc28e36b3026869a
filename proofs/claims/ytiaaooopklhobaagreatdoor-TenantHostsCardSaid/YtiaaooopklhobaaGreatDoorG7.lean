/- Functions of the program: mirrors, and that a call returns what the mirror says. Printed by gen.py. -/
import Derived.Test.YtiaaooopklhobaaGreatDoorG6
set_option linter.unusedVariables false
set_option linter.unusedSimpArgs false
open Go Go.SL Go.Proofs
noncomputable section
set_option maxRecDepth 1000000
set_option maxHeartbeats 8000000
def Jc4 (n : Nat) : Option (Bool) :=
  (qdf n ([(⟨([101, 120, 97, 109, 112, 108, 101, 46, 99, 111, 109] : Str), 3, ([112, 97, 116, 104, 32, 61, 32, 34, 47, 118, 49, 34, 32, 43, 32, 112, 97, 116, 104, 59, 32, 116, 116, 108, 32, 54, 48, 59, 32, 116, 97, 103, 32, 34, 97, 108, 108, 34, 59] : Str)⟩ : JT)])).bind fun x8 =>
  Option.elim x8.1 (
  ((if x8.2.2.isSome then
  some ()
  else
  some ()) : Option (Unit)).bind fun aV =>
  some false)
   fun o8 =>
  ((if x8.2.2.isSome then
  some true
  else
  some false) : Option (Bool)).bind fun aT =>
  if aT then
  some false
  else
  (qas n o8 (⟨([71, 69, 84] : Str), ([47, 97, 63, 120, 61, 49] : Str), [(⟨([104, 111, 115, 116] : Str), ([101, 120, 97, 109, 112, 108, 101, 46, 99, 111, 109] : Str)⟩ : Jc)]⟩ : JJ)).bind fun aS =>
  (if (aS.2.isNone && decide (aS.1.TTL = 60)) then (qed n aS.1).bind fun aY =>
  some (decide (aY = ([51, 32, 101, 120, 97, 109, 112, 108, 101, 46, 99, 111, 109, 47, 118, 49, 47, 97, 63, 120, 61, 49] : Str))) else some false).bind fun aU =>
  (if (aU && decide ((aS.1.Ah.length : Int) = 1)) then (ix aS.1.Ah 0).bind fun aW =>
  some (decide (aW = ([97, 108, 108] : Str))) else some false).bind fun aX =>
  some aX
theorem JdR {n : Nat}  {K : Hp} {r : Bool}
    (hm : Jc4 n = some r) (hG : GG K) :
    Fn Tryz.prog 11 [] K [] (fun v K' H' => v = .bool r ∧ H' = []) := by
 refine Fn.enter Tryz.func11 Tryz.call11 rfl fun F => ?_
 unfold Jc4 at hm
 refine qaf rfl rfl (cT (cT (cT ?_)))
 refine bsO (len := 1) (enc := JT.enc) (l := [(⟨([101, 120, 97, 109, 112, 108, 101, 46, 99, 111, 109] : Str), 3, ([112, 97, 116, 104, 32, 61, 32, 34, 47, 118, 49, 34, 32, 43, 32, 112, 97, 116, 104, 59, 32, 116, 116, 108, 32, 54, 48, 59, 32, 116, 97, 103, 32, 34, 97, 108, 108, 34, 59] : Str)⟩ : JT)]) (cl := [str ([101, 120, 97, 109, 112, 108, 101, 46, 99, 111, 109] : Str), .int .i64 3, str ([112, 97, 116, 104, 32, 61, 32, 34, 47, 118, 49, 34, 32, 43, 32, 112, 97, 116, 104, 59, 32, 116, 116, 108, 32, 54, 48, 59, 32, 116, 97, 103, 32, 34, 97, 108, 108, 34, 59] : Str)]) qn6 rfl rfl (fun _ _ => rfl) rfl rfl rfl ?_ fun b7 => ?_
 · conv => whnf
   refine cT ?_
   first | done | rfl
 refine fF Tryz.call12 r0 fun bO bw bM => ?_
 refine cb hm fun x8 q8 hm => cfx (qem q8 :) ?_
 rintro v8 K8 H8 l8 p8
 rcases hq8 : x8.1 with _ | o8
 rw [hq8] at p8 hm
 obtain ⟨rfl, rfl⟩ := p8
 replace hm := qpt hm
 obtain ⟨bp, a6, hm⟩ := bnd hm
 refine jR (σ := Unit) (rg 12 6) (fun _ => [(17, .bool true)]) (fun bt => bt = bp) ?_ ?_
 refine qai rfl ?_
 refine qa7 rfl ?_
 refine cS a6 (fun aU a6 => ?_) fun aU a6 => ?_
 refine ct aU (ct aU ?_)
 exact eM a6 _
 refine cf aU ?_
 refine qfe rfl ?_
 refine cf aU ?_
 exact eM a6 _
 rintro _ rfl bU
 refine qac rfl (cT ?_)
 exact eE hm
 rw [hq8] at p8 hm
 obtain ⟨bS, bP, bL, rfl, br, rfl⟩ := p8
 replace hm := qpu hm
 obtain ⟨bz, aZ, hm⟩ := bnd hm
 refine jR (σ := Bool) (rg 12 6) (fun bc => [(17, .bool bc)]) (fun bc => bc = bz) ?_ ?_
 refine qai rfl ?_
 refine qa7 rfl ?_
 refine cS aZ (fun aU aZ => ?_) fun aU aZ => ?_
 refine ct aU (ct aU ?_)
 exact eM aZ _
 refine cf aU ?_
 refine qg6 rfl ?_
 refine cf aU ?_
 exact eM aZ _
 rintro bc rfl bR
 refine cs rfl rfl hm ?_ ?_ <;> intro bZ hm
 exact eE hm
 refine qaf rfl rfl (cT (cT ?_))
 refine bsO (len := 1) (enc := Jc.enc) (l := [(⟨([104, 111, 115, 116] : Str), ([101, 120, 97, 109, 112, 108, 101, 46, 99, 111, 109] : Str)⟩ : Jc)]) (cl := [str ([104, 111, 115, 116] : Str), str ([101, 120, 97, 109, 112, 108, 101, 46, 99, 111, 109] : Str)]) qeb rfl rfl (fun _ _ => rfl) rfl rfl rfl ?_ fun bW => ?_
 · conv => whnf
   refine cT ?_
   first | done | rfl
 refine qaf rfl rfl (cT (cT (cT ?_)))
 refine fF Tryz.call13 r0 fun bm aY bb => ?_
 refine cb hm fun bV bT hm => ck0 (qb6 (d := o8) (r' := (⟨([71, 69, 84] : Str), ([47, 97, 63, 120, 61, 49] : Str), [(⟨([104, 111, 115, 116] : Str), ([101, 120, 97, 109, 112, 108, 101, 46, 99, 111, 109] : Str)⟩ : Jc)]⟩ : JJ)) bT ⟨(MR.mono Jx.R_ok br aY), bb, (hG.mono ((bw.trans l8).trans aY))⟩) ?_
 rintro _ _ _ ⟨bG, bC, bK, bI, bA, bF, rfl, bH, bJ, bD, rfl⟩
 refine qah rfl fun b4 => ?_
 refine qaa r0 rfl ⟨rfl, rfl, (nl rfl), ?_⟩
 refine qai rfl ?_
 refine qc7 rfl ?_
 refine qae ?_ ?_ <;> intro aV
 refine fa rfl (ct aV (ro (ld r0 rfl rfl (ct aV (qag (ct aV ?_))))))
 obtain ⟨bQ, ba, hm⟩ := bnd hm
 refine qae ?_ ?_ <;> intro aW
 replace ba := ift (qct aV aW) ba
 refine ro (qab r0 rfl (nl rfl) (ct aW ?_))
 refine fF Tryz.call31 r1 fun bh bd bl => ?_
 refine fF Tryz.call31 r1 fun bf bg bj => ?_
 refine fF Tryz.call31 r1 fun bo bn a8 => ?_
 refine cb ba fun bY bN ba => cgx (qgx bN :) ?_
 refine ct aW (qap (ct aW ?_))
 refine qae ?_ ?_ <;> intro aT
 refine fa rfl (ct aT (ro (ld r0 rfl rfl (ct aT (ro (qak rfl (ct aT (qag (ct aT ?_)))))))))
 obtain ⟨bu, aX, hm⟩ := bnd hm
 refine qae ?_ ?_ <;> intro aS
 replace aX := ift (qct ((si ba).symm.trans aT) aS) aX
 refine fa rfl (ct aS (ro (ld r0 rfl rfl (ct aS ?_))))
 obtain ⟨bX, bB, bv, aX⟩ := ixb aX
 refine RStep.ofN (qad rfl rfl (qdr a8.rd bv) bB (qaw rfl bB bv) (ct aS (ro (qbq ((0 : Int).toNat) 0 _ _ a8.rd rfl (mp bv) rfl rfl (ct aS (qap (ct aS ?_)))))))
 exact bE (si aX) (eE hm)
 replace aX := qa9 (qcu ((si ba).symm.trans aT) aS) aX
 refine cf aS (cf aS (cf aS (cf aS (cf aS ?_))))
 exact bE (si aX) (eE hm)
 refine cf aT (cf aT (cf aT (cf aT ?_)))
 obtain ⟨bu, aX, hm⟩ := bnd hm
 replace aX := qa9 (qbc ((si ba).symm.trans aT)) aX
 refine cF (cF (cF (cF (cF (cF ?_)))))
 exact bE (si aX) (eE hm)
 replace ba := qa9 (qcu aV aW) ba
 refine cf aW (cf aW (cf aW (cF (cF (cF (cF (cF ?_)))))))
 obtain ⟨bu, aX, hm⟩ := bnd hm
 replace aX := qa9 (qbc (si ba).symm) aX
 refine cF (cF (cF (cF (cF (cF ?_)))))
 exact bE (si aX) (eE hm)
 refine cf aV (cf aV (cf aV ?_))
 obtain ⟨bQ, ba, hm⟩ := bnd hm
 replace ba := qa9 (qbc aV) ba
 refine cF (cF (cF (cF (cF (cF (cF (cF ?_)))))))
 refine cF ?_
 obtain ⟨bu, aX, hm⟩ := bnd hm
 replace aX := qa9 (qbc (si ba).symm) aX
 refine cF (cF (cF (cF (cF (cF ?_)))))
 exact bE (si aX) (eE hm)

def qa5 (r' : JJ) : Option (Jz × Err) :=
  some ((⟨0, 0, 0, (⟨([] : Str), ([] : Str), ([] : Str), false⟩ : Jq), (⟨([] : Str), ([] : Str), ([] : Str), false⟩ : Jq), [], [], [], false, false⟩ : Jz), (some 3))
theorem qbh {r' : JJ} {af : Option Addr} {ag : Nat} {K : Hp} {r : Jz × Err}
    (hm : qa5 r' = some r) (ai : RdC Jc.enc K af ag 2 r'.Ao) :
    Fn Tryz.prog 13 [.pointer none, .agg #[str r'.Am, str r'.Target, .slice af r'.Ao.length ag]] K [] (fun v K' H' => ∃ ar_0 : Option Addr, ∃ cr_0 : Nat, ∃ ar_1 : Option Addr, ∃ cr_1 : Nat, ∃ ar_2 : Option Addr, ∃ cr_2 : Nat, v = .tuple #[.agg #[.int .i64 r.1.Tenant, .int .i64 r.1.TTL, .int .i64 r.1.Ai, str r.1.Asked.An, str r.1.Asked.Ae, str r.1.Asked.Af, .bool r.1.Asked.HasQuery, str r.1.Cache.An, str r.1.Cache.Ae, str r.1.Cache.Af, .bool r.1.Cache.HasQuery, .slice ar_0 r.1.Ao.length cr_0, .slice ar_1 r.1.Vary.length cr_1, .slice ar_2 r.1.Ah.length cr_2, .bool r.1.Ak, .bool r.1.Al], qcr 48 r.2] ∧ (0 < r.1.Ao.length → Has ar_0) ∧ (0 < r.1.Vary.length → Has ar_1) ∧ (0 < r.1.Ah.length → Has ar_2) ∧ H' = [qat Jc.enc ar_0 41 2 cr_0 r.1.Ao, qat eS ar_1 9 1 cr_1 r.1.Vary, qat eS ar_2 9 1 cr_2 r.1.Ah]) := by
 refine Fn.enter Tryz.func13 Tryz.call13 rfl fun F => ?_
 unfold qa5 at hm
 refine qaq ?_
 intro b3
 refine qah rfl fun b4 => ?_
 refine qfe rfl ?_
 refine qac rfl (cT (qaf rfl rfl ?_))
 refine qar rfl ?_
 refine qaa r0 rfl ⟨rfl, rfl, (nl rfl), ?_⟩
 refine ro (qab r0 rfl (nl rfl) ?_)
 refine qch Jc.enc 41 2 ?_
 refine qch eS 9 1 ?_
 refine qch eS 9 1 ?_
 exact eE hm

def JeD (e : Err) : Option (Int) :=
  if e.isNone then
  some 0
  else
  if (!e.isSome) then
  some (-1)
  else
  some (e.getD 0)
theorem JeG {e : Err} {K : Hp} {r : Int}
    (hm : JeD e = some r)  :
    Fn Tryz.prog 26 [qcr 48 e] K [] (fun v K' H' => v = .int .i64 r ∧ H' = []) := by
 refine Fn.enter Tryz.func26 Tryz.call26 rfl fun F => ?_
 unfold JeD at hm
 refine qc7 rfl ?_
 refine cs rfl rfl hm ?_ ?_ <;> intro w6 hm
 exact eE hm
 refine qp0 rfl rfl rfl ?_
 refine qav ?_
 refine cs rfl rfl hm ?_ ?_ <;> intro aS hm
 exact eE hm
 exact eE hm

def JcG (e : Err) (want : Int) : Option (Bool) :=
  (JeD e).bind fun x6 =>
  some (decide (x6 = want) && decide (want ≠ 0))
theorem JcZ {e : Err} {want : Int} {K : Hp} {r : Bool}
    (hm : JcG e want = some r)  :
    Fn Tryz.prog 16 [qcr 48 e, .int .i64 want] K [] (fun v K' H' => v = .bool r ∧ H' = []) := by
 refine Fn.enter Tryz.func16 Tryz.call16 rfl fun F => ?_
 unfold JcG at hm
 refine qai rfl ?_
 refine cb hm fun x6 q6 hm => cg0 (JeG q6 :) ?_
 refine qag ?_
 refine qae ?_ ?_ <;> intro aS
 refine ct aS (qa3 (ct aS ?_))
 exact bE (qcw (b := decide (want ≠ 0)) aS) (eE hm)
 refine cf aS (cf aS ?_)
 exact bE (((qbc aS)).symm) (eE hm)

def qa8 : Option ((List Str)) :=
  some []
theorem qbw  {K : Hp} {r : (List Str)}
    (hm : qa8 = some r)  :
    Fn Tryz.prog 27 [.pointer none] K [] (fun v K' H' => ∃ ar_0 : Option Addr, ∃ cr_0 : Nat, v = .slice ar_0 r.length cr_0 ∧ (0 < r.length → Has ar_0) ∧ H' = [qat eS ar_0 9 1 cr_0 r]) := by
 refine Fn.enter Tryz.func27 Tryz.call27 rfl fun F => ?_
 unfold qa8 at hm
 refine qfe rfl ?_
 refine qac rfl (cT ?_)
 refine qch eS 9 1 ?_
 exact eE hm

def Jd3 (b : Bool) : Option (Int) :=
  if b then
  some 1
  else
  some 0
theorem Jen {b : Bool} {K : Hp} {r : Int}
    (hm : Jd3 b = some r)  :
    Fn Tryz.prog 28 [.bool b] K [] (fun v K' H' => v = .int .i64 r ∧ H' = []) := by
 refine Fn.enter Tryz.func28 Tryz.call28 rfl fun F => ?_
 unfold Jd3 at hm
 refine cs rfl rfl hm ?_ ?_ <;> intro w3 hm
 exact eE hm
 exact eE hm

def Jcw (b : (List Str)) : List Str → Nat → Option (Fl (Bool) (Unit))
  | [], _ => some (Fl.go ())
  | e0 :: aS, i0 =>
    (ix b (i0 : Int)).bind fun aT =>
    if decide (e0 ≠ aT) then
    some (Fl.ret false)
    else
    Jcw b aS (i0 + 1)
def JdM (a : (List Str)) (b : (List Str)) : Option (Bool) :=
  if decide ((a.length : Int) ≠ (b.length : Int)) then
  some false
  else
  (chk (a.length ≤ qbd)).bind fun _ =>
  (Jcw b a 0).bind fun s0 => s0.el some fun t0 =>
  some true
theorem Jd4 {a : (List Str)} {b : (List Str)} {aa : Option Addr} {ab : Nat} {n0 : Nat} {af : Option Addr} {ag : Nat} {n1 : Nat} {K : Hp} {r : Bool}
    (hm : JdM a b = some r) (hX : RdC eS K aa ab 1 a ∧ n0 = a.length ∧ RdC eS K af ag 1 b ∧ n1 = b.length) :
    Fn Tryz.prog 23 [.slice aa n0 ab, .slice af n1 ag] K [] (fun v K' H' => v = .bool r ∧ H' = []) := by
 obtain ⟨ae, aW, ai, aZ⟩ := hX
 subst aW
 subst aZ
 refine Fn.enter Tryz.func23 Tryz.call23 rfl fun F => ?_
 unfold JdM at hm
 refine ro (qak rfl (ro (qak rfl (qa3 ?_))))
 refine cs rfl rfl hm ?_ ?_ <;> intro ba hm
 exact eE hm
 refine ro (qak rfl ?_)
 obtain ⟨aX, hm⟩ := qay hm
 obtain ⟨s0, aS, hm⟩ := bnd hm
 refine lD (σ := (Unit)) ([4,5] ++ rg 13 13) [0] (fun i0 => [(13, .int .i64 (i0 : Int))]) (fun _ => []) (fun _ => []) (fun _ => True) (fun i0 _ => Jcw b (a.drop i0) i0 = some s0) (fun t0 => s0 = Fl.go t0) (fun i0 => a.length - i0) 0 () aS (And.intro qe (And.intro ?_ ?_))
 clear aS
 rintro i0 _ _ aS j0
 conv at aS => whnf
 refine qac rfl ?_
 refine qae ?_ ?_ <;> intro w0
 obtain ⟨e0, aT, aY⟩ := ltx w0
 rw [aY, Jcw.eq_2] at aS
 refine qal rfl ?_
 refine qa4 ⟨⟨[], false⟩, _, [], []⟩ (by kernel_rfl) ⟨Hp.Le.refl _, (pf rfl), ci0⟩ ?_
 refine qad rfl rfl (qdr ae.rd aT) (nn _) (qbm aT) (qcq i0 0 _ _ ae.rd rfl (mp aT) rfl rfl ?_)
 obtain ⟨a6, aV, aU, aS⟩ := ixb aS
 refine qad rfl rfl (qdr ai.rd aU) aV (qaw rfl aV aU) (qcq (((i0 : Int)).toNat) 0 _ _ ai.rd rfl (mp aU) rfl rfl (qbl ?_))
 refine cs rfl rfl aS ?_ ?_ <;> intro a8 aS
 exact eE (er aS hm)
 refine qam (qbs aT aX) ?_
 exact eR aS (_, ())
 rw [lty w0, Jcw.eq_1] at aS
 refine cT ?_
 exact eM aS _
 rintro t0 _ rfl j0
 replace hm := elg hm
 exact eE hm

def Jcx (b : Jz) : List Jc → Nat → Option (Fl (Bool) (Unit))
  | [], _ => some (Fl.go ())
  | e0 :: aT, i0 =>
    (ix b.Ao (i0 : Int)).bind fun aS =>
    if (!(decide (e0.Name = aS.Name) && decide (e0.Value = aS.Value))) then
    some (Fl.ret false)
    else
    Jcx b aT (i0 + 1)
def Jek (a : Jz) (b : Jz) : Option (Bool) :=
  if (((((((decide (a.Tenant ≠ b.Tenant) || decide (a.TTL ≠ b.TTL)) || decide (a.Ai ≠ b.Ai)) || (!(decide (a.Asked.An = b.Asked.An) && (decide (a.Asked.Ae = b.Asked.Ae) && (decide (a.Asked.Af = b.Asked.Af) && (a.Asked.HasQuery == b.Asked.HasQuery)))))) || (!(decide (a.Cache.An = b.Cache.An) && (decide (a.Cache.Ae = b.Cache.Ae) && (decide (a.Cache.Af = b.Cache.Af) && (a.Cache.HasQuery == b.Cache.HasQuery)))))) || (!(a.Ak == b.Ak))) || (!(a.Al == b.Al))) || decide ((a.Ao.length : Int) ≠ (b.Ao.length : Int))) then
  some false
  else
  (chk (a.Ao.length ≤ qbd)).bind fun _ =>
  (Jcx b a.Ao 0).bind fun s0 => s0.el some fun t0 =>
  (JdM a.Vary b.Vary).bind fun aS =>
  (if aS then (JdM a.Ah b.Ah).bind fun aT =>
  some aT else some false).bind fun aU =>
  some aU
theorem JeE {a : Jz} {b : Jz} {aa : Option Addr} {ab : Nat} {ah : Option Addr} {ak : Nat} {am : Option Addr} {ao : Nat} {af : Option Addr} {ag : Nat} {aH : Option Addr} {aI : Nat} {aJ : Option Addr} {aK : Nat} {K : Hp} {r : Bool}
    (hm : Jek a b = some r) (hX : RdC Jc.enc K aa ab 2 a.Ao ∧ RdC eS K ah ak 1 a.Vary ∧ RdC eS K am ao 1 a.Ah ∧ RdC Jc.enc K af ag 2 b.Ao ∧ RdC eS K aH aI 1 b.Vary ∧ RdC eS K aJ aK 1 b.Ah) :
    Fn Tryz.prog 18 [.agg #[.int .i64 a.Tenant, .int .i64 a.TTL, .int .i64 a.Ai, str a.Asked.An, str a.Asked.Ae, str a.Asked.Af, .bool a.Asked.HasQuery, str a.Cache.An, str a.Cache.Ae, str a.Cache.Af, .bool a.Cache.HasQuery, .slice aa a.Ao.length ab, .slice ah a.Vary.length ak, .slice am a.Ah.length ao, .bool a.Ak, .bool a.Al], .agg #[.int .i64 b.Tenant, .int .i64 b.TTL, .int .i64 b.Ai, str b.Asked.An, str b.Asked.Ae, str b.Asked.Af, .bool b.Asked.HasQuery, str b.Cache.An, str b.Cache.Ae, str b.Cache.Af, .bool b.Cache.HasQuery, .slice af b.Ao.length ag, .slice aH b.Vary.length aI, .slice aJ b.Ah.length aK, .bool b.Ak, .bool b.Al]] K [] (fun v K' H' => v = .bool r ∧ H' = []) := by
 obtain ⟨ae, bj, bf, ai, bd, bc⟩ := hX
 refine Fn.enter Tryz.func18 Tryz.call18 rfl fun F => ?_
 unfold Jek at hm
 refine qaq ?_
 intro b2
 refine qaq ?_
 intro b3
 refine jR (σ := Unit) (rg 6 56) (fun _ => [(61, .bool (((((((decide (a.Tenant ≠ b.Tenant) || decide (a.TTL ≠ b.TTL)) || decide (a.Ai ≠ b.Ai)) || (!(decide (a.Asked.An = b.Asked.An) && (decide (a.Asked.Ae = b.Asked.Ae) && (decide (a.Asked.Af = b.Asked.Af) && (a.Asked.HasQuery == b.Asked.HasQuery)))))) || (!(decide (a.Cache.An = b.Cache.An) && (decide (a.Cache.Ae = b.Cache.Ae) && (decide (a.Cache.Af = b.Cache.Af) && (a.Cache.HasQuery == b.Cache.HasQuery)))))) || (!(a.Ak == b.Ak))) || (!(a.Al == b.Al))) || decide ((a.Ao.length : Int) ≠ (b.Ao.length : Int))))]) (fun bn => True) ?_ ?_
 refine qai rfl ?_
 refine fa rfl (ro (ld r1 rfl rfl (fa rfl (ro (ld r0 rfl rfl (qa3 ?_))))))
 refine qae ?_ ?_ <;> intro aS
 refine ct aS (ct aS (ct aS (ct aS (ct aS (cT (cT (cT ?_)))))))
 refine cT (cT (cT (cT (cT (cT (cT (cT ?_)))))))
 refine cT (cT (cT (cT (cT (cT (cT (cT ?_)))))))
 refine cT (cT (cT (cT (cT (cT (cT (cT ?_)))))))
 refine cT (cT (cT (cT (cT (cT (cT (cT ?_)))))))
 refine cT (cT (cT ?_))
 exact eMt () ⟨bq (((qbt (qbt (qbt (qbt (qbt (qbt (qbt aS)))))))).symm), trivial⟩
 refine fa rfl (cf aS (ro (ld r1 rfl rfl (cf aS (fa rfl (cf aS (ro (ld r0 rfl rfl (cf aS ?_)))))))))
 refine qa3 (cf aS ?_)
 refine qae ?_ ?_ <;> intro aT
 refine ct aT (ct aT (ct aT (ct aT (ct aT (cT (cT (cT ?_)))))))
 refine cT (cT (cT (cT (cT (cT (cT (cT ?_)))))))
 refine cT (cT (cT (cT (cT (cT (cT (cT ?_)))))))
 refine cT (cT (cT (cT (cT (cT (cT (cT ?_)))))))
 refine cT (cT (cT (cT (cT ?_))))
 exact eMt () ⟨bq (((qbt (qbt (qbt (qbt (qbt (qbt (qfg aS aT)))))))).symm), trivial⟩
 refine fa rfl (cf aT (ro (ld r1 rfl rfl (cf aT (fa rfl (cf aT (ro (ld r0 rfl rfl (cf aT ?_)))))))))
 refine qa3 (cf aT ?_)
 refine qae ?_ ?_ <;> intro aV
 refine ct aV (ct aV (ct aV (ct aV (ct aV (cT (cT (cT ?_)))))))
 refine cT (cT (cT (cT (cT (cT (cT (cT ?_)))))))
 refine cT (cT (cT (cT (cT (cT (cT (cT ?_)))))))
 refine cT (cT (cT (cT (cT (cT (cT ?_))))))
 exact eMt () ⟨bq (((qbt (qbt (qbt (qbt (qbt (qfg (qcy aS aT) aV))))))).symm), trivial⟩
 refine fa rfl (cf aV (ro (qab r1 rfl (nl rfl) (cf aV (fa rfl (cf aV (ro (qab r0 rfl (nl rfl) (cf aV ?_)))))))))
 refine qhy (b := (decide (a.Asked.An = b.Asked.An) && (decide (a.Asked.Ae = b.Asked.Ae) && (decide (a.Asked.Af = b.Asked.Af) && (a.Asked.HasQuery == b.Asked.HasQuery))))) rfl (by kernel_rfl) (by kernel_rfl) (by kernel_rfl) rfl ?_
 refine cf aV ?_
 refine qae ?_ ?_ <;> intro aW
 refine ct aW (ct aW (ct aW (ct aW (ct aW (cT (cT (cT ?_)))))))
 refine cT (cT (cT (cT (cT (cT (cT (cT ?_)))))))
 refine cT (cT (cT (cT (cT (cT (cT (cT ?_)))))))
 refine cT ?_
 exact eMt () ⟨bq (((qbt (qbt (qbt (qbt (qfg (qcy (qcy aS aT) aV) aW)))))).symm), trivial⟩
 refine fa rfl (cf aW (ro (qab r1 rfl (nl rfl) (cf aW (fa rfl (cf aW (ro (qab r0 rfl (nl rfl) (cf aW ?_)))))))))
 refine qhy (b := (decide (a.Cache.An = b.Cache.An) && (decide (a.Cache.Ae = b.Cache.Ae) && (decide (a.Cache.Af = b.Cache.Af) && (a.Cache.HasQuery == b.Cache.HasQuery))))) rfl (by kernel_rfl) (by kernel_rfl) (by kernel_rfl) rfl ?_
 refine cf aW ?_
 refine qae ?_ ?_ <;> intro aX
 refine ct aX (ct aX (ct aX (ct aX (ct aX (cT (cT (cT ?_)))))))
 refine cT (cT (cT (cT (cT (cT (cT (cT ?_)))))))
 refine cT (cT (cT ?_))
 exact eMt () ⟨bq (((qbt (qbt (qbt (qfg (qcy (qcy (qcy aS aT) aV) aW) aX))))).symm), trivial⟩
 refine fa rfl (cf aX (ro (ld r1 rfl rfl (cf aX (fa rfl (cf aX (ro (ld r0 rfl rfl (cf aX ?_)))))))))
 refine qfx rfl (cf aX ?_)
 refine qae ?_ ?_ <;> intro aY
 refine ct aY (ct aY (ct aY (ct aY (ct aY (cT (cT (cT ?_)))))))
 refine cT (cT (cT (cT (cT ?_))))
 exact eMt () ⟨bq (((qbt (qbt (qfg (qcy (qcy (qcy (qcy aS aT) aV) aW) aX) aY)))).symm), trivial⟩
 refine fa rfl (cf aY (ro (ld r1 rfl rfl (cf aY (fa rfl (cf aY (ro (ld r0 rfl rfl (cf aY ?_)))))))))
 refine qfx rfl (cf aY ?_)
 refine qae ?_ ?_ <;> intro aU
 refine ct aU (ct aU (ct aU (ct aU (ct aU (ct aU (ct aU ?_))))))
 exact eMt () ⟨bq (((qbt (qfg (qcy (qcy (qcy (qcy (qcy aS aT) aV) aW) aX) aY) aU))).symm), trivial⟩
 refine fa rfl (cf aU (ro (ld r1 rfl rfl (cf aU (ro (qak rfl (cf aU (fa rfl (cf aU ?_)))))))))
 refine ro (ld r0 rfl rfl (cf aU (ro (qak rfl (cf aU (qa3 (cf aU ?_)))))))
 exact eMt () ⟨bq (qgz (b := decide ((a.Ao.length : Int) ≠ (b.Ao.length : Int))) (qcy (qcy (qcy (qcy (qcy (qcy aS aT) aV) aW) aX) aY) aU)), trivial⟩
 rintro _ _ br
 refine cs rfl rfl hm ?_ ?_ <;> intro bu hm
 exact eE hm
 refine fa rfl (ro (ld r1 rfl rfl (ro (qak rfl ?_))))
 obtain ⟨bm, hm⟩ := qay hm
 obtain ⟨s0, a6, hm⟩ := bnd hm
 refine lD (σ := (Unit)) ([4,5] ++ rg 65 15) [0, 1, 2] (fun i0 => [(65, .int .i64 (i0 : Int))]) (fun _ => []) (fun _ => []) (fun _ => True) (fun i0 _ => Jcx b (a.Ao.drop i0) i0 = some s0) (fun t0 => s0 = Fl.go t0) (fun i0 => a.Ao.length - i0) 0 () a6 (And.intro qe (And.intro ?_ ?_))
 clear a6
 rintro i0 _ _ a6 j0
 conv at a6 => whnf
 refine qac rfl ?_
 refine qae ?_ ?_ <;> intro w0
 obtain ⟨e0, ba, bp⟩ := ltx w0
 rw [bp, Jcx.eq_2] at a6
 refine qal rfl ?_
 refine qa4 ⟨⟨[], false⟩, _, [(_, _), (_, _)], []⟩ (by kernel_rfl) ⟨Hp.Le.refl _, (sc [1,0] rfl), ci0⟩ ?_
 refine fa rfl (qao m0 rfl rfl (qad rfl rfl (qdr ae.rd ba) (nn _) (qbm ba) (qex i0 _ ae.rd rfl (mp ba) rfl (fa rfl (qao m1 rfl rfl ?_)))))
 obtain ⟨bg, bh, bb, a6⟩ := ixb a6
 refine qad rfl rfl (qdr ai.rd bb) bh (qaw rfl bh bb) (qex (((i0 : Int)).toNat) _ ai.rd rfl (mp bb) rfl ?_)
 refine qhy (b := (decide (e0.Name = bg.Name) && decide (e0.Value = bg.Value))) rfl (by kernel_rfl) (by kernel_rfl) (by kernel_rfl) rfl ?_
 refine cs rfl rfl a6 ?_ ?_ <;> intro bt a6
 exact eE (er a6 hm)
 refine qam (qbs ba bm) ?_
 exact eR a6 (_, ())
 rw [lty w0, Jcx.eq_1] at a6
 refine cT ?_
 exact eM a6 _
 rintro t0 _ rfl j0
 replace hm := elg hm
 refine qai rfl ?_
 refine fa rfl (ro (ld r1 rfl rfl (fa rfl (ro (ld r0 rfl rfl ?_)))))
 refine cb hm fun bz bo hm => cgx (Jd4 bo :) ?_
 obtain ⟨bw, a8, hm⟩ := bnd hm
 refine cS a8 (fun aZ a8 => ?_) fun aZ a8 => ?_
 refine fa rfl (ct aZ (ro (ld r1 rfl rfl (ct aZ (fa rfl (ct aZ (ro (ld r0 rfl rfl (ct aZ ?_)))))))))
 refine cb a8 fun bv bl a8 => cgx (Jd4 bl :) ?_
 refine ct aZ ?_
 exact bE (si a8) (eE hm)
 refine cf aZ (cf aZ (cf aZ (cf aZ (cf aZ ?_))))
 exact bE (si a8) (eE hm)

def Jc5 (p : Jz) : Option (Bool) :=
  (Jek p (⟨0, 0, 0, (⟨([] : Str), ([] : Str), ([] : Str), false⟩ : Jq), (⟨([] : Str), ([] : Str), ([] : Str), false⟩ : Jq), [], [], [], false, false⟩ : Jz)).bind fun x5 =>
  some x5
theorem JdS {p : Jz} {aa : Option Addr} {ab : Nat} {ah : Option Addr} {ak : Nat} {am : Option Addr} {ao : Nat} {K : Hp} {r : Bool}
    (hm : Jc5 p = some r) (hX : RdC Jc.enc K aa ab 2 p.Ao ∧ RdC eS K ah ak 1 p.Vary ∧ RdC eS K am ao 1 p.Ah) :
    Fn Tryz.prog 15 [.agg #[.int .i64 p.Tenant, .int .i64 p.TTL, .int .i64 p.Ai, str p.Asked.An, str p.Asked.Ae, str p.Asked.Af, .bool p.Asked.HasQuery, str p.Cache.An, str p.Cache.Ae, str p.Cache.Af, .bool p.Cache.HasQuery, .slice aa p.Ao.length ab, .slice ah p.Vary.length ak, .slice am p.Ah.length ao, .bool p.Ak, .bool p.Al]] K [] (fun v K' H' => v = .bool r ∧ H' = []) := by
 obtain ⟨ae, aS, aT⟩ := hX
 refine Fn.enter Tryz.func15 Tryz.call15 rfl fun F => ?_
 unfold Jc5 at hm
 refine qaq ?_
 intro b1
 refine ro (qab r0 rfl (nl rfl) (qaf rfl rfl ?_))
 refine cb hm fun x5 q5 hm => cgx (JeE q5 :) ?_
 exact eE hm

def J8 : List Str → Nat → Int → Option (Int)
  | [], _, ac => some ac
  | e0 :: aS, i0, ac =>
    J8 aS (i0 + 1) (IntKind.i64.wrap (ac + (e0.length : Int)))
def JM : List Str → Nat → (List Jc) → Option ((List Jc))
  | [], _, aS => some aS
  | e2 :: aT, i2, aS =>
    (chk (aS.length + ([(⟨([104, 111, 115, 116] : Str), e2⟩ : Jc)]).length ≤ lim)).bind fun _ =>
    JM aT (i2 + 1) (aS ++ [(⟨([104, 111, 115, 116] : Str), e2⟩ : Jc)])
def Jb4 (n : Nat) (hosts : (List Str)) : Option (Bool) :=
  (chk (hosts.length ≤ qbd)).bind fun _ =>
  (J8 hosts 0 0).bind fun t0 =>
  (if (decide (t0 > 2000) || decide ((hosts.length : Int) > 10)) then some true else (Jc4 n).bind fun bt =>
  some (!bt)).bind fun bh =>
  if bh then
  (Jc4 n).bind fun br =>
  some br
  else
  (qdf n ([(⟨([97, 46, 101, 120, 97, 109, 112, 108, 101] : Str), 0, ([] : Str)⟩ : JT), (⟨([98, 46, 101, 120, 97, 109, 112, 108, 101] : Str), 1, ([] : Str)⟩ : JT)])).bind fun bj =>
  Option.elim bj.1 (
  if bj.2.2.isSome then
  some false
  else
  (chk (hosts.length ≤ qbd)).bind fun _ =>
  (JM hosts 0 []).bind fun t2 =>
  (qa5 (⟨([71, 69, 84] : Str), ([47] : Str), t2⟩ : JJ)).bind fun bc =>
  (((JcG bc.2 3).bind fun bl =>
  if (!bl) then
  some true
  else
  (qa8).bind fun bg =>
  some (decide ((bg.length : Int) ≠ 0))) : Option (Bool)).bind fun bm =>
  if bm then
  some false
  else
  (qa5 (⟨([71, 69, 84] : Str), ([47] : Str), t2⟩ : JJ)).bind fun aS =>
  ((if decide ((hosts.length : Int) = 1) then
  (ix hosts 0).bind fun bo =>
  (if decide (bo = ([97, 46, 101, 120, 97, 109, 112, 108, 101] : Str)) then some true else (ix hosts 0).bind fun bp =>
  some (decide (bp = ([98, 46, 101, 120, 97, 109, 112, 108, 101] : Str)))).bind fun bd =>
  (if bd then some true else (ix hosts 0).bind fun aZ =>
  some (decide (aZ = ([66, 46, 69, 88, 65, 77, 80, 76, 69] : Str)))).bind fun a8 =>
  some a8
  else
  some false) : Option (Bool)).bind fun bb =>
  if bb then
  (if aS.2.isNone then (ix hosts 0).bind fun aV =>
  (Jd3 (decide (aV ≠ ([97, 46, 101, 120, 97, 109, 112, 108, 101] : Str)))).bind fun aY =>
  some (decide (aS.1.Tenant = aY)) else some false).bind fun a6 =>
  some a6
  else
  if decide ((hosts.length : Int) ≠ 1) then
  (Jc5 aS.1).bind fun aX =>
  (if aX then (JcG aS.2 8).bind fun ba =>
  some ba else some false).bind fun aT =>
  some aT
  else
  (if aS.2.isNone then some true else (JcG aS.2 8).bind fun aW =>
  some aW).bind fun aU =>
  some aU)
   fun bu =>
  if bj.2.2.isSome then
  some false
  else
  (chk (hosts.length ≤ qbd)).bind fun _ =>
  (JM hosts 0 []).bind fun t2 =>
  (qa5 (⟨([71, 69, 84] : Str), ([47] : Str), t2⟩ : JJ)).bind fun bc =>
  (((JcG bc.2 3).bind fun bl =>
  if (!bl) then
  some true
  else
  (qa8).bind fun bg =>
  some (decide ((bg.length : Int) ≠ 0))) : Option (Bool)).bind fun bf =>
  if bf then
  some false
  else
  (qas n bu (⟨([71, 69, 84] : Str), ([47] : Str), t2⟩ : JJ)).bind fun aS =>
  ((if decide ((hosts.length : Int) = 1) then
  (ix hosts 0).bind fun bo =>
  (if decide (bo = ([97, 46, 101, 120, 97, 109, 112, 108, 101] : Str)) then some true else (ix hosts 0).bind fun bp =>
  some (decide (bp = ([98, 46, 101, 120, 97, 109, 112, 108, 101] : Str)))).bind fun bd =>
  (if bd then some true else (ix hosts 0).bind fun aZ =>
  some (decide (aZ = ([66, 46, 69, 88, 65, 77, 80, 76, 69] : Str)))).bind fun a8 =>
  some a8
  else
  some false) : Option (Bool)).bind fun bn =>
  if bn then
  (if aS.2.isNone then (ix hosts 0).bind fun aV =>
  (Jd3 (decide (aV ≠ ([97, 46, 101, 120, 97, 109, 112, 108, 101] : Str)))).bind fun aY =>
  some (decide (aS.1.Tenant = aY)) else some false).bind fun a6 =>
  some a6
  else
  if decide ((hosts.length : Int) ≠ 1) then
  (Jc5 aS.1).bind fun aX =>
  (if aX then (JcG aS.2 8).bind fun ba =>
  some ba else some false).bind fun aT =>
  some aT
  else
  (if aS.2.isNone then some true else (JcG aS.2 8).bind fun aW =>
  some aW).bind fun aU =>
  some aU
theorem JdN {n : Nat} {hosts : (List Str)} {aa : Option Addr} {ab : Nat} {n0 : Nat} {K : Hp} {r : Bool}
    (hm : Jb4 n hosts = some r) (hX : RdC eS K aa ab 1 hosts ∧ n0 = hosts.length ∧ GG K) :
    Fn Tryz.prog 8 [.slice aa n0 ab] K [] (fun v K' H' => v = .bool r ∧ H' = []) := by
 obtain ⟨ae, dN, hG⟩ := hX
 subst dN
 refine Fn.enter Tryz.func8 Tryz.call8 rfl fun F => ?_
 unfold Jb4 at hm
 refine ro (qak rfl ?_)
 obtain ⟨dC, hm⟩ := qay hm
 obtain ⟨s0, bT, hm⟩ := bnd hm
 refine lD (σ := (Int)) ([3,5] ++ rg 18 9) [0] (fun i0 => [(18, .int .i64 (i0 : Int))]) (fun t0 => [(3, .int .i64 t0)]) (fun _ => []) (fun _ => True) (fun i0 t0 => J8 (hosts.drop i0) i0 t0 = some s0) (fun t0 => t0 = s0) (fun i0 => hosts.length - i0) 0 _ bT (And.intro qe (And.intro ?_ ?_))
 clear bT
 rintro i0 ac _ bT j0
 conv at bT => whnf
 refine qac rfl ?_
 refine qae ?_ ?_ <;> intro w0
 obtain ⟨e0, cV, dP⟩ := ltx w0
 rw [dP, J8.eq_2] at bT
 refine qal rfl ?_
 refine RStep.ofN (qad rfl rfl (qdr ae.rd cV) (nn _) (qbm cV) (ro (qbq i0 0 _ _ ae.rd rfl (mp cV) rfl rfl (ro (qa2 rfl ?_)))))
 refine qlu ?_
 refine qam (qbs cV dC) ?_
 exact eR bT (_, _)
 rw [lty w0, J8.eq_1] at bT
 refine cT ?_
 exact eM bT _
 rintro t0 _ rfl j0
 obtain ⟨cZ, bm, hm⟩ := bnd hm
 refine jR (σ := Bool) (rg 27 11) (fun bQ => [(37, .bool bQ)]) (fun bQ => bQ = cZ) ?_ ?_
 replace bm := bsm bm
 refine qai rfl ?_
 refine qae ?_ ?_ <;> intro bn
 refine ct bn (ct bn (ct bn ?_))
 obtain ⟨dX, bJ, bm⟩ := bnd bm
 replace bJ := ift (qbt bn) bJ
 refine cT (cT (cT ?_))
 exact eMq bm _ ⟨bq (si bJ), trivial⟩
 refine cf bn (ro (qak rfl (cf bn (cf bn ?_))))
 obtain ⟨dX, bJ, bm⟩ := bnd bm
 refine qae ?_ ?_ <;> intro br
 replace bJ := ift (qfg bn br) bJ
 refine ct br (ct br ?_)
 exact eMq bm _ ⟨bq (si bJ), trivial⟩
 replace bJ := qa9 (qcy bn br) bJ
 refine cb bJ fun d5 dz bJ => cgx (JdR dz :) ?_
 refine cf br (qav (cf br ?_))
 exact eMq bm _ ⟨bq (si bJ), trivial⟩
 rintro bQ rfl dH
 refine cs rfl rfl hm ?_ ?_ <;> intro d4 hm
 refine cb hm fun d1 dY hm => cgx (JdR dY :) ?_
 exact eE hm
 refine qaf rfl rfl (cT (qaf rfl rfl (cT (cT ?_))))
 refine bsO (len := 2) (enc := JT.enc) (l := [(⟨([97, 46, 101, 120, 97, 109, 112, 108, 101] : Str), 0, ([] : Str)⟩ : JT), (⟨([98, 46, 101, 120, 97, 109, 112, 108, 101] : Str), 1, ([] : Str)⟩ : JT)]) (cl := [str ([97, 46, 101, 120, 97, 109, 112, 108, 101] : Str), .int .i64 0, str ([] : Str), str ([98, 46, 101, 120, 97, 109, 112, 108, 101] : Str), .int .i64 1, str ([] : Str)]) qn6 rfl rfl (fun _ _ => rfl) rfl rfl rfl ?_ fun d2 => ?_
 · conv => whnf
   refine cT (cT ?_)
   first | done | rfl
 refine fF Tryz.call12 r0 fun dv aY dt => ?_
 refine cb hm fun dF dE hm => cfx (qem dE :) ?_
 rintro d3 d6 d7 bo cU
 rcases hq43 : dF.1 with _ | o43
 rw [hq43] at cU hm
 obtain ⟨rfl, rfl⟩ := cU
 replace hm := qpt hm
 refine qa7 rfl ?_
 refine cs rfl rfl hm ?_ ?_ <;> intro dB hm
 exact eE hm
 refine qaf rfl rfl (cT (cT (cT ?_)))
 refine qah rfl fun b9 => ?_
 refine qaa r0 rfl ⟨rfl, rfl, (nl rfl), ?_⟩
 refine ro (qak rfl ?_)
 obtain ⟨db, hm⟩ := qay hm
 obtain ⟨s2, bp, hm⟩ := bnd hm
 refine qgv Jc.enc 41 2 ?_
 refine lD (σ := ((List Jc)) × Option Addr × Nat) ([11] ++ rg 52 12) [2] (fun i2 => [(52, .int .i64 (i2 : Int))]) (fun _ => []) (fun (t2, bb, bd) => [qat Jc.enc bb 41 2 bd t2, Cells b9 43 [str ([71, 69, 84] : Str), str ([47] : Str), .slice bb t2.length bd]]) (fun (t2, bb, bd) => (0 < t2.length → Has bb) ∧ True) (fun i2 (t2, bb, bd) => JM (hosts.drop i2) i2 t2 = some s2) (fun (t2, bb, bd) => t2 = s2) (fun i2 => hosts.length - i2) 0 (_, _, _) bp (And.intro qe (And.intro ?_ ?_))
 clear bp
 rintro i2 ⟨di, cq, cE⟩ ⟨cn, _⟩ bp j2
 conv at bp => whnf
 refine qac rfl ?_
 refine qae ?_ ?_ <;> intro w2
 obtain ⟨e2, bN, dj⟩ := ltx w2
 rw [dj, JM.eq_2] at bp
 refine qal rfl ?_
 refine RStep.ofN (qad rfl rfl (qdr (ae.mono (aY.trans bo)).rd bN) (nn _) (qbm bN) (ro (qbq i2 0 _ _ (ae.mono (aY.trans bo)).rd rfl (mp bN) rfl rfl (fa rfl (ro (ld r1 rfl rfl (qaf rfl rfl (cT (cT ?_)))))))))
 refine bsO (len := 1) (enc := Jc.enc) (l := [(⟨([104, 111, 115, 116] : Str), e2⟩ : Jc)]) (cl := [str ([104, 111, 115, 116] : Str), str e2]) qeb rfl rfl (fun _ _ => rfl) rfl rfl rfl ?_ fun dQ => ?_
 · conv => whnf
   refine cT ?_
   first | done | rfl
 obtain ⟨dm, bp⟩ := qay bp
 refine apE rfl r1 qeb (qax rfl r0 rfl (fun _ => rfl) (fun _ => rfl)) dm ?_
 intro dT dU dK
 refine fa rfl ?_
 refine qaa r2 rfl ⟨rfl, rfl, (nl rfl), ?_⟩
 refine qam (qbs bN db) ?_
 exact eR bp (_, _, _, _)
 rw [lty w2, JM.eq_1] at bp
 refine cT ?_
 exact eM bp (_, _, _)
 rintro ⟨t2, bb, bd⟩ ⟨ce, _⟩ rfl j2
 refine ro (qab r1 rfl (nl rfl) ?_)
 refine fF Tryz.call13 r0 fun bK aU bt => ?_
 refine cb hm fun dW c4 hm => ckx (qbh c4 :) ?_
 rintro _ _ _ ⟨cC, cy, cP, cK, cJ, co, rfl, cu, cp, cj, rfl⟩
 refine qah rfl fun dI => ?_
 refine qaa r0 rfl ⟨rfl, rfl, (nl rfl), ?_⟩
 obtain ⟨c3, bl, hm⟩ := bnd hm
 refine jR (σ := Bool) (rg 70 9) (fun bR => [(78, .bool bR)]) (fun bR => bR = c3) ?_ ?_
 refine qai rfl ?_
 refine cb bl fun dy da bl => cg0 (JcZ da :) ?_
 refine qav ?_
 refine cS bl (fun aW bl => ?_) fun aW bl => ?_
 refine ct aW (ct aW (ct aW (ct aW ?_)))
 exact eM bl _
 refine cf aW ?_
 refine cb bl fun dL df bl => ck0 (qbw df :) ?_
 rintro _ _ _ ⟨cM, cz, rfl, cR, rfl⟩
 refine cf aW (ro (qak rfl (cf aW (qa3 (cf aW ?_)))))
 exact eM bl _
 rintro bR rfl dM
 refine cs rfl rfl hm ?_ ?_ <;> intro dR hm
 exact eE hm
 refine ro (qab r4 rfl (nl rfl) ?_)
 refine cb hm fun dO de hm => ckx (qbh de :) ?_
 rintro _ _ _ ⟨cG, cN, cH, cd, cr, cD, rfl, cw, cI, cQ, rfl⟩
 refine qah rfl fun dG => ?_
 refine qaa r0 rfl ⟨rfl, rfl, (nl rfl), ?_⟩
 obtain ⟨dg, ba, hm⟩ := bnd hm
 refine jR (σ := Bool) (rg 85 21) (fun bP => [(105, .bool bP)]) (fun bP => bP = dg) ?_ ?_
 refine qai rfl ?_
 refine ro (qak rfl (qag ?_))
 refine cS ba (fun aS ba => ?_) fun aS ba => ?_
 refine ct aS ?_
 obtain ⟨dV, cO, ca, ba⟩ := ixb ba
 refine RStep.ofN (qad rfl rfl (qdr (ae.mono ((aY.trans bo).trans aU)).rd ca) cO (qaw rfl cO ca) (ct aS (ro (qbq ((0 : Int).toNat) 0 _ _ (ae.mono ((aY.trans bo).trans aU)).rd rfl (mp ca) rfl rfl (ct aS (qap (ct aS ?_)))))))
 obtain ⟨dS, bu, ba⟩ := bnd ba
 refine cS bu (fun aX bu => ?_) fun aX bu => ?_
 refine ct aX (ct aX (ct aX (ct aS (ct aX (ct aS ?_)))))
 obtain ⟨bZ, a8, ba⟩ := bnd ba
 replace a8 := ift (si bu).symm a8
 refine cT (cT (cT (cT (ct aS (cT (ct aS ?_))))))
 exact eMq ba _ ⟨bq (si a8), trivial⟩
 refine cf aX ?_
 obtain ⟨dZ, cL, bX, bu⟩ := ixb bu
 refine RStep.ofN (qad rfl rfl (qdr (ae.mono ((aY.trans bo).trans aU)).rd bX) cL (qaw rfl cL bX) (cf aX (ro (qbq ((0 : Int).toNat) 0 _ _ (ae.mono ((aY.trans bo).trans aU)).rd rfl (mp bX) rfl rfl (cf aX (qap (ct aS (cf aX (ct aS ?_)))))))))
 obtain ⟨bZ, a8, ba⟩ := bnd ba
 refine qae ?_ ?_ <;> intro aV
 replace a8 := ift ((si bu).symm.trans aV) a8
 refine ct aV (ct aV (ct aV (ct aS (ct aV (ct aS ?_)))))
 exact eMq ba _ ⟨bq (si a8), trivial⟩
 replace a8 := qa9 ((si bu).symm.trans aV) a8
 refine cf aV ?_
 obtain ⟨c9, bL, bv, a8⟩ := ixb a8
 refine RStep.ofN (qad rfl rfl (qdr (ae.mono ((aY.trans bo).trans aU)).rd bv) bL (qaw rfl bL bv) (cf aV (ro (qbq ((0 : Int).toNat) 0 _ _ (ae.mono ((aY.trans bo).trans aU)).rd rfl (mp bv) rfl rfl (cf aV (qap (ct aS (cf aV (ct aS ?_)))))))))
 exact eMq ba _ ⟨bq (si a8), trivial⟩
 refine cf aS (cf aS (cf aS (cf aS (cf aS (cf aS (cf aS (cf aS ?_)))))))
 exact eM ba _
 rintro bP rfl dA
 refine cs rfl rfl hm ?_ ?_ <;> intro dk hm
 refine qa4 ⟨⟨[], false⟩, _, [(_, _)], []⟩ (by kernel_rfl) ⟨Hp.Le.refl _, (pf rfl), ci0⟩ ?_
 refine qc7 rfl ?_
 obtain ⟨c5, bf, hm⟩ := bnd hm
 refine cS bf (fun aT bf => ?_) fun aT bf => ?_
 refine fa rfl (ct aT (qao m0 rfl rfl (ct aT (ct aT ?_))))
 obtain ⟨dq, bM, bw, bf⟩ := ixb bf
 refine qad rfl rfl (qdr (ae.mono ((aY.trans bo).trans aU)).rd bw) bM (qaw rfl bM bw) (ct aT (qcq ((0 : Int).toNat) 0 _ _ (ae.mono ((aY.trans bo).trans aU)).rd rfl (mp bw) rfl rfl (ct aT (qbl (ct aT ?_)))))
 refine cb bf fun dn bU bf => cg0 (Jen bU :) ?_
 refine qk (pf rfl) ?_
 refine ct aT (qag (ct aT ?_))
 exact bE (si bf) (eE hm)
 refine cf aT (cf aT (cf aT (cf aT (cf aT (cf aT (cf aT (cf aT ?_)))))))
 exact bE (si bf) (eE hm)
 refine ro (qak rfl (qa3 ?_))
 refine cs rfl rfl hm ?_ ?_ <;> intro c8 hm
 refine qai rfl ?_
 refine ro (qab r0 rfl (nl rfl) ?_)
 refine fF Tryz.call15 r1 fun bA bG bB => ?_
 refine fF Tryz.call15 r1 fun bI bz bF => ?_
 refine fF Tryz.call15 r1 fun bC bH bD => ?_
 refine cb hm fun dc bW hm => cgx (JdS bW :) ?_
 obtain ⟨cY, bg, hm⟩ := bnd hm
 refine cS bg (fun a6 bg => ?_) fun a6 bg => ?_
 refine ct a6 ?_
 refine cb bg fun cW bY bg => cg0 (JcZ bY :) ?_
 refine ct a6 ?_
 exact bE (si bg) (eE hm)
 refine cf a6 (cf a6 ?_)
 exact bE (si bg) (eE hm)
 refine qai rfl ?_
 refine qc7 rfl ?_
 obtain ⟨c6, bh, hm⟩ := bnd hm
 refine cS bh (fun aZ bh => ?_) fun aZ bh => ?_
 refine ct aZ (ct aZ ?_)
 exact bE (si bh) (eE hm)
 refine cf aZ ?_
 refine cb bh fun dh bV bh => cg0 (JcZ bV :) ?_
 refine cf aZ ?_
 exact bE (si bh) (eE hm)
 rw [hq43] at cU hm
 obtain ⟨du, dw, dx, rfl, cm, rfl⟩ := cU
 replace hm := qpu hm
 refine qa7 rfl ?_
 refine cs rfl rfl hm ?_ ?_ <;> intro dB hm
 exact eE hm
 refine qaf rfl rfl (cT (cT (cT ?_)))
 refine qah rfl fun b9 => ?_
 refine qaa r0 rfl ⟨rfl, rfl, (nl rfl), ?_⟩
 refine ro (qak rfl ?_)
 obtain ⟨db, hm⟩ := qay hm
 obtain ⟨s2, bp, hm⟩ := bnd hm
 refine qgv Jc.enc 41 2 ?_
 refine lD (σ := ((List Jc)) × Option Addr × Nat) ([11] ++ rg 52 12) [2, 3, 4] (fun i2 => [(52, .int .i64 (i2 : Int))]) (fun _ => []) (fun (t2, bb, bd) => [qat Jc.enc bb 41 2 bd t2, Cells b9 43 [str ([71, 69, 84] : Str), str ([47] : Str), .slice bb t2.length bd]]) (fun (t2, bb, bd) => (0 < t2.length → Has bb) ∧ True) (fun i2 (t2, bb, bd) => JM (hosts.drop i2) i2 t2 = some s2) (fun (t2, bb, bd) => t2 = s2) (fun i2 => hosts.length - i2) 0 (_, _, _) bp (And.intro qe (And.intro ?_ ?_))
 clear bp
 rintro i2 ⟨di, cq, cE⟩ ⟨cn, _⟩ bp j2
 conv at bp => whnf
 refine qac rfl ?_
 refine qae ?_ ?_ <;> intro w2
 obtain ⟨e2, bN, dj⟩ := ltx w2
 rw [dj, JM.eq_2] at bp
 refine qal rfl ?_
 refine RStep.ofN (qad rfl rfl (qdr (ae.mono (aY.trans bo)).rd bN) (nn _) (qbm bN) (ro (qbq i2 0 _ _ (ae.mono (aY.trans bo)).rd rfl (mp bN) rfl rfl (fa rfl (ro (ld r1 rfl rfl (qaf rfl rfl (cT (cT ?_)))))))))
 refine bsO (len := 1) (enc := Jc.enc) (l := [(⟨([104, 111, 115, 116] : Str), e2⟩ : Jc)]) (cl := [str ([104, 111, 115, 116] : Str), str e2]) qeb rfl rfl (fun _ _ => rfl) rfl rfl rfl ?_ fun dQ => ?_
 · conv => whnf
   refine cT ?_
   first | done | rfl
 obtain ⟨dm, bp⟩ := qay bp
 refine apE rfl r1 qeb (qax rfl r0 rfl (fun _ => rfl) (fun _ => rfl)) dm ?_
 intro dT dU dK
 refine fa rfl ?_
 refine qaa r2 rfl ⟨rfl, rfl, (nl rfl), ?_⟩
 refine qam (qbs bN db) ?_
 exact eR bp (_, _, _, _)
 rw [lty w2, JM.eq_1] at bp
 refine cT ?_
 exact eM bp (_, _, _)
 rintro ⟨t2, bb, bd⟩ ⟨ce, _⟩ rfl j2
 refine ro (qab r1 rfl (nl rfl) ?_)
 refine fF Tryz.call13 r0 fun bK aU bt => ?_
 refine cb hm fun dW c4 hm => ckx (qbh c4 :) ?_
 rintro _ _ _ ⟨cC, cy, cP, cK, cJ, co, rfl, cu, cp, cj, rfl⟩
 refine qah rfl fun dI => ?_
 refine qaa r0 rfl ⟨rfl, rfl, (nl rfl), ?_⟩
 obtain ⟨dl, bj, hm⟩ := bnd hm
 refine jR (σ := Bool) (rg 70 9) (fun bS => [(78, .bool bS)]) (fun bS => bS = dl) ?_ ?_
 refine qai rfl ?_
 refine cb bj fun dy da bj => cg0 (JcZ da :) ?_
 refine qav ?_
 refine cS bj (fun aW bj => ?_) fun aW bj => ?_
 refine ct aW (ct aW (ct aW (ct aW ?_)))
 exact eM bj _
 refine cf aW ?_
 refine cb bj fun dL df bj => ck0 (qbw df :) ?_
 rintro _ _ _ ⟨cM, cz, rfl, cR, rfl⟩
 refine cf aW (ro (qak rfl (cf aW (qa3 (cf aW ?_)))))
 exact eM bj _
 rintro bS rfl dJ
 refine cs rfl rfl hm ?_ ?_ <;> intro dR hm
 exact eE hm
 refine ro (qab r4 rfl (nl rfl) ?_)
 refine cb hm fun dO de hm => ck0 (qb6 (d := o43) (r' := (⟨([71, 69, 84] : Str), ([47] : Str), t2⟩ : JJ)) de ⟨(MR.mono Jx.R_ok cm aU), bt, (hG.mono ((aY.trans bo).trans aU))⟩) ?_
 rintro _ _ _ ⟨cG, cN, cH, cd, cr, cD, rfl, cw, cI, cQ, rfl⟩
 refine qah rfl fun dG => ?_
 refine qaa r0 rfl ⟨rfl, rfl, (nl rfl), ?_⟩
 obtain ⟨dp, bc, hm⟩ := bnd hm
 refine jR (σ := Bool) (rg 85 21) (fun bO => [(105, .bool bO)]) (fun bO => bO = dp) ?_ ?_
 refine qai rfl ?_
 refine ro (qak rfl (qag ?_))
 refine cS bc (fun aS bc => ?_) fun aS bc => ?_
 refine ct aS ?_
 obtain ⟨dV, cO, ca, bc⟩ := ixb bc
 refine RStep.ofN (qad rfl rfl (qdr (ae.mono ((aY.trans bo).trans aU)).rd ca) cO (qaw rfl cO ca) (ct aS (ro (qbq ((0 : Int).toNat) 0 _ _ (ae.mono ((aY.trans bo).trans aU)).rd rfl (mp ca) rfl rfl (ct aS (qap (ct aS ?_)))))))
 obtain ⟨dS, bu, bc⟩ := bnd bc
 refine cS bu (fun aX bu => ?_) fun aX bu => ?_
 refine ct aX (ct aX (ct aX (ct aS (ct aX (ct aS ?_)))))
 obtain ⟨bZ, a8, bc⟩ := bnd bc
 replace a8 := ift (si bu).symm a8
 refine cT (cT (cT (cT (ct aS (cT (ct aS ?_))))))
 exact eMq bc _ ⟨bq (si a8), trivial⟩
 refine cf aX ?_
 obtain ⟨dZ, cL, bX, bu⟩ := ixb bu
 refine RStep.ofN (qad rfl rfl (qdr (ae.mono ((aY.trans bo).trans aU)).rd bX) cL (qaw rfl cL bX) (cf aX (ro (qbq ((0 : Int).toNat) 0 _ _ (ae.mono ((aY.trans bo).trans aU)).rd rfl (mp bX) rfl rfl (cf aX (qap (ct aS (cf aX (ct aS ?_)))))))))
 obtain ⟨bZ, a8, bc⟩ := bnd bc
 refine qae ?_ ?_ <;> intro aV
 replace a8 := ift ((si bu).symm.trans aV) a8
 refine ct aV (ct aV (ct aV (ct aS (ct aV (ct aS ?_)))))
 exact eMq bc _ ⟨bq (si a8), trivial⟩
 replace a8 := qa9 ((si bu).symm.trans aV) a8
 refine cf aV ?_
 obtain ⟨c9, bL, bv, a8⟩ := ixb a8
 refine RStep.ofN (qad rfl rfl (qdr (ae.mono ((aY.trans bo).trans aU)).rd bv) bL (qaw rfl bL bv) (cf aV (ro (qbq ((0 : Int).toNat) 0 _ _ (ae.mono ((aY.trans bo).trans aU)).rd rfl (mp bv) rfl rfl (cf aV (qap (ct aS (cf aV (ct aS ?_)))))))))
 exact eMq bc _ ⟨bq (si a8), trivial⟩
 refine cf aS (cf aS (cf aS (cf aS (cf aS (cf aS (cf aS (cf aS ?_)))))))
 exact eM bc _
 rintro bO rfl dD
 refine cs rfl rfl hm ?_ ?_ <;> intro dk hm
 refine qa4 ⟨⟨[], false⟩, _, [(_, _)], []⟩ (by kernel_rfl) ⟨Hp.Le.refl _, (pf rfl), ci0⟩ ?_
 refine qc7 rfl ?_
 obtain ⟨c5, bf, hm⟩ := bnd hm
 refine cS bf (fun aT bf => ?_) fun aT bf => ?_
 refine fa rfl (ct aT (qao m0 rfl rfl (ct aT (ct aT ?_))))
 obtain ⟨dq, bM, bw, bf⟩ := ixb bf
 refine qad rfl rfl (qdr (ae.mono ((aY.trans bo).trans aU)).rd bw) bM (qaw rfl bM bw) (ct aT (qcq ((0 : Int).toNat) 0 _ _ (ae.mono ((aY.trans bo).trans aU)).rd rfl (mp bw) rfl rfl (ct aT (qbl (ct aT ?_)))))
 refine cb bf fun dn bU bf => cg0 (Jen bU :) ?_
 refine qk (pf rfl) ?_
 refine ct aT (qag (ct aT ?_))
 exact bE (si bf) (eE hm)
 refine cf aT (cf aT (cf aT (cf aT (cf aT (cf aT (cf aT (cf aT ?_)))))))
 exact bE (si bf) (eE hm)
 refine ro (qak rfl (qa3 ?_))
 refine cs rfl rfl hm ?_ ?_ <;> intro c8 hm
 refine qai rfl ?_
 refine ro (qab r0 rfl (nl rfl) ?_)
 refine fF Tryz.call15 r1 fun bA bG bB => ?_
 refine fF Tryz.call15 r1 fun bI bz bF => ?_
 refine fF Tryz.call15 r1 fun bC bH bD => ?_
 refine cb hm fun dc bW hm => cgx (JdS bW :) ?_
 obtain ⟨cY, bg, hm⟩ := bnd hm
 refine cS bg (fun a6 bg => ?_) fun a6 bg => ?_
 refine ct a6 ?_
 refine cb bg fun cW bY bg => cg0 (JcZ bY :) ?_
 refine ct a6 ?_
 exact bE (si bg) (eE hm)
 refine cf a6 (cf a6 ?_)
 exact bE (si bg) (eE hm)
 refine qai rfl ?_
 refine qc7 rfl ?_
 obtain ⟨c6, bh, hm⟩ := bnd hm
 refine cS bh (fun aZ bh => ?_) fun aZ bh => ?_
 refine ct aZ (ct aZ ?_)
 exact bE (si bh) (eE hm)
 refine cf aZ ?_
 refine cb bh fun dh bV bh => cg0 (JcZ bV :) ?_
 refine cf aZ ?_
 exact bE (si bh) (eE hm)
