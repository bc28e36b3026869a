/- Functions of the program: mirrors, and that a call returns what the mirror says. Printed by gen.py. -/
import Derived.Test.YtiaaooopklhobaaGreatDoorG6
set_option linter.unusedVariables false
set_option linter.unusedSimpArgs false
open Go Go.SL Go.Proofs
noncomputable section
set_option maxRecDepth 1000000
set_option maxHeartbeats 8000000
def JdD (n : Nat) : Option (Bool) :=
  (qbc n ([(⟨([101, 120, 97, 109, 112, 108, 101, 46, 99, 111, 109] : Str), 3, ([112, 97, 116, 104, 32, 61, 32, 34, 47, 118, 49, 34, 32, 43, 32, 112, 97, 116, 104, 59, 32, 116, 116, 108, 32, 54, 48, 59, 32, 116, 97, 103, 32, 34, 97, 108, 108, 34, 59] : Str)⟩ : JJ)])).bind fun x8 =>
  Option.elim x8.1 (
  ((if x8.2.2.isSome then
  some ()
  else
  some ()) : Option (Unit)).bind fun aW =>
  some false)
   fun o8 =>
  ((if x8.2.2.isSome then
  some true
  else
  some false) : Option (Bool)).bind fun aU =>
  if aU then
  some false
  else
  (qar n o8 (⟨([71, 69, 84] : Str), ([47, 97, 63, 120, 61, 49] : Str), [(⟨([104, 111, 115, 116] : Str), ([101, 120, 97, 109, 112, 108, 101, 46, 99, 111, 109] : Str)⟩ : Jc)]⟩ : Jaa)).bind fun aT =>
  (if (aT.2.isNone && decide (aT.1.TTL = 60)) then (qel n aT.1).bind fun aZ =>
  some (decide (aZ = ([51, 32, 101, 120, 97, 109, 112, 108, 101, 46, 99, 111, 109, 47, 118, 49, 47, 97, 63, 120, 61, 49] : Str))) else some false).bind fun aV =>
  (if (aV && decide ((aT.1.Ah.length : Int) = 1)) then (ix aT.1.Ah 0).bind fun aX =>
  some (decide (aX = ([97, 108, 108] : Str))) else some false).bind fun aY =>
  some aY
theorem Jev {n : Nat}  {K : Hp} {r : Bool}
    (hm : JdD n = some r) (hG : GG K) :
    Fn Tryz.prog 11 [] K [] (fun v K' H' => v = .bool r ∧ H' = []) := by
 refine Fn.enter Tryz.func11 Tryz.call11 rfl fun F => ?_
 unfold JdD at hm
 refine qad rfl rfl (cT (cT (cT ?_)))
 refine bsO (len := 1) (enc := JJ.enc) (l := [(⟨([101, 120, 97, 109, 112, 108, 101, 46, 99, 111, 109] : Str), 3, ([112, 97, 116, 104, 32, 61, 32, 34, 47, 118, 49, 34, 32, 43, 32, 112, 97, 116, 104, 59, 32, 116, 116, 108, 32, 54, 48, 59, 32, 116, 97, 103, 32, 34, 97, 108, 108, 34, 59] : Str)⟩ : JJ)]) (cl := [str ([101, 120, 97, 109, 112, 108, 101, 46, 99, 111, 109] : Str), .int .i64 3, str ([112, 97, 116, 104, 32, 61, 32, 34, 47, 118, 49, 34, 32, 43, 32, 112, 97, 116, 104, 59, 32, 116, 116, 108, 32, 54, 48, 59, 32, 116, 97, 103, 32, 34, 97, 108, 108, 34, 59] : Str)]) qq2 rfl rfl (fun _ _ => rfl) rfl rfl rfl ?_ fun b7 => ?_
 · conv => whnf
   refine cT ?_
   first | done | rfl
 refine fF Tryz.call12 r0 fun bP bz bN => ?_
 refine cb hm fun x8 q8 hm => cfx (qet q8 :) ?_
 rintro v8 K8 H8 l8 p8
 rcases hq8 : x8.1 with _ | o8
 rw [hq8] at p8 hm
 obtain ⟨rfl, rfl⟩ := p8
 replace hm := qt0 hm
 obtain ⟨br, a8, hm⟩ := bnd hm
 refine jR (σ := Unit) (rg 12 6) (fun _ => [(17, .bool true)]) (fun bu => bu = br) ?_ ?_
 refine qaf rfl ?_
 refine qa9 rfl ?_
 refine cS a8 (fun aV a8 => ?_) fun aV a8 => ?_
 refine ct aV (ct aV ?_)
 exact eM a8 _
 refine cf aV ?_
 refine qhk rfl ?_
 refine cf aV ?_
 exact eM a8 _
 rintro _ rfl bV
 refine qac rfl (cT ?_)
 exact eE hm
 rw [hq8] at p8 hm
 obtain ⟨bT, bQ, bM, rfl, bt, rfl⟩ := p8
 replace hm := qt1 hm
 obtain ⟨bA, a6, hm⟩ := bnd hm
 refine jR (σ := Bool) (rg 12 6) (fun bd => [(17, .bool bd)]) (fun bd => bd = bA) ?_ ?_
 refine qaf rfl ?_
 refine qa9 rfl ?_
 refine cS a6 (fun aV a6 => ?_) fun aV a6 => ?_
 refine ct aV (ct aV ?_)
 exact eM a6 _
 refine cf aV ?_
 refine qhj rfl ?_
 refine cf aV ?_
 exact eM a6 _
 rintro bd rfl bS
 refine cs rfl rfl hm ?_ ?_ <;> intro ca hm
 exact eE hm
 refine qad rfl rfl (cT (cT ?_))
 refine bsO (len := 1) (enc := Jc.enc) (l := [(⟨([104, 111, 115, 116] : Str), ([101, 120, 97, 109, 112, 108, 101, 46, 99, 111, 109] : Str)⟩ : Jc)]) (cl := [str ([104, 111, 115, 116] : Str), str ([101, 120, 97, 109, 112, 108, 101, 46, 99, 111, 109] : Str)]) qdr rfl rfl (fun _ _ => rfl) rfl rfl rfl ?_ fun bX => ?_
 · conv => whnf
   refine cT ?_
   first | done | rfl
 refine qad rfl rfl (cT (cT (cT ?_)))
 refine fF Tryz.call13 r0 fun bn aZ bc => ?_
 refine cb hm fun bW bU hm => ck0 (qb8 (d := o8) (r' := (⟨([71, 69, 84] : Str), ([47, 97, 63, 120, 61, 49] : Str), [(⟨([104, 111, 115, 116] : Str), ([101, 120, 97, 109, 112, 108, 101, 46, 99, 111, 109] : Str)⟩ : Jc)]⟩ : Jaa)) bU ⟨(MR.mono Jw.R_ok bt aZ), bc, (hG.mono ((bz.trans l8).trans aZ))⟩) ?_
 rintro _ _ _ ⟨bH, bD, bL, bJ, bB, bG, rfl, bI, bK, bF, rfl⟩
 refine qai rfl fun b4 => ?_
 refine qaa r0 rfl ⟨rfl, rfl, (nl rfl), ?_⟩
 refine qaf rfl ?_
 refine qbn rfl ?_
 refine qah ?_ ?_ <;> intro aW
 refine fa rfl (ct aW (ro (ld r0 rfl rfl (ct aW (qag (ct aW ?_))))))
 obtain ⟨bR, bb, hm⟩ := bnd hm
 refine qah ?_ ?_ <;> intro aX
 replace bb := ift (qcx aW aX) bb
 refine ro (qab r0 rfl (nl rfl) (ct aX ?_))
 refine fF Tryz.call31 r1 fun bj bf bm => ?_
 refine fF Tryz.call31 r1 fun bg bh bl => ?_
 refine fF Tryz.call31 r1 fun bp bo ba => ?_
 refine cb bb fun bZ bO bb => cgx (qg8 bO :) ?_
 refine ct aX (qaq (ct aX ?_))
 refine qah ?_ ?_ <;> intro aU
 refine fa rfl (ct aU (ro (ld r0 rfl rfl (ct aU (ro (qal rfl (ct aU (qag (ct aU ?_)))))))))
 obtain ⟨bv, aY, hm⟩ := bnd hm
 refine qah ?_ ?_ <;> intro aT
 replace aY := ift (qcx ((si bb).symm.trans aU) aT) aY
 refine fa rfl (ct aT (ro (ld r0 rfl rfl (ct aT ?_))))
 obtain ⟨bY, bC, bw, aY⟩ := ixb aY
 refine RStep.ofN (qae rfl rfl (qf3 ba.rd bw) bC (qaz rfl bC bw) (ct aT (ro (qcw ((0 : Int).toNat) 0 _ _ ba.rd rfl (mp bw) rfl rfl (ct aT (qaq (ct aT ?_)))))))
 exact bE (si aY) (eE hm)
 replace aY := qbb (qcy ((si bb).symm.trans aU) aT) aY
 refine cf aT (cf aT (cf aT (cf aT (cf aT ?_))))
 exact bE (si aY) (eE hm)
 refine cf aU (cf aU (cf aU (cf aU ?_)))
 obtain ⟨bv, aY, hm⟩ := bnd hm
 replace aY := qbb (qbe ((si bb).symm.trans aU)) aY
 refine cF (cF (cF (cF (cF (cF ?_)))))
 exact bE (si aY) (eE hm)
 replace bb := qbb (qcy aW aX) bb
 refine cf aX (cf aX (cf aX (cF (cF (cF (cF (cF ?_)))))))
 obtain ⟨bv, aY, hm⟩ := bnd hm
 replace aY := qbb (qbe (si bb).symm) aY
 refine cF (cF (cF (cF (cF (cF ?_)))))
 exact bE (si aY) (eE hm)
 refine cf aW (cf aW (cf aW ?_))
 obtain ⟨bR, bb, hm⟩ := bnd hm
 replace bb := qbb (qbe aW) bb
 refine cF (cF (cF (cF (cF (cF (cF (cF ?_)))))))
 refine cF ?_
 obtain ⟨bv, aY, hm⟩ := bnd hm
 replace aY := qbb (qbe (si bb).symm) aY
 refine cF (cF (cF (cF (cF (cF ?_)))))
 exact bE (si aY) (eE hm)

def Jai (s : Str) : List UInt8 → Nat → Str → Option (Str)
  | [], _, ac => some ac
  | e0 :: aU, i0, ac =>
    (((if decide ((e0.toNat : Int) ≥ 97) then some (decide ((e0.toNat : Int) ≤ 122)) else some false).bind fun aV =>
    some (aV && decide ((ac.length : Int) < 20))) : Option (Bool)).bind fun aT =>
    if aT then
    (chk (0 ≤ (i0 : Int) ∧ (i0 : Int) ≤ ((i0 : Int) + 1) ∧ ((i0 : Int) + 1) ≤ (s.length : Int))).bind fun _ =>
    (chk (ac.length + (subL s (i0 : Int) ((i0 : Int) + 1)).length ≤ lim)).bind fun _ =>
    Jai s aU (i0 + 1) (ac ++ (subL s (i0 : Int) ((i0 : Int) + 1)))
    else
    Jai s aU (i0 + 1) ac
def Ja8 (s : Str) : Option (Str) :=
  (chk (s.length ≤ qa7)).bind fun _ =>
  (Jai s s 0 ([119] : Str)).bind fun t0 =>
  some t0
theorem JcS {s : Str} {K : Hp} {r : Str}
    (hm : Ja8 s = some r)  :
    Fn Tryz.prog 17 [str s] K [] (fun v K' H' => v = str r ∧ H' = []) := by
 refine Fn.enter Tryz.func17 Tryz.call17 rfl fun F => ?_
 unfold Ja8 at hm
 refine ro (qa3 rfl ?_)
 obtain ⟨a8, hm⟩ := qaw hm
 obtain ⟨s0, aW, hm⟩ := bnd hm
 refine lD (σ := (Str)) ([3,4] ++ rg 7 26) [0] (fun i0 => [(7, .int .i64 (i0 : Int))]) (fun t0 => [(3, str t0)]) (fun _ => []) (fun _ => True) (fun i0 t0 => Jai s (s.drop i0) i0 t0 = some s0) (fun t0 => t0 = s0) (fun i0 => s.length - i0) 0 _ aW (And.intro qe (And.intro ?_ ?_))
 clear aW
 rintro i0 ac _ aW j0
 conv at aW => whnf
 refine qac rfl ?_
 refine qah ?_ ?_ <;> intro w0
 obtain ⟨e0, aZ, bb⟩ := ltx w0
 rw [bb, Jai.eq_2] at aW
 refine qam rfl ?_
 obtain ⟨a6, aV, aW⟩ := bnd aW
 refine jR (σ := Bool) (rg 10 15) (fun aX => [(24, .bool aX)]) (fun aX => aX = a6) ?_ ?_
 refine qaf rfl ?_
 refine qa0 rfl (nn _) aZ ?_
 obtain ⟨bf, aY, aV⟩ := bnd aV
 refine cS aY (fun aT aY => ?_) fun aT aY => ?_
 refine ct aT (ct aT (qa0 rfl (nn _) aZ (ct aT (ct aT ?_))))
 refine qah ?_ ?_ <;> intro aU
 refine ct aU (ro (qa3 rfl (ct aU (ct aU ?_))))
 exact eMq aV _ ⟨bq (qcz (b := decide ((ac.length : Int) < 20)) ((si aY).symm.trans aU)), trivial⟩
 refine cf aU (cf aU (cf aU ?_))
 exact eMq aV _ ⟨bq (((qbe ((si aY).symm.trans aU))).symm), trivial⟩
 refine cf aT (cf aT (cf aT (cf aT (cF (cF (cF (cF ?_)))))))
 exact eMq aV _ ⟨bq (((qbe (si aY).symm)).symm), trivial⟩
 rintro aX rfl bc
 refine cs rfl rfl aW ?_ ?_ <;> intro bg aW
 refine qan (qbu aZ a8) ?_
 obtain ⟨bd, aW⟩ := qaw aW
 refine RStep.ofN (qdx (lo := (some (i0 : Int))) (hi := (some ((i0 : Int) + 1))) rfl bd ?_)
 obtain ⟨ba, aW⟩ := qaw aW
 refine qa5 ba ?_
 refine qan (qbu aZ a8) ?_
 exact eR aW (_, _)
 refine qan (qbu aZ a8) ?_
 exact eR aW (_, _)
 rw [lty w0, Jai.eq_1] at aW
 refine cT ?_
 exact eM aW _
 rintro t0 _ rfl j0
 exact eE hm

def qbk (r' : Jaa) : Option (Js × Err) :=
  some ((⟨0, 0, 0, (⟨([] : Str), ([] : Str), ([] : Str), false⟩ : Je), (⟨([] : Str), ([] : Str), ([] : Str), false⟩ : Je), [], [], [], false, false⟩ : Js), (some 3))
theorem qcp {r' : Jaa} {af : Option Addr} {ag : Nat} {K : Hp} {r : Js × Err}
    (hm : qbk r' = some r) (ai : RdC Jc.enc K af ag 2 r'.Ao) :
    Fn Tryz.prog 13 [.pointer none, .agg #[str r'.Am, str r'.Target, .slice af r'.Ao.length ag]] K [] (fun v K' H' => ∃ ar_0 : Option Addr, ∃ cr_0 : Nat, ∃ ar_1 : Option Addr, ∃ cr_1 : Nat, ∃ ar_2 : Option Addr, ∃ cr_2 : Nat, v = .tuple #[.agg #[.int .i64 r.1.Tenant, .int .i64 r.1.TTL, .int .i64 r.1.Ai, str r.1.Asked.An, str r.1.Asked.Ae, str r.1.Asked.Af, .bool r.1.Asked.HasQuery, str r.1.Cache.An, str r.1.Cache.Ae, str r.1.Cache.Af, .bool r.1.Cache.HasQuery, .slice ar_0 r.1.Ao.length cr_0, .slice ar_1 r.1.Vary.length cr_1, .slice ar_2 r.1.Ah.length cr_2, .bool r.1.Ak, .bool r.1.Al], qc5 48 r.2] ∧ (0 < r.1.Ao.length → Has ar_0) ∧ (0 < r.1.Vary.length → Has ar_1) ∧ (0 < r.1.Ah.length → Has ar_2) ∧ H' = [qau Jc.enc ar_0 41 2 cr_0 r.1.Ao, qau eS ar_1 9 1 cr_1 r.1.Vary, qau eS ar_2 9 1 cr_2 r.1.Ah]) := by
 refine Fn.enter Tryz.func13 Tryz.call13 rfl fun F => ?_
 unfold qbk at hm
 refine qas ?_
 intro b3
 refine qai rfl fun b4 => ?_
 refine qhk rfl ?_
 refine qac rfl (cT (qad rfl rfl ?_))
 refine qat rfl ?_
 refine qaa r0 rfl ⟨rfl, rfl, (nl rfl), ?_⟩
 refine ro (qab r0 rfl (nl rfl) ?_)
 refine qci Jc.enc 41 2 ?_
 refine qci eS 9 1 ?_
 refine qci eS 9 1 ?_
 exact eE hm

def JbZ (b : (List Str)) : List Str → Nat → Option (Fl (Bool) (Unit))
  | [], _ => some (Fl.go ())
  | e0 :: aT, i0 =>
    (ix b (i0 : Int)).bind fun aU =>
    if decide (e0 ≠ aU) then
    some (Fl.ret false)
    else
    JbZ b aT (i0 + 1)
def JcZ (a : (List Str)) (b : (List Str)) : Option (Bool) :=
  if decide ((a.length : Int) ≠ (b.length : Int)) then
  some false
  else
  (chk (a.length ≤ qa7)).bind fun _ =>
  (JbZ b a 0).bind fun s0 => s0.el some fun t0 =>
  some true
theorem Jd3 {a : (List Str)} {b : (List Str)} {aa : Option Addr} {ab : Nat} {n0 : Nat} {af : Option Addr} {ag : Nat} {n1 : Nat} {K : Hp} {r : Bool}
    (hm : JcZ a b = some r) (hX : RdC eS K aa ab 1 a ∧ n0 = a.length ∧ RdC eS K af ag 1 b ∧ n1 = b.length) :
    Fn Tryz.prog 23 [.slice aa n0 ab, .slice af n1 ag] K [] (fun v K' H' => v = .bool r ∧ H' = []) := by
 obtain ⟨ae, aX, ai, a6⟩ := hX
 subst aX
 subst a6
 refine Fn.enter Tryz.func23 Tryz.call23 rfl fun F => ?_
 unfold JcZ at hm
 refine ro (qal rfl (ro (qal rfl (qa8 ?_))))
 refine cs rfl rfl hm ?_ ?_ <;> intro bb hm
 exact eE hm
 refine ro (qal rfl ?_)
 obtain ⟨aY, hm⟩ := qaw hm
 obtain ⟨s0, aT, hm⟩ := bnd hm
 refine lD (σ := (Unit)) ([4,5] ++ rg 13 13) [0] (fun i0 => [(13, .int .i64 (i0 : Int))]) (fun _ => []) (fun _ => []) (fun _ => True) (fun i0 _ => JbZ b (a.drop i0) i0 = some s0) (fun t0 => s0 = Fl.go t0) (fun i0 => a.length - i0) 0 () aT (And.intro qe (And.intro ?_ ?_))
 clear aT
 rintro i0 _ _ aT j0
 conv at aT => whnf
 refine qac rfl ?_
 refine qah ?_ ?_ <;> intro w0
 obtain ⟨e0, aU, aZ⟩ := ltx w0
 rw [aZ, JbZ.eq_2] at aT
 refine qam rfl ?_
 refine qa4 ⟨⟨[], false⟩, _, [], []⟩ (by kernel_rfl) ⟨Hp.Le.refl _, (pf rfl), ci0⟩ ?_
 refine qae rfl rfl (qf3 ae.rd aU) (nn _) (qbs aU) (qdn i0 0 _ _ ae.rd rfl (mp aU) rfl rfl ?_)
 obtain ⟨a8, aW, aV, aT⟩ := ixb aT
 refine qae rfl rfl (qf3 ai.rd aV) aW (qaz rfl aW aV) (qdn (((i0 : Int)).toNat) 0 _ _ ai.rd rfl (mp aV) rfl rfl (qbr ?_))
 refine cs rfl rfl aT ?_ ?_ <;> intro ba aT
 exact eE (er aT hm)
 refine qan (qbu aU aY) ?_
 exact eR aT (_, ())
 rw [lty w0, JbZ.eq_1] at aT
 refine cT ?_
 exact eM aT _
 rintro t0 _ rfl j0
 replace hm := elg hm
 exact eE hm

def Jb0 (b : Js) : List Jc → Nat → Option (Fl (Bool) (Unit))
  | [], _ => some (Fl.go ())
  | e0 :: aU, i0 =>
    (ix b.Ao (i0 : Int)).bind fun aT =>
    if (!(decide (e0.Name = aT.Name) && decide (e0.Value = aT.Value))) then
    some (Fl.ret false)
    else
    Jb0 b aU (i0 + 1)
def JW (a : Js) (b : Js) : Option (Bool) :=
  if (((((((decide (a.Tenant ≠ b.Tenant) || decide (a.TTL ≠ b.TTL)) || decide (a.Ai ≠ b.Ai)) || (!(decide (a.Asked.An = b.Asked.An) && (decide (a.Asked.Ae = b.Asked.Ae) && (decide (a.Asked.Af = b.Asked.Af) && (a.Asked.HasQuery == b.Asked.HasQuery)))))) || (!(decide (a.Cache.An = b.Cache.An) && (decide (a.Cache.Ae = b.Cache.Ae) && (decide (a.Cache.Af = b.Cache.Af) && (a.Cache.HasQuery == b.Cache.HasQuery)))))) || (!(a.Ak == b.Ak))) || (!(a.Al == b.Al))) || decide ((a.Ao.length : Int) ≠ (b.Ao.length : Int))) then
  some false
  else
  (chk (a.Ao.length ≤ qa7)).bind fun _ =>
  (Jb0 b a.Ao 0).bind fun s0 => s0.el some fun t0 =>
  (JcZ a.Vary b.Vary).bind fun aT =>
  (if aT then (JcZ a.Ah b.Ah).bind fun aU =>
  some aU else some false).bind fun aV =>
  some aV
theorem JS {a : Js} {b : Js} {aa : Option Addr} {ab : Nat} {ah : Option Addr} {ak : Nat} {am : Option Addr} {au : Nat} {af : Option Addr} {ag : Nat} {aI : Option Addr} {aJ : Nat} {aK : Option Addr} {aL : Nat} {K : Hp} {r : Bool}
    (hm : JW a b = some r) (hX : RdC Jc.enc K aa ab 2 a.Ao ∧ RdC eS K ah ak 1 a.Vary ∧ RdC eS K am au 1 a.Ah ∧ RdC Jc.enc K af ag 2 b.Ao ∧ RdC eS K aI aJ 1 b.Vary ∧ RdC eS K aK aL 1 b.Ah) :
    Fn Tryz.prog 18 [.agg #[.int .i64 a.Tenant, .int .i64 a.TTL, .int .i64 a.Ai, str a.Asked.An, str a.Asked.Ae, str a.Asked.Af, .bool a.Asked.HasQuery, str a.Cache.An, str a.Cache.Ae, str a.Cache.Af, .bool a.Cache.HasQuery, .slice aa a.Ao.length ab, .slice ah a.Vary.length ak, .slice am a.Ah.length au, .bool a.Ak, .bool a.Al], .agg #[.int .i64 b.Tenant, .int .i64 b.TTL, .int .i64 b.Ai, str b.Asked.An, str b.Asked.Ae, str b.Asked.Af, .bool b.Asked.HasQuery, str b.Cache.An, str b.Cache.Ae, str b.Cache.Af, .bool b.Cache.HasQuery, .slice af b.Ao.length ag, .slice aI b.Vary.length aJ, .slice aK b.Ah.length aL, .bool b.Ak, .bool b.Al]] K [] (fun v K' H' => v = .bool r ∧ H' = []) := by
 obtain ⟨ae, bl, bg, ai, bf, bd⟩ := hX
 refine Fn.enter Tryz.func18 Tryz.call18 rfl fun F => ?_
 unfold JW at hm
 refine qas ?_
 intro b2
 refine qas ?_
 intro b3
 refine jR (σ := Unit) (rg 6 56) (fun _ => [(61, .bool (((((((decide (a.Tenant ≠ b.Tenant) || decide (a.TTL ≠ b.TTL)) || decide (a.Ai ≠ b.Ai)) || (!(decide (a.Asked.An = b.Asked.An) && (decide (a.Asked.Ae = b.Asked.Ae) && (decide (a.Asked.Af = b.Asked.Af) && (a.Asked.HasQuery == b.Asked.HasQuery)))))) || (!(decide (a.Cache.An = b.Cache.An) && (decide (a.Cache.Ae = b.Cache.Ae) && (decide (a.Cache.Af = b.Cache.Af) && (a.Cache.HasQuery == b.Cache.HasQuery)))))) || (!(a.Ak == b.Ak))) || (!(a.Al == b.Al))) || decide ((a.Ao.length : Int) ≠ (b.Ao.length : Int))))]) (fun bo => True) ?_ ?_
 refine qaf rfl ?_
 refine fa rfl (ro (ld r1 rfl rfl (fa rfl (ro (ld r0 rfl rfl (qa8 ?_))))))
 refine qah ?_ ?_ <;> intro aT
 refine ct aT (ct aT (ct aT (ct aT (ct aT (cT (cT (cT ?_)))))))
 refine cT (cT (cT (cT (cT (cT (cT (cT ?_)))))))
 refine cT (cT (cT (cT (cT (cT (cT (cT ?_)))))))
 refine cT (cT (cT (cT (cT (cT (cT (cT ?_)))))))
 refine cT (cT (cT (cT (cT (cT (cT (cT ?_)))))))
 refine cT (cT (cT ?_))
 exact eMt () ⟨bq (((qbv (qbv (qbv (qbv (qbv (qbv (qbv aT)))))))).symm), trivial⟩
 refine fa rfl (cf aT (ro (ld r1 rfl rfl (cf aT (fa rfl (cf aT (ro (ld r0 rfl rfl (cf aT ?_)))))))))
 refine qa8 (cf aT ?_)
 refine qah ?_ ?_ <;> intro aU
 refine ct aU (ct aU (ct aU (ct aU (ct aU (cT (cT (cT ?_)))))))
 refine cT (cT (cT (cT (cT (cT (cT (cT ?_)))))))
 refine cT (cT (cT (cT (cT (cT (cT (cT ?_)))))))
 refine cT (cT (cT (cT (cT (cT (cT (cT ?_)))))))
 refine cT (cT (cT (cT (cT ?_))))
 exact eMt () ⟨bq (((qbv (qbv (qbv (qbv (qbv (qbv (qf2 aT aU)))))))).symm), trivial⟩
 refine fa rfl (cf aU (ro (ld r1 rfl rfl (cf aU (fa rfl (cf aU (ro (ld r0 rfl rfl (cf aU ?_)))))))))
 refine qa8 (cf aU ?_)
 refine qah ?_ ?_ <;> intro aW
 refine ct aW (ct aW (ct aW (ct aW (ct aW (cT (cT (cT ?_)))))))
 refine cT (cT (cT (cT (cT (cT (cT (cT ?_)))))))
 refine cT (cT (cT (cT (cT (cT (cT (cT ?_)))))))
 refine cT (cT (cT (cT (cT (cT (cT ?_))))))
 exact eMt () ⟨bq (((qbv (qbv (qbv (qbv (qbv (qf2 (qc4 aT aU) aW))))))).symm), trivial⟩
 refine fa rfl (cf aW (ro (qab r1 rfl (nl rfl) (cf aW (fa rfl (cf aW (ro (qab r0 rfl (nl rfl) (cf aW ?_)))))))))
 refine qig (b := (decide (a.Asked.An = b.Asked.An) && (decide (a.Asked.Ae = b.Asked.Ae) && (decide (a.Asked.Af = b.Asked.Af) && (a.Asked.HasQuery == b.Asked.HasQuery))))) rfl (by kernel_rfl) (by kernel_rfl) (by kernel_rfl) rfl ?_
 refine cf aW ?_
 refine qah ?_ ?_ <;> intro aX
 refine ct aX (ct aX (ct aX (ct aX (ct aX (cT (cT (cT ?_)))))))
 refine cT (cT (cT (cT (cT (cT (cT (cT ?_)))))))
 refine cT (cT (cT (cT (cT (cT (cT (cT ?_)))))))
 refine cT ?_
 exact eMt () ⟨bq (((qbv (qbv (qbv (qbv (qf2 (qc4 (qc4 aT aU) aW) aX)))))).symm), trivial⟩
 refine fa rfl (cf aX (ro (qab r1 rfl (nl rfl) (cf aX (fa rfl (cf aX (ro (qab r0 rfl (nl rfl) (cf aX ?_)))))))))
 refine qig (b := (decide (a.Cache.An = b.Cache.An) && (decide (a.Cache.Ae = b.Cache.Ae) && (decide (a.Cache.Af = b.Cache.Af) && (a.Cache.HasQuery == b.Cache.HasQuery))))) rfl (by kernel_rfl) (by kernel_rfl) (by kernel_rfl) rfl ?_
 refine cf aX ?_
 refine qah ?_ ?_ <;> intro aY
 refine ct aY (ct aY (ct aY (ct aY (ct aY (cT (cT (cT ?_)))))))
 refine cT (cT (cT (cT (cT (cT (cT (cT ?_)))))))
 refine cT (cT (cT ?_))
 exact eMt () ⟨bq (((qbv (qbv (qbv (qf2 (qc4 (qc4 (qc4 aT aU) aW) aX) aY))))).symm), trivial⟩
 refine fa rfl (cf aY (ro (ld r1 rfl rfl (cf aY (fa rfl (cf aY (ro (ld r0 rfl rfl (cf aY ?_)))))))))
 refine qf9 rfl (cf aY ?_)
 refine qah ?_ ?_ <;> intro aZ
 refine ct aZ (ct aZ (ct aZ (ct aZ (ct aZ (cT (cT (cT ?_)))))))
 refine cT (cT (cT (cT (cT ?_))))
 exact eMt () ⟨bq (((qbv (qbv (qf2 (qc4 (qc4 (qc4 (qc4 aT aU) aW) aX) aY) aZ)))).symm), trivial⟩
 refine fa rfl (cf aZ (ro (ld r1 rfl rfl (cf aZ (fa rfl (cf aZ (ro (ld r0 rfl rfl (cf aZ ?_)))))))))
 refine qf9 rfl (cf aZ ?_)
 refine qah ?_ ?_ <;> intro aV
 refine ct aV (ct aV (ct aV (ct aV (ct aV (ct aV (ct aV ?_))))))
 exact eMt () ⟨bq (((qbv (qf2 (qc4 (qc4 (qc4 (qc4 (qc4 aT aU) aW) aX) aY) aZ) aV))).symm), trivial⟩
 refine fa rfl (cf aV (ro (ld r1 rfl rfl (cf aV (ro (qal rfl (cf aV (fa rfl (cf aV ?_)))))))))
 refine ro (ld r0 rfl rfl (cf aV (ro (qal rfl (cf aV (qa8 (cf aV ?_)))))))
 exact eMt () ⟨bq (qhb (b := decide ((a.Ao.length : Int) ≠ (b.Ao.length : Int))) (qc4 (qc4 (qc4 (qc4 (qc4 (qc4 aT aU) aW) aX) aY) aZ) aV)), trivial⟩
 rintro _ _ bt
 refine cs rfl rfl hm ?_ ?_ <;> intro bv hm
 exact eE hm
 refine fa rfl (ro (ld r1 rfl rfl (ro (qal rfl ?_))))
 obtain ⟨bn, hm⟩ := qaw hm
 obtain ⟨s0, a8, hm⟩ := bnd hm
 refine lD (σ := (Unit)) ([4,5] ++ rg 65 15) [0, 1, 2] (fun i0 => [(65, .int .i64 (i0 : Int))]) (fun _ => []) (fun _ => []) (fun _ => True) (fun i0 _ => Jb0 b (a.Ao.drop i0) i0 = some s0) (fun t0 => s0 = Fl.go t0) (fun i0 => a.Ao.length - i0) 0 () a8 (And.intro qe (And.intro ?_ ?_))
 clear a8
 rintro i0 _ _ a8 j0
 conv at a8 => whnf
 refine qac rfl ?_
 refine qah ?_ ?_ <;> intro w0
 obtain ⟨e0, bb, br⟩ := ltx w0
 rw [br, Jb0.eq_2] at a8
 refine qam rfl ?_
 refine qa4 ⟨⟨[], false⟩, _, [(_, _), (_, _)], []⟩ (by kernel_rfl) ⟨Hp.Le.refl _, (sc [1,0] rfl), ci0⟩ ?_
 refine fa rfl (qap m0 rfl rfl (qae rfl rfl (qf3 ae.rd bb) (nn _) (qbs bb) (qe4 i0 _ ae.rd rfl (mp bb) rfl (fa rfl (qap m1 rfl rfl ?_)))))
 obtain ⟨bh, bj, bc, a8⟩ := ixb a8
 refine qae rfl rfl (qf3 ai.rd bc) bj (qaz rfl bj bc) (qe4 (((i0 : Int)).toNat) _ ai.rd rfl (mp bc) rfl ?_)
 refine qig (b := (decide (e0.Name = bh.Name) && decide (e0.Value = bh.Value))) rfl (by kernel_rfl) (by kernel_rfl) (by kernel_rfl) rfl ?_
 refine cs rfl rfl a8 ?_ ?_ <;> intro bu a8
 exact eE (er a8 hm)
 refine qan (qbu bb bn) ?_
 exact eR a8 (_, ())
 rw [lty w0, Jb0.eq_1] at a8
 refine cT ?_
 exact eM a8 _
 rintro t0 _ rfl j0
 replace hm := elg hm
 refine qaf rfl ?_
 refine fa rfl (ro (ld r1 rfl rfl (fa rfl (ro (ld r0 rfl rfl ?_)))))
 refine cb hm fun bA bp hm => cgx (Jd3 bp :) ?_
 obtain ⟨bz, ba, hm⟩ := bnd hm
 refine cS ba (fun a6 ba => ?_) fun a6 ba => ?_
 refine fa rfl (ct a6 (ro (ld r1 rfl rfl (ct a6 (fa rfl (ct a6 (ro (ld r0 rfl rfl (ct a6 ?_)))))))))
 refine cb ba fun bw bm ba => cgx (Jd3 bm :) ?_
 refine ct a6 ?_
 exact bE (si ba) (eE hm)
 refine cf a6 (cf a6 (cf a6 (cf a6 (cf a6 ?_))))
 exact bE (si ba) (eE hm)

def Jcp (n : Nat) (path : Str) (text : Str) (n' : Int) (what : UInt8) : Option (Bool) :=
  (JdD n).bind fun aZ =>
  if (!aZ) then
  some false
  else
  (Ja8 path).bind fun aV =>
  (Ja8 text).bind fun aX =>
  (chk (([112, 97, 116, 104, 32, 61, 32, 34, 47] : Str).length + aV.length ≤ lim)).bind fun _ =>
  (chk ((([112, 97, 116, 104, 32, 61, 32, 34, 47] : Str) ++ aV).length + ([34, 59] : Str).length ≤ lim)).bind fun _ =>
  (chk (([113, 117, 101, 114, 121, 32, 61, 32, 34] : Str).length + aV.length ≤ lim)).bind fun _ =>
  (chk ((([113, 117, 101, 114, 121, 32, 61, 32, 34] : Str) ++ aV).length + ([34, 59] : Str).length ≤ lim)).bind fun _ =>
  (chk (([104, 101, 97, 100, 101, 114, 32, 34, 120, 45] : Str).length + aV.length ≤ lim)).bind fun _ =>
  (chk ((([104, 101, 97, 100, 101, 114, 32, 34, 120, 45] : Str) ++ aV).length + ([34, 32, 61, 32, 34] : Str).length ≤ lim)).bind fun _ =>
  (chk (((([104, 101, 97, 100, 101, 114, 32, 34, 120, 45] : Str) ++ aV) ++ ([34, 32, 61, 32, 34] : Str)).length + aX.length ≤ lim)).bind fun _ =>
  (chk ((((([104, 101, 97, 100, 101, 114, 32, 34, 120, 45] : Str) ++ aV) ++ ([34, 32, 61, 32, 34] : Str)) ++ aX).length + ([34, 59] : Str).length ≤ lim)).bind fun _ =>
  (chk (([118, 97, 114, 121, 32, 34] : Str).length + aV.length ≤ lim)).bind fun _ =>
  (chk ((([118, 97, 114, 121, 32, 34] : Str) ++ aV).length + ([34, 59] : Str).length ≤ lim)).bind fun _ =>
  (chk (([116, 97, 103, 32, 34] : Str).length + aV.length ≤ lim)).bind fun _ =>
  (chk ((([116, 97, 103, 32, 34] : Str) ++ aV).length + ([34, 59, 32, 116, 97, 103, 32, 34] : Str).length ≤ lim)).bind fun _ =>
  (chk (((([116, 97, 103, 32, 34] : Str) ++ aV) ++ ([34, 59, 32, 116, 97, 103, 32, 34] : Str)).length + aX.length ≤ lim)).bind fun _ =>
  (chk ((((([116, 97, 103, 32, 34] : Str) ++ aV) ++ ([34, 59, 32, 116, 97, 103, 32, 34] : Str)) ++ aX).length + ([34, 59] : Str).length ≤ lim)).bind fun _ =>
  (chk (InK .u16 (48 + (Int.tmod n' 10)))).bind fun _ =>
  (chk ((10 : Int) ≠ 0 ∧ InK .u16 (Int.tdiv n' 10))).bind fun _ =>
  (chk (InK .u16 (48 + (Int.tmod (Int.tdiv n' 10) 10)))).bind fun _ =>
  (chk (([116, 116, 108, 32] : Str).length + ([(qdz (48 + (Int.tmod n' 10))), (qdz (48 + (Int.tmod (Int.tdiv n' 10) 10)))] : Str).length ≤ lim)).bind fun _ =>
  (chk ((([116, 116, 108, 32] : Str) ++ ([(qdz (48 + (Int.tmod n' 10))), (qdz (48 + (Int.tmod (Int.tdiv n' 10) 10)))] : Str)).length + ([59] : Str).length ≤ lim)).bind fun _ =>
  (ix ([((([112, 97, 116, 104, 32, 61, 32, 34, 47] : Str) ++ aV) ++ ([34, 59] : Str)), ((([113, 117, 101, 114, 121, 32, 61, 32, 34] : Str) ++ aV) ++ ([34, 59] : Str)), ((((([104, 101, 97, 100, 101, 114, 32, 34, 120, 45] : Str) ++ aV) ++ ([34, 32, 61, 32, 34] : Str)) ++ aX) ++ ([34, 59] : Str)), ((([118, 97, 114, 121, 32, 34] : Str) ++ aV) ++ ([34, 59] : Str)), ((((([116, 97, 103, 32, 34] : Str) ++ aV) ++ ([34, 59, 32, 116, 97, 103, 32, 34] : Str)) ++ aX) ++ ([34, 59] : Str)), ((([116, 116, 108, 32] : Str) ++ ([(qdz (48 + (Int.tmod n' 10))), (qdz (48 + (Int.tmod (Int.tdiv n' 10) 10)))] : Str)) ++ ([59] : Str)), ([100, 101, 110, 121, 32, 52, 48, 51, 59] : Str), ([112, 97, 115, 115, 59, 32, 116, 111, 107, 101, 110, 59] : Str)]) (Int.tmod (what.toNat : Int) 8)).bind fun a6 =>
  (qbc n ([(⟨([97, 46, 101, 120, 97, 109, 112, 108, 101] : Str), 0, a6⟩ : JJ)])).bind fun aY =>
  Option.elim aY.1 (
  if aY.2.2.isSome then
  some false
  else
  (qbk (⟨([71, 69, 84] : Str), ([47, 98, 63, 99] : Str), [(⟨([104, 111, 115, 116] : Str), ([97, 46, 101, 120, 97, 109, 112, 108, 101] : Str)⟩ : Jc), (⟨([97, 99, 99, 101, 112, 116] : Str), ([120] : Str)⟩ : Jc)]⟩ : Jaa)).bind fun aW =>
  if decide ((Int.tmod (what.toNat : Int) 8) = 0) then
  (chk (([47] : Str).length + aV.length ≤ lim)).bind fun _ =>
  (if aW.2.isNone then (JW aW.1 (⟨0, (-1), 0, (⟨([97, 46, 101, 120, 97, 109, 112, 108, 101] : Str), ([47, 98] : Str), ([99] : Str), true⟩ : Je), (⟨([97, 46, 101, 120, 97, 109, 112, 108, 101] : Str), (([47] : Str) ++ aV), ([99] : Str), true⟩ : Je), [(⟨([97, 99, 99, 101, 112, 116] : Str), ([120] : Str)⟩ : Jc)], [], [], false, false⟩ : Js)).bind fun aU =>
  some aU else some false).bind fun aT =>
  some aT
  else
  if decide ((Int.tmod (what.toNat : Int) 8) = 1) then
  (if aW.2.isNone then (JW aW.1 (⟨0, (-1), 0, (⟨([97, 46, 101, 120, 97, 109, 112, 108, 101] : Str), ([47, 98] : Str), ([99] : Str), true⟩ : Je), (⟨([97, 46, 101, 120, 97, 109, 112, 108, 101] : Str), ([47, 98] : Str), aV, true⟩ : Je), [(⟨([97, 99, 99, 101, 112, 116] : Str), ([120] : Str)⟩ : Jc)], [], [], false, false⟩ : Js)).bind fun aU =>
  some aU else some false).bind fun aT =>
  some aT
  else
  if decide ((Int.tmod (what.toNat : Int) 8) = 2) then
  (chk (([120, 45] : Str).length + aV.length ≤ lim)).bind fun _ =>
  (chk (([(⟨([97, 99, 99, 101, 112, 116] : Str), ([120] : Str)⟩ : Jc)]).length + ([(⟨(([120, 45] : Str) ++ aV), aX⟩ : Jc)]).length ≤ lim)).bind fun _ =>
  (if aW.2.isNone then (JW aW.1 (⟨0, (-1), 0, (⟨([97, 46, 101, 120, 97, 109, 112, 108, 101] : Str), ([47, 98] : Str), ([99] : Str), true⟩ : Je), (⟨([97, 46, 101, 120, 97, 109, 112, 108, 101] : Str), ([47, 98] : Str), ([99] : Str), true⟩ : Je), ([(⟨([97, 99, 99, 101, 112, 116] : Str), ([120] : Str)⟩ : Jc)] ++ [(⟨(([120, 45] : Str) ++ aV), aX⟩ : Jc)]), [], [], false, false⟩ : Js)).bind fun aU =>
  some aU else some false).bind fun aT =>
  some aT
  else
  if decide ((Int.tmod (what.toNat : Int) 8) = 3) then
  (if aW.2.isNone then (JW aW.1 (⟨0, (-1), 0, (⟨([97, 46, 101, 120, 97, 109, 112, 108, 101] : Str), ([47, 98] : Str), ([99] : Str), true⟩ : Je), (⟨([97, 46, 101, 120, 97, 109, 112, 108, 101] : Str), ([47, 98] : Str), ([99] : Str), true⟩ : Je), [(⟨([97, 99, 99, 101, 112, 116] : Str), ([120] : Str)⟩ : Jc)], [aV], [], false, false⟩ : Js)).bind fun aU =>
  some aU else some false).bind fun aT =>
  some aT
  else
  if decide ((Int.tmod (what.toNat : Int) 8) = 4) then
  if (!(Op.bytesLess aV aX || decide (aV = aX))) then
  if decide (aV = aX) then
  (if aW.2.isNone then (JW aW.1 (⟨0, (-1), 0, (⟨([97, 46, 101, 120, 97, 109, 112, 108, 101] : Str), ([47, 98] : Str), ([99] : Str), true⟩ : Je), (⟨([97, 46, 101, 120, 97, 109, 112, 108, 101] : Str), ([47, 98] : Str), ([99] : Str), true⟩ : Je), [(⟨([97, 99, 99, 101, 112, 116] : Str), ([120] : Str)⟩ : Jc)], [], [aV], false, false⟩ : Js)).bind fun aU =>
  some aU else some false).bind fun aT =>
  some aT
  else
  (if aW.2.isNone then (JW aW.1 (⟨0, (-1), 0, (⟨([97, 46, 101, 120, 97, 109, 112, 108, 101] : Str), ([47, 98] : Str), ([99] : Str), true⟩ : Je), (⟨([97, 46, 101, 120, 97, 109, 112, 108, 101] : Str), ([47, 98] : Str), ([99] : Str), true⟩ : Je), [(⟨([97, 99, 99, 101, 112, 116] : Str), ([120] : Str)⟩ : Jc)], [], [aX, aV], false, false⟩ : Js)).bind fun aU =>
  some aU else some false).bind fun aT =>
  some aT
  else
  if decide (aV = aX) then
  (if aW.2.isNone then (JW aW.1 (⟨0, (-1), 0, (⟨([97, 46, 101, 120, 97, 109, 112, 108, 101] : Str), ([47, 98] : Str), ([99] : Str), true⟩ : Je), (⟨([97, 46, 101, 120, 97, 109, 112, 108, 101] : Str), ([47, 98] : Str), ([99] : Str), true⟩ : Je), [(⟨([97, 99, 99, 101, 112, 116] : Str), ([120] : Str)⟩ : Jc)], [], [aV], false, false⟩ : Js)).bind fun aU =>
  some aU else some false).bind fun aT =>
  some aT
  else
  (if aW.2.isNone then (JW aW.1 (⟨0, (-1), 0, (⟨([97, 46, 101, 120, 97, 109, 112, 108, 101] : Str), ([47, 98] : Str), ([99] : Str), true⟩ : Je), (⟨([97, 46, 101, 120, 97, 109, 112, 108, 101] : Str), ([47, 98] : Str), ([99] : Str), true⟩ : Je), [(⟨([97, 99, 99, 101, 112, 116] : Str), ([120] : Str)⟩ : Jc)], [], [aV, aX], false, false⟩ : Js)).bind fun aU =>
  some aU else some false).bind fun aT =>
  some aT
  else
  if decide ((Int.tmod (what.toNat : Int) 8) = 5) then
  (chk (InI (Int.tmod n' 10))).bind fun _ =>
  (chk (InI ((Int.tmod n' 10) * 10))).bind fun _ =>
  (chk ((10 : Int) ≠ 0 ∧ InK .u16 (Int.tdiv n' 10))).bind fun _ =>
  (chk (InI (Int.tmod (Int.tdiv n' 10) 10))).bind fun _ =>
  (chk (InI (((Int.tmod n' 10) * 10) + (Int.tmod (Int.tdiv n' 10) 10)))).bind fun _ =>
  (if aW.2.isNone then (JW aW.1 (⟨0, (((Int.tmod n' 10) * 10) + (Int.tmod (Int.tdiv n' 10) 10)), 0, (⟨([97, 46, 101, 120, 97, 109, 112, 108, 101] : Str), ([47, 98] : Str), ([99] : Str), true⟩ : Je), (⟨([97, 46, 101, 120, 97, 109, 112, 108, 101] : Str), ([47, 98] : Str), ([99] : Str), true⟩ : Je), [(⟨([97, 99, 99, 101, 112, 116] : Str), ([120] : Str)⟩ : Jc)], [], [], false, false⟩ : Js)).bind fun aU =>
  some aU else some false).bind fun aT =>
  some aT
  else
  if decide ((Int.tmod (what.toNat : Int) 8) = 6) then
  (if aW.2.isNone then (JW aW.1 (⟨0, (-1), 403, (⟨([97, 46, 101, 120, 97, 109, 112, 108, 101] : Str), ([47, 98] : Str), ([99] : Str), true⟩ : Je), (⟨([97, 46, 101, 120, 97, 109, 112, 108, 101] : Str), ([47, 98] : Str), ([99] : Str), true⟩ : Je), [(⟨([97, 99, 99, 101, 112, 116] : Str), ([120] : Str)⟩ : Jc)], [], [], false, false⟩ : Js)).bind fun aU =>
  some aU else some false).bind fun aT =>
  some aT
  else
  (if aW.2.isNone then (JW aW.1 (⟨0, (-1), 0, (⟨([97, 46, 101, 120, 97, 109, 112, 108, 101] : Str), ([47, 98] : Str), ([99] : Str), true⟩ : Je), (⟨([97, 46, 101, 120, 97, 109, 112, 108, 101] : Str), ([47, 98] : Str), ([99] : Str), true⟩ : Je), [(⟨([97, 99, 99, 101, 112, 116] : Str), ([120] : Str)⟩ : Jc)], [], [], true, true⟩ : Js)).bind fun aU =>
  some aU else some false).bind fun aT =>
  some aT)
   fun a8 =>
  if aY.2.2.isSome then
  some false
  else
  (qar n a8 (⟨([71, 69, 84] : Str), ([47, 98, 63, 99] : Str), [(⟨([104, 111, 115, 116] : Str), ([97, 46, 101, 120, 97, 109, 112, 108, 101] : Str)⟩ : Jc), (⟨([97, 99, 99, 101, 112, 116] : Str), ([120] : Str)⟩ : Jc)]⟩ : Jaa)).bind fun aW =>
  if decide ((Int.tmod (what.toNat : Int) 8) = 0) then
  (chk (([47] : Str).length + aV.length ≤ lim)).bind fun _ =>
  (if aW.2.isNone then (JW aW.1 (⟨0, (-1), 0, (⟨([97, 46, 101, 120, 97, 109, 112, 108, 101] : Str), ([47, 98] : Str), ([99] : Str), true⟩ : Je), (⟨([97, 46, 101, 120, 97, 109, 112, 108, 101] : Str), (([47] : Str) ++ aV), ([99] : Str), true⟩ : Je), [(⟨([97, 99, 99, 101, 112, 116] : Str), ([120] : Str)⟩ : Jc)], [], [], false, false⟩ : Js)).bind fun aU =>
  some aU else some false).bind fun aT =>
  some aT
  else
  if decide ((Int.tmod (what.toNat : Int) 8) = 1) then
  (if aW.2.isNone then (JW aW.1 (⟨0, (-1), 0, (⟨([97, 46, 101, 120, 97, 109, 112, 108, 101] : Str), ([47, 98] : Str), ([99] : Str), true⟩ : Je), (⟨([97, 46, 101, 120, 97, 109, 112, 108, 101] : Str), ([47, 98] : Str), aV, true⟩ : Je), [(⟨([97, 99, 99, 101, 112, 116] : Str), ([120] : Str)⟩ : Jc)], [], [], false, false⟩ : Js)).bind fun aU =>
  some aU else some false).bind fun aT =>
  some aT
  else
  if decide ((Int.tmod (what.toNat : Int) 8) = 2) then
  (chk (([120, 45] : Str).length + aV.length ≤ lim)).bind fun _ =>
  (chk (([(⟨([97, 99, 99, 101, 112, 116] : Str), ([120] : Str)⟩ : Jc)]).length + ([(⟨(([120, 45] : Str) ++ aV), aX⟩ : Jc)]).length ≤ lim)).bind fun _ =>
  (if aW.2.isNone then (JW aW.1 (⟨0, (-1), 0, (⟨([97, 46, 101, 120, 97, 109, 112, 108, 101] : Str), ([47, 98] : Str), ([99] : Str), true⟩ : Je), (⟨([97, 46, 101, 120, 97, 109, 112, 108, 101] : Str), ([47, 98] : Str), ([99] : Str), true⟩ : Je), ([(⟨([97, 99, 99, 101, 112, 116] : Str), ([120] : Str)⟩ : Jc)] ++ [(⟨(([120, 45] : Str) ++ aV), aX⟩ : Jc)]), [], [], false, false⟩ : Js)).bind fun aU =>
  some aU else some false).bind fun aT =>
  some aT
  else
  if decide ((Int.tmod (what.toNat : Int) 8) = 3) then
  (if aW.2.isNone then (JW aW.1 (⟨0, (-1), 0, (⟨([97, 46, 101, 120, 97, 109, 112, 108, 101] : Str), ([47, 98] : Str), ([99] : Str), true⟩ : Je), (⟨([97, 46, 101, 120, 97, 109, 112, 108, 101] : Str), ([47, 98] : Str), ([99] : Str), true⟩ : Je), [(⟨([97, 99, 99, 101, 112, 116] : Str), ([120] : Str)⟩ : Jc)], [aV], [], false, false⟩ : Js)).bind fun aU =>
  some aU else some false).bind fun aT =>
  some aT
  else
  if decide ((Int.tmod (what.toNat : Int) 8) = 4) then
  if (!(Op.bytesLess aV aX || decide (aV = aX))) then
  if decide (aV = aX) then
  (if aW.2.isNone then (JW aW.1 (⟨0, (-1), 0, (⟨([97, 46, 101, 120, 97, 109, 112, 108, 101] : Str), ([47, 98] : Str), ([99] : Str), true⟩ : Je), (⟨([97, 46, 101, 120, 97, 109, 112, 108, 101] : Str), ([47, 98] : Str), ([99] : Str), true⟩ : Je), [(⟨([97, 99, 99, 101, 112, 116] : Str), ([120] : Str)⟩ : Jc)], [], [aV], false, false⟩ : Js)).bind fun aU =>
  some aU else some false).bind fun aT =>
  some aT
  else
  (if aW.2.isNone then (JW aW.1 (⟨0, (-1), 0, (⟨([97, 46, 101, 120, 97, 109, 112, 108, 101] : Str), ([47, 98] : Str), ([99] : Str), true⟩ : Je), (⟨([97, 46, 101, 120, 97, 109, 112, 108, 101] : Str), ([47, 98] : Str), ([99] : Str), true⟩ : Je), [(⟨([97, 99, 99, 101, 112, 116] : Str), ([120] : Str)⟩ : Jc)], [], [aX, aV], false, false⟩ : Js)).bind fun aU =>
  some aU else some false).bind fun aT =>
  some aT
  else
  if decide (aV = aX) then
  (if aW.2.isNone then (JW aW.1 (⟨0, (-1), 0, (⟨([97, 46, 101, 120, 97, 109, 112, 108, 101] : Str), ([47, 98] : Str), ([99] : Str), true⟩ : Je), (⟨([97, 46, 101, 120, 97, 109, 112, 108, 101] : Str), ([47, 98] : Str), ([99] : Str), true⟩ : Je), [(⟨([97, 99, 99, 101, 112, 116] : Str), ([120] : Str)⟩ : Jc)], [], [aV], false, false⟩ : Js)).bind fun aU =>
  some aU else some false).bind fun aT =>
  some aT
  else
  (if aW.2.isNone then (JW aW.1 (⟨0, (-1), 0, (⟨([97, 46, 101, 120, 97, 109, 112, 108, 101] : Str), ([47, 98] : Str), ([99] : Str), true⟩ : Je), (⟨([97, 46, 101, 120, 97, 109, 112, 108, 101] : Str), ([47, 98] : Str), ([99] : Str), true⟩ : Je), [(⟨([97, 99, 99, 101, 112, 116] : Str), ([120] : Str)⟩ : Jc)], [], [aV, aX], false, false⟩ : Js)).bind fun aU =>
  some aU else some false).bind fun aT =>
  some aT
  else
  if decide ((Int.tmod (what.toNat : Int) 8) = 5) then
  (chk (InI (Int.tmod n' 10))).bind fun _ =>
  (chk (InI ((Int.tmod n' 10) * 10))).bind fun _ =>
  (chk ((10 : Int) ≠ 0 ∧ InK .u16 (Int.tdiv n' 10))).bind fun _ =>
  (chk (InI (Int.tmod (Int.tdiv n' 10) 10))).bind fun _ =>
  (chk (InI (((Int.tmod n' 10) * 10) + (Int.tmod (Int.tdiv n' 10) 10)))).bind fun _ =>
  (if aW.2.isNone then (JW aW.1 (⟨0, (((Int.tmod n' 10) * 10) + (Int.tmod (Int.tdiv n' 10) 10)), 0, (⟨([97, 46, 101, 120, 97, 109, 112, 108, 101] : Str), ([47, 98] : Str), ([99] : Str), true⟩ : Je), (⟨([97, 46, 101, 120, 97, 109, 112, 108, 101] : Str), ([47, 98] : Str), ([99] : Str), true⟩ : Je), [(⟨([97, 99, 99, 101, 112, 116] : Str), ([120] : Str)⟩ : Jc)], [], [], false, false⟩ : Js)).bind fun aU =>
  some aU else some false).bind fun aT =>
  some aT
  else
  if decide ((Int.tmod (what.toNat : Int) 8) = 6) then
  (if aW.2.isNone then (JW aW.1 (⟨0, (-1), 403, (⟨([97, 46, 101, 120, 97, 109, 112, 108, 101] : Str), ([47, 98] : Str), ([99] : Str), true⟩ : Je), (⟨([97, 46, 101, 120, 97, 109, 112, 108, 101] : Str), ([47, 98] : Str), ([99] : Str), true⟩ : Je), [(⟨([97, 99, 99, 101, 112, 116] : Str), ([120] : Str)⟩ : Jc)], [], [], false, false⟩ : Js)).bind fun aU =>
  some aU else some false).bind fun aT =>
  some aT
  else
  (if aW.2.isNone then (JW aW.1 (⟨0, (-1), 0, (⟨([97, 46, 101, 120, 97, 109, 112, 108, 101] : Str), ([47, 98] : Str), ([99] : Str), true⟩ : Je), (⟨([97, 46, 101, 120, 97, 109, 112, 108, 101] : Str), ([47, 98] : Str), ([99] : Str), true⟩ : Je), [(⟨([97, 99, 99, 101, 112, 116] : Str), ([120] : Str)⟩ : Jc)], [], [], true, true⟩ : Js)).bind fun aU =>
  some aU else some false).bind fun aT =>
  some aT
theorem JdS {n : Nat} {path : Str} {text : Str} {n' : Int} {what : UInt8} {K : Hp} {r : Bool}
    (hm : Jcp n path text n' what = some r) (hG : GG K) :
    Fn Tryz.prog 4 [str path, str text, .int .u16 n', .int .u8 (what.toNat : Int)] K [] (fun v K' H' => v = .bool r ∧ H' = []) := by
 refine Fn.enter Tryz.func4 Tryz.call4 rfl fun F => ?_
 unfold Jcp at hm
 refine cb hm fun du cP hm => cgx (Jev cP :) ?_
 refine qax ?_
 refine cs rfl rfl hm ?_ ?_ <;> intro dw hm
 exact eE hm
 refine cb hm fun bo di hm => cg0 (JcS di :) ?_
 refine cb hm fun bt cW hm => cg0 (JcS cW :) ?_
 obtain ⟨c9, hm⟩ := qaw hm
 refine qa5 c9 ?_
 obtain ⟨dj, hm⟩ := qaw hm
 refine qa5 dj ?_
 obtain ⟨cM, hm⟩ := qaw hm
 refine qa5 cM ?_
 obtain ⟨cQ, hm⟩ := qaw hm
 refine qa5 cQ ?_
 obtain ⟨cI, hm⟩ := qaw hm
 refine qa5 cI ?_
 obtain ⟨dk, hm⟩ := qaw hm
 refine qa5 dk ?_
 obtain ⟨dg, hm⟩ := qaw hm
 refine qa5 dg ?_
 obtain ⟨c8, hm⟩ := qaw hm
 refine qa5 c8 ?_
 obtain ⟨dc, hm⟩ := qaw hm
 refine qa5 dc ?_
 obtain ⟨cO, hm⟩ := qaw hm
 refine qa5 cO ?_
 obtain ⟨c4, hm⟩ := qaw hm
 refine qa5 c4 ?_
 obtain ⟨df, hm⟩ := qaw hm
 refine qa5 df ?_
 obtain ⟨c5, hm⟩ := qaw hm
 refine qa5 c5 ?_
 obtain ⟨cU, hm⟩ := qaw hm
 refine qa5 cU ?_
 refine qha (by decide) ?_
 obtain ⟨cX, hm⟩ := qaw hm
 refine qan (k := .u16) cX ?_
 refine qjz rfl rfl ?_
 obtain ⟨cG, hm⟩ := qaw hm
 refine qi2 cG.1 cG.2 (qha (by decide) ?_)
 obtain ⟨cZ, hm⟩ := qaw hm
 refine qan (k := .u16) cZ ?_
 refine qjz rfl rfl ?_
 refine bsO (len := 2) (enc := eU) (l := ([(qdz (48 + (Int.tmod n' 10))), (qdz (48 + (Int.tmod (Int.tdiv n' 10) 10)))] : Str)) (cl := [.int .u8 ((qdz (48 + (Int.tmod n' 10))).toNat : Int), .int .u8 ((qdz (48 + (Int.tmod (Int.tdiv n' 10) 10))).toNat : Int)]) qck rfl rfl (fun _ _ => rfl) rfl rfl rfl ?_ fun dx => ?_
 · conv => whnf
   refine cT (cT ?_)
   first | done | rfl
 refine ro (qd7 rfl r0 rfl rfl rfl ?_)
 obtain ⟨c6, hm⟩ := qaw hm
 refine qa5 c6 ?_
 obtain ⟨cR, hm⟩ := qaw hm
 refine qa5 cR ?_
 refine bsO (len := 8) (enc := eS) (l := [((([112, 97, 116, 104, 32, 61, 32, 34, 47] : Str) ++ bo) ++ ([34, 59] : Str)), ((([113, 117, 101, 114, 121, 32, 61, 32, 34] : Str) ++ bo) ++ ([34, 59] : Str)), ((((([104, 101, 97, 100, 101, 114, 32, 34, 120, 45] : Str) ++ bo) ++ ([34, 32, 61, 32, 34] : Str)) ++ bt) ++ ([34, 59] : Str)), ((([118, 97, 114, 121, 32, 34] : Str) ++ bo) ++ ([34, 59] : Str)), ((((([116, 97, 103, 32, 34] : Str) ++ bo) ++ ([34, 59, 32, 116, 97, 103, 32, 34] : Str)) ++ bt) ++ ([34, 59] : Str)), ((([116, 116, 108, 32] : Str) ++ ([(qdz (48 + (Int.tmod n' 10))), (qdz (48 + (Int.tmod (Int.tdiv n' 10) 10)))] : Str)) ++ ([59] : Str)), ([100, 101, 110, 121, 32, 52, 48, 51, 59] : Str), ([112, 97, 115, 115, 59, 32, 116, 111, 107, 101, 110, 59] : Str)]) (cl := [str ((([112, 97, 116, 104, 32, 61, 32, 34, 47] : Str) ++ bo) ++ ([34, 59] : Str)), str ((([113, 117, 101, 114, 121, 32, 61, 32, 34] : Str) ++ bo) ++ ([34, 59] : Str)), str ((((([104, 101, 97, 100, 101, 114, 32, 34, 120, 45] : Str) ++ bo) ++ ([34, 32, 61, 32, 34] : Str)) ++ bt) ++ ([34, 59] : Str)), str ((([118, 97, 114, 121, 32, 34] : Str) ++ bo) ++ ([34, 59] : Str)), str ((((([116, 97, 103, 32, 34] : Str) ++ bo) ++ ([34, 59, 32, 116, 97, 103, 32, 34] : Str)) ++ bt) ++ ([34, 59] : Str)), str ((([116, 116, 108, 32] : Str) ++ ([(qdz (48 + (Int.tmod n' 10))), (qdz (48 + (Int.tmod (Int.tdiv n' 10) 10)))] : Str)) ++ ([59] : Str)), str ([100, 101, 110, 121, 32, 52, 48, 51, 59] : Str), str ([112, 97, 115, 115, 59, 32, 116, 111, 107, 101, 110, 59] : Str)]) qbp rfl rfl (fun _ _ => rfl) rfl rfl rfl ?_ fun dt => ?_
 · conv => whnf
   refine cT (cT (cT (cT (cT (cT (cT (cT ?_)))))))
   first | done | rfl
 refine qc3 rfl rfl (qq7 what) (ro (qal rfl (qha (by decide) ?_)))
 obtain ⟨cB, cA, ca, hm⟩ := ixb hm
 refine RStep.ofN (qae rfl rfl (qcv (fun _ => ⟨_, _, rfl⟩) ca) cA (qaz rfl cA ca) (ro (qb1 (i := ((Int.tmod (what.toNat : Int) 8)).toNat) (o := 0) r0 rfl ca rfl rfl (qad rfl rfl (cT (cT ?_))))))
 refine bsO (len := 1) (enc := JJ.enc) (l := [(⟨([97, 46, 101, 120, 97, 109, 112, 108, 101] : Str), 0, cB⟩ : JJ)]) (cl := [str ([97, 46, 101, 120, 97, 109, 112, 108, 101] : Str), .int .i64 0, str cB]) qq2 rfl rfl (fun _ _ => rfl) rfl rfl rfl ?_ fun dq => ?_
 · conv => whnf
   refine cT ?_
   first | done | rfl
 refine fF Tryz.call12 r0 fun cC bR cz => ?_
 refine cb hm fun de cV hm => cfx (qet cV :) ?_
 rintro dz dv dy dm bV
 rcases hq76 : de.1 with _ | o76
 rw [hq76] at bV hm
 obtain ⟨rfl, rfl⟩ := bV
 replace hm := qt0 hm
 refine qa9 rfl ?_
 refine cs rfl rfl hm ?_ ?_ <;> intro cK hm
 exact eE hm
 refine qad rfl rfl (cT (cT (qad rfl rfl (cT (cT ?_)))))
 refine bsO (len := 2) (enc := Jc.enc) (l := [(⟨([104, 111, 115, 116] : Str), ([97, 46, 101, 120, 97, 109, 112, 108, 101] : Str)⟩ : Jc), (⟨([97, 99, 99, 101, 112, 116] : Str), ([120] : Str)⟩ : Jc)]) (cl := [str ([104, 111, 115, 116] : Str), str ([97, 46, 101, 120, 97, 109, 112, 108, 101] : Str), str ([97, 99, 99, 101, 112, 116] : Str), str ([120] : Str)]) qdr rfl rfl (fun _ _ => rfl) rfl rfl rfl ?_ fun cL => ?_
 · conv => whnf
   refine cT (cT ?_)
   first | done | rfl
 refine qad rfl rfl (cT (cT (cT ?_)))
 refine qai rfl fun dh => ?_
 refine qaa r0 rfl ⟨rfl, rfl, (nl rfl), ?_⟩
 refine ro (qab r0 rfl (nl rfl) ?_)
 refine fF Tryz.call13 r1 fun bz bp br => ?_
 refine cb hm fun cY cr hm => ckx (qcp cr :) ?_
 rintro _ _ _ ⟨bP, bO, bK, bN, bU, bQ, rfl, bS, bT, bL, rfl⟩
 refine qai rfl fun cJ => ?_
 refine qaa r0 rfl ⟨rfl, rfl, (nl rfl), ?_⟩
 refine qad rfl rfl (cT (cT (cT (cT ?_))))
 refine qai rfl fun dp => ?_
 refine qaa r0 rfl ⟨rfl, rfl, (nl rfl), ?_⟩
 refine ro (qab r0 rfl (nl rfl) (ro (qab r0 rfl (nl rfl) (qad rfl rfl (cT (cT ?_))))))
 refine bsO (len := 1) (enc := Jc.enc) (l := [(⟨([97, 99, 99, 101, 112, 116] : Str), ([120] : Str)⟩ : Jc)]) (cl := [str ([97, 99, 99, 101, 112, 116] : Str), str ([120] : Str)]) qdr rfl rfl (fun _ _ => rfl) rfl rfl rfl ?_ fun dn => ?_
 · conv => whnf
   refine cT ?_
   first | done | rfl
 refine qad rfl rfl (cT (cT (cT (cT ?_))))
 refine qai rfl fun cN => ?_
 refine qaa r0 rfl ⟨rfl, rfl, (nl rfl), ?_⟩
 refine qam rfl ?_
 refine qag (cs rfl rfl hm ?_ ?_) <;> intro ce hm
 obtain ⟨bD, hm⟩ := qaw hm
 refine qa5 bD ?_
 refine fa rfl (fa rfl ?_)
 refine qaa r0 rfl ⟨rfl, rfl, (nl rfl), ?_⟩
 refine qaf rfl ?_
 refine qbn rfl ?_
 obtain ⟨bm, aU, hm⟩ := bnd hm
 refine cS aU (fun aT aU => ?_) fun aT aU => ?_
 refine ro (qab r3 rfl (nl rfl) (ct aT (ro (qab r0 rfl (nl rfl) (ct aT ?_)))))
 refine fF Tryz.call18 r4 fun aY bc aV => ?_
 refine fF Tryz.call18 r4 fun a6 a8 ba => ?_
 refine fF Tryz.call18 r4 fun aX bd aZ => ?_
 refine fF Tryz.call18 r1 fun bb bf aW => ?_
 refine cb aU fun bn bg aU => cgx (JS bg :) ?_
 refine ct aT ?_
 exact bE (si aU) (eE hm)
 refine cf aT (cf aT (cf aT ?_))
 exact bE (si aU) (eE hm)
 refine qag (cs rfl rfl hm ?_ ?_) <;> intro bW hm
 refine fa rfl (fa rfl ?_)
 refine qaa r0 rfl ⟨rfl, rfl, (nl rfl), ?_⟩
 refine qaf rfl ?_
 refine qbn rfl ?_
 obtain ⟨bm, aU, hm⟩ := bnd hm
 refine cS aU (fun aT aU => ?_) fun aT aU => ?_
 refine ro (qab r3 rfl (nl rfl) (ct aT (ro (qab r0 rfl (nl rfl) (ct aT ?_)))))
 refine fF Tryz.call18 r4 fun aY bc aV => ?_
 refine fF Tryz.call18 r4 fun a6 a8 ba => ?_
 refine fF Tryz.call18 r4 fun aX bd aZ => ?_
 refine fF Tryz.call18 r1 fun bb bf aW => ?_
 refine cb aU fun bn bg aU => cgx (JS bg :) ?_
 refine ct aT ?_
 exact bE (si aU) (eE hm)
 refine cf aT (cf aT (cf aT ?_))
 exact bE (si aU) (eE hm)
 refine qag (cs rfl rfl hm ?_ ?_) <;> intro cw hm
 refine fa rfl (ro (ld r0 rfl rfl ?_))
 obtain ⟨bC, hm⟩ := qaw hm
 refine qa5 bC ?_
 refine qad rfl rfl (cT (cT ?_))
 refine bsO (len := 1) (enc := Jc.enc) (l := [(⟨(([120, 45] : Str) ++ bo), bt⟩ : Jc)]) (cl := [str (([120, 45] : Str) ++ bo), str bt]) qdr rfl rfl (fun _ _ => rfl) rfl rfl rfl ?_ fun bX => ?_
 · conv => whnf
   refine cT ?_
   first | done | rfl
 obtain ⟨bJ, hm⟩ := qaw hm
 refine apE rfl r2 qdr (qay rfl r0 rfl (fun _ => rfl) (fun _ => rfl)) bJ ?_
 intro co cd cy
 refine fa rfl ?_
 refine qaa r2 rfl ⟨rfl, rfl, (nl rfl), ?_⟩
 refine qaf rfl ?_
 refine qbn rfl ?_
 obtain ⟨bm, aU, hm⟩ := bnd hm
 refine cS aU (fun aT aU => ?_) fun aT aU => ?_
 refine ro (qab r4 rfl (nl rfl) (ct aT (ro (qab r0 rfl (nl rfl) (ct aT ?_)))))
 refine fF Tryz.call18 r5 fun aY bc aV => ?_
 refine fF Tryz.call18 r5 fun a6 a8 ba => ?_
 refine fF Tryz.call18 r5 fun aX bd aZ => ?_
 refine fF Tryz.call18 r1 fun bb bf aW => ?_
 refine cb aU fun bn bg aU => cgx (JS bg :) ?_
 refine ct aT ?_
 exact bE (si aU) (eE hm)
 refine cf aT (cf aT (cf aT ?_))
 exact bE (si aU) (eE hm)
 refine qag (cs rfl rfl hm ?_ ?_) <;> intro cq hm
 refine bsO (len := 1) (enc := eS) (l := [bo]) (cl := [str bo]) qbp rfl rfl (fun _ _ => rfl) rfl rfl rfl ?_ fun cu => ?_
 · conv => whnf
   refine cT ?_
   first | done | rfl
 refine fa rfl ?_
 refine qaa r1 rfl ⟨rfl, rfl, (nl rfl), ?_⟩
 refine qaf rfl ?_
 refine qbn rfl ?_
 obtain ⟨bm, aU, hm⟩ := bnd hm
 refine cS aU (fun aT aU => ?_) fun aT aU => ?_
 refine ro (qab r4 rfl (nl rfl) (ct aT (ro (qab r0 rfl (nl rfl) (ct aT ?_)))))
 refine fF Tryz.call18 r5 fun aY bc aV => ?_
 refine fF Tryz.call18 r5 fun a6 a8 ba => ?_
 refine fF Tryz.call18 r5 fun aX bd aZ => ?_
 refine fF Tryz.call18 r2 fun bb bf aW => ?_
 refine fF Tryz.call18 r1 fun bu bv bw => ?_
 refine cb aU fun bn bg aU => cgx (JS bg :) ?_
 refine ct aT ?_
 exact bE (si aU) (eE hm)
 refine cf aT (cf aT (cf aT ?_))
 exact bE (si aU) (eE hm)
 refine qag (cs rfl rfl hm ?_ ?_) <;> intro cp hm
 refine bsO (len := 2) (enc := eS) (l := [bo, bt]) (cl := [str bo, str bt]) qbp rfl rfl (fun _ _ => rfl) rfl rfl rfl ?_ fun cj => ?_
 · conv => whnf
   refine cT (cT ?_)
   first | done | rfl
 refine fa rfl ?_
 refine qaa r1 rfl ⟨rfl, rfl, (nl rfl), ?_⟩
 refine ql0 ?_
 refine cs rfl rfl hm ?_ ?_ <;> intro bZ hm
 refine bsO (len := 2) (enc := eS) (l := [bt, bo]) (cl := [str bt, str bo]) qbp rfl rfl (fun _ _ => rfl) rfl rfl rfl ?_ fun bY => ?_
 · conv => whnf
   refine cT (cT ?_)
   first | done | rfl
 refine fa rfl ?_
 refine qaa r1 rfl ⟨rfl, rfl, (nl rfl), ?_⟩
 refine qaq (cs rfl rfl hm ?_ ?_) <;> intro bG hm
 refine bsO (len := 1) (enc := eS) (l := [bo]) (cl := [str bo]) qbp rfl rfl (fun _ _ => rfl) rfl rfl rfl ?_ fun bF => ?_
 · conv => whnf
   refine cT ?_
   first | done | rfl
 refine fa rfl ?_
 refine qaa r1 rfl ⟨rfl, rfl, (nl rfl), ?_⟩
 refine qaf rfl ?_
 refine qbn rfl ?_
 obtain ⟨bm, aU, hm⟩ := bnd hm
 refine cS aU (fun aT aU => ?_) fun aT aU => ?_
 refine ro (qab r6 rfl (nl rfl) (ct aT (ro (qab r0 rfl (nl rfl) (ct aT ?_)))))
 refine fF Tryz.call18 r7 fun aY bc aV => ?_
 refine fF Tryz.call18 r7 fun a6 a8 ba => ?_
 refine fF Tryz.call18 r7 fun aX bd aZ => ?_
 refine fF Tryz.call18 r4 fun bb bf aW => ?_
 refine fF Tryz.call18 r1 fun bj bl bh => ?_
 refine cb aU fun bn bg aU => cgx (JS bg :) ?_
 refine ct aT ?_
 exact bE (si aU) (eE hm)
 refine cf aT (cf aT (cf aT ?_))
 exact bE (si aU) (eE hm)
 refine qaf rfl ?_
 refine qbn rfl ?_
 obtain ⟨bm, aU, hm⟩ := bnd hm
 refine cS aU (fun aT aU => ?_) fun aT aU => ?_
 refine ro (qab r5 rfl (nl rfl) (ct aT (ro (qab r0 rfl (nl rfl) (ct aT ?_)))))
 refine fF Tryz.call18 r6 fun aY bc aV => ?_
 refine fF Tryz.call18 r6 fun a6 a8 ba => ?_
 refine fF Tryz.call18 r6 fun aX bd aZ => ?_
 refine fF Tryz.call18 r3 fun bb bf aW => ?_
 refine fF Tryz.call18 r1 fun bj bl bh => ?_
 refine cb aU fun bn bg aU => cgx (JS bg :) ?_
 refine ct aT ?_
 exact bE (si aU) (eE hm)
 refine cf aT (cf aT (cf aT ?_))
 exact bE (si aU) (eE hm)
 refine qaq (cs rfl rfl hm ?_ ?_) <;> intro bG hm
 refine bsO (len := 1) (enc := eS) (l := [bo]) (cl := [str bo]) qbp rfl rfl (fun _ _ => rfl) rfl rfl rfl ?_ fun bF => ?_
 · conv => whnf
   refine cT ?_
   first | done | rfl
 refine fa rfl ?_
 refine qaa r1 rfl ⟨rfl, rfl, (nl rfl), ?_⟩
 refine qaf rfl ?_
 refine qbn rfl ?_
 obtain ⟨bm, aU, hm⟩ := bnd hm
 refine cS aU (fun aT aU => ?_) fun aT aU => ?_
 refine ro (qab r5 rfl (nl rfl) (ct aT (ro (qab r0 rfl (nl rfl) (ct aT ?_)))))
 refine fF Tryz.call18 r6 fun aY bc aV => ?_
 refine fF Tryz.call18 r6 fun a6 a8 ba => ?_
 refine fF Tryz.call18 r6 fun aX bd aZ => ?_
 refine fF Tryz.call18 r3 fun bb bf aW => ?_
 refine fF Tryz.call18 r1 fun bj bl bh => ?_
 refine cb aU fun bn bg aU => cgx (JS bg :) ?_
 refine ct aT ?_
 exact bE (si aU) (eE hm)
 refine cf aT (cf aT (cf aT ?_))
 exact bE (si aU) (eE hm)
 refine qaf rfl ?_
 refine qbn rfl ?_
 obtain ⟨bm, aU, hm⟩ := bnd hm
 refine cS aU (fun aT aU => ?_) fun aT aU => ?_
 refine ro (qab r4 rfl (nl rfl) (ct aT (ro (qab r0 rfl (nl rfl) (ct aT ?_)))))
 refine fF Tryz.call18 r5 fun aY bc aV => ?_
 refine fF Tryz.call18 r5 fun a6 a8 ba => ?_
 refine fF Tryz.call18 r5 fun aX bd aZ => ?_
 refine fF Tryz.call18 r2 fun bb bf aW => ?_
 refine fF Tryz.call18 r1 fun bj bl bh => ?_
 refine cb aU fun bn bg aU => cgx (JS bg :) ?_
 refine ct aT ?_
 exact bE (si aU) (eE hm)
 refine cf aT (cf aT (cf aT ?_))
 exact bE (si aU) (eE hm)
 refine qag (cs rfl rfl hm ?_ ?_) <;> intro cn hm
 refine qha (by decide) ?_
 obtain ⟨bH, hm⟩ := qaw hm
 refine qc3 rfl rfl bH ?_
 refine ci hm fun hm => ?_
 obtain ⟨bA, hm⟩ := qaw hm
 refine qi2 bA.1 bA.2 (qha (by decide) ?_)
 obtain ⟨bI, hm⟩ := qaw hm
 refine qc3 rfl rfl bI ?_
 obtain ⟨bB, hm⟩ := qaw hm
 refine qan bB (fa rfl ?_)
 refine qaa r0 rfl ⟨rfl, rfl, (nl rfl), ?_⟩
 refine qaf rfl ?_
 refine qbn rfl ?_
 obtain ⟨bm, aU, hm⟩ := bnd hm
 refine cS aU (fun aT aU => ?_) fun aT aU => ?_
 refine ro (qab r3 rfl (nl rfl) (ct aT (ro (qab r0 rfl (nl rfl) (ct aT ?_)))))
 refine fF Tryz.call18 r4 fun aY bc aV => ?_
 refine fF Tryz.call18 r4 fun a6 a8 ba => ?_
 refine fF Tryz.call18 r4 fun aX bd aZ => ?_
 refine fF Tryz.call18 r1 fun bb bf aW => ?_
 refine cb aU fun bn bg aU => cgx (JS bg :) ?_
 refine ct aT ?_
 exact bE (si aU) (eE hm)
 refine cf aT (cf aT (cf aT ?_))
 exact bE (si aU) (eE hm)
 refine qag (cs rfl rfl hm ?_ ?_) <;> intro cm hm
 refine fa rfl ?_
 refine qaa r0 rfl ⟨rfl, rfl, (nl rfl), ?_⟩
 refine qaf rfl ?_
 refine qbn rfl ?_
 obtain ⟨bm, aU, hm⟩ := bnd hm
 refine cS aU (fun aT aU => ?_) fun aT aU => ?_
 refine ro (qab r3 rfl (nl rfl) (ct aT (ro (qab r0 rfl (nl rfl) (ct aT ?_)))))
 refine fF Tryz.call18 r4 fun aY bc aV => ?_
 refine fF Tryz.call18 r4 fun a6 a8 ba => ?_
 refine fF Tryz.call18 r4 fun aX bd aZ => ?_
 refine fF Tryz.call18 r1 fun bb bf aW => ?_
 refine cb aU fun bn bg aU => cgx (JS bg :) ?_
 refine ct aT ?_
 exact bE (si aU) (eE hm)
 refine cf aT (cf aT (cf aT ?_))
 exact bE (si aU) (eE hm)
 refine fa rfl ?_
 refine qaa r0 rfl ⟨rfl, rfl, (nl rfl), ?_⟩
 refine fa rfl ?_
 refine qaa r0 rfl ⟨rfl, rfl, (nl rfl), ?_⟩
 refine qaf rfl ?_
 refine qbn rfl ?_
 obtain ⟨bm, aU, hm⟩ := bnd hm
 refine cS aU (fun aT aU => ?_) fun aT aU => ?_
 refine ro (qab r3 rfl (nl rfl) (ct aT (ro (qab r0 rfl (nl rfl) (ct aT ?_)))))
 refine fF Tryz.call18 r4 fun aY bc aV => ?_
 refine fF Tryz.call18 r4 fun a6 a8 ba => ?_
 refine fF Tryz.call18 r4 fun aX bd aZ => ?_
 refine fF Tryz.call18 r1 fun bb bf aW => ?_
 refine cb aU fun bn bg aU => cgx (JS bg :) ?_
 refine ct aT ?_
 exact bE (si aU) (eE hm)
 refine cf aT (cf aT (cf aT ?_))
 exact bE (si aU) (eE hm)
 rw [hq76] at bV hm
 obtain ⟨cD, cE, cH, rfl, bM, rfl⟩ := bV
 replace hm := qt1 hm
 refine qa9 rfl ?_
 refine cs rfl rfl hm ?_ ?_ <;> intro cK hm
 exact eE hm
 refine qad rfl rfl (cT (cT (qad rfl rfl (cT (cT ?_)))))
 refine bsO (len := 2) (enc := Jc.enc) (l := [(⟨([104, 111, 115, 116] : Str), ([97, 46, 101, 120, 97, 109, 112, 108, 101] : Str)⟩ : Jc), (⟨([97, 99, 99, 101, 112, 116] : Str), ([120] : Str)⟩ : Jc)]) (cl := [str ([104, 111, 115, 116] : Str), str ([97, 46, 101, 120, 97, 109, 112, 108, 101] : Str), str ([97, 99, 99, 101, 112, 116] : Str), str ([120] : Str)]) qdr rfl rfl (fun _ _ => rfl) rfl rfl rfl ?_ fun cL => ?_
 · conv => whnf
   refine cT (cT ?_)
   first | done | rfl
 refine qad rfl rfl (cT (cT (cT ?_)))
 refine qai rfl fun dh => ?_
 refine qaa r0 rfl ⟨rfl, rfl, (nl rfl), ?_⟩
 refine ro (qab r0 rfl (nl rfl) ?_)
 refine fF Tryz.call13 r1 fun bz bp br => ?_
 refine cb hm fun cY cr hm => ck0 (qb8 (d := o76) (r' := (⟨([71, 69, 84] : Str), ([47, 98, 63, 99] : Str), [(⟨([104, 111, 115, 116] : Str), ([97, 46, 101, 120, 97, 109, 112, 108, 101] : Str)⟩ : Jc), (⟨([97, 99, 99, 101, 112, 116] : Str), ([120] : Str)⟩ : Jc)]⟩ : Jaa)) cr ⟨(MR.mono Jw.R_ok bM bp), br, (hG.mono ((bR.trans dm).trans bp))⟩) ?_
 rintro _ _ _ ⟨bP, bO, bK, bN, bU, bQ, rfl, bS, bT, bL, rfl⟩
 refine qai rfl fun cJ => ?_
 refine qaa r0 rfl ⟨rfl, rfl, (nl rfl), ?_⟩
 refine qad rfl rfl (cT (cT (cT (cT ?_))))
 refine qai rfl fun dp => ?_
 refine qaa r0 rfl ⟨rfl, rfl, (nl rfl), ?_⟩
 refine ro (qab r0 rfl (nl rfl) (ro (qab r0 rfl (nl rfl) (qad rfl rfl (cT (cT ?_))))))
 refine bsO (len := 1) (enc := Jc.enc) (l := [(⟨([97, 99, 99, 101, 112, 116] : Str), ([120] : Str)⟩ : Jc)]) (cl := [str ([97, 99, 99, 101, 112, 116] : Str), str ([120] : Str)]) qdr rfl rfl (fun _ _ => rfl) rfl rfl rfl ?_ fun dn => ?_
 · conv => whnf
   refine cT ?_
   first | done | rfl
 refine qad rfl rfl (cT (cT (cT (cT ?_))))
 refine qai rfl fun cN => ?_
 refine qaa r0 rfl ⟨rfl, rfl, (nl rfl), ?_⟩
 refine qam rfl ?_
 refine qag (cs rfl rfl hm ?_ ?_) <;> intro ce hm
 obtain ⟨bD, hm⟩ := qaw hm
 refine qa5 bD ?_
 refine fa rfl (fa rfl ?_)
 refine qaa r0 rfl ⟨rfl, rfl, (nl rfl), ?_⟩
 refine qaf rfl ?_
 refine qbn rfl ?_
 obtain ⟨bm, aU, hm⟩ := bnd hm
 refine cS aU (fun aT aU => ?_) fun aT aU => ?_
 refine ro (qab r3 rfl (nl rfl) (ct aT (ro (qab r0 rfl (nl rfl) (ct aT ?_)))))
 refine fF Tryz.call18 r4 fun aY bc aV => ?_
 refine fF Tryz.call18 r4 fun a6 a8 ba => ?_
 refine fF Tryz.call18 r4 fun aX bd aZ => ?_
 refine fF Tryz.call18 r1 fun bb bf aW => ?_
 refine cb aU fun bn bg aU => cgx (JS bg :) ?_
 refine ct aT ?_
 exact bE (si aU) (eE hm)
 refine cf aT (cf aT (cf aT ?_))
 exact bE (si aU) (eE hm)
 refine qag (cs rfl rfl hm ?_ ?_) <;> intro bW hm
 refine fa rfl (fa rfl ?_)
 refine qaa r0 rfl ⟨rfl, rfl, (nl rfl), ?_⟩
 refine qaf rfl ?_
 refine qbn rfl ?_
 obtain ⟨bm, aU, hm⟩ := bnd hm
 refine cS aU (fun aT aU => ?_) fun aT aU => ?_
 refine ro (qab r3 rfl (nl rfl) (ct aT (ro (qab r0 rfl (nl rfl) (ct aT ?_)))))
 refine fF Tryz.call18 r4 fun aY bc aV => ?_
 refine fF Tryz.call18 r4 fun a6 a8 ba => ?_
 refine fF Tryz.call18 r4 fun aX bd aZ => ?_
 refine fF Tryz.call18 r1 fun bb bf aW => ?_
 refine cb aU fun bn bg aU => cgx (JS bg :) ?_
 refine ct aT ?_
 exact bE (si aU) (eE hm)
 refine cf aT (cf aT (cf aT ?_))
 exact bE (si aU) (eE hm)
 refine qag (cs rfl rfl hm ?_ ?_) <;> intro cw hm
 refine fa rfl (ro (ld r0 rfl rfl ?_))
 obtain ⟨bC, hm⟩ := qaw hm
 refine qa5 bC ?_
 refine qad rfl rfl (cT (cT ?_))
 refine bsO (len := 1) (enc := Jc.enc) (l := [(⟨(([120, 45] : Str) ++ bo), bt⟩ : Jc)]) (cl := [str (([120, 45] : Str) ++ bo), str bt]) qdr rfl rfl (fun _ _ => rfl) rfl rfl rfl ?_ fun bX => ?_
 · conv => whnf
   refine cT ?_
   first | done | rfl
 obtain ⟨bJ, hm⟩ := qaw hm
 refine apE rfl r2 qdr (qay rfl r0 rfl (fun _ => rfl) (fun _ => rfl)) bJ ?_
 intro co cd cy
 refine fa rfl ?_
 refine qaa r2 rfl ⟨rfl, rfl, (nl rfl), ?_⟩
 refine qaf rfl ?_
 refine qbn rfl ?_
 obtain ⟨bm, aU, hm⟩ := bnd hm
 refine cS aU (fun aT aU => ?_) fun aT aU => ?_
 refine ro (qab r4 rfl (nl rfl) (ct aT (ro (qab r0 rfl (nl rfl) (ct aT ?_)))))
 refine fF Tryz.call18 r5 fun aY bc aV => ?_
 refine fF Tryz.call18 r5 fun a6 a8 ba => ?_
 refine fF Tryz.call18 r5 fun aX bd aZ => ?_
 refine fF Tryz.call18 r1 fun bb bf aW => ?_
 refine cb aU fun bn bg aU => cgx (JS bg :) ?_
 refine ct aT ?_
 exact bE (si aU) (eE hm)
 refine cf aT (cf aT (cf aT ?_))
 exact bE (si aU) (eE hm)
 refine qag (cs rfl rfl hm ?_ ?_) <;> intro cq hm
 refine bsO (len := 1) (enc := eS) (l := [bo]) (cl := [str bo]) qbp rfl rfl (fun _ _ => rfl) rfl rfl rfl ?_ fun cu => ?_
 · conv => whnf
   refine cT ?_
   first | done | rfl
 refine fa rfl ?_
 refine qaa r1 rfl ⟨rfl, rfl, (nl rfl), ?_⟩
 refine qaf rfl ?_
 refine qbn rfl ?_
 obtain ⟨bm, aU, hm⟩ := bnd hm
 refine cS aU (fun aT aU => ?_) fun aT aU => ?_
 refine ro (qab r4 rfl (nl rfl) (ct aT (ro (qab r0 rfl (nl rfl) (ct aT ?_)))))
 refine fF Tryz.call18 r5 fun aY bc aV => ?_
 refine fF Tryz.call18 r5 fun a6 a8 ba => ?_
 refine fF Tryz.call18 r5 fun aX bd aZ => ?_
 refine fF Tryz.call18 r2 fun bb bf aW => ?_
 refine fF Tryz.call18 r1 fun bu bv bw => ?_
 refine cb aU fun bn bg aU => cgx (JS bg :) ?_
 refine ct aT ?_
 exact bE (si aU) (eE hm)
 refine cf aT (cf aT (cf aT ?_))
 exact bE (si aU) (eE hm)
 refine qag (cs rfl rfl hm ?_ ?_) <;> intro cp hm
 refine bsO (len := 2) (enc := eS) (l := [bo, bt]) (cl := [str bo, str bt]) qbp rfl rfl (fun _ _ => rfl) rfl rfl rfl ?_ fun cj => ?_
 · conv => whnf
   refine cT (cT ?_)
   first | done | rfl
 refine fa rfl ?_
 refine qaa r1 rfl ⟨rfl, rfl, (nl rfl), ?_⟩
 refine ql0 ?_
 refine cs rfl rfl hm ?_ ?_ <;> intro bZ hm
 refine bsO (len := 2) (enc := eS) (l := [bt, bo]) (cl := [str bt, str bo]) qbp rfl rfl (fun _ _ => rfl) rfl rfl rfl ?_ fun bY => ?_
 · conv => whnf
   refine cT (cT ?_)
   first | done | rfl
 refine fa rfl ?_
 refine qaa r1 rfl ⟨rfl, rfl, (nl rfl), ?_⟩
 refine qaq (cs rfl rfl hm ?_ ?_) <;> intro bG hm
 refine bsO (len := 1) (enc := eS) (l := [bo]) (cl := [str bo]) qbp rfl rfl (fun _ _ => rfl) rfl rfl rfl ?_ fun bF => ?_
 · conv => whnf
   refine cT ?_
   first | done | rfl
 refine fa rfl ?_
 refine qaa r1 rfl ⟨rfl, rfl, (nl rfl), ?_⟩
 refine qaf rfl ?_
 refine qbn rfl ?_
 obtain ⟨bm, aU, hm⟩ := bnd hm
 refine cS aU (fun aT aU => ?_) fun aT aU => ?_
 refine ro (qab r6 rfl (nl rfl) (ct aT (ro (qab r0 rfl (nl rfl) (ct aT ?_)))))
 refine fF Tryz.call18 r7 fun aY bc aV => ?_
 refine fF Tryz.call18 r7 fun a6 a8 ba => ?_
 refine fF Tryz.call18 r7 fun aX bd aZ => ?_
 refine fF Tryz.call18 r4 fun bb bf aW => ?_
 refine fF Tryz.call18 r1 fun bj bl bh => ?_
 refine cb aU fun bn bg aU => cgx (JS bg :) ?_
 refine ct aT ?_
 exact bE (si aU) (eE hm)
 refine cf aT (cf aT (cf aT ?_))
 exact bE (si aU) (eE hm)
 refine qaf rfl ?_
 refine qbn rfl ?_
 obtain ⟨bm, aU, hm⟩ := bnd hm
 refine cS aU (fun aT aU => ?_) fun aT aU => ?_
 refine ro (qab r5 rfl (nl rfl) (ct aT (ro (qab r0 rfl (nl rfl) (ct aT ?_)))))
 refine fF Tryz.call18 r6 fun aY bc aV => ?_
 refine fF Tryz.call18 r6 fun a6 a8 ba => ?_
 refine fF Tryz.call18 r6 fun aX bd aZ => ?_
 refine fF Tryz.call18 r3 fun bb bf aW => ?_
 refine fF Tryz.call18 r1 fun bj bl bh => ?_
 refine cb aU fun bn bg aU => cgx (JS bg :) ?_
 refine ct aT ?_
 exact bE (si aU) (eE hm)
 refine cf aT (cf aT (cf aT ?_))
 exact bE (si aU) (eE hm)
 refine qaq (cs rfl rfl hm ?_ ?_) <;> intro bG hm
 refine bsO (len := 1) (enc := eS) (l := [bo]) (cl := [str bo]) qbp rfl rfl (fun _ _ => rfl) rfl rfl rfl ?_ fun bF => ?_
 · conv => whnf
   refine cT ?_
   first | done | rfl
 refine fa rfl ?_
 refine qaa r1 rfl ⟨rfl, rfl, (nl rfl), ?_⟩
 refine qaf rfl ?_
 refine qbn rfl ?_
 obtain ⟨bm, aU, hm⟩ := bnd hm
 refine cS aU (fun aT aU => ?_) fun aT aU => ?_
 refine ro (qab r5 rfl (nl rfl) (ct aT (ro (qab r0 rfl (nl rfl) (ct aT ?_)))))
 refine fF Tryz.call18 r6 fun aY bc aV => ?_
 refine fF Tryz.call18 r6 fun a6 a8 ba => ?_
 refine fF Tryz.call18 r6 fun aX bd aZ => ?_
 refine fF Tryz.call18 r3 fun bb bf aW => ?_
 refine fF Tryz.call18 r1 fun bj bl bh => ?_
 refine cb aU fun bn bg aU => cgx (JS bg :) ?_
 refine ct aT ?_
 exact bE (si aU) (eE hm)
 refine cf aT (cf aT (cf aT ?_))
 exact bE (si aU) (eE hm)
 refine qaf rfl ?_
 refine qbn rfl ?_
 obtain ⟨bm, aU, hm⟩ := bnd hm
 refine cS aU (fun aT aU => ?_) fun aT aU => ?_
 refine ro (qab r4 rfl (nl rfl) (ct aT (ro (qab r0 rfl (nl rfl) (ct aT ?_)))))
 refine fF Tryz.call18 r5 fun aY bc aV => ?_
 refine fF Tryz.call18 r5 fun a6 a8 ba => ?_
 refine fF Tryz.call18 r5 fun aX bd aZ => ?_
 refine fF Tryz.call18 r2 fun bb bf aW => ?_
 refine fF Tryz.call18 r1 fun bj bl bh => ?_
 refine cb aU fun bn bg aU => cgx (JS bg :) ?_
 refine ct aT ?_
 exact bE (si aU) (eE hm)
 refine cf aT (cf aT (cf aT ?_))
 exact bE (si aU) (eE hm)
 refine qag (cs rfl rfl hm ?_ ?_) <;> intro cn hm
 refine qha (by decide) ?_
 obtain ⟨bH, hm⟩ := qaw hm
 refine qc3 rfl rfl bH ?_
 refine ci hm fun hm => ?_
 obtain ⟨bA, hm⟩ := qaw hm
 refine qi2 bA.1 bA.2 (qha (by decide) ?_)
 obtain ⟨bI, hm⟩ := qaw hm
 refine qc3 rfl rfl bI ?_
 obtain ⟨bB, hm⟩ := qaw hm
 refine qan bB (fa rfl ?_)
 refine qaa r0 rfl ⟨rfl, rfl, (nl rfl), ?_⟩
 refine qaf rfl ?_
 refine qbn rfl ?_
 obtain ⟨bm, aU, hm⟩ := bnd hm
 refine cS aU (fun aT aU => ?_) fun aT aU => ?_
 refine ro (qab r3 rfl (nl rfl) (ct aT (ro (qab r0 rfl (nl rfl) (ct aT ?_)))))
 refine fF Tryz.call18 r4 fun aY bc aV => ?_
 refine fF Tryz.call18 r4 fun a6 a8 ba => ?_
 refine fF Tryz.call18 r4 fun aX bd aZ => ?_
 refine fF Tryz.call18 r1 fun bb bf aW => ?_
 refine cb aU fun bn bg aU => cgx (JS bg :) ?_
 refine ct aT ?_
 exact bE (si aU) (eE hm)
 refine cf aT (cf aT (cf aT ?_))
 exact bE (si aU) (eE hm)
 refine qag (cs rfl rfl hm ?_ ?_) <;> intro cm hm
 refine fa rfl ?_
 refine qaa r0 rfl ⟨rfl, rfl, (nl rfl), ?_⟩
 refine qaf rfl ?_
 refine qbn rfl ?_
 obtain ⟨bm, aU, hm⟩ := bnd hm
 refine cS aU (fun aT aU => ?_) fun aT aU => ?_
 refine ro (qab r3 rfl (nl rfl) (ct aT (ro (qab r0 rfl (nl rfl) (ct aT ?_)))))
 refine fF Tryz.call18 r4 fun aY bc aV => ?_
 refine fF Tryz.call18 r4 fun a6 a8 ba => ?_
 refine fF Tryz.call18 r4 fun aX bd aZ => ?_
 refine fF Tryz.call18 r1 fun bb bf aW => ?_
 refine cb aU fun bn bg aU => cgx (JS bg :) ?_
 refine ct aT ?_
 exact bE (si aU) (eE hm)
 refine cf aT (cf aT (cf aT ?_))
 exact bE (si aU) (eE hm)
 refine fa rfl ?_
 refine qaa r0 rfl ⟨rfl, rfl, (nl rfl), ?_⟩
 refine fa rfl ?_
 refine qaa r0 rfl ⟨rfl, rfl, (nl rfl), ?_⟩
 refine qaf rfl ?_
 refine qbn rfl ?_
 obtain ⟨bm, aU, hm⟩ := bnd hm
 refine cS aU (fun aT aU => ?_) fun aT aU => ?_
 refine ro (qab r3 rfl (nl rfl) (ct aT (ro (qab r0 rfl (nl rfl) (ct aT ?_)))))
 refine fF Tryz.call18 r4 fun aY bc aV => ?_
 refine fF Tryz.call18 r4 fun a6 a8 ba => ?_
 refine fF Tryz.call18 r4 fun aX bd aZ => ?_
 refine fF Tryz.call18 r1 fun bb bf aW => ?_
 refine cb aU fun bn bg aU => cgx (JS bg :) ?_
 refine ct aT ?_
 exact bE (si aU) (eE hm)
 refine cf aT (cf aT (cf aT ?_))
 exact bE (si aU) (eE hm)
