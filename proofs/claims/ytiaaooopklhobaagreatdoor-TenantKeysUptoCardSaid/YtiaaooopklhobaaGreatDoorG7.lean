/- Functions of the program: mirrors, and that a call returns what the mirror says. Printed by gen.py. -/
import Derived.Test.YtiaaooopklhobaaGreatDoorG6
set_option linter.unusedVariables false
set_option linter.unusedSimpArgs false
open Go Go.SL Go.Proofs
noncomputable section
set_option maxRecDepth 1000000
set_option maxHeartbeats 8000000
def Jc4 (n : Nat) : Option (Bool) :=
  (qe9 n ([(⟨([101, 120, 97, 109, 112, 108, 101, 46, 99, 111, 109] : Str), 3, ([112, 97, 116, 104, 32, 61, 32, 34, 47, 118, 49, 34, 32, 43, 32, 112, 97, 116, 104, 59, 32, 116, 116, 108, 32, 54, 48, 59, 32, 116, 97, 103, 32, 34, 97, 108, 108, 34, 59] : Str)⟩ : Jas)])).bind fun x8 =>
  Option.elim x8.1 (
  ((if x8.2.2.isSome then
  some ()
  else
  some ()) : Option (Unit)).bind fun aV =>
  some false)
   fun o8 =>
  ((if x8.2.2.isSome then
  some true
  else
  some false) : Option (Bool)).bind fun aT =>
  if aT then
  some false
  else
  (qbs n o8 (⟨([71, 69, 84] : Str), ([47, 97, 63, 120, 61, 49] : Str), [(⟨([104, 111, 115, 116] : Str), ([101, 120, 97, 109, 112, 108, 101, 46, 99, 111, 109] : Str)⟩ : Jc)]⟩ : Jaq)).bind fun aS =>
  (if (aS.2.isNone && decide (aS.1.TTL = 60)) then (qbl n aS.1).bind fun aY =>
  some (decide (aY = ([51, 32, 101, 120, 97, 109, 112, 108, 101, 46, 99, 111, 109, 47, 118, 49, 47, 97, 63, 120, 61, 49] : Str))) else some false).bind fun aU =>
  (if (aU && decide ((aS.1.Ah.length : Int) = 1)) then (ix aS.1.Ah 0).bind fun aW =>
  some (decide (aW = ([97, 108, 108] : Str))) else some false).bind fun aX =>
  some aX
theorem JdL {n : Nat}  {K : Hp} {r : Bool}
    (hm : Jc4 n = some r) (hG : GG K) :
    Fn Tryz.prog 11 [] K [] (fun v K' H' => v = .bool r ∧ H' = []) := by
 refine Fn.enter Tryz.func11 Tryz.call11 rfl fun F => ?_
 unfold Jc4 at hm
 refine qaj rfl rfl (cT (cT (cT ?_)))
 refine bsO (len := 1) (enc := Jas.enc) (l := [(⟨([101, 120, 97, 109, 112, 108, 101, 46, 99, 111, 109] : Str), 3, ([112, 97, 116, 104, 32, 61, 32, 34, 47, 118, 49, 34, 32, 43, 32, 112, 97, 116, 104, 59, 32, 116, 116, 108, 32, 54, 48, 59, 32, 116, 97, 103, 32, 34, 97, 108, 108, 34, 59] : Str)⟩ : Jas)]) (cl := [str ([101, 120, 97, 109, 112, 108, 101, 46, 99, 111, 109] : Str), .int .i64 3, str ([112, 97, 116, 104, 32, 61, 32, 34, 47, 118, 49, 34, 32, 43, 32, 112, 97, 116, 104, 59, 32, 116, 116, 108, 32, 54, 48, 59, 32, 116, 97, 103, 32, 34, 97, 108, 108, 34, 59] : Str)]) qrf rfl rfl (fun _ _ => rfl) rfl rfl rfl ?_ fun b7 => ?_
 · conv => whnf
   refine cT ?_
   first | done | rfl
 refine fF Tryz.call12 r0 fun bQ bA bO => ?_
 refine cb hm fun x8 q8 hm => cfx (qho q8 :) ?_
 rintro v8 K8 H8 l8 p8
 rcases hq8 : x8.1 with _ | o8
 rw [hq8] at p8 hm
 obtain ⟨rfl, rfl⟩ := p8
 replace hm := qsh hm
 obtain ⟨bt, ba, hm⟩ := bnd hm
 refine jR (σ := Unit) (rg 12 6) (fun _ => [(17, .bool true)]) (fun bv => bv = bt) ?_ ?_
 refine qah rfl ?_
 refine qa5 rfl ?_
 refine cS ba (fun aU ba => ?_) fun aU ba => ?_
 refine ct aU (ct aU ?_)
 exact eM ba _
 refine cf aU ?_
 refine qk7 rfl ?_
 refine cf aU ?_
 exact eM ba _
 rintro _ rfl bW
 refine qac rfl (cT ?_)
 exact eE hm
 rw [hq8] at p8 hm
 obtain ⟨bU, bR, bN, rfl, bu, rfl⟩ := p8
 replace hm := qsi hm
 obtain ⟨bB, aZ, hm⟩ := bnd hm
 refine jR (σ := Bool) (rg 12 6) (fun bf => [(17, .bool bf)]) (fun bf => bf = bB) ?_ ?_
 refine qah rfl ?_
 refine qa5 rfl ?_
 refine cS aZ (fun aU aZ => ?_) fun aU aZ => ?_
 refine ct aU (ct aU ?_)
 exact eM aZ _
 refine cf aU ?_
 refine qg9 rfl ?_
 refine cf aU ?_
 exact eM aZ _
 rintro bf rfl bT
 refine cs rfl rfl hm ?_ ?_ <;> intro ce hm
 exact eE hm
 refine qaj rfl rfl (cT (cT ?_))
 refine bsO (len := 1) (enc := Jc.enc) (l := [(⟨([104, 111, 115, 116] : Str), ([101, 120, 97, 109, 112, 108, 101, 46, 99, 111, 109] : Str)⟩ : Jc)]) (cl := [str ([104, 111, 115, 116] : Str), str ([101, 120, 97, 109, 112, 108, 101, 46, 99, 111, 109] : Str)]) qf2 rfl rfl (fun _ _ => rfl) rfl rfl rfl ?_ fun bY => ?_
 · conv => whnf
   refine cT ?_
   first | done | rfl
 refine qaj rfl rfl (cT (cT (cT ?_)))
 refine fF Tryz.call13 r0 fun bo aY bd => ?_
 refine cb hm fun bX bV hm => ck0 (qc5 (d := o8) (r' := (⟨([71, 69, 84] : Str), ([47, 97, 63, 120, 61, 49] : Str), [(⟨([104, 111, 115, 116] : Str), ([101, 120, 97, 109, 112, 108, 101, 46, 99, 111, 109] : Str)⟩ : Jc)]⟩ : Jaq)) bV ⟨(MR.mono Jy.R_ok bu aY), bd, (hG.mono ((bA.trans l8).trans aY))⟩) ?_
 rintro _ _ _ ⟨bI, bF, bM, bK, bC, bH, rfl, bJ, bL, bG, rfl⟩
 refine qai rfl fun b4 => ?_
 refine qaa r0 rfl ⟨rfl, rfl, (nl rfl), ?_⟩
 refine qah rfl ?_
 refine qew rfl ?_
 refine qae ?_ ?_ <;> intro aV
 refine fa rfl (ct aV (ro (ld r0 rfl rfl (ct aV (qaf (ct aV ?_))))))
 obtain ⟨bS, bc, hm⟩ := bnd hm
 refine qae ?_ ?_ <;> intro aW
 replace bc := ift (qct aV aW) bc
 refine ro (qab r0 rfl (nl rfl) (ct aW ?_))
 refine fF Tryz.call31 r1 fun bl bg bn => ?_
 refine fF Tryz.call31 r1 fun bh bj bm => ?_
 refine fF Tryz.call31 r1 fun br bp bb => ?_
 refine cb bc fun ca bP bc => cgx (qbw bP :) ?_
 refine ct aW (qaq (ct aW ?_))
 refine qae ?_ ?_ <;> intro aT
 refine fa rfl (ct aT (ro (ld r0 rfl rfl (ct aT (ro (qak rfl (ct aT (qaf (ct aT ?_)))))))))
 obtain ⟨bw, aX, hm⟩ := bnd hm
 refine qae ?_ ?_ <;> intro aS
 replace aX := ift (qct ((si bc).symm.trans aT) aS) aX
 refine fa rfl (ct aS (ro (ld r0 rfl rfl (ct aS ?_))))
 obtain ⟨bZ, bD, bz, aX⟩ := ixb aX
 refine RStep.ofN (qad rfl rfl (qfy bb.rd bz) bD (qaz rfl bD bz) (ct aS (ro (qci ((0 : Int).toNat) 0 _ _ bb.rd rfl (mp bz) rfl rfl (ct aS (qaq (ct aS ?_)))))))
 exact bE (si aX) (eE hm)
 replace aX := qa7 (qcu ((si bc).symm.trans aT) aS) aX
 refine cf aS (cf aS (cf aS (cf aS (cf aS ?_))))
 exact bE (si aX) (eE hm)
 refine cf aT (cf aT (cf aT (cf aT ?_)))
 obtain ⟨bw, aX, hm⟩ := bnd hm
 replace aX := qa7 (qa9 ((si bc).symm.trans aT)) aX
 refine cF (cF (cF (cF (cF (cF ?_)))))
 exact bE (si aX) (eE hm)
 replace bc := qa7 (qcu aV aW) bc
 refine cf aW (cf aW (cf aW (cF (cF (cF (cF (cF ?_)))))))
 obtain ⟨bw, aX, hm⟩ := bnd hm
 replace aX := qa7 (qa9 (si bc).symm) aX
 refine cF (cF (cF (cF (cF (cF ?_)))))
 exact bE (si aX) (eE hm)
 refine cf aV (cf aV (cf aV ?_))
 obtain ⟨bS, bc, hm⟩ := bnd hm
 replace bc := qa7 (qa9 aV) bc
 refine cF (cF (cF (cF (cF (cF (cF (cF ?_)))))))
 refine cF ?_
 obtain ⟨bw, aX, hm⟩ := bnd hm
 replace aX := qa7 (qa9 (si bc).symm) aX
 refine cF (cF (cF (cF (cF (cF ?_)))))
 exact bE (si aX) (eE hm)

def vary_normal_L0 : List UInt8 → Nat → Str → Bool → Option (Str × Bool)
  | [], _, ac, aS => some (ac, aS)
  | e0 :: aT, i0, ac, aS =>
    if (decide ((e0.toNat : Int) = 32) || decide ((e0.toNat : Int) = 9)) then
    vary_normal_L0 aT (i0 + 1) ac true
    else
    if (aS && decide ((ac.length : Int) > 0)) then
    (chk (ac.length + ([(32 : UInt8)] : Str).length ≤ lim)).bind fun _ =>
    if (decide ((e0.toNat : Int) < 32) || decide ((e0.toNat : Int) = 127)) then
    (chk ((ac ++ ([(32 : UInt8)] : Str)).length + ([(63 : UInt8)] : Str).length ≤ lim)).bind fun _ =>
    vary_normal_L0 aT (i0 + 1) ((ac ++ ([(32 : UInt8)] : Str)) ++ ([(63 : UInt8)] : Str)) false
    else
    (chk ((ac ++ ([(32 : UInt8)] : Str)).length + ([e0] : Str).length ≤ lim)).bind fun _ =>
    vary_normal_L0 aT (i0 + 1) ((ac ++ ([(32 : UInt8)] : Str)) ++ ([e0] : Str)) false
    else
    if (decide ((e0.toNat : Int) < 32) || decide ((e0.toNat : Int) = 127)) then
    (chk (ac.length + ([(63 : UInt8)] : Str).length ≤ lim)).bind fun _ =>
    vary_normal_L0 aT (i0 + 1) (ac ++ ([(63 : UInt8)] : Str)) false
    else
    (chk (ac.length + ([e0] : Str).length ≤ lim)).bind fun _ =>
    vary_normal_L0 aT (i0 + 1) (ac ++ ([e0] : Str)) false
def qc2 (s : Str) : Option (Str) :=
  (chk (s.length ≤ lim)).bind fun _ =>
  (chk (s.length ≤ qbg)).bind fun _ =>
  (vary_normal_L0 s 0 [] false).bind fun t0 =>
  some t0.1
theorem qg0 {s : Str} {K : Hp} {r : Str}
    (hm : qc2 s = some r)  :
    Fn Tryz.prog 59 [str s] K [] (fun v K' H' => v = str r ∧ H' = []) := by
 refine Fn.enter Tryz.func59 Tryz.call59 rfl fun F => ?_
 unfold qc2 at hm
 obtain ⟨h8, hm⟩ := qax hm
 refine qex rfl rfl rfl h8 ?_
 intro a8 c8 o8
 refine ro (qak rfl ?_)
 obtain ⟨ba, hm⟩ := qax hm
 obtain ⟨s0, aT, hm⟩ := bnd hm
 refine qgy eU 5 1 ?_
 refine lD (σ := (Str × Bool) × Option Addr × Nat) ([3,4,6] ++ rg 10 30) [1, 2] (fun i0 => [(10, .int .i64 (i0 : Int))]) (fun (t0, aV, aW) => [(3, .slice aV t0.1.length aW), (4, .bool t0.2)]) (fun (t0, aV, aW) => [qau eU aV 5 1 aW t0.1]) (fun (t0, aV, aW) => (0 < t0.1.length → Has aV) ∧ True) (fun i0 (t0, aV, aW) => vary_normal_L0 (s.drop i0) i0 t0.1 t0.2 = some s0) (fun (t0, aV, aW) => t0 = s0) (fun i0 => s.length - i0) 0 ((_, _), _, _) aT (And.intro qe (And.intro ?_ ?_))
 clear aT
 rintro i0 ⟨⟨ac, bh⟩, bn, bm⟩ ⟨bj, _⟩ aT j0
 dsimp only at aT ⊢
 refine qac rfl ?_
 refine qae ?_ ?_ <;> intro w0
 obtain ⟨e0, aZ, bu⟩ := ltx w0
 rw [bu, vary_normal_L0.eq_2] at aT
 refine qal rfl ?_
 refine RStep.ofN (qad rfl rfl (qcm o8 aZ) (nn _) (qef rfl aZ) (ro (qby (i := i0) (o := 0) r1 rfl aZ rfl rfl ?_)))
 refine jR (σ := Unit) (rg 14 6) (fun _ => [(19, .bool (decide ((e0.toNat : Int) = 32) || decide ((e0.toNat : Int) = 9)))]) (fun br => True) ?_ ?_
 refine qah rfl ?_
 refine qaf ?_
 refine qae ?_ ?_ <;> intro aX
 refine ct aX (ct aX ?_)
 exact eMt () ⟨bq (((qcj aX)).symm), trivial⟩
 refine cf aX (qaf (cf aX ?_))
 exact eMt () ⟨bq (qg2 (b := decide ((e0.toNat : Int) = 9)) aX), trivial⟩
 rintro _ _ bv
 refine cs rfl rfl aT ?_ ?_ <;> intro bD aT
 refine cT (qam (qbj aZ ba) ?_)
 exact eR aT (_, (_, _), _, _)
 refine jR (σ := Unit) (rg 20 6) (fun _ => [(25, .bool (bh && decide ((ac.length : Int) > 0)))]) (fun bo => True) ?_ ?_
 refine qah rfl ?_
 refine qae ?_ ?_ <;> intro aU
 refine ct aU (ro (qak rfl (ct aU (ct aU ?_))))
 exact eMt () ⟨bq (qcr (b := decide ((ac.length : Int) > 0)) aU), trivial⟩
 refine cf aU (cf aU (cf aU ?_))
 exact eMt () ⟨bq (((qa9 aU)).symm), trivial⟩
 rintro _ _ bt
 refine cs rfl rfl aT ?_ ?_ <;> intro bz aT
 refine bsO (len := 1) (enc := eU) (l := ([(32 : UInt8)] : Str)) (cl := [.int .u8 32]) qbe rfl rfl (fun _ _ => rfl) rfl rfl rfl ?_ fun bw => ?_
 · conv => whnf
   refine cT ?_
   first | done | rfl
 obtain ⟨bp, aT⟩ := qax aT
 refine apE rfl r1 qbe (qat rfl r0 rfl (fun _ => rfl) (fun _ => rfl)) bp ?_
 intro bA bB bC
 refine qah rfl ?_
 refine qae ?_ ?_ <;> intro aS
 refine ct aS (ct aS (qac rfl (cT ?_)))
 replace aT := ift (qcj aS) aT
 refine bsO (len := 1) (enc := eU) (l := ([(63 : UInt8)] : Str)) (cl := [.int .u8 63]) qbe rfl rfl (fun _ _ => rfl) rfl rfl rfl ?_ fun bb => ?_
 · conv => whnf
   refine cT ?_
   first | done | rfl
 obtain ⟨aY, aT⟩ := qax aT
 refine apE rfl r1 qbe (qat rfl r0 rfl (fun _ => rfl) (fun _ => rfl)) aY ?_
 intro bd bf bg
 refine qam (qbj aZ ba) ?_
 exact eR aT (_, (_, _), _, _)
 refine cf aS (qaf (cf aS (qac rfl ?_)))
 refine qae ?_ ?_ <;> intro bc
 replace aT := ift (qgx aS bc) aT
 refine bsO (len := 1) (enc := eU) (l := ([(63 : UInt8)] : Str)) (cl := [.int .u8 63]) qbe rfl rfl (fun _ _ => rfl) rfl rfl rfl ?_ fun bb => ?_
 · conv => whnf
   refine cT ?_
   first | done | rfl
 obtain ⟨aY, aT⟩ := qax aT
 refine apE rfl r1 qbe (qat rfl r0 rfl (fun _ => rfl) (fun _ => rfl)) aY ?_
 intro bd bf bg
 refine qam (qbj aZ ba) ?_
 exact eR aT (_, (_, _), _, _)
 replace aT := qa7 (qeh aS bc) aT
 refine bsO (len := 1) (enc := eU) (l := ([e0] : Str)) (cl := [.int .u8 (e0.toNat : Int)]) qbe rfl rfl (fun _ _ => rfl) rfl rfl rfl ?_ fun bb => ?_
 · conv => whnf
   refine cT ?_
   first | done | rfl
 obtain ⟨aY, aT⟩ := qax aT
 refine apE rfl r1 qbe (qat rfl r0 rfl (fun _ => rfl) (fun _ => rfl)) aY ?_
 intro bd bf bg
 refine qam (qbj aZ ba) ?_
 exact eR aT (_, (_, _), _, _)
 refine qah rfl ?_
 refine qae ?_ ?_ <;> intro aS
 refine ct aS (ct aS (qac rfl (cT ?_)))
 replace aT := ift (qcj aS) aT
 refine bsO (len := 1) (enc := eU) (l := ([(63 : UInt8)] : Str)) (cl := [.int .u8 63]) qbe rfl rfl (fun _ _ => rfl) rfl rfl rfl ?_ fun bb => ?_
 · conv => whnf
   refine cT ?_
   first | done | rfl
 obtain ⟨aY, aT⟩ := qax aT
 refine apE rfl r1 qbe (qat rfl r0 rfl (fun _ => rfl) (fun _ => rfl)) aY ?_
 intro bd bf bg
 refine qam (qbj aZ ba) ?_
 exact eR aT (_, (_, _), _, _)
 refine cf aS (qaf (cf aS (qac rfl ?_)))
 refine qae ?_ ?_ <;> intro bc
 replace aT := ift (qgx aS bc) aT
 refine bsO (len := 1) (enc := eU) (l := ([(63 : UInt8)] : Str)) (cl := [.int .u8 63]) qbe rfl rfl (fun _ _ => rfl) rfl rfl rfl ?_ fun bb => ?_
 · conv => whnf
   refine cT ?_
   first | done | rfl
 obtain ⟨aY, aT⟩ := qax aT
 refine apE rfl r1 qbe (qat rfl r0 rfl (fun _ => rfl) (fun _ => rfl)) aY ?_
 intro bd bf bg
 refine qam (qbj aZ ba) ?_
 exact eR aT (_, (_, _), _, _)
 replace aT := qa7 (qeh aS bc) aT
 refine bsO (len := 1) (enc := eU) (l := ([e0] : Str)) (cl := [.int .u8 (e0.toNat : Int)]) qbe rfl rfl (fun _ _ => rfl) rfl rfl rfl ?_ fun bb => ?_
 · conv => whnf
   refine cT ?_
   first | done | rfl
 obtain ⟨aY, aT⟩ := qax aT
 refine apE rfl r1 qbe (qat rfl r0 rfl (fun _ => rfl) (fun _ => rfl)) aY ?_
 intro bd bf bg
 refine qam (qbj aZ ba) ?_
 exact eR aT (_, (_, _), _, _)
 rw [lty w0, vary_normal_L0.eq_1] at aT
 refine cT ?_
 exact eM aT (_, _, _)
 rintro ⟨t0, aV, aW⟩ ⟨bl, _⟩ rfl j0
 refine ro (qdm rfl r0 rfl rfl rfl ?_)
 exact eE hm

def syntax_Quote_L0 : List UInt8 → Nat → Str → Option (Str)
  | [], _, ac => some ac
  | e0 :: aS, i0, ac =>
    (if decide ((e0.toNat : Int) = 34) then some true else some (decide ((e0.toNat : Int) = 92))).bind fun aT =>
    if aT then
    (chk (ac.length + ([(92 : UInt8)] : Str).length ≤ lim)).bind fun _ =>
    (chk ((ac ++ ([(92 : UInt8)] : Str)).length + ([e0] : Str).length ≤ lim)).bind fun _ =>
    syntax_Quote_L0 aS (i0 + 1) ((ac ++ ([(92 : UInt8)] : Str)) ++ ([e0] : Str))
    else
    (chk (ac.length + ([e0] : Str).length ≤ lim)).bind fun _ =>
    syntax_Quote_L0 aS (i0 + 1) (ac ++ ([e0] : Str))
def qcn (s : Str) : Option (Str × Err) :=
  (qca s).bind fun x7 =>
  if (!x7) then
  some (([] : Str), (some 2))
  else
  (chk (s.length ≤ qbg)).bind fun _ =>
  (syntax_Quote_L0 s 0 ([(34 : UInt8)] : Str)).bind fun t0 =>
  (chk (t0.length + ([(34 : UInt8)] : Str).length ≤ lim)).bind fun _ =>
  some ((t0 ++ ([(34 : UInt8)] : Str)), none)
theorem qf8 {s : Str} {K : Hp} {r : Str × Err}
    (hm : qcn s = some r)  :
    Fn Tryz.prog 60 [str s] K [] (fun v K' H' => v = .tuple #[str r.1, qcy 48 r.2] ∧ H' = []) := by
 refine Fn.enter Tryz.func60 Tryz.call60 rfl fun F => ?_
 unfold qcn at hm
 refine cb hm fun x7 q7 hm => cg0 (qdr q7 :) ?_
 refine qaw ?_
 refine cs rfl rfl hm ?_ ?_ <;> intro w8 hm
 refine qas rfl ?_
 exact eE hm
 refine bsO (len := 1) (enc := eU) (l := ([(34 : UInt8)] : Str)) (cl := [.int .u8 34]) qbe rfl rfl (fun _ _ => rfl) rfl rfl rfl ?_ fun bv => ?_
 · conv => whnf
   refine cT ?_
   first | done | rfl
 refine ro (qa0 rfl ?_)
 obtain ⟨aZ, hm⟩ := qax hm
 obtain ⟨s0, aT, hm⟩ := bnd hm
 refine lD (σ := (Str) × Option Addr × Nat) ([4,5] ++ rg 13 23) [1] (fun i0 => [(13, .int .i64 (i0 : Int))]) (fun (t0, aU, aV) => [(4, .slice aU t0.length aV)]) (fun (t0, aU, aV) => [qau eU aU 5 1 aV t0]) (fun (t0, aU, aV) => (0 < t0.length → Has aU) ∧ True) (fun i0 (t0, aU, aV) => syntax_Quote_L0 (s.drop i0) i0 t0 = some s0) (fun (t0, aU, aV) => t0 = s0) (fun i0 => s.length - i0) 0 (_, _, _) aT (And.intro qe (And.intro ?_ ?_))
 clear aT
 rintro i0 ⟨ac, bl, bh⟩ ⟨bb, _⟩ aT j0
 conv at aT => whnf
 refine qac rfl ?_
 refine qae ?_ ?_ <;> intro w0
 obtain ⟨e0, aW, br⟩ := ltx w0
 rw [br, syntax_Quote_L0.eq_2] at aT
 refine qal rfl ?_
 refine qah rfl ?_
 refine qay rfl (nn _) aW (qaf ?_)
 obtain ⟨bw, aX, aT⟩ := bnd aT
 refine cS aX (fun aS aX => ?_) fun aS aX => ?_
 refine ct aS (ct aS (ct aS (ct aS (qac rfl (cT ?_)))))
 replace aT := ift (si aX).symm aT
 refine bsO (len := 1) (enc := eU) (l := ([(92 : UInt8)] : Str)) (cl := [.int .u8 92]) qbe rfl rfl (fun _ _ => rfl) rfl rfl rfl ?_ fun bn => ?_
 · conv => whnf
   refine cT ?_
   first | done | rfl
 obtain ⟨ba, aT⟩ := qax aT
 refine apE rfl r1 qbe (qat rfl r0 rfl (fun _ => rfl) (fun _ => rfl)) ba ?_
 intro bo bp bt
 refine qay rfl (nn _) aW ?_
 refine bsO (len := 1) (enc := eU) (l := ([e0] : Str)) (cl := [.int .u8 (e0.toNat : Int)]) qbe rfl rfl (fun _ _ => rfl) rfl rfl rfl ?_ fun bd => ?_
 · conv => whnf
   refine cT ?_
   first | done | rfl
 obtain ⟨aY, aT⟩ := qax aT
 refine apE rfl r1 qbe (qat rfl r0 rfl (fun _ => rfl) (fun _ => rfl)) aY ?_
 intro bm bf bj
 refine qam (qbj aW aZ) ?_
 exact eR aT (_, _, _, _)
 refine cf aS (cf aS (qay rfl (nn _) aW (cf aS (qaf (cf aS (qac rfl ?_))))))
 refine qae ?_ ?_ <;> intro bg
 replace aT := ift ((si aX).symm.trans bg) aT
 refine bsO (len := 1) (enc := eU) (l := ([(92 : UInt8)] : Str)) (cl := [.int .u8 92]) qbe rfl rfl (fun _ _ => rfl) rfl rfl rfl ?_ fun bn => ?_
 · conv => whnf
   refine cT ?_
   first | done | rfl
 obtain ⟨ba, aT⟩ := qax aT
 refine apE rfl r1 qbe (qat rfl r0 rfl (fun _ => rfl) (fun _ => rfl)) ba ?_
 intro bo bp bt
 refine qay rfl (nn _) aW ?_
 refine bsO (len := 1) (enc := eU) (l := ([e0] : Str)) (cl := [.int .u8 (e0.toNat : Int)]) qbe rfl rfl (fun _ _ => rfl) rfl rfl rfl ?_ fun bd => ?_
 · conv => whnf
   refine cT ?_
   first | done | rfl
 obtain ⟨aY, aT⟩ := qax aT
 refine apE rfl r1 qbe (qat rfl r0 rfl (fun _ => rfl) (fun _ => rfl)) aY ?_
 intro bm bf bj
 refine qam (qbj aW aZ) ?_
 exact eR aT (_, _, _, _)
 replace aT := qa7 ((si aX).symm.trans bg) aT
 refine qay rfl (nn _) aW ?_
 refine bsO (len := 1) (enc := eU) (l := ([e0] : Str)) (cl := [.int .u8 (e0.toNat : Int)]) qbe rfl rfl (fun _ _ => rfl) rfl rfl rfl ?_ fun bd => ?_
 · conv => whnf
   refine cT ?_
   first | done | rfl
 obtain ⟨aY, aT⟩ := qax aT
 refine apE rfl r1 qbe (qat rfl r0 rfl (fun _ => rfl) (fun _ => rfl)) aY ?_
 intro bm bf bj
 refine qam (qbj aW aZ) ?_
 exact eR aT (_, _, _, _)
 rw [lty w0, syntax_Quote_L0.eq_1] at aT
 refine cT ?_
 exact eM aT (_, _, _)
 rintro ⟨t0, aU, aV⟩ ⟨bc, _⟩ rfl j0
 refine bsO (len := 1) (enc := eU) (l := ([(34 : UInt8)] : Str)) (cl := [.int .u8 34]) qbe rfl rfl (fun _ _ => rfl) rfl rfl rfl ?_ fun bz => ?_
 · conv => whnf
   refine cT ?_
   first | done | rfl
 obtain ⟨bu, hm⟩ := qax hm
 refine apE rfl r1 qbe (qat rfl r0 rfl (fun _ => rfl) (fun _ => rfl)) bu ?_
 intro bA bB bC
 refine ro (qdm rfl r0 rfl rfl rfl ?_)
 exact eE hm

def vary_Key_L2 : Nat → Nat → (List Str) → Option ((List Str))
  | 0, _, aS => some aS
  | aU + 1, i2, aS =>
    (ix aS (i2 : Int)).bind fun aV =>
    (qc2 aV).bind fun aT =>
    (ix aS (i2 : Int)).bind fun aW =>
    vary_Key_L2 aU (i2 + 1) (aS.set (((i2 : Int)).toNat) aT)
def vary_Key_L0 (f : (List Jc)) : List Str → Nat → (List Str) → Option ((List Str))
  | [], _, ac => some ac
  | e0 :: aU, i0, ac =>
    (Jcu f e0).bind fun aS =>
    if decide ((aS.length : Int) = 0) then
    (chk (ac.length + [e0].length ≤ lim)).bind fun _ =>
    vary_Key_L0 f aU (i0 + 1) (ac ++ [e0])
    else
    (chk (InI (aS.length : Int))).bind fun _ =>
    (vary_Key_L2 (aS.length : Int).toNat 0 aS).bind fun t2 =>
    (qe4 t2 ([44] : Str)).bind fun aV =>
    (qcn aV).bind fun aT =>
    if aT.2.isSome then
    (chk (e0.length + ([61] : Str).length ≤ lim)).bind fun _ =>
    (chk ((e0 ++ ([61] : Str)).length + ([] : Str).length ≤ lim)).bind fun _ =>
    (chk (ac.length + ([((e0 ++ ([61] : Str)) ++ ([] : Str))]).length ≤ lim)).bind fun _ =>
    vary_Key_L0 f aU (i0 + 1) (ac ++ [((e0 ++ ([61] : Str)) ++ ([] : Str))])
    else
    (chk (e0.length + ([61] : Str).length ≤ lim)).bind fun _ =>
    (chk ((e0 ++ ([61] : Str)).length + aT.1.length ≤ lim)).bind fun _ =>
    (chk (ac.length + ([((e0 ++ ([61] : Str)) ++ aT.1)]).length ≤ lim)).bind fun _ =>
    vary_Key_L0 f aU (i0 + 1) (ac ++ [((e0 ++ ([61] : Str)) ++ aT.1)])
def vary_Key (names : (List Str)) (f : (List Jc)) : Option (Str) :=
  (chk (names.length ≤ qbg)).bind fun _ =>
  (vary_Key_L0 f names 0 []).bind fun t0 =>
  (qe4 t0 ([38] : Str)).bind fun aS =>
  some aS
theorem qf9 {names : (List Str)} {f : (List Jc)} {aa : Option Addr} {ab : Nat} {n0 : Nat} {af : Option Addr} {ag : Nat} {n1 : Nat} {K : Hp} {r : Str}
    (hm : vary_Key names f = some r) (hX : RdC eS K aa ab 1 names ∧ n0 = names.length ∧ RdC Jc.enc K af ag 2 f ∧ n1 = f.length) :
    Fn Tryz.prog 32 [.slice aa n0 ab, .slice af n1 ag] K [] (fun v K' H' => v = str r ∧ H' = []) := by
 obtain ⟨ae, bN, ai, bW⟩ := hX
 subst bN
 subst bW
 refine Fn.enter Tryz.func32 Tryz.call32 rfl fun F => ?_
 unfold vary_Key at hm
 refine ro (qak rfl ?_)
 obtain ⟨bn, hm⟩ := qax hm
 obtain ⟨s0, aS, hm⟩ := bnd hm
 refine qgy eS 9 1 ?_
 refine lD (σ := ((List Str)) × Option Addr × Nat) ([5] ++ rg 7 5 ++ rg 14 44) [1] (fun i0 => [(14, .int .i64 (i0 : Int))]) (fun (t0, aT, aU) => [(5, .slice aT t0.length aU)]) (fun (t0, aT, aU) => [qau eS aT 9 1 aU t0]) (fun (t0, aT, aU) => (0 < t0.length → Has aT) ∧ True) (fun i0 (t0, aT, aU) => vary_Key_L0 f (names.drop i0) i0 t0 = some s0) (fun (t0, aT, aU) => t0 = s0) (fun i0 => names.length - i0) 0 (_, _, _) aS (And.intro qe (And.intro ?_ ?_))
 clear aS
 rintro i0 ⟨ac, bw, bu⟩ ⟨bp, _⟩ aS j0
 conv at aS => whnf
 refine qac rfl ?_
 refine qae ?_ ?_ <;> intro w0
 obtain ⟨e0, aZ, bP⟩ := ltx w0
 rw [bP, vary_Key_L0.eq_2] at aS
 refine qal rfl ?_
 refine RStep.ofN (qad rfl rfl (qfy ae.rd aZ) (nn _) (qbm aZ) (ro (qci i0 0 _ _ ae.rd rfl (mp aZ) rfl rfl ?_)))
 refine cb aS fun bm bJ aS => ckx (Jcn bJ :) ?_
 rintro _ _ _ ⟨aY, bd, rfl, bG, rfl⟩
 refine ro (qak rfl (qaf ?_))
 refine cs rfl rfl aS ?_ ?_ <;> intro bZ aS
 refine bsO (len := 1) (enc := eS) (l := [e0]) (cl := [str e0]) qbr rfl rfl (fun _ _ => rfl) rfl rfl rfl ?_ fun bX => ?_
 · conv => whnf
   refine cT ?_
   first | done | rfl
 obtain ⟨bK, aS⟩ := qax aS
 refine apE rfl r2 qbr (qat rfl r0 rfl (fun _ => rfl) (fun _ => rfl)) bK ?_
 intro co ce cm
 refine cT (qam (qbj aZ bn) ?_)
 exact eR aS (_, _, _, _)
 refine ro (qak rfl ?_)
 obtain ⟨bQ, aS⟩ := qax aS
 obtain ⟨s2, aV, aS⟩ := bnd aS
 refine lD (σ := ((List Str))) ([9] ++ rg 30 12) [1, 2] (fun i2 => [(30, .int .i64 (i2 : Int))]) (fun _ => []) (fun t2 => [qau eS aY 9 1 bd t2]) (fun t2 => (0 < t2.length → Has aY) ∧ bm.length = t2.length) (fun i2 t2 => vary_Key_L2 ((bm.length : Int).toNat - i2) i2 t2 = some s2) (fun t2 => t2 = s2) (fun i2 => (bm.length : Int).toNat - i2) 0 _ aV (And.intro qe (And.intro ?_ ?_))
 clear aV
 rintro i2 bo ⟨aW, aX⟩ aV j2
 conv at aV => whnf
 refine qac rfl ?_
 refine qae ?_ ?_ <;> intro w2
 rw [ltn w2, vary_Key_L2.eq_2] at aV
 refine qal rfl ?_
 obtain ⟨cj, bD, bl, aV⟩ := ixb aV
 refine RStep.ofN (qad rfl rfl (qcm aW bl) bD (qaz aX bD bl) (ro (qby (i := ((i2 : Int)).toNat) (o := 0) r0 rfl bl rfl rfl ?_)))
 refine cb aV fun bz bT aV => cg0 (qg0 bT :) ?_
 obtain ⟨bM, bF, bf, aV⟩ := ixb aV
 refine RStep.ofN (qad rfl rfl (qcm aW bf) bF (qaz aX bF bf) ?_)
 refine qd8 (o := 0) (y := bz) bM r0 rfl bf rfl (by (conv => whnf); exact ⟨rfl, rfl, (nl rfl), rfl, rfl, rfl⟩) ?_
 refine qam (qio w2 bQ) ?_
 exact rd (i2 + 1, (bo.set (((i2 : Int)).toNat) bz)) ⟨rfl, trivial⟩ rfl (pf rfl) lr (qpd w2) ⟨⟨(by first | simpa using aW | exact fun _ => ⟨_, _, rfl⟩), ((aX).trans List.length_set.symm)⟩, aV⟩
 rw [lto w2, vary_Key_L2.eq_1] at aV
 refine cT ?_
 exact eM aV _
 rintro t2 ⟨bv, bc⟩ rfl j2
 refine cb aS fun cn bL aS => ck0 (Fn.lend Tryz.call48 (fun bt bH ba => (qia bL ba bc)) (by exact fun _ _ _ _ h => h)) ?_
 rintro _ _ _ ⟨_, rfl, rfl, rfl⟩
 refine cb aS fun bC bU aS => cg0 (qf8 bU :) ?_
 refine qa5 rfl ?_
 refine cs rfl rfl aS ?_ ?_ <;> intro ca aS
 obtain ⟨bj, aS⟩ := qax aS
 refine qbd bj ?_
 obtain ⟨bh, aS⟩ := qax aS
 refine qbd bh ?_
 refine bsO (len := 1) (enc := eS) (l := [((e0 ++ ([61] : Str)) ++ ([] : Str))]) (cl := [str ((e0 ++ ([61] : Str)) ++ ([] : Str))]) qbr rfl rfl (fun _ _ => rfl) rfl rfl rfl ?_ fun bS => ?_
 · conv => whnf
   refine cT ?_
   first | done | rfl
 obtain ⟨bg, aS⟩ := qax aS
 refine apE rfl r2 qbr (qat rfl r0 rfl (fun _ => rfl) (fun _ => rfl)) bg ?_
 intro bV bO bR
 refine qam (qbj aZ bn) ?_
 exact eR aS (_, _, _, _)
 obtain ⟨bj, aS⟩ := qax aS
 refine qbd bj ?_
 obtain ⟨bh, aS⟩ := qax aS
 refine qbd bh ?_
 refine bsO (len := 1) (enc := eS) (l := [((e0 ++ ([61] : Str)) ++ bC.1)]) (cl := [str ((e0 ++ ([61] : Str)) ++ bC.1)]) qbr rfl rfl (fun _ _ => rfl) rfl rfl rfl ?_ fun bS => ?_
 · conv => whnf
   refine cT ?_
   first | done | rfl
 obtain ⟨bg, aS⟩ := qax aS
 refine apE rfl r2 qbr (qat rfl r0 rfl (fun _ => rfl) (fun _ => rfl)) bg ?_
 intro bV bO bR
 refine qam (qbj aZ bn) ?_
 exact eR aS (_, _, _, _)
 rw [lty w0, vary_Key_L0.eq_1] at aS
 refine cT ?_
 exact eM aS (_, _, _)
 rintro ⟨t0, aT, aU⟩ ⟨bB, _⟩ rfl j0
 refine cb hm fun bY bI hm => ck0 (Fn.lend Tryz.call48 (fun bA br bb => (qia bI bb rfl)) (by exact fun _ _ _ _ h => h)) ?_
 rintro _ _ _ ⟨_, rfl, rfl, rfl⟩
 exact eE hm

def tenant_Key (n : Nat) (p : Jx) (f : (List Jc)) : Option (Str) :=
  if decide ((p.Vary.length : Int) = 0) then
  (qbl n p).bind fun aT =>
  some aT
  else
  (qbl n p).bind fun al =>
  (chk (al.length + ([32] : Str).length ≤ lim)).bind fun _ =>
  (vary_Key p.Vary f).bind fun aS =>
  (chk ((al ++ ([32] : Str)).length + aS.length ≤ lim)).bind fun _ =>
  some ((al ++ ([32] : Str)) ++ aS)
theorem qej {n : Nat} {p : Jx} {f : (List Jc)} {aa : Option Addr} {ab : Nat} {ah : Option Addr} {ak : Nat} {am : Option Addr} {ar : Nat} {af : Option Addr} {ag : Nat} {n1 : Nat} {K : Hp} {r : Str}
    (hm : tenant_Key n p f = some r) (hX : RdC Jc.enc K aa ab 2 p.Ao ∧ RdC eS K ah ak 1 p.Vary ∧ RdC eS K am ar 1 p.Ah ∧ RdC Jc.enc K af ag 2 f ∧ n1 = f.length ∧ GG K) :
    Fn Tryz.prog 33 [.agg #[.int .i64 p.Tenant, .int .i64 p.TTL, .int .i64 p.Ai, str p.Asked.An, str p.Asked.Ae, str p.Asked.Af, .bool p.Asked.HasQuery, str p.Cache.An, str p.Cache.Ae, str p.Cache.Af, .bool p.Cache.HasQuery, .slice aa p.Ao.length ab, .slice ah p.Vary.length ak, .slice am p.Ah.length ar, .bool p.Ak, .bool p.Al], .slice af n1 ag] K [] (fun v K' H' => v = str r ∧ H' = []) := by
 obtain ⟨ae, aT, aS, ai, aY, hG⟩ := hX
 subst aY
 refine Fn.enter Tryz.func33 Tryz.call33 rfl fun F => ?_
 unfold tenant_Key at hm
 refine qar ?_
 intro b2
 refine fa rfl (ro (ld r0 rfl rfl (ro (qak rfl (qaf ?_)))))
 refine cs rfl rfl hm ?_ ?_ <;> intro w8 hm
 refine ro (qab r0 rfl (nl rfl) ?_)
 refine cb hm fun ba aZ hm => cgx (qbw aZ :) ?_
 exact eE hm
 refine qa3 ⟨⟨[], false⟩, _, [(_, _)], []⟩ (by kernel_rfl) ⟨Hp.Le.refl _, (pf rfl), ci0⟩ ?_
 refine qbx m0 rfl (nl rfl) ?_
 refine cb hm fun al aU hm => cgx (qbw aU :) ?_
 refine qk (pf rfl) ?_
 obtain ⟨aV, hm⟩ := qax hm
 refine qbd aV ?_
 refine fa rfl (qap m0 rfl rfl ?_)
 refine cb hm fun bb aW hm => cgx (qf9 aW :) ?_
 refine qk (pf rfl) ?_
 obtain ⟨aX, hm⟩ := qax hm
 refine qbd aX ?_
 exact eE hm

def Jch (n : Nat) (one : Jx) (two : Jx) (f : (List Jc)) : Option (Bool) :=
  (((if decide ((one.Vary.length : Int) > 20) then some true else (chk (InI ((one.Cache.Ae.length : Int) + (two.Cache.Ae.length : Int)))).bind fun _ =>
  (chk (InI (((one.Cache.Ae.length : Int) + (two.Cache.Ae.length : Int)) + (one.Cache.Af.length : Int)))).bind fun _ =>
  (chk (InI ((((one.Cache.Ae.length : Int) + (two.Cache.Ae.length : Int)) + (one.Cache.Af.length : Int)) + (two.Cache.Af.length : Int)))).bind fun _ =>
  some (decide (((((one.Cache.Ae.length : Int) + (two.Cache.Ae.length : Int)) + (one.Cache.Af.length : Int)) + (two.Cache.Af.length : Int)) > 4000))).bind fun bd =>
  (if bd then some true else (Jdi f).bind fun bc =>
  some (decide (bc > 4000))).bind fun aX =>
  (if aX then some true else (Jc4 n).bind fun bh =>
  some (!bh)).bind fun bg =>
  some bg) : Option (Bool)).bind fun aV =>
  if aV then
  (Jc4 n).bind fun bb =>
  some bb
  else
  (((Jbk n one.Cache).bind fun bf =>
  (if (!bf) then some true else (Jbk n two.Cache).bind fun aY =>
  some (!aY)).bind fun ba =>
  some ba) : Option (Bool)).bind fun aT =>
  if aT then
  some true
  else
  (qbl n one).bind fun aZ =>
  (qbl n two).bind fun bj =>
  if (!((decide (aZ = bj)) == (decide (one.Tenant = two.Tenant) && (decide (one.Cache.An = two.Cache.An) && (decide (one.Cache.Ae = two.Cache.Ae) && (decide (one.Cache.Af = two.Cache.Af) && (one.Cache.HasQuery == two.Cache.HasQuery))))))) then
  some false
  else
  (qbl n one).bind fun aU =>
  if decide ((one.Vary.length : Int) > 0) then
  (vary_Key one.Vary f).bind fun aW =>
  (chk (([32] : Str).length + aW.length ≤ lim)).bind fun _ =>
  (chk (aU.length + (([32] : Str) ++ aW).length ≤ lim)).bind fun _ =>
  (tenant_Key n one f).bind fun aS =>
  some (decide (aS = (aU ++ (([32] : Str) ++ aW))))
  else
  (tenant_Key n one f).bind fun aS =>
  some (decide (aS = aU))
theorem JdM {n : Nat} {one : Jx} {two : Jx} {f : (List Jc)} {aa : Option Addr} {ab : Nat} {ah : Option Addr} {ak : Nat} {am : Option Addr} {ar : Nat} {af : Option Addr} {ag : Nat} {aH : Option Addr} {aI : Nat} {aJ : Option Addr} {aK : Nat} {ao : Option Addr} {aq : Nat} {n2 : Nat} {K : Hp} {r : Bool}
    (hm : Jch n one two f = some r) (hX : RdC Jc.enc K aa ab 2 one.Ao ∧ RdC eS K ah ak 1 one.Vary ∧ RdC eS K am ar 1 one.Ah ∧ RdC Jc.enc K af ag 2 two.Ao ∧ RdC eS K aH aI 1 two.Vary ∧ RdC eS K aJ aK 1 two.Ah ∧ RdC Jc.enc K ao aq 2 f ∧ n2 = f.length ∧ GG K) :
    Fn Tryz.prog 9 [.agg #[.int .i64 one.Tenant, .int .i64 one.TTL, .int .i64 one.Ai, str one.Asked.An, str one.Asked.Ae, str one.Asked.Af, .bool one.Asked.HasQuery, str one.Cache.An, str one.Cache.Ae, str one.Cache.Af, .bool one.Cache.HasQuery, .slice aa one.Ao.length ab, .slice ah one.Vary.length ak, .slice am one.Ah.length ar, .bool one.Ak, .bool one.Al], .agg #[.int .i64 two.Tenant, .int .i64 two.TTL, .int .i64 two.Ai, str two.Asked.An, str two.Asked.Ae, str two.Asked.Af, .bool two.Asked.HasQuery, str two.Cache.An, str two.Cache.Ae, str two.Cache.Af, .bool two.Cache.HasQuery, .slice af two.Ao.length ag, .slice aH two.Vary.length aI, .slice aJ two.Ah.length aK, .bool two.Ak, .bool two.Al], .slice ao n2 aq] K [] (fun v K' H' => v = .bool r ∧ H' = []) := by
 obtain ⟨ae, br, bn, ai, bm, bl, bo, bA, hG⟩ := hX
 subst bA
 refine Fn.enter Tryz.func9 Tryz.call9 rfl fun F => ?_
 unfold Jch at hm
 refine qar ?_
 intro b3
 refine qar ?_
 intro b4
 obtain ⟨bg, aT, hm⟩ := bnd hm
 refine jR (σ := Bool) (rg 9 35) (fun bd => [(43, .bool bd)]) (fun bd => bd = bg) ?_ ?_
 refine qah rfl ?_
 refine fa rfl (ro (ld r1 rfl rfl (ro (qak rfl ?_))))
 obtain ⟨bT, bb, aT⟩ := bnd aT
 refine cS bb (fun aS bb => ?_) fun aS bb => ?_
 refine ct aS (ct aS (ct aS (ct aS (ct aS (ct aS (ct aS (ct aS ?_)))))))
 refine ct aS (ct aS (ct aS (ct aS (ct aS (ct aS (ct aS (ct aS ?_)))))))
 refine ct aS (ct aS (ct aS (ct aS ?_)))
 obtain ⟨bt, ba, aT⟩ := bnd aT
 replace ba := ift (si bb).symm ba
 refine cT (cT (cT (cT ?_)))
 obtain ⟨bp, aZ, aT⟩ := bnd aT
 replace aZ := ift (si ba).symm aZ
 refine cT (cT (cT ?_))
 exact eMq aT _ ⟨bq (si aZ), trivial⟩
 refine fa rfl (cf aS (fa rfl (cf aS (ro (ld r1 rfl rfl (cf aS (ro (qa0 rfl (cf aS ?_)))))))))
 refine fa rfl (cf aS (fa rfl (cf aS (ro (ld r0 rfl rfl (cf aS (ro (qa0 rfl (cf aS ?_)))))))))
 obtain ⟨bv, bb⟩ := qax bb
 refine qam bv (cf aS (fa rfl (cf aS (fa rfl (cf aS (ro (ld r1 rfl rfl (cf aS ?_))))))))
 refine ro (qa0 rfl (cf aS ?_))
 obtain ⟨bB, bb⟩ := qax bb
 refine qam bB (cf aS (fa rfl (cf aS (fa rfl (cf aS (ro (ld r0 rfl rfl (cf aS ?_))))))))
 refine ro (qa0 rfl (cf aS ?_))
 obtain ⟨bD, bb⟩ := qax bb
 refine qam bD (cf aS (cf aS ?_))
 obtain ⟨bt, ba, aT⟩ := bnd aT
 refine qae ?_ ?_ <;> intro aW
 replace ba := ift ((si bb).symm.trans aW) ba
 refine ct aW (ct aW (ct aW ?_))
 obtain ⟨bp, aZ, aT⟩ := bnd aT
 replace aZ := ift (si ba).symm aZ
 refine cT (cT (cT ?_))
 exact eMq aT _ ⟨bq (si aZ), trivial⟩
 replace ba := qa7 ((si bb).symm.trans aW) ba
 refine cf aW ?_
 refine cb ba fun bZ bQ ba => cgx (Jeq bQ :) ?_
 refine cf aW (cf aW ?_)
 obtain ⟨bp, aZ, aT⟩ := bnd aT
 refine qae ?_ ?_ <;> intro aY
 replace aZ := ift ((si ba).symm.trans aY) aZ
 refine ct aY (ct aY ?_)
 exact eMq aT _ ⟨bq (si aZ), trivial⟩
 replace aZ := qa7 ((si ba).symm.trans aY) aZ
 refine cb aZ fun co bI aZ => cgx (JdL bI :) ?_
 refine cf aY (qaw (cf aY ?_))
 exact eMq aT _ ⟨bq (si aZ), trivial⟩
 rintro bd rfl bO
 refine cs rfl rfl hm ?_ ?_ <;> intro bS hm
 refine cb hm fun cm bG hm => cgx (JdL bG :) ?_
 exact eE hm
 obtain ⟨bj, aX, hm⟩ := bnd hm
 refine jR (σ := Bool) (rg 45 10) (fun bc => [(54, .bool bc)]) (fun bc => bc = bj) ?_ ?_
 refine qah rfl ?_
 refine fa rfl (ro (qab r1 rfl (nl rfl) ?_))
 refine cb aX fun bW bK aX => cgx (JcR bK :) ?_
 refine qaw ?_
 obtain ⟨bY, bf, aX⟩ := bnd aX
 refine cS bf (fun aV bf => ?_) fun aV bf => ?_
 refine ct aV (ct aV (ct aV (ct aV ?_)))
 exact eMq aX _ ⟨bq (si bf), trivial⟩
 refine fa rfl (cf aV (ro (qab r0 rfl (nl rfl) (cf aV ?_))))
 refine cb bf fun bV bP bf => cgx (JcR bP :) ?_
 refine cf aV (qaw (cf aV ?_))
 exact eMq aX _ ⟨bq (si bf), trivial⟩
 rintro bc rfl bM
 refine cs rfl rfl hm ?_ ?_ <;> intro ce hm
 exact eE hm
 refine jR (σ := Unit) ([7] ++ rg 55 12) (fun _ => [(7, .bool (decide (one.Tenant = two.Tenant) && (decide (one.Cache.An = two.Cache.An) && (decide (one.Cache.Ae = two.Cache.Ae) && (decide (one.Cache.Af = two.Cache.Af) && (one.Cache.HasQuery == two.Cache.HasQuery))))))]) (fun bw => True) ?_ ?_
 refine qah rfl ?_
 refine fa rfl (ro (ld r1 rfl rfl (fa rfl (ro (ld r0 rfl rfl (qaf ?_))))))
 refine qae ?_ ?_ <;> intro aU
 refine fa rfl (ct aU (ro (qab r1 rfl (nl rfl) (ct aU (fa rfl (ct aU (ro (qab r0 rfl (nl rfl) (ct aU ?_)))))))))
 refine qkm (b := (decide (one.Cache.An = two.Cache.An) && (decide (one.Cache.Ae = two.Cache.Ae) && (decide (one.Cache.Af = two.Cache.Af) && (one.Cache.HasQuery == two.Cache.HasQuery))))) rfl (by kernel_rfl) (by kernel_rfl) (by kernel_rfl) rfl ?_
 refine ct aU ?_
 exact eMt () ⟨bq (qcr (b := (decide (one.Cache.An = two.Cache.An) && (decide (one.Cache.Ae = two.Cache.Ae) && (decide (one.Cache.Af = two.Cache.Af) && (one.Cache.HasQuery == two.Cache.HasQuery))))) aU), trivial⟩
 refine cf aU (cf aU (cf aU (cf aU (cf aU ?_))))
 exact eMt () ⟨bq (((qa9 aU)).symm), trivial⟩
 rintro _ _ bC
 refine qa3 ⟨⟨[], false⟩, _, [(_, _), (_, _)], []⟩ (by kernel_rfl) ⟨Hp.Le.refl _, (sc [1,0] rfl), ci0⟩ ?_
 refine qbx m0 rfl (nl rfl) ?_
 refine cb hm fun bX bF hm => cgx (qbw bF :) ?_
 refine qk (sc [1,0] rfl) ?_
 refine qbx m1 rfl (nl rfl) ?_
 refine cb hm fun bU bz hm => cgx (qbw bz :) ?_
 refine qk (sc [1,0] rfl) ?_
 refine qaq (qhw rfl ?_)
 refine cs rfl rfl hm ?_ ?_ <;> intro cj hm
 exact eE hm
 refine ro (qab r1 rfl (nl rfl) ?_)
 refine cb hm fun ca bH hm => cgx (qbw bH :) ?_
 refine fa rfl (ro (ld r1 rfl rfl (ro (qak rfl ?_))))
 refine cs rfl rfl hm ?_ ?_ <;> intro bR hm
 refine fa rfl (ro (ld r1 rfl rfl ?_))
 refine cb hm fun cn bN hm => cgx (qf9 bN :) ?_
 obtain ⟨bJ, hm⟩ := qax hm
 refine qbd bJ ?_
 obtain ⟨bL, hm⟩ := qax hm
 refine qbd bL ?_
 refine ro (qab r1 rfl (nl rfl) ?_)
 refine cb hm fun bu bh hm => cgx (qej bh :) ?_
 refine qaq ?_
 exact eE hm
 refine ro (qab r1 rfl (nl rfl) ?_)
 refine cb hm fun bu bh hm => cgx (qej bh :) ?_
 refine qaq ?_
 exact eE hm
