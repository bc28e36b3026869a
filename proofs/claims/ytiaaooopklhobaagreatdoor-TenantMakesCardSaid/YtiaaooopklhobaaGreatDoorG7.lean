/- Functions of the program: mirrors, and that a call returns what the mirror says. Printed by gen.py. -/
import Derived.Test.YtiaaooopklhobaaGreatDoorG6
set_option linter.unusedVariables false
set_option linter.unusedSimpArgs false
open Go Go.SL Go.Proofs
noncomputable section
set_option maxRecDepth 1000000
set_option maxHeartbeats 8000000
def Jdg (n : Nat) : Option (Bool) :=
  (tenant_New n ([(⟨([101, 120, 97, 109, 112, 108, 101, 46, 99, 111, 109] : Str), 3, ([112, 97, 116, 104, 32, 61, 32, 34, 47, 118, 49, 34, 32, 43, 32, 112, 97, 116, 104, 59, 32, 116, 116, 108, 32, 54, 48, 59, 32, 116, 97, 103, 32, 34, 97, 108, 108, 34, 59] : Str)⟩ : Jt)])).bind fun x8 =>
  Option.elim x8.1 (
  ((if x8.2.2.isSome then
  some ()
  else
  some ()) : Option (Unit)).bind fun aY =>
  some false)
   fun o8 =>
  ((if x8.2.2.isSome then
  some true
  else
  some false) : Option (Bool)).bind fun aW =>
  if aW then
  some false
  else
  (qbw n o8 (⟨([71, 69, 84] : Str), ([47, 97, 63, 120, 61, 49] : Str), [(⟨([104, 111, 115, 116] : Str), ([101, 120, 97, 109, 112, 108, 101, 46, 99, 111, 109] : Str)⟩ : Jc)]⟩ : Jal)).bind fun aV =>
  (if (aV.2.isNone && decide (aV.1.TTL = 60)) then (qfb n aV.1).bind fun a8 =>
  some (decide (a8 = ([51, 32, 101, 120, 97, 109, 112, 108, 101, 46, 99, 111, 109, 47, 118, 49, 47, 97, 63, 120, 61, 49] : Str))) else some false).bind fun aX =>
  (if (aX && decide ((aV.1.Ah.length : Int) = 1)) then (ix aV.1.Ah 0).bind fun aZ =>
  some (decide (aZ = ([97, 108, 108] : Str))) else some false).bind fun a6 =>
  some a6
theorem JdX {n : Nat}  {K : Hp} {r : Bool}
    (hm : Jdg n = some r) (hG : GG K) :
    Fn Tryz.prog 11 [] K [] (fun v K' H' => v = .bool r ∧ H' = []) := by
 refine Fn.enter Tryz.func11 Tryz.call11 rfl fun F => ?_
 unfold Jdg at hm
 refine qak rfl rfl (cT (cT (cT ?_)))
 refine bsO (len := 1) (enc := Jt.enc) (l := [(⟨([101, 120, 97, 109, 112, 108, 101, 46, 99, 111, 109] : Str), 3, ([112, 97, 116, 104, 32, 61, 32, 34, 47, 118, 49, 34, 32, 43, 32, 112, 97, 116, 104, 59, 32, 116, 116, 108, 32, 54, 48, 59, 32, 116, 97, 103, 32, 34, 97, 108, 108, 34, 59] : Str)⟩ : Jt)]) (cl := [str ([101, 120, 97, 109, 112, 108, 101, 46, 99, 111, 109] : Str), .int .i64 3, str ([112, 97, 116, 104, 32, 61, 32, 34, 47, 118, 49, 34, 32, 43, 32, 112, 97, 116, 104, 59, 32, 116, 116, 108, 32, 54, 48, 59, 32, 116, 97, 103, 32, 34, 97, 108, 108, 34, 59] : Str)]) qwa rfl rfl (fun _ _ => rfl) rfl rfl rfl ?_ fun b7 => ?_
 · conv => whnf
   refine cT ?_
   first | done | rfl
 refine fF Tryz.call12 r0 fun bU bF bS => ?_
 refine cb hm fun x8 q8 hm => cfx (qfn q8 :) ?_
 rintro v8 K8 H8 l8 p8
 rcases hq8 : x8.1 with _ | o8
 rw [hq8] at p8 hm
 obtain ⟨rfl, rfl⟩ := p8
 replace hm := qxc hm
 obtain ⟨bz, bb, hm⟩ := bnd hm
 refine jR (σ := Unit) (rg 12 6) (fun _ => [(17, .bool true)]) (fun bB => bB = bz) ?_ ?_
 refine qaj rfl ?_
 refine qa7 rfl ?_
 refine cS bb (fun aX bb => ?_) fun aX bb => ?_
 refine ct aX (ct aX ?_)
 exact eM bb _
 refine cf aX ?_
 refine qgs rfl ?_
 refine cf aX ?_
 exact eM bb _
 rintro _ rfl ca
 refine qac rfl (cT ?_)
 exact eE hm
 rw [hq8] at p8 hm
 obtain ⟨bY, bV, bR, rfl, bA, rfl⟩ := p8
 replace hm := qxd hm
 obtain ⟨bG, ba, hm⟩ := bnd hm
 refine jR (σ := Bool) (rg 12 6) (fun bh => [(17, .bool bh)]) (fun bh => bh = bG) ?_ ?_
 refine qaj rfl ?_
 refine qa7 rfl ?_
 refine cS ba (fun aX ba => ?_) fun aX ba => ?_
 refine ct aX (ct aX ?_)
 exact eM ba _
 refine cf aX ?_
 refine qdw rfl ?_
 refine cf aX ?_
 exact eM ba _
 rintro bh rfl bX
 refine cs rfl rfl hm ?_ ?_ <;> intro cn hm
 exact eE hm
 refine qak rfl rfl (cT (cT ?_))
 refine bsO (len := 1) (enc := Jc.enc) (l := [(⟨([104, 111, 115, 116] : Str), ([101, 120, 97, 109, 112, 108, 101, 46, 99, 111, 109] : Str)⟩ : Jc)]) (cl := [str ([104, 111, 115, 116] : Str), str ([101, 120, 97, 109, 112, 108, 101, 46, 99, 111, 109] : Str)]) qhu rfl rfl (fun _ _ => rfl) rfl rfl rfl ?_ fun ce => ?_
 · conv => whnf
   refine cT ?_
   first | done | rfl
 refine qak rfl rfl (cT (cT (cT ?_)))
 refine fF Tryz.call13 r0 fun bu a8 bg => ?_
 refine cb hm fun cd bZ hm => ck0 (qdg (d := o8) (r' := (⟨([71, 69, 84] : Str), ([47, 97, 63, 120, 61, 49] : Str), [(⟨([104, 111, 115, 116] : Str), ([101, 120, 97, 109, 112, 108, 101, 46, 99, 111, 109] : Str)⟩ : Jc)]⟩ : Jal)) bZ ⟨(MR.mono JH.R_ok bA a8), bg, (hG.mono ((bF.trans l8).trans a8))⟩) ?_
 rintro _ _ _ ⟨bM, bJ, bQ, bO, bH, bL, rfl, bN, bP, bK, rfl⟩
 refine qai rfl fun b4 => ?_
 refine qaa r0 rfl ⟨rfl, rfl, (nl rfl), ?_⟩
 refine qaj rfl ?_
 refine qe7 rfl ?_
 refine qaf ?_ ?_ <;> intro aY
 refine fa rfl (ct aY (ro (ld r0 rfl rfl (ct aY (qag (ct aY ?_))))))
 obtain ⟨bW, bf, hm⟩ := bnd hm
 refine qaf ?_ ?_ <;> intro aZ
 replace bf := ift (qc1 aY aZ) bf
 refine ro (qab r0 rfl (nl rfl) (ct aZ ?_))
 refine fF Tryz.call31 r1 fun bo bj bt => ?_
 refine fF Tryz.call31 r1 fun bm bn bp => ?_
 refine fF Tryz.call31 r1 fun bw bv bc => ?_
 refine cb bf fun cm bT bf => cgx (qi0 bT :) ?_
 refine ct aZ (qaq (ct aZ ?_))
 refine qaf ?_ ?_ <;> intro aW
 refine fa rfl (ct aW (ro (ld r0 rfl rfl (ct aW (ro (qal rfl (ct aW (qag (ct aW ?_)))))))))
 obtain ⟨bC, a6, hm⟩ := bnd hm
 refine qaf ?_ ?_ <;> intro aV
 replace a6 := ift (qc1 ((si bf).symm.trans aW) aV) a6
 refine fa rfl (ct aV (ro (ld r0 rfl rfl (ct aV ?_))))
 obtain ⟨cj, bI, bD, a6⟩ := ixb a6
 refine RStep.ofN (qae rfl rfl (qea bc.rd bD) bI (qaw rfl bI bD) (ct aV (ro (qb1 ((0 : Int).toNat) 0 _ _ bc.rd rfl (mp bD) rfl rfl (ct aV (qaq (ct aV ?_)))))))
 exact bE (si a6) (eE hm)
 replace a6 := qbd (qc2 ((si bf).symm.trans aW) aV) a6
 refine cf aV (cf aV (cf aV (cf aV (cf aV ?_))))
 exact bE (si a6) (eE hm)
 refine cf aW (cf aW (cf aW (cf aW ?_)))
 obtain ⟨bC, a6, hm⟩ := bnd hm
 replace a6 := qbd (qbh ((si bf).symm.trans aW)) a6
 refine cF (cF (cF (cF (cF (cF ?_)))))
 exact bE (si a6) (eE hm)
 replace bf := qbd (qc2 aY aZ) bf
 refine cf aZ (cf aZ (cf aZ (cF (cF (cF (cF (cF ?_)))))))
 obtain ⟨bC, a6, hm⟩ := bnd hm
 replace a6 := qbd (qbh (si bf).symm) a6
 refine cF (cF (cF (cF (cF (cF ?_)))))
 exact bE (si a6) (eE hm)
 refine cf aY (cf aY (cf aY ?_))
 obtain ⟨bW, bf, hm⟩ := bnd hm
 replace bf := qbd (qbh aY) bf
 refine cF (cF (cF (cF (cF (cF (cF (cF ?_)))))))
 refine cF ?_
 obtain ⟨bC, a6, hm⟩ := bnd hm
 replace a6 := qbd (qbh (si bf).symm) a6
 refine cF (cF (cF (cF (cF (cF ?_)))))
 exact bE (si a6) (eE hm)

def Jct (e : Err) : Option (Int) :=
  if e.isNone then
  some 0
  else
  if (!e.isSome) then
  some (-1)
  else
  some (e.getD 0)
theorem Jdh {e : Err} {K : Hp} {r : Int}
    (hm : Jct e = some r)  :
    Fn Tryz.prog 26 [qc3 48 e] K [] (fun v K' H' => v = .int .i64 r ∧ H' = []) := by
 refine Fn.enter Tryz.func26 Tryz.call26 rfl fun F => ?_
 unfold Jct at hm
 refine qe7 rfl ?_
 refine cs rfl rfl hm ?_ ?_ <;> intro w6 hm
 exact eE hm
 refine qxl rfl rfl rfl ?_
 refine qav ?_
 refine cs rfl rfl hm ?_ ?_ <;> intro aV hm
 exact eE hm
 exact eE hm

def Jb8 (l : (List Jt)) (am : Str × Err) : Nat → Nat → Option (Fl (Int) (Unit))
  | 0, _ => some (Fl.go ())
  | aW + 1, i0 =>
    (ix l (i0 : Int)).bind fun aV =>
    if decide (aV.An = am.1) then
    some (Fl.ret 8)
    else
    Jb8 l am aW (i0 + 1)
def Jc9 (n : Nat) (l : (List Jt)) (i : Int) : Option (Int) :=
  (ix l i).bind fun bc =>
  (Jcj bc.An).bind fun am =>
  (if am.2.isSome then some true else (ix l i).bind fun bm =>
  some (decide (am.1 ≠ bm.An))).bind fun aW =>
  if aW then
  some 8
  else
  (chk (InI i)).bind fun _ =>
  (Jb8 l am i.toNat 0).bind fun s0 => s0.el some fun t0 =>
  (((ix l i).bind fun bg =>
  (if decide (bg.Tenant < 0) then some true else (ix l i).bind fun bb =>
  some (decide (bb.Tenant > 15))).bind fun bf =>
  some bf) : Option (Bool)).bind fun aX =>
  if aX then
  some 1
  else
  (ix l i).bind fun ba =>
  (JbU n ba.Program).bind fun aV =>
  if aV.2.2.isSome then
  (Jct aV.2.2).bind fun bn =>
  some bn
  else
  (Jbp n aV.1).bind fun a6 =>
  if a6.2.isSome then
  (Jct a6.2).bind fun bj =>
  some bj
  else
  (JaT n aV.1).bind fun a8 =>
  if a8.2.isSome then
  (Jct a8.2).bind fun bh =>
  some bh
  else
  (Jba n aV.1).bind fun aZ =>
  if aZ.2.isSome then
  (Jct aZ.2).bind fun aY =>
  some aY
  else
  if decide (aZ.1 > 10000) then
  some 5
  else
  some 0
theorem JeD {n : Nat} {l : (List Jt)} {i : Int} {aa : Option Addr} {ab : Nat} {n0 : Nat} {K : Hp} {r : Int}
    (hm : Jc9 n l i = some r) (hX : RdC Jt.enc K aa ab 3 l ∧ n0 = l.length ∧ GG K) :
    Fn Tryz.prog 54 [.slice aa n0 ab, .int .i64 i] K [] (fun v K' H' => v = .int .i64 r ∧ H' = []) := by
 obtain ⟨ae, bN, hG⟩ := hX
 subst bN
 refine Fn.enter Tryz.func54 Tryz.call54 rfl fun F => ?_
 unfold Jc9 at hm
 obtain ⟨cz, bt, bh, hm⟩ := ixb hm
 refine RStep.ofN (qae rfl rfl (qea ae.rd bh) bt (qaw rfl bt bh) (qa8 rfl (qea ae.rd bh) (ro (qb1 ((i).toNat) 0 _ _ ae.rd rfl (mp bh) rfl rfl ?_))))
 refine cb hm fun am bL hm => cgx (Jdb bL :) ?_
 obtain ⟨bn, aY, hm⟩ := bnd hm
 refine jR (σ := Bool) (rg 24 11) (fun a6 => [(34, .bool a6)]) (fun a6 => a6 = bn) ?_ ?_
 replace aY := bsm aY
 refine qaj rfl ?_
 refine qa7 rfl ?_
 obtain ⟨ca, ba, aY⟩ := bnd aY
 refine cS ba (fun aW ba => ?_) fun aW ba => ?_
 refine ct aW (ct aW (ct aW (ct aW (ct aW (ct aW (ct aW ?_))))))
 exact eMq aY _ ⟨bq (si ba), trivial⟩
 refine cf aW (cf aW (cf aW ?_))
 obtain ⟨cu, bv, bj, ba⟩ := ixb ba
 refine RStep.ofN (qae rfl rfl (qea ae.rd bj) bv (qaw rfl bv bj) (cf aW (qa8 rfl (qea ae.rd bj) (cf aW (ro (qb1 ((i).toNat) 0 _ _ ae.rd rfl (mp bj) rfl rfl (cf aW (qbq (cf aW ?_)))))))))
 exact eMq aY _ ⟨bq (si ba), trivial⟩
 rintro a6 rfl bU
 refine cs rfl rfl hm ?_ ?_ <;> intro ce hm
 exact eE hm
 obtain ⟨bS, hm⟩ := qax hm
 obtain ⟨s0, aZ, hm⟩ := bnd hm
 refine lD (σ := (Unit)) ([4,7] ++ rg 36 11) [0] (fun i0 => [(36, .int .i64 (i0 : Int))]) (fun _ => []) (fun _ => []) (fun _ => True) (fun i0 _ => Jb8 l am (i.toNat - i0) i0 = some s0) (fun t0 => s0 = Fl.go t0) (fun i0 => i.toNat - i0) 0 () aZ (And.intro qe (And.intro ?_ ?_))
 clear aZ
 rintro i0 _ _ aZ j0
 conv at aZ => whnf
 refine qac rfl ?_
 refine qaf ?_ ?_ <;> intro w0
 rw [ltn w0, Jb8.eq_2] at aZ
 refine qam rfl ?_
 obtain ⟨cH, bz, bm, aZ⟩ := ixb aZ
 refine RStep.ofN (qae rfl rfl (qea ae.rd bm) bz (qaw rfl bz bm) (qa8 rfl (qea ae.rd bm) (ro (qb1 (((i0 : Int)).toNat) 0 _ _ ae.rd rfl (mp bm) rfl rfl (qaq ?_)))))
 refine cs rfl rfl aZ ?_ ?_ <;> intro cD aZ
 exact eE (er aZ hm)
 refine qan (qk5 w0 bS) ?_
 exact eR aZ (_, ())
 rw [lto w0, Jb8.eq_1] at aZ
 refine cT ?_
 exact eM aZ _
 rintro t0 _ rfl j0
 replace hm := elg hm
 obtain ⟨bo, aX, hm⟩ := bnd hm
 refine jR (σ := Bool) (rg 47 14) (fun a8 => [(60, .bool a8)]) (fun a8 => a8 = bo) ?_ ?_
 refine qaj rfl ?_
 obtain ⟨cB, bG, bc, aX⟩ := ixb aX
 refine RStep.ofN (qae rfl rfl (qea ae.rd bc) bG (qaw rfl bG bc) (qa8 rfl (qea ae.rd bc) (ro (qb1 ((i).toNat) 1 _ _ ae.rd rfl (mp bc) rfl rfl ?_))))
 obtain ⟨cj, bb, aX⟩ := bnd aX
 refine cS bb (fun aV bb => ?_) fun aV bb => ?_
 refine ct aV (ct aV (ct aV (ct aV (ct aV (ct aV ?_)))))
 exact eMq aX _ ⟨bq (si bb), trivial⟩
 refine cf aV (cf aV ?_)
 obtain ⟨bY, bu, bg, bb⟩ := ixb bb
 refine RStep.ofN (qae rfl rfl (qea ae.rd bg) bu (qaw rfl bu bg) (cf aV (qa8 rfl (qea ae.rd bg) (cf aV (ro (qb1 ((i).toNat) 1 _ _ ae.rd rfl (mp bg) rfl rfl (cf aV (cf aV ?_))))))))
 exact eMq aX _ ⟨bq (si bb), trivial⟩
 rintro a8 rfl bM
 refine cs rfl rfl hm ?_ ?_ <;> intro bZ hm
 exact eE hm
 obtain ⟨bX, bB, bf, hm⟩ := ixb hm
 refine RStep.ofN (qae rfl rfl (qea ae.rd bf) bB (qaw rfl bB bf) (qa8 rfl (qea ae.rd bf) (ro (qb1 ((i).toNat) 2 _ _ ae.rd rfl (mp bf) rfl rfl ?_))))
 refine cb hm fun cw bJ hm => cfx (Jdu bJ :) ?_
 rintro _ cy _ cd ⟨bF, bD, rfl, bA, rfl⟩
 refine qai rfl fun b8 => ?_
 refine qaa r0 rfl ⟨rfl, rfl, (nl rfl), ?_⟩
 refine qa7 rfl ?_
 refine cs rfl rfl hm ?_ ?_ <;> intro cA hm
 refine cb hm fun cG bK hm => cg0 (Jdh bK :) ?_
 exact eE hm
 refine ro (qab r0 rfl (nl rfl) ?_)
 refine cb hm fun cm bT hm => cgx (Jcp bT :) ?_
 refine qa7 rfl ?_
 refine cs rfl rfl hm ?_ ?_ <;> intro bW hm
 refine cb hm fun cr bR hm => cg0 (Jdh bR :) ?_
 exact eE hm
 refine ro (qab r0 rfl (nl rfl) ?_)
 refine cb hm fun cn bO hm => ckx (Jde bO :) ?_
 rintro _ _ _ ⟨bH, bw, rfl, bC, rfl⟩
 refine qa7 rfl ?_
 refine cs rfl rfl hm ?_ ?_ <;> intro cp hm
 refine cb hm fun cC bV hm => cg0 (Jdh bV :) ?_
 exact eE hm
 refine ro (qab r1 rfl (nl rfl) ?_)
 refine cb hm fun cI bI hm => cgx (Jdw bI :) ?_
 refine qa7 rfl ?_
 refine cs rfl rfl hm ?_ ?_ <;> intro cq hm
 refine cb hm fun bP bp hm => cg0 (Jdh bp :) ?_
 exact eE hm
 refine cs rfl rfl hm ?_ ?_ <;> intro bQ hm
 exact eE hm
 exact eE hm

def JbS (n : Nat) (l : (List Jt)) : List Jt → Nat → Option (Fl (Int × Int) (Unit))
  | [], _ => some (Fl.go ())
  | e0 :: aW, i0 =>
    (Jc9 n l (i0 : Int)).bind fun aV =>
    if decide (aV ≠ 0) then
    some (Fl.ret ((i0 : Int), aV))
    else
    JbS n l aW (i0 + 1)
def Jcg (n : Nat) (l : (List Jt)) : Option (Int × Int) :=
  (chk (l.length ≤ qa1)).bind fun _ =>
  (JbS n l l 0).bind fun s0 => s0.el some fun t0 =>
  some (0, 0)
theorem Jd7 {n : Nat} {l : (List Jt)} {aa : Option Addr} {ab : Nat} {n0 : Nat} {K : Hp} {r : Int × Int}
    (hm : Jcg n l = some r) (hX : RdC Jt.enc K aa ab 3 l ∧ n0 = l.length ∧ GG K) :
    Fn Tryz.prog 25 [.slice aa n0 ab] K [] (fun v K' H' => v = .tuple #[.int .i64 r.1, .int .i64 r.2] ∧ H' = []) := by
 obtain ⟨ae, aW, hG⟩ := hX
 subst aW
 refine Fn.enter Tryz.func25 Tryz.call25 rfl fun F => ?_
 unfold Jcg at hm
 refine ro (qal rfl ?_)
 obtain ⟨aY, hm⟩ := qax hm
 obtain ⟨s0, aV, hm⟩ := bnd hm
 refine lD (σ := (Unit)) ([2,3,4,5] ++ rg 8 11) [0] (fun i0 => [(8, .int .i64 (i0 : Int))]) (fun _ => []) (fun _ => []) (fun _ => True) (fun i0 _ => JbS n l (l.drop i0) i0 = some s0) (fun t0 => s0 = Fl.go t0) (fun i0 => l.length - i0) 0 () aV (And.intro qe (And.intro ?_ ?_))
 clear aV
 rintro i0 _ _ aV j0
 conv at aV => whnf
 refine qac rfl ?_
 refine qaf ?_ ?_ <;> intro w0
 obtain ⟨e0, aZ, a6⟩ := ltx w0
 rw [a6, JbS.eq_2] at aV
 refine qam rfl ?_
 refine cb aV fun ba aX aV => cgx (JeD aX :) ?_
 refine qbb (cs rfl rfl aV ?_ ?_) <;> intro a8 aV
 exact eE (er aV hm)
 refine qan (qbu aZ aY) ?_
 exact eR aV (_, ())
 rw [lty w0, JbS.eq_1] at aV
 refine cT ?_
 exact eM aV _
 rintro t0 _ rfl j0
 replace hm := elg hm
 exact eE hm

def tenant_Directory_Hosts (d : JJ) : Option ((List Str)) :=
  (qnp d.sites).bind fun x9 =>
  (qlf d.sites).bind fun aV =>
  some aV
theorem qdo {d : JJ} {b0 : Nat} {az : Nat} {aE : List (Str × EnD JH)} {K : Hp} {r : (List Str)}
    (hm : tenant_Directory_Hosts d = some r) (aJ : MR JH.R K aE d.sites) :
    Fn Tryz.prog 27 [.pointer (some ⟨b0, 0, none⟩)] K [Cells b0 78 [.map (some az)], qhl strK vAg az aE] (fun v K' H' => ∃ ar_0 : Option Addr, ∃ cr_0 : Nat, v = .slice ar_0 r.length cr_0 ∧ (0 < r.length → Has ar_0) ∧ H' = [OwnL eS ar_0 9 1 cr_0 r, Cells b0 78 [.map (some az)], qhl strK vAg az aE]) := by
 refine Fn.enter Tryz.func27 Tryz.call27 rfl fun F => ?_
 unfold tenant_Directory_Hosts at hm
 refine qdw rfl ?_
 refine qac rfl (cF (qah (fa rfl (ro (ld r0 rfl rfl ?_)))))
 refine cb hm fun x9 q9 hm => ck0 (qsb q9) ?_
 rintro _ _ _ ⟨B9, rfl, rfl⟩
 refine cb hm fun aZ aY hm => ck0 (qsc aY (MR.keys aJ)) ?_
 rintro _ _ _ ⟨aV, aW, rfl, aX, rfl⟩
 exact eE hm

def JaE (e0 : Str) : List Jt → Nat → Bool → Option (Bool)
  | [], _, aV => some aV
  | e2 :: aW, i2, aV =>
    JaE e0 aW (i2 + 1) (aV || decide (e2.An = e0))
def Ja0 (aH : (List Str)) (l : (List Jt)) : List Str → Nat → Option (Fl (Bool) (Unit))
  | [], _ => some (Fl.go ())
  | e0 :: aW, i0 =>
    (if decide ((i0 : Int) > 0) then (chk (InI ((i0 : Int) - 1))).bind fun _ =>
    (ix aH ((i0 : Int) - 1)).bind fun aX =>
    some (!Op.bytesLess aX e0) else some false).bind fun aV =>
    if aV then
    some (Fl.ret false)
    else
    (chk (l.length ≤ qa1)).bind fun _ =>
    (JaE e0 l 0 false).bind fun t2 =>
    if (!t2) then
    some (Fl.ret false)
    else
    Ja0 aH l aW (i0 + 1)
def Jb1 (n : Nat) (l : (List Jt)) : Option (Bool) :=
  (((Jda l (⟨([] : Str), ([] : Str), []⟩ : Jal)).bind fun a8 =>
  (if a8 then some true else (Jdg n).bind fun ba =>
  some (!ba)).bind fun aZ =>
  some aZ) : Option (Bool)).bind fun aX =>
  if aX then
  (Jdg n).bind fun am =>
  some am
  else
  (tenant_New n l).bind fun aV =>
  Option.elim aV.1 (
  (Jcg n l).bind fun aW =>
  if decide (aW.2 ≠ 0) then
  (if decide (aV.2.1 = aW.1) then (Jct aV.2.2).bind fun a6 =>
  some (decide (a6 = aW.2)) else some false).bind fun bb =>
  some bb
  else
  some false)
   fun aY =>
  (Jcg n l).bind fun aW =>
  if decide (aW.2 ≠ 0) then
  some false
  else
  if (decide (aV.2.1 ≠ 0) || aV.2.2.isSome) then
  some false
  else
  (tenant_Directory_Hosts aY).bind fun aH =>
  if decide ((aH.length : Int) ≠ (l.length : Int)) then
  some false
  else
  (chk (aH.length ≤ qa1)).bind fun _ =>
  (Ja0 aH l aH 0).bind fun s0 => s0.el some fun t0 =>
  some true
theorem JdT {n : Nat} {l : (List Jt)} {aa : Option Addr} {ab : Nat} {n0 : Nat} {K : Hp} {r : Bool}
    (hm : Jb1 n l = some r) (hX : RdC Jt.enc K aa ab 3 l ∧ n0 = l.length ∧ GG K) :
    Fn Tryz.prog 7 [.slice aa n0 ab] K [] (fun v K' H' => v = .bool r ∧ H' = []) := by
 obtain ⟨ae, bS, hG⟩ := hX
 subst bS
 refine Fn.enter Tryz.func7 Tryz.call7 rfl fun F => ?_
 unfold Jb1 at hm
 obtain ⟨bv, a8, hm⟩ := bnd hm
 refine jR (σ := Bool) (rg 14 7) (fun bc => [(20, .bool bc)]) (fun bc => bc = bv) ?_ ?_
 refine qaj rfl ?_
 refine qak rfl rfl ?_
 refine cb a8 fun cI bV a8 => cgx (Jev bV :) ?_
 obtain ⟨cC, bm, a8⟩ := bnd a8
 refine cS bm (fun ba bm => ?_) fun ba bm => ?_
 refine ct ba (ct ba ?_)
 exact eMq a8 _ ⟨bq (si bm), trivial⟩
 refine cb bm fun cG ca bm => cgx (JdX ca :) ?_
 refine cf ba (qav (cf ba ?_))
 exact eMq a8 _ ⟨bq (si bm), trivial⟩
 rintro bc rfl cj
 refine cs rfl rfl hm ?_ ?_ <;> intro cq hm
 refine cb hm fun am bQ hm => cgx (JdX bQ :) ?_
 exact eE hm
 refine cb hm fun bu bN hm => cfx (qfn bN :) ?_
 rintro cu cw cy bC bp
 rcases hq24 : bu.1 with _ | o24
 rw [hq24] at bp hm
 obtain ⟨rfl, rfl⟩ := bp
 replace hm := qxc hm
 refine cb hm fun bZ bz hm => cgx (Jd7 bz :) ?_
 refine qbb (cs rfl rfl hm ?_ ?_) <;> intro bP hm
 refine qaj rfl ?_
 refine qgs rfl ?_
 refine cT (cT (cT (qag (cT ?_))))
 obtain ⟨cp, bn, hm⟩ := bnd hm
 refine cS bn (fun aX bn => ?_) fun aX bn => ?_
 refine ct aX ?_
 refine cb bn fun cH bO bn => cg0 (Jdh bO :) ?_
 refine ct aX (ct aX (qag (ct aX ?_)))
 exact bE (si bn) (eE hm)
 refine cf aX (cf aX (cf aX (cf aX ?_)))
 exact bE (si bn) (eE hm)
 refine jR (σ := Unit) (rg 48 10) (fun _ => [(57, .bool true)]) (fun ce => True) ?_ ?_
 refine qaj rfl ?_
 refine qgs rfl ?_
 refine cT (cT (cT (cT (cT (cT ?_)))))
 exact eMt () ⟨rfl, trivial⟩
 rintro _ _ bR
 refine qac rfl (cT ?_)
 exact eE hm
 rw [hq24] at bp hm
 obtain ⟨bB, bK, bG, rfl, bI, rfl⟩ := bp
 replace hm := qxd hm
 refine cb hm fun bZ bz hm => cgx (Jd7 bz :) ?_
 refine qbb (cs rfl rfl hm ?_ ?_) <;> intro bP hm
 refine qaj rfl ?_
 refine qdw rfl ?_
 refine cF (cF (cF (cF (cF (cF (cF (cF ?_)))))))
 refine cF ?_
 exact eE hm
 refine jR (σ := Unit) (rg 48 10) (fun _ => [(57, .bool (decide (bu.2.1 ≠ 0) || bu.2.2.isSome))]) (fun bW => True) ?_ ?_
 refine qaj rfl ?_
 refine qdw rfl ?_
 refine cF (cF (qbb (cF ?_)))
 refine qaf ?_ ?_ <;> intro a6
 refine ct a6 (ct a6 ?_)
 exact eMt () ⟨bq (((qco a6)).symm), trivial⟩
 refine cf a6 (qa7 rfl (cf a6 ?_))
 exact eMt () ⟨bq (qid (b := bu.2.2.isSome) a6), trivial⟩
 rintro _ _ bT
 refine cs rfl rfl hm ?_ ?_ <;> intro cD hm
 exact eE hm
 refine cb hm fun aH bM hm => ckx (qdo bM :) ?_
 rintro _ _ _ ⟨bD, bJ, rfl, bh, rfl⟩
 refine ro (qal rfl (ro (qal rfl (qbb ?_))))
 refine cs rfl rfl hm ?_ ?_ <;> intro cm hm
 exact eE hm
 refine ro (qal rfl ?_)
 obtain ⟨bY, hm⟩ := qax hm
 obtain ⟨s0, aY, hm⟩ := bnd hm
 refine lD (σ := (Unit)) ([2,9,10,11,13] ++ rg 67 33) [0, 1, 2, 3] (fun i0 => [(67, .int .i64 (i0 : Int))]) (fun _ => []) (fun _ => []) (fun _ => True) (fun i0 _ => Ja0 aH l (aH.drop i0) i0 = some s0) (fun t0 => s0 = Fl.go t0) (fun i0 => aH.length - i0) 0 () aY (And.intro qe (And.intro ?_ ?_))
 clear aY
 rintro i0 _ _ aY j0
 conv at aY => whnf
 refine qac rfl ?_
 refine qaf ?_ ?_ <;> intro w0
 obtain ⟨e0, bt, bU⟩ := ltx w0
 rw [bU, Ja0.eq_2] at aY
 refine qam rfl ?_
 refine RStep.ofN (qae rfl rfl (qcz bh bt) (nn _) (qfh rfl bt) (ro (qb2 (i := i0) (o := 0) r0 rfl bt rfl rfl ?_)))
 obtain ⟨bw, aZ, aY⟩ := bnd aY
 refine jR (σ := Bool) (rg 72 11) (fun bf => [(82, .bool bf)]) (fun bf => bf = bw) ?_ ?_
 replace aZ := bsm aZ
 refine qaj rfl ?_
 obtain ⟨cz, bg, aZ⟩ := bnd aZ
 refine cS bg (fun aV bg => ?_) fun aV bg => ?_
 refine ct aV (ct aV ?_)
 obtain ⟨cd, bg⟩ := qax bg
 refine qan cd (ct aV ?_)
 obtain ⟨cr, bF, bA, bg⟩ := ixb bg
 refine RStep.ofN (qae rfl rfl (qcz bh bA) bF (qaw rfl bF bA) (ct aV (ro (qb2 (i := (((i0 : Int) - 1)).toNat) (o := 0) r0 rfl bA rfl rfl (ct aV (ct aV ?_))))))
 refine qte ?_
 refine ct aV ?_
 exact eMq aZ _ ⟨bq (si bg), trivial⟩
 refine cf aV (cf aV (cf aV (cf aV (cf aV (cf aV (cf aV ?_))))))
 exact eMq aZ _ ⟨bq (si bg), trivial⟩
 rintro bf rfl bX
 refine cs rfl rfl aY ?_ ?_ <;> intro cA aY
 exact eE (er aY hm)
 refine ro (qal rfl ?_)
 obtain ⟨bH, aY⟩ := qax aY
 obtain ⟨s2, bb, aY⟩ := bnd aY
 refine lD (σ := (Bool)) ([11,13] ++ rg 85 12) [0, 1, 2, 3] (fun i2 => [(85, .int .i64 (i2 : Int))]) (fun t2 => [(11, .bool t2)]) (fun _ => []) (fun _ => True) (fun i2 t2 => JaE e0 (l.drop i2) i2 t2 = some s2) (fun t2 => t2 = s2) (fun i2 => l.length - i2) 0 _ bb (And.intro qe (And.intro ?_ ?_))
 clear bb
 rintro i2 bo _ bb j2
 conv at bb => whnf
 refine qac rfl ?_
 refine qaf ?_ ?_ <;> intro w2
 obtain ⟨e2, bj, bL⟩ := ltx w2
 rw [bL, JaE.eq_2] at bb
 refine qam rfl ?_
 refine RStep.ofN (qae rfl rfl (qea (ae.mono bC).rd bj) (nn _) (qbp bj) (ro (qao i2 _ (ae.mono bC).rd rfl (mp bj) rfl ?_)))
 refine qai rfl fun cn => ?_
 refine qaa r0 rfl ⟨rfl, rfl, (nl rfl), ?_⟩
 refine qaj rfl ?_
 refine qaf ?_ ?_ <;> intro aW
 refine ct aW (ct aW (ct aW (ct aW (qan (qbu bj bH) ?_))))
 exact rd (i2 + 1, (bo || decide (e2.An = e0))) ⟨rfl, (by rw [← ((qco aW)).symm] <;> rfl), trivial⟩ rfl (sc [1,1,1,1] rfl) lr (ltm bj) ⟨trivial, bb⟩
 refine fa rfl (cf aW (ro (ld r0 rfl rfl (cf aW (cf aW (qaq (cf aW (qan (qbu bj bH) ?_))))))))
 exact rd (i2 + 1, (bo || decide (e2.An = e0))) ⟨rfl, (by rw [← (qid (b := decide (e2.An = e0)) aW)] <;> rfl), trivial⟩ rfl (sc [1,1,1,1] rfl) lr (ltm bj) ⟨trivial, bb⟩
 rw [lty w2, JaE.eq_1] at bb
 refine cT ?_
 exact eM bb _
 rintro t2 _ rfl j2
 refine qav ?_
 refine cs rfl rfl aY ?_ ?_ <;> intro cB aY
 exact eE (er aY hm)
 refine qan (qbu bt bY) ?_
 exact eR aY (_, ())
 rw [lty w0, Ja0.eq_1] at aY
 refine cT ?_
 exact eM aY _
 rintro t0 _ rfl j0
 replace hm := elg hm
 exact eE hm
