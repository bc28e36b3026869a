/- Functions of the program: mirrors, and that a call returns what the mirror says. Printed by gen.py. -/
import Derived.Test.YtmpdebfckeahmaaGreatDoorG5
set_option linter.unusedVariables false
set_option linter.unusedSimpArgs false
open Go Go.SL Go.Proofs
noncomputable section
set_option maxRecDepth 1000000
set_option maxHeartbeats 8000000
def JbS (name : Str) : List Jc → Nat → (List Str) → Option ((List Str))
  | [], _, ac => some ac
  | e0 :: aS, i0, ac =>
    (JdQ e0 name).bind fun aT =>
    if aT then
    (chk (ac.length + [e0.Value].length ≤ lim)).bind fun _ =>
    JbS name aS (i0 + 1) (ac ++ [e0.Value])
    else
    JbS name aS (i0 + 1) ac
def Jez (f : (List Jc)) (name : Str) : Option ((List Str)) :=
  (chk (f.length ≤ qax)).bind fun _ =>
  (JbS name f 0 []).bind fun t0 =>
  some t0
theorem Jgo {f : (List Jc)} {name : Str} {aa : Option Addr} {ab : Nat} {n0 : Nat} {K : Hp} {r : (List Str)}
    (hm : Jez f name = some r) (hX : RdC Jc.enc K aa ab 2 f ∧ n0 = f.length) :
    Fn Tryz.prog 82 [.slice aa n0 ab, str name] K [] (fun v K' H' => ∃ ar_0 : Option Addr, ∃ cr_0 : Nat, v = .slice ar_0 r.length cr_0 ∧ (0 < r.length → Has ar_0) ∧ H' = [OwnL eS ar_0 9 1 cr_0 r]) := by
 obtain ⟨ae, bb⟩ := hX
 subst bb
 refine Fn.enter Tryz.func82 Tryz.call82 rfl fun F => ?_
 unfold Jez at hm
 refine ro (qaj rfl ?_)
 obtain ⟨aY, hm⟩ := qay hm
 obtain ⟨s0, aU, hm⟩ := bnd hm
 refine qkc eS 9 1 ?_
 refine lD (σ := ((List Str)) × Option Addr × Nat) ([5,6] ++ rg 9 18) [1] (fun i0 => [(9, .int .i64 (i0 : Int))]) (fun (t0, aS, aT) => [(5, .slice aS t0.length aT)]) (fun (t0, aS, aT) => [OwnL eS aS 9 1 aT t0]) (fun (t0, aS, aT) => (0 < t0.length → Has aS) ∧ True) (fun i0 (t0, aS, aT) => JbS name (f.drop i0) i0 t0 = some s0) (fun (t0, aS, aT) => t0 = s0) (fun i0 => f.length - i0) 0 (_, _, _) aU (And.intro qe (And.intro ?_ ?_))
 clear aU
 rintro i0 ⟨ac, a6, aZ⟩ ⟨aW, _⟩ aU j0
 conv at aU => whnf
 refine qaf rfl ?_
 refine qag ?_ ?_ <;> intro w0
 obtain ⟨e0, aV, bc⟩ := ltx w0
 rw [bc, JbS.eq_2] at aU
 refine qai rfl ?_
 refine RStep.ofN (qac rfl rfl (qcc ae.rd aV) (nn _) (qbg aV) (ro (qap i0 _ ae.rd rfl (mp aV) rfl ?_)))
 refine cb aU fun bj ba aU => cg0 (JeS ba :) ?_
 refine cs rfl rfl aU ?_ ?_ <;> intro bh aU
 refine RStep.ofN (qac rfl rfl (qcc ae.rd aV) (nn _) (qbg aV) (qaw rfl (qcc ae.rd aV) (ro (qbd i0 1 _ _ ae.rd rfl (mp aV) rfl rfl ?_))))
 refine bsO (len := 1) (enc := eS) (l := [e0.Value]) (cl := [str e0.Value]) qdf rfl rfl (fun _ _ => rfl) rfl rfl rfl ?_ fun bd => ?_
 · conv => whnf
   refine cT ?_
   first | done | rfl
 obtain ⟨a8, aU⟩ := qay aU
 refine apE rfl r1 qdf (qa4 rfl r0 rfl (fun _ => rfl) (fun _ => rfl)) a8 ?_
 intro bm bg bf
 refine qar (qbu aV aY) ?_
 exact eR aU (_, _, _, _)
 refine qar (qbu aV aY) ?_
 exact eR aU (_, _, _, _)
 rw [lty w0, JbS.eq_1] at aU
 refine cT ?_
 exact eM aU (_, _, _)
 rintro ⟨t0, aS, aT⟩ ⟨aX, _⟩ rfl j0
 exact eE hm

def Jbx : List Str → Nat → Str → Option (Str)
  | [], _, ac => some ac
  | e0 :: aS, i0, ac =>
    if decide ((i0 : Int) > 0) then
    (chk (ac.length + ([44, 32] : Str).length ≤ lim)).bind fun _ =>
    (chk ((ac ++ ([44, 32] : Str)).length + e0.length ≤ lim)).bind fun _ =>
    Jbx aS (i0 + 1) ((ac ++ ([44, 32] : Str)) ++ e0)
    else
    (chk (ac.length + e0.length ≤ lim)).bind fun _ =>
    Jbx aS (i0 + 1) (ac ++ e0)
def Jd6 (f : (List Jc)) (name : Str) : Option (Str × Bool) :=
  (Jez f name).bind fun aS =>
  (chk (aS.length ≤ qax)).bind fun _ =>
  (Jbx aS 0 ([] : Str)).bind fun t0 =>
  some (t0, decide ((aS.length : Int) > 0))
theorem Jfe {f : (List Jc)} {name : Str} {aa : Option Addr} {ab : Nat} {n0 : Nat} {K : Hp} {r : Str × Bool}
    (hm : Jd6 f name = some r) (hX : RdC Jc.enc K aa ab 2 f ∧ n0 = f.length) :
    Fn Tryz.prog 46 [.slice aa n0 ab, str name] K [] (fun v K' H' => v = .tuple #[str r.1, .bool r.2] ∧ H' = []) := by
 obtain ⟨ae, ba⟩ := hX
 subst ba
 refine Fn.enter Tryz.func46 Tryz.call46 rfl fun F => ?_
 unfold Jd6 at hm
 refine cb hm fun aX a8 hm => ckx (Jgo a8 :) ?_
 rintro _ _ _ ⟨aW, aY, rfl, aT, rfl⟩
 refine ro (qaj rfl ?_)
 obtain ⟨aZ, hm⟩ := qay hm
 obtain ⟨s0, aS, hm⟩ := bnd hm
 refine lD (σ := (Str)) ([7,8] ++ rg 14 14) [0, 1] (fun i0 => [(14, .int .i64 (i0 : Int))]) (fun t0 => [(7, str t0)]) (fun _ => []) (fun _ => True) (fun i0 t0 => Jbx (aX.drop i0) i0 t0 = some s0) (fun t0 => t0 = s0) (fun i0 => aX.length - i0) 0 _ aS (And.intro qe (And.intro ?_ ?_))
 clear aS
 rintro i0 ac _ aS j0
 conv at aS => whnf
 refine qaf rfl ?_
 refine qag ?_ ?_ <;> intro w0
 obtain ⟨e0, aU, bb⟩ := ltx w0
 rw [bb, Jbx.eq_2] at aS
 refine qai rfl ?_
 refine cs rfl rfl aS ?_ ?_ <;> intro bc aS
 obtain ⟨a6, aS⟩ := qay aS
 refine qbk a6 ?_
 refine RStep.ofN (qac rfl rfl (qcp aT aU) (nn _) (qdx rfl aU) (ro (qbq (i := i0) (o := 0) r0 rfl aU rfl rfl ?_)))
 obtain ⟨aV, aS⟩ := qay aS
 refine qbk aV ?_
 refine qar (qbu aU aZ) ?_
 exact eR aS (_, _)
 refine RStep.ofN (qac rfl rfl (qcp aT aU) (nn _) (qdx rfl aU) (ro (qbq (i := i0) (o := 0) r0 rfl aU rfl rfl ?_)))
 obtain ⟨aV, aS⟩ := qay aS
 refine qbk aV ?_
 refine qar (qbu aU aZ) ?_
 exact eR aS (_, _)
 rw [lty w0, Jbx.eq_1] at aS
 refine cT ?_
 exact eM aS _
 rintro t0 _ rfl j0
 refine ro (qaj rfl ?_)
 exact eE hm

def JcB (name : Str) : List Str → Nat → Option (Fl (Str × Bool) (Unit))
  | [], _ => some (Fl.go ())
  | e0 :: aT, i0 =>
    (((if decide ((e0.length : Int) > (name.length : Int)) then (chk (0 ≤ (0 : Int) ∧ (0 : Int) ≤ (name.length : Int) ∧ (name.length : Int) ≤ (e0.length : Int))).bind fun _ =>
    some (decide ((subL e0 (0 : Int) (name.length : Int)) = name)) else some false).bind fun aU =>
    (if aU then (ix e0 (name.length : Int)).bind fun aW =>
    some (decide ((aW.toNat : Int) = 61)) else some false).bind fun aV =>
    some aV) : Option (Bool)).bind fun aS =>
    if aS then
    (chk (InI ((name.length : Int) + 1))).bind fun _ =>
    (chk (0 ≤ ((name.length : Int) + 1) ∧ ((name.length : Int) + 1) ≤ (e0.length : Int) ∧ (e0.length : Int) ≤ (e0.length : Int))).bind fun _ =>
    some (Fl.ret ((subL e0 ((name.length : Int) + 1) (e0.length : Int)), true))
    else
    JcB name aT (i0 + 1)
def JeA (a : Jcp) (name : Str) : Option (Str × Bool) :=
  if (!a.HasQuery) then
  some (([] : Str), false)
  else
  (Jd5 a.Af (38 : UInt8)).bind fun aS =>
  (chk (aS.length ≤ qax)).bind fun _ =>
  (JcB name aS 0).bind fun s0 => s0.el some fun t0 =>
  some (([] : Str), false)
theorem Jgp {a : Jcp} {name : Str} {K : Hp} {r : Str × Bool}
    (hm : JeA a name = some r)  :
    Fn Tryz.prog 47 [.agg #[str a.An, str a.Ae, str a.Af, .bool a.HasQuery], str name] K [] (fun v K' H' => v = .tuple #[str r.1, .bool r.2] ∧ H' = []) := by
 refine Fn.enter Tryz.func47 Tryz.call47 rfl fun F => ?_
 unfold JeA at hm
 refine qaq ?_
 intro b2
 refine fa rfl (ro (ld r0 rfl rfl (qa1 ?_)))
 refine cs rfl rfl hm ?_ ?_ <;> intro bz hm
 exact eE hm
 refine fa rfl (ro (ld r0 rfl rfl ?_))
 refine cb hm fun ba bd hm => ck0 (Jfd bd :) ?_
 rintro _ _ _ ⟨bc, bb, rfl, aW, rfl⟩
 refine ro (qaj rfl ?_)
 obtain ⟨bf, hm⟩ := qay hm
 obtain ⟨s0, aV, hm⟩ := bnd hm
 refine lD (σ := (Unit)) ([4,5,7] ++ rg 16 41) [0, 1, 2] (fun i0 => [(16, .int .i64 (i0 : Int))]) (fun _ => []) (fun _ => []) (fun _ => True) (fun i0 _ => JcB name (ba.drop i0) i0 = some s0) (fun t0 => s0 = Fl.go t0) (fun i0 => ba.length - i0) 0 () aV (And.intro qe (And.intro ?_ ?_))
 clear aV
 rintro i0 _ _ aV j0
 conv at aV => whnf
 refine qaf rfl ?_
 refine qag ?_ ?_ <;> intro w0
 obtain ⟨e0, aX, bo⟩ := ltx w0
 rw [bo, JcB.eq_2] at aV
 refine qai rfl ?_
 obtain ⟨a8, aU, aV⟩ := bnd aV
 refine jR (σ := Bool) (rg 19 29) (fun aZ => [(47, .bool aZ)]) (fun aZ => aZ = a8) ?_ ?_
 refine qah rfl ?_
 refine RStep.ofN (qac rfl rfl (qcp aW aX) (nn _) (qdx rfl aX) (ro (qbq (i := i0) (o := 0) r0 rfl aX rfl rfl (ro (qat rfl (ro (qat rfl ?_)))))))
 obtain ⟨bt, a6, aU⟩ := bnd aU
 refine cS a6 (fun aS a6 => ?_) fun aS a6 => ?_
 refine ct aS (ct aS (RStep.ofN (qac rfl rfl (qcp aW aX) (nn _) (qdx rfl aX) (ct aS (ro (qbq (i := i0) (o := 0) r0 rfl aX rfl rfl (ct aS (ct aS (ro (qat rfl ?_))))))))))
 refine ct aS ?_
 obtain ⟨bn, a6⟩ := qay a6
 refine RStep.ofN (qbn (lo := none) (hi := (some (name.length : Int))) rfl bn (ct aS (ct aS (qam (ct aS ?_)))))
 obtain ⟨bg, aY, aU⟩ := bnd aU
 refine qag ?_ ?_ <;> intro aT
 replace aY := ift ((si a6).symm.trans aT) aY
 refine ct aT (ct aT (RStep.ofN (qac rfl rfl (qcp aW aX) (nn _) (qdx rfl aX) (ct aT (ro (qbq (i := i0) (o := 0) r0 rfl aX rfl rfl (ct aT (ct aT (ro (qat rfl ?_))))))))))
 refine ct aT ?_
 obtain ⟨br, bh, bp, aY⟩ := ixb aY
 refine qaz rfl bh bp (ct aT (qad (ct aT ?_)))
 exact eMq aU _ ⟨bq (si aY), trivial⟩
 replace aY := qa6 ((si a6).symm.trans aT) aY
 refine cf aT (cf aT (cf aT (cf aT (cf aT (cf aT (cf aT (cf aT ?_)))))))
 exact eMq aU _ ⟨bq (si aY), trivial⟩
 refine cf aS (cf aS (cf aS (cf aS (cf aS (cf aS (cf aS (cf aS ?_)))))))
 refine cf aS ?_
 obtain ⟨bg, aY, aU⟩ := bnd aU
 replace aY := qa6 (si a6).symm aY
 refine cF (cF (cF (cF (cF (cF (cF (cF ?_)))))))
 refine cF ?_
 exact eMq aU _ ⟨bq (si aY), trivial⟩
 rintro aZ rfl bm
 refine CStep.ownLe r0 fun bw => ?_
 refine cs rfl rfl aV ?_ ?_ <;> intro bu aV
 refine RStep.ofN (qac rfl rfl (qcp aW aX) (nn _) (qdx rfl aX) (ro (qbq (i := i0) (o := 0) r0 rfl aX rfl rfl (ro (qat rfl ?_)))))
 refine ci aV fun aV => ?_
 obtain ⟨bj, aV⟩ := qay aV
 refine RStep.ofN (qbn (lo := (some ((name.length : Int) + 1))) (hi := none) rfl bj ?_)
 exact eE (er aV hm)
 refine qar (qbu aX bf) ?_
 exact eR aV (_, ())
 rw [lty w0, JcB.eq_1] at aV
 refine cT ?_
 exact eM aV _
 rintro t0 _ rfl j0
 replace hm := elg hm
 exact eE hm

def JaX (n : Nat) (name : Str) (x : Jl) (Ar : Ju) : Option (Jl × Bool) :=
  if decide (name = ([112, 97, 114, 116] : Str)) then
  (JcO Ar.Ae).bind fun aX =>
  if ((decide (x.As = 2) && decide (x.N ≥ 0)) && decide (x.N < (aX.length : Int))) then
  (ix aX x.N).bind fun aZ =>
  (JaW aZ).bind fun bh =>
  some (bh, true)
  else
  (JaW ([] : Str)).bind fun a6 =>
  some (a6, decide (x.As = 2))
  else
  if decide (name = ([116, 101, 120, 116] : Str)) then
  (JaU n x.N).bind fun bg =>
  (JaW bg).bind fun a8 =>
  some (a8, decide (x.As = 2))
  else
  if decide (name = ([104, 101, 97, 100, 101, 114] : Str)) then
  (Jd6 Ar.Ao x.S).bind fun bb =>
  (JaW bb.1).bind fun bd =>
  some (bd, decide (x.As = 1))
  else
  if decide (name = ([104, 97, 115] : Str)) then
  (Jd6 Ar.Ao x.S).bind fun bc =>
  (Ja3 bc.2).bind fun ba =>
  some (ba, decide (x.As = 1))
  else
  if decide (name = ([97, 114, 103] : Str)) then
  (JeA (⟨([] : Str), ([] : Str), Ar.Af, true⟩ : Jcp) x.S).bind fun aY =>
  (JaW aY.1).bind fun bf =>
  some (bf, decide (x.As = 1))
  else
  if decide (name = ([108, 101, 110] : Str)) then
  (Jcm (x.S.length : Int)).bind fun aS =>
  some (aS, decide (x.As = 1))
  else
  if decide (name = ([108, 111, 119, 101, 114] : Str)) then
  (Jci x.S).bind fun aT =>
  (JaW aT).bind fun aW =>
  some (aW, decide (x.As = 1))
  else
  (Jc1 n x.S).bind fun aV =>
  (Jcm aV).bind fun aU =>
  some (aU, decide (x.As = 1))
theorem Jgb {n : Nat} {name : Str} {x : Jl} {Ar : Ju} {ao : Option Addr} {aq : Nat} {K : Hp} {r : Jl × Bool}
    (hm : JaX n name x Ar = some r) (av : RdC Jc.enc K ao aq 2 Ar.Ao) :
    Fn Tryz.prog 20 [str name, .agg #[.int .i64 x.As, .int .i64 x.N, str x.S, .bool x.Is], .agg #[str Ar.Am, str Ar.An, str Ar.Ae, str Ar.Af, .slice ao Ar.Ao.length aq]] K [] (fun v K' H' => v = .tuple #[.agg #[.int .i64 r.1.As, .int .i64 r.1.N, str r.1.S, .bool r.1.Is], .bool r.2] ∧ H' = []) := by
 refine Fn.enter Tryz.func20 Tryz.call20 rfl fun F => ?_
 unfold JaX at hm
 refine qaq ?_
 intro b4
 refine qaq ?_
 intro b5
 refine qal rfl fun b6 => ?_
 refine qai rfl ?_
 refine qam (cs rfl rfl hm ?_ ?_) <;> intro bJ hm
 refine fa rfl (ro (ld r1 rfl rfl ?_))
 refine cb hm fun ba bj hm => cf0 (Jfa bj :) ?_
 rintro _ bV _ bW ⟨a8, bc, rfl, aU, rfl⟩
 refine jR (σ := Unit) (rg 21 15) (fun _ => [(35, .bool ((decide (x.As = 2) && decide (x.N ≥ 0)) && decide (x.N < (ba.length : Int))))]) (fun bB => True) ?_ ?_
 refine qah rfl ?_
 refine fa rfl (ro (ld r2 rfl rfl (qad ?_)))
 refine qag ?_ ?_ <;> intro aT
 refine fa rfl (ct aT (ro (ld r2 rfl rfl (ct aT (ct aT ?_)))))
 refine qag ?_ ?_ <;> intro aS
 refine fa rfl (ct aS (ro (ld r2 rfl rfl (ct aS (ct aS (ro (qaj rfl (ct aS (ct aS ?_)))))))))
 exact eMt () ⟨bq (qbw (b := decide (x.N < (ba.length : Int))) (qby aT aS)), trivial⟩
 refine cf aS (cf aS (cf aS (cf aS (cf aS ?_))))
 exact eMt () ⟨bq (((qa0 (qb8 aT aS))).symm), trivial⟩
 refine cf aT (cf aT (cf aT (cF (cF (cF (cF (cF ?_)))))))
 refine cF ?_
 exact eMt () ⟨bq (((qa0 (qa0 aT))).symm), trivial⟩
 rintro _ _ bw
 refine cs rfl rfl hm ?_ ?_ <;> intro bZ hm
 refine fa rfl (ro (ld r2 rfl rfl ?_))
 obtain ⟨bH, bb, aZ, hm⟩ := ixb hm
 refine RStep.ofN (qac rfl rfl (qcc aU.rd aZ) bb (qas rfl bb aZ) (ro (qbd ((x.N).toNat) 0 _ _ aU.rd rfl (mp aZ) rfl rfl ?_)))
 refine cb hm fun bU br hm => cg0 (JaJ br :) ?_
 refine qaa r0 rfl ⟨rfl, rfl, (nl rfl), ?_⟩
 exact ro (qae r0 rfl (nl rfl) (eE hm))
 refine qau ⟨⟨[], false⟩, _, [(_, _)], []⟩ (by kernel_rfl) ⟨Hp.Le.refl _, (sc [2] rfl), ci0⟩ ?_
 refine cb hm fun bI bd hm => cg0 (JaJ bd :) ?_
 refine qk (sc [2] rfl) ?_
 refine fa rfl (qan m0 rfl rfl (qad ?_))
 refine qaa r0 rfl ⟨rfl, rfl, (nl rfl), ?_⟩
 refine qk (sc [2] rfl) ?_
 exact ro (qae r0 rfl (nl rfl) (eE hm))
 refine qam (cs rfl rfl hm ?_ ?_) <;> intro bP hm
 refine qau ⟨⟨[], false⟩, _, [(_, _)], []⟩ (by kernel_rfl) ⟨Hp.Le.refl _, (sc [2] rfl), ci0⟩ ?_
 refine fa rfl (qan m0 rfl rfl ?_)
 refine cb hm fun bT bG hm => cg0 (Jfs bG :) ?_
 refine qk (sc [2] rfl) ?_
 refine cb hm fun bK bD hm => cg0 (JaJ bD :) ?_
 refine qk (sc [2] rfl) ?_
 refine fa rfl (qan m0 rfl rfl (qad ?_))
 refine qaa r0 rfl ⟨rfl, rfl, (nl rfl), ?_⟩
 refine qk (sc [2] rfl) ?_
 exact ro (qae r0 rfl (nl rfl) (eE hm))
 refine qam (cs rfl rfl hm ?_ ?_) <;> intro bM hm
 refine fa rfl (ro (ld r1 rfl rfl (fa rfl (ro (ld r2 rfl rfl ?_)))))
 refine cb hm fun bX bA hm => cgx (Jfe bA :) ?_
 refine qau ⟨⟨[], false⟩, _, [(_, _)], []⟩ (by kernel_rfl) ⟨Hp.Le.refl _, (sc [2] rfl), ci0⟩ ?_
 refine cb hm fun bQ bp hm => cg0 (JaJ bp :) ?_
 refine qk (sc [2] rfl) ?_
 refine fa rfl (qan m0 rfl rfl (qad ?_))
 refine qaa r0 rfl ⟨rfl, rfl, (nl rfl), ?_⟩
 refine qk (sc [2] rfl) ?_
 exact ro (qae r0 rfl (nl rfl) (eE hm))
 refine qam (cs rfl rfl hm ?_ ?_) <;> intro bR hm
 refine fa rfl (ro (ld r1 rfl rfl (fa rfl (ro (ld r2 rfl rfl ?_)))))
 refine cb hm fun bY bC hm => cgx (Jfe bC :) ?_
 refine qau ⟨⟨[], false⟩, _, [(_, _)], []⟩ (by kernel_rfl) ⟨Hp.Le.refl _, (sc [2] rfl), ci0⟩ ?_
 refine cb hm fun bO bg hm => cg0 (Jaw bg :) ?_
 refine qk (sc [2] rfl) ?_
 refine fa rfl (qan m0 rfl rfl (qad ?_))
 refine qaa r0 rfl ⟨rfl, rfl, (nl rfl), ?_⟩
 refine qk (sc [2] rfl) ?_
 exact ro (qae r0 rfl (nl rfl) (eE hm))
 refine qam (cs rfl rfl hm ?_ ?_) <;> intro bN hm
 refine fa rfl (ro (ld r1 rfl rfl (qak rfl rfl (cT (cT (fa rfl (ro (ld r2 rfl rfl ?_))))))))
 refine cb hm fun bS bn hm => cg0 (Jgp bn :) ?_
 refine qau ⟨⟨[], false⟩, _, [(_, _)], []⟩ (by kernel_rfl) ⟨Hp.Le.refl _, (sc [2] rfl), ci0⟩ ?_
 refine cb hm fun bL bf hm => cg0 (JaJ bf :) ?_
 refine qk (sc [2] rfl) ?_
 refine fa rfl (qan m0 rfl rfl (qad ?_))
 refine qaa r0 rfl ⟨rfl, rfl, (nl rfl), ?_⟩
 refine qk (sc [2] rfl) ?_
 exact ro (qae r0 rfl (nl rfl) (eE hm))
 refine qam (cs rfl rfl hm ?_ ?_) <;> intro bF hm
 refine qau ⟨⟨[], false⟩, _, [(_, _)], []⟩ (by kernel_rfl) ⟨Hp.Le.refl _, (sc [2] rfl), ci0⟩ ?_
 refine fa rfl (qan m0 rfl rfl (qbs rfl ?_))
 refine cb hm fun bt aV hm => cg0 (Jcc aV :) ?_
 refine qk (sc [2] rfl) ?_
 refine fa rfl (qan m0 rfl rfl (qad ?_))
 refine qaa r0 rfl ⟨rfl, rfl, (nl rfl), ?_⟩
 refine qk (sc [2] rfl) ?_
 exact ro (qae r0 rfl (nl rfl) (eE hm))
 refine qam (cs rfl rfl hm ?_ ?_) <;> intro bh hm
 refine qau ⟨⟨[], false⟩, _, [(_, _)], []⟩ (by kernel_rfl) ⟨Hp.Le.refl _, (sc [2] rfl), ci0⟩ ?_
 refine fa rfl (qan m0 rfl rfl ?_)
 refine cb hm fun bu aY hm => cg0 (JcP aY :) ?_
 refine qk (sc [2] rfl) ?_
 refine cb hm fun bo a6 hm => cg0 (JaJ a6 :) ?_
 refine qk (sc [2] rfl) ?_
 refine fa rfl (qan m0 rfl rfl (qad ?_))
 refine qaa r0 rfl ⟨rfl, rfl, (nl rfl), ?_⟩
 refine qk (sc [2] rfl) ?_
 exact ro (qae r0 rfl (nl rfl) (eE hm))
 refine qau ⟨⟨[], false⟩, _, [(_, _)], []⟩ (by kernel_rfl) ⟨Hp.Le.refl _, (sc [2] rfl), ci0⟩ ?_
 refine fa rfl (qan m0 rfl rfl ?_)
 refine cb hm fun bz aW hm => cg0 (Jey aW :) ?_
 refine qk (sc [2] rfl) ?_
 refine cb hm fun bm aX hm => cg0 (Jcc aX :) ?_
 refine qk (sc [2] rfl) ?_
 refine fa rfl (qan m0 rfl rfl (qad ?_))
 refine qaa r0 rfl ⟨rfl, rfl, (nl rfl), ?_⟩
 refine qk (sc [2] rfl) ?_
 exact ro (qae r0 rfl (nl rfl) (eE hm))

def Jd7 (n' : Jb) : Option (Str) :=
  if decide (n'.Ab = 17) then
  some ([43] : Str)
  else
  if decide (n'.Ab = 18) then
  some ([45] : Str)
  else
  if decide (n'.Ab = 19) then
  some ([42] : Str)
  else
  some n'.Ac
theorem Jgc {n' : Jb} {aa : Option Addr} {ab : Nat} {K : Hp} {r : Str}
    (hm : Jd7 n' = some r) (ae : LiC Jb.R K aa ab 4 n'.Aa) :
    Fn Tryz.prog 134 [.agg #[.int .i64 n'.Ab, str n'.Ac, .slice aa n'.Aa.length ab, .int .i64 n'.Ad]] K [] (fun v K' H' => v = str r ∧ H' = []) := by
 refine Fn.enter Tryz.func134 Tryz.call134 rfl fun F => ?_
 unfold Jd7 at hm
 refine qaq ?_
 intro b1
 refine fa rfl (ro (ld r0 rfl rfl ?_))
 refine qai rfl ?_
 refine qad (cs rfl rfl hm ?_ ?_) <;> intro w5 hm
 exact eE hm
 refine qad (cs rfl rfl hm ?_ ?_) <;> intro w7 hm
 exact eE hm
 refine qad (cs rfl rfl hm ?_ ?_) <;> intro w9 hm
 exact eE hm
 refine fa rfl (ro (ld r0 rfl rfl ?_))
 exact eE hm

def Jdc (a : Int) (b : Int) : Option (Jl) :=
  ((if decide (a ≠ 0) then
  (chk (InI (-a))).bind fun _ =>
  (chk ((max a (-a)) ≠ 0 ∧ InI (Int.tdiv 2199023255552 (max a (-a))))).bind fun _ =>
  (if decide (b > (Int.tdiv 2199023255552 (max a (-a)))) then some true else (chk (InI (-a))).bind fun _ =>
  (chk ((max a (-a)) ≠ 0 ∧ InI (Int.tdiv 2199023255552 (max a (-a))))).bind fun _ =>
  (chk (InI (-(Int.tdiv 2199023255552 (max a (-a)))))).bind fun _ =>
  some (decide (b < (-(Int.tdiv 2199023255552 (max a (-a))))))).bind fun aT =>
  some aT
  else
  some false) : Option (Bool)).bind fun aS =>
  if aS then
  if ((decide (a > 0)) == (decide (b > 0))) then
  (Jcm 1099511627776).bind fun aW =>
  some aW
  else
  (Jcm (-1099511627776)).bind fun aV =>
  some aV
  else
  (chk (InI (a * b))).bind fun _ =>
  (Jcm (a * b)).bind fun aU =>
  some aU
theorem Jft {a : Int} {b : Int} {K : Hp} {r : Jl}
    (hm : Jdc a b = some r)  :
    Fn Tryz.prog 41 [.int .i64 a, .int .i64 b] K [] (fun v K' H' => v = .agg #[.int .i64 r.As, .int .i64 r.N, str r.S, .bool r.Is] ∧ H' = []) := by
 refine Fn.enter Tryz.func41 Tryz.call41 rfl fun F => ?_
 unfold Jdc at hm
 refine qal rfl fun b4 => ?_
 obtain ⟨aX, aU, hm⟩ := bnd hm
 refine jR (σ := Bool) (rg 5 21) (fun aW => [(25, .bool aW)]) (fun aW => aW = aX) ?_ ?_
 refine qah rfl ?_
 refine qa2 ?_
 refine cS aU (fun aT aU => ?_) fun aT aU => ?_
 refine ct aT (ct aT (ct aT ?_))
 obtain ⟨bf, aU⟩ := qay aU
 refine qgh bf ?_
 refine ct aT (ro (qcl (ct aT ?_)))
 obtain ⟨aZ, aU⟩ := qay aU
 refine qja aZ.1 aZ.2 (ct aT (ct aT ?_))
 obtain ⟨bm, aV, aU⟩ := bnd aU
 refine cS aV (fun aS aV => ?_) fun aS aV => ?_
 refine ct aS (ct aS (ct aS (ct aS (ct aS (ct aS (ct aS (ct aT ?_)))))))
 refine ct aS (ct aT ?_)
 exact eMq aU _ ⟨bq (si aV), trivial⟩
 refine cf aS (cf aS (cf aS ?_))
 obtain ⟨a8, aV⟩ := qay aV
 refine qgh a8 ?_
 refine cf aS (ro (qcl (cf aS ?_)))
 obtain ⟨aY, aV⟩ := qay aV
 refine qja aY.1 aY.2 (cf aS ?_)
 obtain ⟨a6, aV⟩ := qay aV
 refine qgh a6 ?_
 refine cf aS (ct aT (cf aS (ct aT ?_)))
 exact eMq aU _ ⟨bq (si aV), trivial⟩
 refine cf aT (cf aT (cf aT (cf aT (cf aT (cf aT (cf aT (cf aT ?_)))))))
 refine cf aT ?_
 exact eM aU _
 rintro aW rfl bc
 refine cs rfl rfl hm ?_ ?_ <;> intro bo hm
 refine qif rfl ?_
 refine cs rfl rfl hm ?_ ?_ <;> intro bn hm
 refine cb hm fun bh bb hm => cg0 (Jcc bb :) ?_
 refine qaa r0 rfl ⟨rfl, rfl, (nl rfl), ?_⟩
 exact ro (qae r0 rfl (nl rfl) (eE hm))
 refine cb hm fun bg ba hm => cg0 (Jcc ba :) ?_
 refine qaa r0 rfl ⟨rfl, rfl, (nl rfl), ?_⟩
 exact ro (qae r0 rfl (nl rfl) (eE hm))
 refine ci hm fun hm => ?_
 refine cb hm fun bj bd hm => cg0 (Jcc bd :) ?_
 refine qaa r0 rfl ⟨rfl, rfl, (nl rfl), ?_⟩
 exact ro (qae r0 rfl (nl rfl) (eE hm))

def Ja4 (t : Str) (s : Str) : Nat → Int → Option (Fl (Bool) (Int))
  | 0, _ => none
  | aS + 1, ac =>
    (chk (InI (ac + (t.length : Int)))).bind fun _ =>
    if decide ((ac + (t.length : Int)) ≤ (s.length : Int)) then
    (chk (InI (ac + (t.length : Int)))).bind fun _ =>
    (chk (0 ≤ ac ∧ ac ≤ (ac + (t.length : Int)) ∧ (ac + (t.length : Int)) ≤ (s.length : Int))).bind fun _ =>
    if decide ((subL s ac (ac + (t.length : Int))) = t) then
    some (Fl.ret true)
    else
    (chk (InI (ac + 1))).bind fun _ =>
    Ja4 t s aS (ac + 1)
    else
    some (Fl.go ac)
def JcQ (n : Nat) (s : Str) (t : Str) : Option (Bool) :=
  (Ja4 t s n 0).bind fun s0 => s0.el some fun t0 =>
  some false
theorem Jfb {n : Nat} {s : Str} {t : Str} {K : Hp} {r : Bool}
    (hm : JcQ n s t = some r)  :
    Fn Tryz.prog 43 [str s, str t] K [] (fun v K' H' => v = .bool r ∧ H' = []) := by
 refine Fn.enter Tryz.func43 Tryz.call43 rfl fun F => ?_
 unfold JcQ at hm
 obtain ⟨s0, aS, hm⟩ := bnd hm
 refine lD (σ := (Int)) (rg 4 20) [0] (fun _ => []) (fun t0 => [(5, .int .i64 t0)]) (fun _ => []) (fun _ => True) (fun i0 t0 => Ja4 t s i0 t0 = some s0) (fun t0 => s0 = Fl.go t0) (fun i0 => i0) n _ aS (And.intro qe (And.intro ?_ ?_))
 clear aS
 rintro i0 ac _ aS j0
 conv at aS => whnf
 cases i0 with
 | zero => rw [Ja4.eq_1] at aS; cases aS
 | succ i0 =>
  rw [Ja4.eq_2] at aS
  refine ro (qat rfl ?_)
  obtain ⟨h9, aS⟩ := qay aS
  refine qar h9 (ro (qat rfl ?_))
  refine cs rfl rfl aS ?_ ?_ <;> intro aV aS
  refine qai rfl ?_
  refine ro (qat rfl ?_)
  refine ci aS fun aS => ?_
  obtain ⟨aT, aS⟩ := qay aS
  refine RStep.ofN (qbn (lo := (some ac)) (hi := (some (ac + (t.length : Int)))) rfl aT (qam ?_))
  refine cs rfl rfl aS ?_ ?_ <;> intro aU aS
  exact eE (er aS hm)
  refine ci aS fun aS => ?_
  exact eR aS (_, _)
  refine cT ?_
  exact eM aS _
 rintro t0 _ rfl j0
 replace hm := elg hm
 exact eE hm

def JT (n : Nat) (op : Str) (a : Jl) (b : Jl) : Option (Jl × Bool) :=
  if decide (op = ([43] : Str)) then
  if (decide (a.As = 1) && decide (b.As = 1)) then
  (chk (a.S.length + b.S.length ≤ lim)).bind fun _ =>
  (JaW (a.S ++ b.S)).bind fun bc =>
  some (bc, true)
  else
  (chk (InI (a.N + b.N))).bind fun _ =>
  (Jcm (a.N + b.N)).bind fun bd =>
  some (bd, (decide (a.As = 2) && decide (b.As = 2)))
  else
  if decide (op = ([45] : Str)) then
  (chk (InI (a.N - b.N))).bind fun _ =>
  (Jcm (a.N - b.N)).bind fun bb =>
  some (bb, (decide (a.As = 2) && decide (b.As = 2)))
  else
  if decide (op = ([42] : Str)) then
  (Jdc a.N b.N).bind fun aZ =>
  some (aZ, (decide (a.As = 2) && decide (b.As = 2)))
  else
  if decide (op = ([61, 61] : Str)) then
  (Ja3 (decide (a.As = b.As) && (decide (a.N = b.N) && (decide (a.S = b.S) && (a.Is == b.Is))))).bind fun aY =>
  some (aY, decide (a.As = b.As))
  else
  if decide (op = ([33, 61] : Str)) then
  (Ja3 (!(decide (a.As = b.As) && (decide (a.N = b.N) && (decide (a.S = b.S) && (a.Is == b.Is)))))).bind fun a8 =>
  some (a8, decide (a.As = b.As))
  else
  if decide (op = ([60] : Str)) then
  (Ja3 (decide (a.N < b.N))).bind fun a6 =>
  some (a6, (decide (a.As = 2) && decide (b.As = 2)))
  else
  if decide (op = ([60, 61] : Str)) then
  (Ja3 (decide (a.N ≤ b.N))).bind fun ba =>
  some (ba, (decide (a.As = 2) && decide (b.As = 2)))
  else
  if decide (op = ([115, 116, 97, 114, 116, 115] : Str)) then
  (if decide ((a.S.length : Int) ≥ (b.S.length : Int)) then (chk (0 ≤ (0 : Int) ∧ (0 : Int) ≤ (min (a.S.length : Int) (b.S.length : Int)) ∧ (min (a.S.length : Int) (b.S.length : Int)) ≤ (a.S.length : Int))).bind fun _ =>
  some (decide ((subL a.S (0 : Int) (min (a.S.length : Int) (b.S.length : Int))) = b.S)) else some false).bind fun aU =>
  (Ja3 aU).bind fun aW =>
  some (aW, (decide (a.As = 1) && decide (b.As = 1)))
  else
  if decide (op = ([101, 110, 100, 115] : Str)) then
  (if decide ((a.S.length : Int) ≥ (b.S.length : Int)) then (chk (InI ((a.S.length : Int) - (b.S.length : Int)))).bind fun _ =>
  (chk (0 ≤ (max 0 ((a.S.length : Int) - (b.S.length : Int))) ∧ (max 0 ((a.S.length : Int) - (b.S.length : Int))) ≤ (a.S.length : Int) ∧ (a.S.length : Int) ≤ (a.S.length : Int))).bind fun _ =>
  some (decide ((subL a.S (max 0 ((a.S.length : Int) - (b.S.length : Int))) (a.S.length : Int)) = b.S)) else some false).bind fun aX =>
  (Ja3 aX).bind fun aT =>
  some (aT, (decide (a.As = 1) && decide (b.As = 1)))
  else
  (JcQ n a.S b.S).bind fun aS =>
  (Ja3 aS).bind fun aV =>
  some (aV, (decide (a.As = 1) && decide (b.As = 1)))
theorem Jfu {n : Nat} {op : Str} {a : Jl} {b : Jl} {K : Hp} {r : Jl × Bool}
    (hm : JT n op a b = some r)  :
    Fn Tryz.prog 19 [str op, .agg #[.int .i64 a.As, .int .i64 a.N, str a.S, .bool a.Is], .agg #[.int .i64 b.As, .int .i64 b.N, str b.S, .bool b.Is]] K [] (fun v K' H' => v = .tuple #[.agg #[.int .i64 r.1.As, .int .i64 r.1.N, str r.1.S, .bool r.1.Is], .bool r.2] ∧ H' = []) := by
 refine Fn.enter Tryz.func19 Tryz.call19 rfl fun F => ?_
 unfold JT at hm
 refine qaq ?_
 intro b4
 refine qaq ?_
 intro b5
 refine qal rfl fun b6 => ?_
 refine dR (σ := Unit) (rg 8 18) (fun _ => [(8, .bool (decide (a.As = 1) && decide (b.As = 1))), (9, .bool (decide (a.As = 2) && decide (b.As = 2)))]) (fun bt => True) ?_ ?_
 refine qau ⟨⟨[], false⟩, _, [(_, _), (_, _)], []⟩ (by kernel_rfl) ⟨Hp.Le.refl _, (sc [2,1] rfl), ci0⟩ ?_
 refine fa rfl (qan m0 rfl rfl (qad ?_))
 refine qag ?_ ?_ <;> intro aV
 refine fa rfl (ct aV (qan m1 rfl rfl (ct aV (qad (ct aV (fa rfl (qan m0 rfl rfl ?_)))))))
 refine qad ?_
 refine qag ?_ ?_ <;> intro aU
 refine fa rfl (ct aU (qan m1 rfl rfl (ct aU (qad (ct aU ?_)))))
 exact eMt () ⟨bq (qbw (b := decide (b.As = 1)) aV), bq (qbw (b := decide (b.As = 2)) aU), trivial⟩
 refine cf aU (cf aU (cf aU ?_))
 exact eMt () ⟨bq (qbw (b := decide (b.As = 1)) aV), bq (((qa0 aU)).symm), trivial⟩
 refine cf aV (cf aV (cf aV (fa rfl (qan m0 rfl rfl (qad ?_)))))
 refine qag ?_ ?_ <;> intro aU
 refine fa rfl (ct aU (qan m1 rfl rfl (ct aU (qad (ct aU ?_)))))
 exact eMt () ⟨bq (((qa0 aV)).symm), bq (qbw (b := decide (b.As = 2)) aU), trivial⟩
 refine cf aU (cf aU (cf aU ?_))
 exact eMt () ⟨bq (((qa0 aV)).symm), bq (((qa0 aU)).symm), trivial⟩
 rintro _ _ bC
 refine qai rfl ?_
 refine qam (cs rfl rfl hm ?_ ?_) <;> intro bK hm
 refine cs rfl rfl hm ?_ ?_ <;> intro bM hm
 refine fa rfl (ro (ld r2 rfl rfl (fa rfl (ro (ld r1 rfl rfl ?_)))))
 obtain ⟨bw, hm⟩ := qay hm
 refine qbk bw ?_
 refine cb hm fun bO bn hm => cg0 (JaJ bn :) ?_
 refine qaa r0 rfl ⟨rfl, rfl, (nl rfl), ?_⟩
 exact ro (qae r0 rfl (nl rfl) (eE hm))
 refine fa rfl (ro (ld r2 rfl rfl (fa rfl (ro (ld r1 rfl rfl ?_)))))
 refine ci hm fun hm => ?_
 refine cb hm fun bT br hm => cg0 (Jcc br :) ?_
 refine qaa r0 rfl ⟨rfl, rfl, (nl rfl), ?_⟩
 exact ro (qae r0 rfl (nl rfl) (eE hm))
 refine qam (cs rfl rfl hm ?_ ?_) <;> intro bJ hm
 refine fa rfl (ro (ld r2 rfl rfl (fa rfl (ro (ld r1 rfl rfl ?_)))))
 refine ci hm fun hm => ?_
 refine cb hm fun bR bD hm => cg0 (Jcc bD :) ?_
 refine qaa r0 rfl ⟨rfl, rfl, (nl rfl), ?_⟩
 exact ro (qae r0 rfl (nl rfl) (eE hm))
 refine qam (cs rfl rfl hm ?_ ?_) <;> intro bV hm
 refine fa rfl (ro (ld r2 rfl rfl (fa rfl (ro (ld r1 rfl rfl ?_)))))
 refine cb hm fun bG bo hm => cg0 (Jft bo :) ?_
 refine qaa r0 rfl ⟨rfl, rfl, (nl rfl), ?_⟩
 exact ro (qae r0 rfl (nl rfl) (eE hm))
 refine qam (cs rfl rfl hm ?_ ?_) <;> intro bL hm
 refine qau ⟨⟨[], false⟩, _, [(_, _), (_, _)], []⟩ (by kernel_rfl) ⟨Hp.Le.refl _, (sc [2,1] rfl), ci0⟩ ?_
 refine qba m0 rfl (nl rfl) (qba m1 rfl (nl rfl) ?_)
 refine qs8 (b := (decide (a.As = b.As) && (decide (a.N = b.N) && (decide (a.S = b.S) && (a.Is == b.Is))))) rfl (by kernel_rfl) (by kernel_rfl) (by kernel_rfl) rfl ?_
 refine cb hm fun bP bg hm => cg0 (Jaw bg :) ?_
 refine qk (sc [2,1] rfl) ?_
 refine fa rfl (qan m0 rfl rfl (fa rfl (qan m1 rfl rfl (qad ?_))))
 refine qaa r0 rfl ⟨rfl, rfl, (nl rfl), ?_⟩
 refine qk (sc [2,1] rfl) ?_
 exact ro (qae r0 rfl (nl rfl) (eE hm))
 refine qam (cs rfl rfl hm ?_ ?_) <;> intro bN hm
 refine qau ⟨⟨[], false⟩, _, [(_, _), (_, _)], []⟩ (by kernel_rfl) ⟨Hp.Le.refl _, (sc [2,1] rfl), ci0⟩ ?_
 refine qba m0 rfl (nl rfl) (qba m1 rfl (nl rfl) ?_)
 refine qo4 (b := (decide (a.As = b.As) && (decide (a.N = b.N) && (decide (a.S = b.S) && (a.Is == b.Is))))) rfl (by kernel_rfl) (by kernel_rfl) (by kernel_rfl) rfl ?_
 refine cb hm fun bQ bz hm => cg0 (Jaw bz :) ?_
 refine qk (sc [2,1] rfl) ?_
 refine fa rfl (qan m0 rfl rfl (fa rfl (qan m1 rfl rfl (qad ?_))))
 refine qaa r0 rfl ⟨rfl, rfl, (nl rfl), ?_⟩
 refine qk (sc [2,1] rfl) ?_
 exact ro (qae r0 rfl (nl rfl) (eE hm))
 refine qam (cs rfl rfl hm ?_ ?_) <;> intro bU hm
 refine fa rfl (ro (ld r2 rfl rfl (fa rfl (ro (ld r1 rfl rfl ?_)))))
 refine cb hm fun bH bB hm => cg0 (Jaw bB :) ?_
 refine qaa r0 rfl ⟨rfl, rfl, (nl rfl), ?_⟩
 exact ro (qae r0 rfl (nl rfl) (eE hm))
 refine qam (cs rfl rfl hm ?_ ?_) <;> intro bS hm
 refine fa rfl (ro (ld r2 rfl rfl (fa rfl (ro (ld r1 rfl rfl ?_)))))
 refine cb hm fun bI bu hm => cg0 (Jaw bu :) ?_
 refine qaa r0 rfl ⟨rfl, rfl, (nl rfl), ?_⟩
 exact ro (qae r0 rfl (nl rfl) (eE hm))
 refine qam (cs rfl rfl hm ?_ ?_) <;> intro bp hm
 refine qau ⟨⟨[], false⟩, _, [(_, _), (_, _)], []⟩ (by kernel_rfl) ⟨Hp.Le.refl _, (sc [2,1] rfl), ci0⟩ ?_
 refine fa rfl (qan m0 rfl rfl (qbs rfl (fa rfl (qan m1 rfl rfl (qbs rfl ?_)))))
 obtain ⟨bh, aX, hm⟩ := bnd hm
 refine cS aX (fun aT aX => ?_) fun aT aX => ?_
 refine fa rfl (ct aT (qan m0 rfl rfl (ct aT (fa rfl (ct aT (qan m0 rfl rfl (ct aT ?_)))))))
 refine qbs rfl (ct aT (fa rfl (ct aT (qan m1 rfl rfl (ct aT (qbs rfl (ct aT ?_)))))))
 refine qq7 (ct aT ?_)
 obtain ⟨bd, aX⟩ := qay aX
 refine qbn (lo := none) (hi := (some (min (a.S.length : Int) (b.S.length : Int)))) rfl bd (ct aT (fa rfl (ct aT (qan m1 rfl rfl (ct aT (qam (ct aT ?_)))))))
 obtain ⟨bc, aZ, hm⟩ := bnd hm
 rw [← (si aX)] at aZ
 refine cg0 (Jaw aZ :) ?_
 refine qk (sc [2,1] rfl) ?_
 refine qaa r0 rfl ⟨rfl, rfl, (nl rfl), ?_⟩
 refine qk (sc [2,1] rfl) ?_
 exact ro (qae r0 rfl (nl rfl) (eE hm))
 refine cf aT (cf aT (cf aT (cf aT (cf aT (cf aT (cf aT (cf aT ?_)))))))
 refine cf aT (cf aT (cf aT (cf aT (cf aT ?_))))
 obtain ⟨bc, aZ, hm⟩ := bnd hm
 rw [← ((si aX).symm).symm] at aZ
 refine cg0 (Jaw aZ :) ?_
 refine qk (sc [2,1] rfl) ?_
 refine qaa r0 rfl ⟨rfl, rfl, (nl rfl), ?_⟩
 refine qk (sc [2,1] rfl) ?_
 exact ro (qae r0 rfl (nl rfl) (eE hm))
 refine qam (cs rfl rfl hm ?_ ?_) <;> intro bA hm
 refine qau ⟨⟨[], false⟩, _, [(_, _), (_, _)], []⟩ (by kernel_rfl) ⟨Hp.Le.refl _, (sc [2,1] rfl), ci0⟩ ?_
 refine fa rfl (qan m0 rfl rfl (qbs rfl (fa rfl (qan m1 rfl rfl (qbs rfl ?_)))))
 obtain ⟨bF, aW, hm⟩ := bnd hm
 refine cS aW (fun aS aW => ?_) fun aS aW => ?_
 refine fa rfl (ct aS (qan m0 rfl rfl (ct aS (fa rfl (ct aS (qan m0 rfl rfl (ct aS ?_)))))))
 refine qbs rfl (ct aS (fa rfl (ct aS (qan m1 rfl rfl (ct aS (qbs rfl (ct aS ?_)))))))
 obtain ⟨ba, aW⟩ := qay aW
 refine qar ba (ct aS (qq8 (ct aS ?_)))
 obtain ⟨bf, aW⟩ := qay aW
 refine qbn (lo := (some (max 0 ((a.S.length : Int) - (b.S.length : Int))))) (hi := none) rfl bf (ct aS (fa rfl (ct aS (qan m1 rfl rfl (ct aS (qam (ct aS ?_)))))))
 obtain ⟨a8, aY, hm⟩ := bnd hm
 rw [← (si aW)] at aY
 refine cg0 (Jaw aY :) ?_
 refine qk (sc [2,1] rfl) ?_
 refine qaa r0 rfl ⟨rfl, rfl, (nl rfl), ?_⟩
 refine qk (sc [2,1] rfl) ?_
 exact ro (qae r0 rfl (nl rfl) (eE hm))
 refine cf aS (cf aS (cf aS (cf aS (cf aS (cf aS (cf aS (cf aS ?_)))))))
 refine cf aS (cf aS (cf aS (cf aS (cf aS (cf aS ?_)))))
 obtain ⟨a8, aY, hm⟩ := bnd hm
 rw [← ((si aW).symm).symm] at aY
 refine cg0 (Jaw aY :) ?_
 refine qk (sc [2,1] rfl) ?_
 refine qaa r0 rfl ⟨rfl, rfl, (nl rfl), ?_⟩
 refine qk (sc [2,1] rfl) ?_
 exact ro (qae r0 rfl (nl rfl) (eE hm))
 refine fa rfl (ro (ld r2 rfl rfl (fa rfl (ro (ld r1 rfl rfl ?_)))))
 refine cb hm fun bm bb hm => cg0 (Jfb bb :) ?_
 refine cb hm fun bj a6 hm => cg0 (Jaw a6 :) ?_
 refine qaa r0 rfl ⟨rfl, rfl, (nl rfl), ?_⟩
 exact ro (qae r0 rfl (nl rfl) (eE hm))

def JbT (env : (List Jz)) (n' : Jb) : Nat → Int → Option (Fl (Jl × Int) (Int))
  | 0, _ => none
  | aV + 1, aS =>
    if decide (aS ≥ 0) then
    (ix env aS).bind fun aU =>
    if decide (aU.Name = n'.Ac) then
    (ix env aS).bind fun aT =>
    some (Fl.ret (aT.Value, 0))
    else
    (chk (InI (aS - 1))).bind fun _ =>
    JbT env n' aV (aS - 1)
    else
    some (Fl.go aS)
def Jco : Nat → Jb → (List Jz) → Ju → Option (Jl × Int)
  | 0, _, _, _ => none
  | n + 1, n', env, Ar =>
    if decide (n'.Ab = 20) then
    (Jc1 n n'.Ac).bind fun bg =>
    (Jcm bg).bind fun bf =>
    some (bf, 0)
    else
    if decide (n'.Ab = 21) then
    (JaW n'.Ac).bind fun bn =>
    (JcA bn).bind fun bc =>
    some (bc.1, bc.2)
    else
    if decide (n'.Ab = 22) then
    (Ja3 (decide (n'.Ac = ([116, 114, 117, 101] : Str)))).bind fun bh =>
    some (bh, 0)
    else
    if decide (n'.Ab = 23) then
    (chk (InI ((env.length : Int) - 1))).bind fun _ =>
    (JbT env n' n ((env.length : Int) - 1)).bind fun s1 => s1.el some fun t1 =>
    (JcW n'.Ac Ar).bind fun bd =>
    (JcA bd).bind fun ba =>
    some (ba.1, ba.2)
    else
    (ix n'.Aa 0).bind fun bj =>
    ((Jco n) bj env Ar).bind fun aS =>
    if decide (aS.2 ≠ 0) then
    some ((⟨0, 0, ([] : Str), false⟩ : Jl), aS.2)
    else
    if decide (n'.Ab = 24) then
    (JaX n n'.Ac aS.1 Ar).bind fun bm =>
    (JcA bm.1).bind fun bb =>
    some (bb.1, bb.2)
    else
    if decide (n'.Ab = 15) then
    (Ja3 (!aS.1.Is)).bind fun aY =>
    some (aY, 0)
    else
    ((if decide (n'.Ab = 14) then
    some (decide (n'.Ab = 14))
    else
    some (decide (n'.Ab = 13)) : Option (Bool))).bind fun aW =>
    if aW then
    if (aS.1.Is == (decide (n'.Ab = 13))) then
    some (aS.1, 0)
    else
    (ix n'.Aa 1).bind fun a6 =>
    ((Jco n) a6 env Ar).bind fun aV =>
    some (aV.1, aV.2)
    else
    (ix n'.Aa 1).bind fun a8 =>
    ((Jco n) a8 env Ar).bind fun aT =>
    if decide (aT.2 ≠ 0) then
    some ((⟨0, 0, ([] : Str), false⟩ : Jl), aT.2)
    else
    (Jd7 n').bind fun aX =>
    (JT n aX aS.1 aT.1).bind fun aZ =>
    (JcA aZ.1).bind fun aU =>
    some (aU.1, aU.2)
theorem Jgd : ∀ {n : Nat} {n' : Jb} {env : (List Jz)} {Ar : Ju} {aa : Option Addr} {ab : Nat} {ag : Option Addr} {ah : Nat} {n1 : Nat} {ao : Option Addr} {aq : Nat} {K : Hp} {r : Jl × Int}
    (hm : Jco n n' env Ar = some r) (hX : LiC Jb.R K aa ab 4 n'.Aa ∧ RdC Jz.enc K ag ah 5 env ∧ n1 = env.length ∧ RdC Jc.enc K ao aq 2 Ar.Ao),
    Fn Tryz.prog 94 [.agg #[.int .i64 n'.Ab, str n'.Ac, .slice aa n'.Aa.length ab, .int .i64 n'.Ad], .slice ag n1 ah, .agg #[str Ar.Am, str Ar.An, str Ar.Ae, str Ar.Af, .slice ao Ar.Ao.length aq]] K [] (fun v K' H' => v = .tuple #[.agg #[.int .i64 r.1.As, .int .i64 r.1.N, str r.1.S, .bool r.1.Is], .int .i64 r.2] ∧ H' = []) := by
 intro n
 induction n with
 | zero =>
   intro n' env Ar aa ab ag ah n1 ao aq K r hm hX
   rw [Jco.eq_1] at hm; cases hm
 | succ n ih =>
   intro n' env Ar aa ab ag ah n1 ao aq K r hm hX
   obtain ⟨ae, af, cC, av⟩ := hX
   subst cC
   refine Fn.enter Tryz.func94 Tryz.call94 rfl fun F => ?_
   rw [Jco.eq_2] at hm
   refine qaq ?_
   intro b3
   refine qaq ?_
   intro b5
   refine qal rfl fun b6 => ?_
   refine fa rfl (ro (ld r2 rfl rfl ?_))
   refine qai rfl ?_
   refine qad (cs rfl rfl hm ?_ ?_) <;> intro dj hm
   refine fa rfl (ro (ld r2 rfl rfl ?_))
   refine cb hm fun dc cr hm => cg0 (Jey cr :) ?_
   refine cb hm fun cY ce hm => cg0 (Jcc ce :) ?_
   refine qaa r0 rfl ⟨rfl, rfl, (nl rfl), ?_⟩
   exact ro (qae r0 rfl (nl rfl) (eE hm))
   refine qad (cs rfl rfl hm ?_ ?_) <;> intro cL hm
   refine fa rfl (ro (ld r2 rfl rfl ?_))
   refine cb hm fun cQ cj hm => cg0 (JaJ cj :) ?_
   refine cb hm fun cV cz hm => cg0 (Jdo cz :) ?_
   refine qaa r0 rfl ⟨rfl, rfl, (nl rfl), ?_⟩
   exact ro (qae r0 rfl (nl rfl) (eE hm))
   refine qad (cs rfl rfl hm ?_ ?_) <;> intro dg hm
   refine fa rfl (ro (ld r2 rfl rfl (qam ?_)))
   refine cb hm fun de cG hm => cg0 (Jaw cG :) ?_
   refine qaa r0 rfl ⟨rfl, rfl, (nl rfl), ?_⟩
   exact ro (qae r0 rfl (nl rfl) (eE hm))
   refine qad (cs rfl rfl hm ?_ ?_) <;> intro da hm
   refine ro (qaj rfl ?_)
   refine ci hm fun hm => ?_
   obtain ⟨s1, aS, hm⟩ := bnd hm
   refine lD (σ := (Int)) ([7,8] ++ rg 43 17) [0, 1, 2, 3] (fun _ => []) (fun t1 => [(8, .int .i64 t1)]) (fun _ => []) (fun _ => True) (fun i1 t1 => JbT env n' i1 t1 = some s1) (fun t1 => s1 = Fl.go t1) (fun i1 => i1) n _ aS (And.intro qe (And.intro ?_ ?_))
   clear aS
   rintro i1 bb _ aS j1
   conv at aS => whnf
   cases i1 with
   | zero => rw [JbT.eq_1] at aS; cases aS
   | succ i1 =>
    rw [JbT.eq_2] at aS
    refine cs rfl rfl aS ?_ ?_ <;> intro dh aS
    refine qai rfl ?_
    refine qau ⟨⟨[], false⟩, _, [(_, _)], []⟩ (by kernel_rfl) ⟨Hp.Le.refl _, (sc [2] rfl), ci0⟩ ?_
    obtain ⟨di, bS, bf, aS⟩ := ixb aS
    refine qac rfl rfl (qcc af.rd bf) bS (qas rfl bS bf) (qaw rfl (qcc af.rd bf) (qbj ((bb).toNat) 0 _ _ af.rd rfl (mp bf) rfl rfl (fa rfl (qan m0 rfl rfl (qam ?_)))))
    refine cs rfl rfl aS ?_ ?_ <;> intro cW aS
    obtain ⟨bg, bR, bh, aS⟩ := ixb aS
    refine RStep.ofN (qac rfl rfl (qcc af.rd bh) bR (qas rfl bR bh) (qaw rfl (qcc af.rd bh) (ro (qfr ((bb).toNat) 1 4 _ [.int .i64 bg.Value.As, .int .i64 bg.Value.N, str bg.Value.S, .bool bg.Value.Is] af.rd rfl (mp bh) rfl rfl rfl ?_))))
    refine qaa r0 rfl ⟨rfl, rfl, (nl rfl), ?_⟩
    exact ro (qae r0 rfl (nl rfl) (eE (er aS hm)))
    refine ci aS fun aS => ?_
    exact eR aS (_, _)
    refine cT ?_
    exact eM aS _
   rintro t1 _ rfl j1
   replace hm := elg hm
   refine fa rfl (ro (ld r2 rfl rfl (ro (qae r1 rfl (nl rfl) ?_))))
   refine cb hm fun cH cq hm => cgx (JfW cq :) ?_
   refine cb hm fun cJ cm hm => cg0 (Jdo cm :) ?_
   refine qaa r0 rfl ⟨rfl, rfl, (nl rfl), ?_⟩
   exact ro (qae r0 rfl (nl rfl) (eE hm))
   refine qb9 ⟨⟨[], false⟩, _, [(_, _), (_, _)], []⟩ 13 rfl (by kernel_rfl) ⟨Hp.Le.refl _, (sc [2,1] rfl), ci0⟩ ?_
   refine fa rfl (qan m0 rfl rfl ?_)
   obtain ⟨cM, bO, bB, hm⟩ := ixb hm
   refine qac rfl rfl (qcf ae.rd bB) bO (qas rfl bO bB) ?_
   obtain ⟨cA, bZ, bI, bz, bu⟩ := LiR.get ae.rd bB
   obtain ⟨bL, bM, rfl, bT⟩ := Jb.out bu
   refine qcw ((0 : Int).toNat) _ bI rfl bz rfl (qba m1 rfl (nl rfl) ?_)
   intro bX
   refine cb hm fun dk ca hm => cgx (ih ca :) ?_
   refine ⟨⟨lr, (sc [2,1] rfl), ci0⟩, ?_⟩
   refine ⟨_, .cons r4 .nil, ⟨lr, (sc [2,1] rfl), ci0⟩, ?_⟩
   refine qfp rfl ?_
   intro b9
   intro bC
   refine qaa r0 rfl ⟨rfl, rfl, (nl rfl), ?_⟩
   refine ⟨⟨lr, (sc [3,2] rfl), ci0⟩, ?_⟩
   refine ⟨_, .cons r5 .nil, ⟨lr, (sc [3,2] rfl), ci0⟩, ?_⟩
   refine qa2 (cs rfl rfl hm ?_ ?_) <;> intro cZ hm
   refine qak rfl rfl ?_
   refine qaa r1 rfl ⟨rfl, rfl, (nl rfl), ?_⟩
   exact ro (qae r0 rfl (nl rfl) (eE hm))
   refine fa rfl (ro (ld r3 rfl rfl ?_))
   refine qai rfl ?_
   refine qad (cs rfl rfl hm ?_ ?_) <;> intro cR hm
   refine fa rfl (ro (ld r3 rfl rfl (ro (qae r0 rfl (nl rfl) (ro (qae r2 rfl (nl rfl) ?_))))))
   refine cb hm fun db cp hm => cgx (Jgb cp :) ?_
   refine qal rfl fun c8 => ?_
   refine qaa r0 rfl ⟨rfl, rfl, (nl rfl), ?_⟩
   refine ro (qae r0 rfl (nl rfl) ?_)
   refine cb hm fun df cn hm => cg0 (Jdo cn :) ?_
   refine qaa r2 rfl ⟨rfl, rfl, (nl rfl), ?_⟩
   exact ro (qae r0 rfl (nl rfl) (eE hm))
   refine qad (cs rfl rfl hm ?_ ?_) <;> intro cK hm
   refine fa rfl (ro (ld r0 rfl rfl (qa1 ?_)))
   refine cb hm fun cd bn hm => cg0 (Jaw bn :) ?_
   refine qaa r1 rfl ⟨rfl, rfl, (nl rfl), ?_⟩
   exact ro (qae r0 rfl (nl rfl) (eE hm))
   refine qad ?_
   obtain ⟨bA, aT, hm⟩ := bnd hm
   refine jD (σ := (Bool)) [103,105] [0, 1, 2, 3, 4] (fun aU => [(103, .bool aU)]) (fun aU => []) (fun aU => aU = bA) (And.intro ?_ ?_)
   refine cs rfl rfl aT ?_ ?_ <;> intro bw aT
   exact eM aT _
   refine qad ?_
   exact eM aT _
   rintro aU rfl bW
   refine cs rfl rfl hm ?_ ?_ <;> intro bw hm
   refine fa rfl (ro (ld r0 rfl rfl (fa rfl (ro (ld r3 rfl rfl (qad (qif rfl ?_)))))))
   refine cs rfl rfl hm ?_ ?_ <;> intro cB hm
   refine ro (qae r0 rfl (nl rfl) ?_)
   refine qaa r1 rfl ⟨rfl, rfl, (nl rfl), ?_⟩
   exact ro (qae r0 rfl (nl rfl) (eE hm))
   refine qau ⟨⟨[], false⟩, _, [(_, _), (_, _)], []⟩ (by kernel_rfl) ⟨Hp.Le.refl _, (sc [3,2] rfl), ci0⟩ ?_
   refine fa rfl (qan m0 rfl rfl ?_)
   obtain ⟨cu, aX, aV, hm⟩ := ixb hm
   refine qac rfl rfl (qcf ae.rd aV) aX (qas rfl aX aV) ?_
   obtain ⟨bK, bQ, bc, bd, a6⟩ := LiR.get ae.rd aV
   obtain ⟨bm, bH, rfl, br⟩ := Jb.out a6
   refine qcw ((1 : Int).toNat) _ bc rfl bd rfl (qba m1 rfl (nl rfl) ?_)
   refine cb hm fun cw bo hm => cgx (ih bo :) ?_
   refine qk (sc [3,2] rfl) ?_
   refine qaa r1 rfl ⟨rfl, rfl, (nl rfl), ?_⟩
   refine qk (sc [3,2] rfl) ?_
   exact ro (qae r0 rfl (nl rfl) (eE hm))
   refine qb9 ⟨⟨[], false⟩, _, [(_, _), (_, _)], []⟩ 13 rfl (by kernel_rfl) ⟨Hp.Le.refl _, (sc [3,2] rfl), ci0⟩ ?_
   refine fa rfl (qan m0 rfl rfl ?_)
   obtain ⟨cD, ba, aW, hm⟩ := ixb hm
   refine qac rfl rfl (qcf ae.rd aW) ba (qas rfl ba aW) ?_
   obtain ⟨bN, bP, a8, aZ, aY⟩ := LiR.get ae.rd aW
   obtain ⟨bF, bD, rfl, bt⟩ := Jb.out aY
   refine qcw ((1 : Int).toNat) _ a8 rfl aZ rfl (qba m1 rfl (nl rfl) ?_)
   intro bX
   refine cb hm fun cE bJ hm => cgx (ih bJ :) ?_
   refine ⟨⟨lr, (sc [3,2] rfl), ci0⟩, ?_⟩
   refine ⟨_, .cons r5 .nil, ⟨lr, (sc [3,2] rfl), ci0⟩, ?_⟩
   refine qfp rfl ?_
   intro cO
   intro bC
   refine qaa r0 rfl ⟨rfl, rfl, (nl rfl), ?_⟩
   refine ⟨⟨lr, (sc [4,3] rfl), ci0⟩, ?_⟩
   refine ⟨_, .cons r6 .nil, ⟨lr, (sc [4,3] rfl), ci0⟩, ?_⟩
   refine qa2 (cs rfl rfl hm ?_ ?_) <;> intro bU hm
   refine qak rfl rfl ?_
   refine qaa r2 rfl ⟨rfl, rfl, (nl rfl), ?_⟩
   exact ro (qae r0 rfl (nl rfl) (eE hm))
   refine qb9 ⟨⟨[], false⟩, _, [(_, _), (_, _), (_, _)], []⟩ 11 rfl (by kernel_rfl) ⟨Hp.Le.refl _, (sc [4,1,0] rfl), ci0⟩ ?_
   refine qba m0 rfl (nl rfl) ?_
   intro cU
   refine cb hm fun co bj hm => cgx (Jgc bj :) ?_
   refine ⟨⟨lr, (sc [4,1,0] rfl), ci0⟩, ?_⟩
   refine ⟨_, .cons r6 .nil, ⟨lr, (sc [4,1,0] rfl), ci0⟩, ?_⟩
   refine qba m1 rfl (nl rfl) (qba m2 rfl (nl rfl) ?_)
   intro cP
   refine cb hm fun bY bG hm => cg0 (Jfu bG :) ?_
   refine ⟨⟨lr, (sc [4,1,0] rfl), ci0⟩, ?_⟩
   refine ⟨_, .cons r6 .nil, ⟨lr, (sc [4,1,0] rfl), ci0⟩, ?_⟩
   refine qfp rfl ?_
   intro cI
   intro cX
   refine qaa r0 rfl ⟨rfl, rfl, (nl rfl), ?_⟩
   refine ⟨⟨lr, (sc [5,2,1] rfl), ci0⟩, ?_⟩
   refine ⟨_, .cons r7 .nil, ⟨lr, (sc [5,2,1] rfl), ci0⟩, ?_⟩
   refine ro (qae r0 rfl (nl rfl) ?_)
   refine cb hm fun bV bp hm => cg0 (Jdo bp :) ?_
   refine qaa r3 rfl ⟨rfl, rfl, (nl rfl), ?_⟩
   exact ro (qae r0 rfl (nl rfl) (eE hm))

def Jdy (n' : Jb) : Option (Str) :=
  if decide (n'.Ab = 5) then
  (chk (([104, 101, 97, 100, 101, 114, 58] : Str).length + n'.Ac.length ≤ lim)).bind fun _ =>
  some (([104, 101, 97, 100, 101, 114, 58] : Str) ++ n'.Ac)
  else
  if decide (n'.Ab = 6) then
  (chk (([118, 97, 114, 121, 58] : Str).length + n'.Ac.length ≤ lim)).bind fun _ =>
  some (([118, 97, 114, 121, 58] : Str) ++ n'.Ac)
  else
  if decide (n'.Ab = 7) then
  some ([116, 97, 103] : Str)
  else
  if decide (n'.Ab = 8) then
  some ([116, 116, 108] : Str)
  else
  if decide (n'.Ab = 9) then
  some ([100, 101, 110, 121] : Str)
  else
  if decide (n'.Ab = 10) then
  some ([112, 97, 115, 115] : Str)
  else
  if decide (n'.Ab = 11) then
  some ([116, 111, 107, 101, 110] : Str)
  else
  some n'.Ac
theorem Jge {n' : Jb} {aa : Option Addr} {ab : Nat} {K : Hp} {r : Str}
    (hm : Jdy n' = some r) (ae : LiC Jb.R K aa ab 4 n'.Aa) :
    Fn Tryz.prog 95 [.agg #[.int .i64 n'.Ab, str n'.Ac, .slice aa n'.Aa.length ab, .int .i64 n'.Ad]] K [] (fun v K' H' => v = str r ∧ H' = []) := by
 refine Fn.enter Tryz.func95 Tryz.call95 rfl fun F => ?_
 unfold Jdy at hm
 refine qaq ?_
 intro b1
 refine fa rfl (ro (ld r0 rfl rfl ?_))
 refine qai rfl ?_
 refine qad (cs rfl rfl hm ?_ ?_) <;> intro w5 hm
 refine fa rfl (ro (ld r0 rfl rfl ?_))
 obtain ⟨h9, hm⟩ := qay hm
 refine qbk h9 ?_
 exact eE hm
 refine qad (cs rfl rfl hm ?_ ?_) <;> intro aY hm
 refine fa rfl (ro (ld r0 rfl rfl ?_))
 obtain ⟨aS, hm⟩ := qay hm
 refine qbk aS ?_
 exact eE hm
 refine qad (cs rfl rfl hm ?_ ?_) <;> intro aW hm
 exact eE hm
 refine qad (cs rfl rfl hm ?_ ?_) <;> intro aU hm
 exact eE hm
 refine qad (cs rfl rfl hm ?_ ?_) <;> intro aX hm
 exact eE hm
 refine qad (cs rfl rfl hm ?_ ?_) <;> intro aV hm
 exact eE hm
 refine qad (cs rfl rfl hm ?_ ?_) <;> intro aT hm
 exact eE hm
 refine fa rfl (ro (ld r0 rfl rfl ?_))
 exact eE hm

def Jcj (l : (List Str)) (s : Str) : Nat → Int → Option (Fl ((List Str)) (Int))
  | 0, _ => none
  | aS + 1, ac =>
    if decide (ac < (l.length : Int)) then
    (ix l ac).bind fun aT =>
    if decide (aT = s) then
    some (Fl.ret l)
    else
    (chk (InI (ac + 1))).bind fun _ =>
    Jcj l s aS (ac + 1)
    else
    some (Fl.go ac)
def Jdz (n : Nat) (l : (List Str)) (s : Str) : Option ((List Str)) :=
  (Jcj l s n 0).bind fun s0 => s0.el some fun t0 =>
  (chk (([] : List Str).length + l.length ≤ lim)).bind fun _ =>
  (chk ((([] : List Str) ++ l).length + [s].length ≤ lim)).bind fun _ =>
  some ((([] : List Str) ++ l) ++ [s])
theorem JeX {n : Nat} {l : (List Str)} {s : Str} {aa : Option Addr} {ab : Nat} {n0 : Nat} {K : Hp} {r : (List Str)}
    (hm : Jdz n l s = some r) (hX : RdC eS K aa ab 1 l ∧ n0 = l.length) :
    Fn Tryz.prog 121 [.slice aa n0 ab, str s] K [] (fun v K' H' => ∃ ar_0 : Option Addr, ∃ cr_0 : Nat, v = .slice ar_0 r.length cr_0 ∧ RdC eS K' ar_0 cr_0 1 r ∧ H' = []) := by
 obtain ⟨ae, aX⟩ := hX
 subst aX
 refine Fn.enter Tryz.func121 Tryz.call121 rfl fun F => ?_
 unfold Jdz at hm
 obtain ⟨s0, aS, hm⟩ := bnd hm
 refine lD (σ := (Int)) (rg 4 15) [0] (fun _ => []) (fun t0 => [(5, .int .i64 t0)]) (fun _ => []) (fun _ => True) (fun i0 t0 => Jcj l s i0 t0 = some s0) (fun t0 => s0 = Fl.go t0) (fun i0 => i0) n _ aS (And.intro qe (And.intro ?_ ?_))
 clear aS
 rintro i0 ac _ aS j0
 conv at aS => whnf
 cases i0 with
 | zero => rw [Jcj.eq_1] at aS; cases aS
 | succ i0 =>
  rw [Jcj.eq_2] at aS
  refine ro (qaj rfl ?_)
  refine cs rfl rfl aS ?_ ?_ <;> intro w9 aS
  refine qai rfl ?_
  obtain ⟨bc, aU, aT, aS⟩ := ixb aS
  refine RStep.ofN (qac rfl rfl (qcc ae.rd aT) aU (qas rfl aU aT) (ro (qbd ((ac).toNat) 0 _ _ ae.rd rfl (mp aT) rfl rfl (qam ?_))))
  refine cs rfl rfl aS ?_ ?_ <;> intro aZ aS
  exact eE (er aS hm)
  refine ci aS fun aS => ?_
  exact eR aS (_, _)
  refine cT ?_
  exact eM aS _
 rintro t0 _ rfl j0
 replace hm := elg hm
 refine bsO (len := 0) (enc := eS) (l := ([] : List Str)) (cl := []) qdf rfl rfl (fun _ _ => rfl) rfl rfl rfl ?_ fun bf => ?_
 · conv => whnf
   first | done | rfl
 obtain ⟨aV, hm⟩ := qay hm
 refine apE rfl r0 qdf (qom rfl ae.rd rfl) aV ?_
 intro a8 ba bh
 refine bsO (len := 1) (enc := eS) (l := [s]) (cl := [str s]) qdf rfl rfl (fun _ _ => rfl) rfl rfl rfl ?_ fun bg => ?_
 · conv => whnf
   refine cT ?_
   first | done | rfl
 obtain ⟨aW, hm⟩ := qay hm
 refine apE rfl r1 qdf (qa4 rfl r0 rfl (fun _ => rfl) (fun _ => rfl)) aW ?_
 intro a6 bb aY
 refine fE r0 fun bm bj bd => ?_
 exact eE hm

def JcR (c : UInt8) : List UInt8 → Nat → Option (Fl (Bool) (Unit))
  | [], _ => some (Fl.go ())
  | e0 :: aS, i0 =>
    if decide ((e0.toNat : Int) = (c.toNat : Int)) then
    some (Fl.ret true)
    else
    JcR c aS (i0 + 1)
def Jdj (c : UInt8) : Option (Bool) :=
  ((if (decide ((c.toNat : Int) ≥ 48) && decide ((c.toNat : Int) ≤ 57)) then
  some true
  else
  if (decide ((c.toNat : Int) ≥ 97) && decide ((c.toNat : Int) ≤ 122)) then
  some true
  else
  some (decide ((c.toNat : Int) ≥ 65) && decide ((c.toNat : Int) ≤ 90))) : Option (Bool)).bind fun aS =>
  if aS then
  some true
  else
  (chk (([33, 35, 36, 37, 38, 39, 42, 43, 45, 46, 94, 95, 96, 124, 126] : Str).length ≤ qax)).bind fun _ =>
  (JcR c ([33, 35, 36, 37, 38, 39, 42, 43, 45, 46, 94, 95, 96, 124, 126] : Str) 0).bind fun s0 => s0.el some fun t0 =>
  some false
theorem JfX {c : UInt8} {K : Hp} {r : Bool}
    (hm : Jdj c = some r)  :
    Fn Tryz.prog 221 [.int .u8 (c.toNat : Int)] K [] (fun v K' H' => v = .bool r ∧ H' = []) := by
 refine Fn.enter Tryz.func221 Tryz.call221 rfl fun F => ?_
 unfold Jdj at hm
 obtain ⟨a6, aS, hm⟩ := bnd hm
 refine jR (σ := Bool) (rg 5 22) (fun aZ => [(26, .bool aZ)]) (fun aZ => aZ = a6) ?_ ?_
 refine qah rfl ?_
 refine qag ?_ ?_ <;> intro aX
 refine ct aX (ct aX ?_)
 refine qag ?_ ?_ <;> intro aW
 replace aS := ift (qby aX aW) aS
 refine ct aW (ct aW (ct aW (ct aW (cT (cT (cT (cT ?_)))))))
 refine cT ?_
 exact eM aS _
 replace aS := qa6 (qb8 aX aW) aS
 refine cf aW (cf aW ?_)
 refine qag ?_ ?_ <;> intro aV
 refine ct aV (cf aW (ct aV (cf aW ?_)))
 refine qag ?_ ?_ <;> intro aU
 replace aS := ift (qby aV aU) aS
 refine ct aU (ct aU (ct aU (ct aU ?_)))
 exact eM aS _
 replace aS := qa6 (qb8 aV aU) aS
 refine cf aU (cf aU ?_)
 refine qag ?_ ?_ <;> intro aT
 refine ct aT (cf aU (ct aT (cf aU ?_)))
 exact eMq aS _ ⟨bq (qbw (b := decide ((c.toNat : Int) ≤ 90)) aT), trivial⟩
 refine cf aT (cf aU (cf aT (cf aU ?_)))
 exact eMq aS _ ⟨bq (((qa0 aT)).symm), trivial⟩
 refine cf aV (cf aW (cf aV (cf aW ?_)))
 replace aS := qa6 (qa0 aV) aS
 refine cF (cF (cF ?_))
 refine qag ?_ ?_ <;> intro aT
 refine ct aT (cF (ct aT (cF ?_)))
 exact eMq aS _ ⟨bq (qbw (b := decide ((c.toNat : Int) ≤ 90)) aT), trivial⟩
 refine cf aT (cF (cf aT (cF ?_)))
 exact eMq aS _ ⟨bq (((qa0 aT)).symm), trivial⟩
 refine cf aX (cf aX ?_)
 replace aS := qa6 (qa0 aX) aS
 refine cF (cF (cF ?_))
 refine qag ?_ ?_ <;> intro aV
 refine ct aV (cF (ct aV (cF ?_)))
 refine qag ?_ ?_ <;> intro aU
 replace aS := ift (qby aV aU) aS
 refine ct aU (ct aU (ct aU (ct aU ?_)))
 exact eM aS _
 replace aS := qa6 (qb8 aV aU) aS
 refine cf aU (cf aU ?_)
 refine qag ?_ ?_ <;> intro aT
 refine ct aT (cf aU (ct aT (cf aU ?_)))
 exact eMq aS _ ⟨bq (qbw (b := decide ((c.toNat : Int) ≤ 90)) aT), trivial⟩
 refine cf aT (cf aU (cf aT (cf aU ?_)))
 exact eMq aS _ ⟨bq (((qa0 aT)).symm), trivial⟩
 refine cf aV (cF (cf aV (cF ?_)))
 replace aS := qa6 (qa0 aV) aS
 refine cF (cF (cF ?_))
 refine qag ?_ ?_ <;> intro aT
 refine ct aT (cF (ct aT (cF ?_)))
 exact eMq aS _ ⟨bq (qbw (b := decide ((c.toNat : Int) ≤ 90)) aT), trivial⟩
 refine cf aT (cF (cf aT (cF ?_)))
 exact eMq aS _ ⟨bq (((qa0 aT)).symm), trivial⟩
 rintro aZ rfl bc
 refine cs rfl rfl hm ?_ ?_ <;> intro bf hm
 exact eE hm
 refine ro (qat rfl ?_)
 obtain ⟨ba, hm⟩ := qay hm
 obtain ⟨s0, aY, hm⟩ := bnd hm
 refine lD (σ := (Unit)) ([2,4] ++ rg 29 9) [0] (fun i0 => [(29, .int .i64 (i0 : Int))]) (fun _ => []) (fun _ => []) (fun _ => True) (fun i0 _ => JcR c (([33, 35, 36, 37, 38, 39, 42, 43, 45, 46, 94, 95, 96, 124, 126] : Str).drop i0) i0 = some s0) (fun t0 => s0 = Fl.go t0) (fun i0 => ([33, 35, 36, 37, 38, 39, 42, 43, 45, 46, 94, 95, 96, 124, 126] : Str).length - i0) 0 () aY (And.intro qe (And.intro ?_ ?_))
 clear aY
 rintro i0 _ _ aY j0
 conv at aY => whnf
 refine qaf rfl ?_
 refine qag ?_ ?_ <;> intro w0
 obtain ⟨e0, a8, bb⟩ := ltx w0
 rw [bb, JcR.eq_2] at aY
 refine qai rfl ?_
 refine qaz rfl (nn _) a8 (qad ?_)
 refine cs rfl rfl aY ?_ ?_ <;> intro bd aY
 exact eE (er aY hm)
 refine qar (qbu a8 ba) ?_
 exact eR aY (_, ())
 rw [lty w0, JcR.eq_1] at aY
 refine cT ?_
 exact eM aY _
 rintro t0 _ rfl j0
 replace hm := elg hm
 exact eE hm

def Jb4 : List UInt8 → Nat → Option (Fl (Bool) (Unit))
  | [], _ => some (Fl.go ())
  | e0 :: aT, i0 =>
    (Jdj e0).bind fun aS =>
    if (!aS) then
    some (Fl.ret false)
    else
    Jb4 aT (i0 + 1)
def JcX (s : Str) : Option (Bool) :=
  (chk (s.length ≤ qax)).bind fun _ =>
  (Jb4 s 0).bind fun s0 => s0.el some fun t0 =>
  some (decide ((s.length : Int) > 0))
theorem JfY {s : Str} {K : Hp} {r : Bool}
    (hm : JcX s = some r)  :
    Fn Tryz.prog 186 [str s] K [] (fun v K' H' => v = .bool r ∧ H' = []) := by
 refine Fn.enter Tryz.func186 Tryz.call186 rfl fun F => ?_
 unfold JcX at hm
 refine ro (qat rfl ?_)
 obtain ⟨aV, hm⟩ := qay hm
 obtain ⟨s0, aS, hm⟩ := bnd hm
 refine lD (σ := (Unit)) ([2,3] ++ rg 6 9) [0] (fun i0 => [(6, .int .i64 (i0 : Int))]) (fun _ => []) (fun _ => []) (fun _ => True) (fun i0 _ => Jb4 (s.drop i0) i0 = some s0) (fun t0 => s0 = Fl.go t0) (fun i0 => s.length - i0) 0 () aS (And.intro qe (And.intro ?_ ?_))
 clear aS
 rintro i0 _ _ aS j0
 conv at aS => whnf
 refine qaf rfl ?_
 refine qag ?_ ?_ <;> intro w0
 obtain ⟨e0, aT, aW⟩ := ltx w0
 rw [aW, Jb4.eq_2] at aS
 refine qai rfl ?_
 refine qaz rfl (nn _) aT ?_
 refine cb aS fun aX aU aS => cg0 (JfX aU :) ?_
 refine qa1 ?_
 refine cs rfl rfl aS ?_ ?_ <;> intro aY aS
 exact eE (er aS hm)
 refine qar (qbu aT aV) ?_
 exact eR aS (_, ())
 rw [lty w0, Jb4.eq_1] at aS
 refine cT ?_
 exact eM aS _
 rintro t0 _ rfl j0
 replace hm := elg hm
 refine ro (qat rfl ?_)
 exact eE hm

def Jd8 (s : Str) : Option (Str × Int) :=
  (JcX s).bind fun x5 =>
  if (!x5) then
  some (([] : Str), 8)
  else
  if decide ((s.length : Int) > 64) then
  some (([] : Str), 5)
  else
  (Jci s).bind fun aS =>
  some (aS, 0)
theorem Jgf {s : Str} {K : Hp} {r : Str × Int}
    (hm : Jd8 s = some r)  :
    Fn Tryz.prog 153 [str s] K [] (fun v K' H' => v = .tuple #[str r.1, .int .i64 r.2] ∧ H' = []) := by
 refine Fn.enter Tryz.func153 Tryz.call153 rfl fun F => ?_
 unfold Jd8 at hm
 refine cb hm fun x5 q5 hm => cg0 (JfY q5 :) ?_
 refine qa1 ?_
 refine cs rfl rfl hm ?_ ?_ <;> intro w6 hm
 exact eE hm
 refine ro (qat rfl ?_)
 refine cs rfl rfl hm ?_ ?_ <;> intro w9 hm
 exact eE hm
 refine cb hm fun aT aS hm => cg0 (JcP aS :) ?_
 exact eE hm

def Jbm : List UInt8 → Nat → Option (Fl (Bool) (Unit))
  | [], _ => some (Fl.go ())
  | e0 :: aU, i0 =>
    (if decide ((e0.toNat : Int) < 32) then some (decide ((e0.toNat : Int) ≠ 9)) else some false).bind fun aS =>
    (if aS then some true else some (decide ((e0.toNat : Int) = 127))).bind fun aT =>
    if aT then
    some (Fl.ret true)
    else
    Jbm aU (i0 + 1)
def Jdd (s : Str) : Option (Bool) :=
  (chk (s.length ≤ qax)).bind fun _ =>
  (Jbm s 0).bind fun s0 => s0.el some fun t0 =>
  some false
theorem Jfv {s : Str} {K : Hp} {r : Bool}
    (hm : Jdd s = some r)  :
    Fn Tryz.prog 187 [str s] K [] (fun v K' H' => v = .bool r ∧ H' = []) := by
 refine Fn.enter Tryz.func187 Tryz.call187 rfl fun F => ?_
 unfold Jdd at hm
 refine ro (qat rfl ?_)
 obtain ⟨aZ, hm⟩ := qay hm
 obtain ⟨s0, aU, hm⟩ := bnd hm
 refine lD (σ := (Unit)) ([2,3] ++ rg 6 20) [0] (fun i0 => [(6, .int .i64 (i0 : Int))]) (fun _ => []) (fun _ => []) (fun _ => True) (fun i0 _ => Jbm (s.drop i0) i0 = some s0) (fun t0 => s0 = Fl.go t0) (fun i0 => s.length - i0) 0 () aU (And.intro qe (And.intro ?_ ?_))
 clear aU
 rintro i0 _ _ aU j0
 conv at aU => whnf
 refine qaf rfl ?_
 refine qag ?_ ?_ <;> intro w0
 obtain ⟨e0, aX, a6⟩ := ltx w0
 rw [a6, Jbm.eq_2] at aU
 refine qai rfl ?_
 refine qah rfl ?_
 refine qaz rfl (nn _) aX ?_
 obtain ⟨ba, aW, aU⟩ := bnd aU
 refine cS aW (fun aT aW => ?_) fun aT aW => ?_
 refine ct aT (ct aT (qaz rfl (nn _) aX (ct aT (qa2 (ct aT ?_)))))
 obtain ⟨a8, aV, aU⟩ := bnd aU
 refine qag ?_ ?_ <;> intro aS
 replace aV := ift ((si aW).symm.trans aS) aV
 refine ct aS (ct aS (ct aS (ct aS (qaf rfl (cT ?_)))))
 replace aU := ift (si aV).symm aU
 exact eE (er aU hm)
 replace aV := qa6 ((si aW).symm.trans aS) aV
 refine cf aS (cf aS (qaz rfl (nn _) aX (cf aS (qad (cf aS (qaf rfl ?_))))))
 refine qag ?_ ?_ <;> intro aY
 replace aU := ift ((si aV).symm.trans aY) aU
 exact eE (er aU hm)
 replace aU := qa6 ((si aV).symm.trans aY) aU
 refine qar (qbu aX aZ) ?_
 exact eR aU (_, ())
 refine cf aT (cf aT (cf aT (cf aT ?_)))
 obtain ⟨a8, aV, aU⟩ := bnd aU
 replace aV := qa6 (si aW).symm aV
 refine cF (cF (cF (qaz rfl (nn _) aX (cF (qad (cF (qaf rfl ?_)))))))
 refine qag ?_ ?_ <;> intro aY
 replace aU := ift ((si aV).symm.trans aY) aU
 exact eE (er aU hm)
 replace aU := qa6 ((si aV).symm.trans aY) aU
 refine qar (qbu aX aZ) ?_
 exact eR aU (_, ())
 rw [lty w0, Jbm.eq_1] at aU
 refine cT ?_
 exact eM aU _
 rintro t0 _ rfl j0
 replace hm := elg hm
 exact eE hm

def JbU : Nat → Str → Option (Str)
  | 0, _ => none
  | aT + 1, ac =>
    if decide ((ac.length : Int) > 0) then
    (ix ac 0).bind fun x8 =>
    (if decide ((x8.toNat : Int) = 32) then some true else (ix ac 0).bind fun aS =>
    some (decide ((aS.toNat : Int) = 9))).bind fun aU =>
    if aU then
    (chk (0 ≤ (1 : Int) ∧ (1 : Int) ≤ (ac.length : Int) ∧ (ac.length : Int) ≤ (ac.length : Int))).bind fun _ =>
    JbU aT (subL ac (1 : Int) (ac.length : Int))
    else
    some ac
    else
    some ac
def JbV : Nat → Str → Option (Str)
  | 0, _ => none
  | aT + 1, aS =>
    if decide ((aS.length : Int) > 0) then
    (chk (InI ((aS.length : Int) - 1))).bind fun _ =>
    (ix aS ((aS.length : Int) - 1)).bind fun aU =>
    (if decide ((aU.toNat : Int) = 32) then some true else (chk (InI ((aS.length : Int) - 1))).bind fun _ =>
    (ix aS ((aS.length : Int) - 1)).bind fun aW =>
    some (decide ((aW.toNat : Int) = 9))).bind fun aV =>
    if aV then
    (chk (InI ((aS.length : Int) - 1))).bind fun _ =>
    (chk (0 ≤ (0 : Int) ∧ (0 : Int) ≤ ((aS.length : Int) - 1) ∧ ((aS.length : Int) - 1) ≤ (aS.length : Int))).bind fun _ =>
    JbV aT (subL aS (0 : Int) ((aS.length : Int) - 1))
    else
    some aS
    else
    some aS
def Jd9 (n : Nat) (s : Str) : Option (Str) :=
  (JbU n s).bind fun t0 =>
  (JbV n t0).bind fun t2 =>
  some t2
theorem Jgg {n : Nat} {s : Str} {K : Hp} {r : Str}
    (hm : Jd9 n s = some r)  :
    Fn Tryz.prog 188 [str s] K [] (fun v K' H' => v = str r ∧ H' = []) := by
 refine Fn.enter Tryz.func188 Tryz.call188 rfl fun F => ?_
 unfold Jd9 at hm
 obtain ⟨s0, aV, hm⟩ := bnd hm
 refine lD (σ := (Str)) ([0] ++ rg 3 15) [0] (fun _ => []) (fun t0 => [(0, str t0)]) (fun _ => []) (fun _ => True) (fun i0 t0 => JbU i0 t0 = some s0) (fun t0 => t0 = s0) (fun i0 => i0) n _ aV (And.intro qe (And.intro ?_ ?_))
 clear aV
 rintro i0 ac _ aV j0
 conv at aV => whnf
 cases i0 with
 | zero => rw [JbU.eq_1] at aV; cases aV
 | succ i0 =>
  rw [JbU.eq_2] at aV
  refine qah rfl ?_
  refine ro (qat rfl ?_)
  refine cS aV (fun aW aV => ?_) fun aW aV => ?_
  refine ct aW ?_
  obtain ⟨x8, l8, k8, aV⟩ := ixb aV
  refine qaz rfl l8 k8 (ct aW (qad (ct aW ?_)))
  obtain ⟨bw, aZ, aV⟩ := bnd aV
  refine cS aZ (fun aX aZ => ?_) fun aX aZ => ?_
  refine ct aX (ct aX (ct aW (ct aX (ct aW (qaf rfl (cT ?_))))))
  replace aV := ift (si aZ).symm aV
  refine qai rfl ?_
  obtain ⟨a8, aV⟩ := qay aV
  refine RStep.ofN (qbn (lo := (some 1)) (hi := none) rfl a8 ?_)
  exact eR aV (_, _)
  refine cf aX ?_
  obtain ⟨bu, bd, bj, aZ⟩ := ixb aZ
  refine qaz rfl bd bj (cf aX (qad (ct aW (cf aX (ct aW (qaf rfl ?_))))))
  refine qag ?_ ?_ <;> intro bc
  replace aV := ift ((si aZ).symm.trans bc) aV
  refine qai rfl ?_
  obtain ⟨a8, aV⟩ := qay aV
  refine RStep.ofN (qbn (lo := (some 1)) (hi := none) rfl a8 ?_)
  exact eR aV (_, _)
  replace aV := qa6 ((si aZ).symm.trans bc) aV
  refine cT ?_
  exact eM aV _
  refine cf aW (cf aW (cf aW (cf aW (cf aW (qaf rfl (cF (cT ?_)))))))
  exact eM aV _
 rintro t0 _ rfl j0
 obtain ⟨s2, aU, hm⟩ := bnd hm
 refine lD (σ := (Str)) ([0] ++ rg 18 24) [0] (fun _ => []) (fun t2 => [(0, str t2)]) (fun _ => []) (fun _ => True) (fun i2 t2 => JbV i2 t2 = some s2) (fun t2 => t2 = s2) (fun i2 => i2) n _ aU (And.intro qe (And.intro ?_ ?_))
 clear aU
 rintro i2 a6 _ aU j2
 conv at aU => whnf
 cases i2 with
 | zero => rw [JbV.eq_1] at aU; cases aU
 | succ i2 =>
  rw [JbV.eq_2] at aU
  refine qah rfl ?_
  refine ro (qat rfl ?_)
  refine cS aU (fun aS aU => ?_) fun aS aU => ?_
  refine ct aS (ct aS (ro (qat rfl (ct aS ?_))))
  obtain ⟨bf, aU⟩ := qay aU
  refine qar bf (ct aS ?_)
  obtain ⟨bp, bo, bm, aU⟩ := ixb aU
  refine qaz rfl bo bm (ct aS (qad (ct aS ?_)))
  obtain ⟨br, aY, aU⟩ := bnd aU
  refine cS aY (fun aT aY => ?_) fun aT aY => ?_
  refine ct aT (ct aT (ct aT (ct aT (ct aT (ct aS (ct aT (ct aS ?_)))))))
  refine qaf rfl (cT ?_)
  replace aU := ift (si aY).symm aU
  refine qai rfl ?_
  refine ro (qat rfl ?_)
  refine ci aU fun aU => ?_
  obtain ⟨ba, aU⟩ := qay aU
  refine RStep.ofN (qbn (lo := none) (hi := (some ((a6.length : Int) - 1))) rfl ba ?_)
  exact eR aU (_, _)
  refine cf aT (cf aT (ro (qat rfl (cf aT ?_))))
  obtain ⟨bh, aY⟩ := qay aY
  refine qar bh (cf aT ?_)
  obtain ⟨bt, bg, bn, aY⟩ := ixb aY
  refine qaz rfl bg bn (cf aT (qad (ct aS (cf aT (ct aS (qaf rfl ?_))))))
  refine qag ?_ ?_ <;> intro bb
  replace aU := ift ((si aY).symm.trans bb) aU
  refine qai rfl ?_
  refine ro (qat rfl ?_)
  refine ci aU fun aU => ?_
  obtain ⟨ba, aU⟩ := qay aU
  refine RStep.ofN (qbn (lo := none) (hi := (some ((a6.length : Int) - 1))) rfl ba ?_)
  exact eR aU (_, _)
  replace aU := qa6 ((si aY).symm.trans bb) aU
  refine cT ?_
  exact eM aU _
  refine cf aS (cf aS (cf aS (cf aS (cf aS (cf aS (cf aS (cf aS ?_)))))))
  refine qaf rfl (cF (cT ?_))
  exact eM aU _
 rintro t2 _ rfl j2
 exact eE hm

def JdI (n : Nat) (s : Str) : Option (Str × Int) :=
  (Jdd s).bind fun x5 =>
  if x5 then
  some (([] : Str), 2)
  else
  (Jd9 n s).bind fun x7 =>
  if decide ((x7.length : Int) > 2048) then
  some (([] : Str), 5)
  else
  some (x7, 0)
theorem JfZ {n : Nat} {s : Str} {K : Hp} {r : Str × Int}
    (hm : JdI n s = some r)  :
    Fn Tryz.prog 154 [str s] K [] (fun v K' H' => v = .tuple #[str r.1, .int .i64 r.2] ∧ H' = []) := by
 refine Fn.enter Tryz.func154 Tryz.call154 rfl fun F => ?_
 unfold JdI at hm
 refine cb hm fun x5 q5 hm => cg0 (Jfv q5 :) ?_
 refine cs rfl rfl hm ?_ ?_ <;> intro w5 hm
 exact eE hm
 refine cb hm fun x7 q7 hm => cg0 (Jgg q7 :) ?_
 refine ro (qat rfl ?_)
 refine cs rfl rfl hm ?_ ?_ <;> intro aS hm
 exact eE hm
 exact eE hm

def Jea (f : (List Jc)) (name : Str) (value : Str) : Option ((List Jc)) :=
  (chk (([] : List Jc).length + f.length ≤ lim)).bind fun _ =>
  (Jci name).bind fun aS =>
  (chk ((([] : List Jc) ++ f).length + [(⟨aS, value⟩ : Jc)].length ≤ lim)).bind fun _ =>
  some ((([] : List Jc) ++ f) ++ [(⟨aS, value⟩ : Jc)])
theorem Jff {f : (List Jc)} {name : Str} {value : Str} {aa : Option Addr} {ab : Nat} {n0 : Nat} {K : Hp} {r : (List Jc)}
    (hm : Jea f name value = some r) (hX : RdC Jc.enc K aa ab 2 f ∧ n0 = f.length) :
    Fn Tryz.prog 189 [.slice aa n0 ab, str name, str value] K [] (fun v K' H' => ∃ ar_0 : Option Addr, ∃ cr_0 : Nat, v = .slice ar_0 r.length cr_0 ∧ (0 < r.length → Has ar_0) ∧ H' = [OwnL Jc.enc ar_0 90 2 cr_0 r]) := by
 obtain ⟨ae, aV⟩ := hX
 subst aV
 refine Fn.enter Tryz.func189 Tryz.call189 rfl fun F => ?_
 unfold Jea at hm
 refine bsO (len := 0) (enc := Jc.enc) (l := ([] : List Jc)) (cl := []) qke rfl rfl (fun _ _ => rfl) rfl rfl rfl ?_ fun b7 => ?_
 · conv => whnf
   first | done | rfl
 obtain ⟨h9, hm⟩ := qay hm
 refine apE rfl r0 qke (qom rfl ae.rd rfl) h9 ?_
 intro a9 c9 o9
 refine cb hm fun aS aU hm => cg0 (JcP aU :) ?_
 refine qak rfl rfl (cT (cT ?_))
 refine bsO (len := 1) (enc := Jc.enc) (l := [(⟨aS, value⟩ : Jc)]) (cl := [str aS, str value]) qke rfl rfl (fun _ _ => rfl) rfl rfl rfl ?_ fun aW => ?_
 · conv => whnf
   refine cT ?_
   first | done | rfl
 obtain ⟨aT, hm⟩ := qay hm
 refine apE rfl r1 qke (qa4 rfl r0 rfl (fun _ => rfl) (fun _ => rfl)) aT ?_
 intro aX aY aZ
 exact eE hm

def JaV (name : Str) : List Jc → Nat → (List Jc) → Option ((List Jc))
  | [], _, ac => some ac
  | e0 :: aS, i0, ac =>
    (JdQ e0 name).bind fun aT =>
    if (!aT) then
    (chk (ac.length + [e0].length ≤ lim)).bind fun _ =>
    JaV name aS (i0 + 1) (ac ++ [e0])
    else
    JaV name aS (i0 + 1) ac
def Jds (f : (List Jc)) (name : Str) : Option ((List Jc)) :=
  (chk (f.length ≤ qax)).bind fun _ =>
  (JaV name f 0 []).bind fun t0 =>
  some t0
theorem JfE {f : (List Jc)} {name : Str} {aa : Option Addr} {ab : Nat} {n0 : Nat} {K : Hp} {r : (List Jc)}
    (hm : Jds f name = some r) (hX : RdC Jc.enc K aa ab 2 f ∧ n0 = f.length) :
    Fn Tryz.prog 190 [.slice aa n0 ab, str name] K [] (fun v K' H' => ∃ ar_0 : Option Addr, ∃ cr_0 : Nat, v = .slice ar_0 r.length cr_0 ∧ (0 < r.length → Has ar_0) ∧ H' = [OwnL Jc.enc ar_0 90 2 cr_0 r]) := by
 obtain ⟨ae, bb⟩ := hX
 subst bb
 refine Fn.enter Tryz.func190 Tryz.call190 rfl fun F => ?_
 unfold Jds at hm
 refine ro (qaj rfl ?_)
 obtain ⟨aY, hm⟩ := qay hm
 obtain ⟨s0, aU, hm⟩ := bnd hm
 refine qkc Jc.enc 90 2 ?_
 refine lD (σ := ((List Jc)) × Option Addr × Nat) ([5,6] ++ rg 9 18) [1] (fun i0 => [(9, .int .i64 (i0 : Int))]) (fun (t0, aS, aT) => [(5, .slice aS t0.length aT)]) (fun (t0, aS, aT) => [OwnL Jc.enc aS 90 2 aT t0]) (fun (t0, aS, aT) => (0 < t0.length → Has aS) ∧ True) (fun i0 (t0, aS, aT) => JaV name (f.drop i0) i0 t0 = some s0) (fun (t0, aS, aT) => t0 = s0) (fun i0 => f.length - i0) 0 (_, _, _) aU (And.intro qe (And.intro ?_ ?_))
 clear aU
 rintro i0 ⟨ac, a6, aZ⟩ ⟨aW, _⟩ aU j0
 conv at aU => whnf
 refine qaf rfl ?_
 refine qag ?_ ?_ <;> intro w0
 obtain ⟨e0, aV, bc⟩ := ltx w0
 rw [bc, JaV.eq_2] at aU
 refine qai rfl ?_
 refine RStep.ofN (qac rfl rfl (qcc ae.rd aV) (nn _) (qbg aV) (ro (qap i0 _ ae.rd rfl (mp aV) rfl ?_)))
 refine cb aU fun bh ba aU => cg0 (JeS ba :) ?_
 refine qa1 ?_
 refine cs rfl rfl aU ?_ ?_ <;> intro bj aU
 refine RStep.ofN (qac rfl rfl (qcc ae.rd aV) (nn _) (qbg aV) (ro (qap i0 _ ae.rd rfl (mp aV) rfl ?_)))
 refine bsO (len := 1) (enc := Jc.enc) (l := [e0]) (cl := [str e0.Name, str e0.Value]) qke rfl rfl (fun _ _ => rfl) rfl rfl rfl ?_ fun bd => ?_
 · conv => whnf
   refine cT ?_
   first | done | rfl
 obtain ⟨a8, aU⟩ := qay aU
 refine apE rfl r1 qke (qa4 rfl r0 rfl (fun _ => rfl) (fun _ => rfl)) a8 ?_
 intro bm bg bf
 refine qar (qbu aV aY) ?_
 exact eR aU (_, _, _, _)
 refine qar (qbu aV aY) ?_
 exact eR aU (_, _, _, _)
 rw [lty w0, JaV.eq_1] at aU
 refine cT ?_
 exact eM aU (_, _, _)
 rintro ⟨t0, aS, aT⟩ ⟨aX, _⟩ rfl j0
 exact eE hm

def JcC (name : Str) (f : (List Jc)) (value : Str) : List Jc → Nat → Option (Fl ((List Jc)) (Unit))
  | [], _ => some (Fl.go ())
  | e0 :: aV, i0 =>
    (JdQ e0 name).bind fun aU =>
    if aU then
    (chk (0 ≤ (0 : Int) ∧ (0 : Int) ≤ (i0 : Int) ∧ (i0 : Int) ≤ (f.length : Int))).bind fun _ =>
    (Jea (subL f (0 : Int) (i0 : Int)) name value).bind fun aS =>
    (chk (0 ≤ ((i0 : Int) + 1) ∧ ((i0 : Int) + 1) ≤ (f.length : Int) ∧ (f.length : Int) ≤ (f.length : Int))).bind fun _ =>
    (Jds (subL f ((i0 : Int) + 1) (f.length : Int)) name).bind fun aT =>
    (chk (aS.length + aT.length ≤ lim)).bind fun _ =>
    some (Fl.ret (aS ++ aT))
    else
    JcC name f value aV (i0 + 1)
def JeB (f : (List Jc)) (name : Str) (value : Str) : Option ((List Jc)) :=
  (chk (f.length ≤ qax)).bind fun _ =>
  (JcC name f value f 0).bind fun s0 => s0.el some fun t0 =>
  (Jea f name value).bind fun aS =>
  some aS
theorem Jgq {f : (List Jc)} {name : Str} {value : Str} {aa : Option Addr} {ab : Nat} {n0 : Nat} {K : Hp} {r : (List Jc)}
    (hm : JeB f name value = some r) (hX : RdC Jc.enc K aa ab 2 f ∧ n0 = f.length) :
    Fn Tryz.prog 155 [.slice aa n0 ab, str name, str value] K [] (fun v K' H' => ∃ ar_0 : Option Addr, ∃ cr_0 : Nat, v = .slice ar_0 r.length cr_0 ∧ (0 < r.length → Has ar_0) ∧ H' = [OwnL Jc.enc ar_0 90 2 cr_0 r]) := by
 obtain ⟨ae, bm⟩ := hX
 subst bm
 refine Fn.enter Tryz.func155 Tryz.call155 rfl fun F => ?_
 unfold JeB at hm
 refine ro (qaj rfl ?_)
 obtain ⟨aY, hm⟩ := qay hm
 obtain ⟨s0, aS, hm⟩ := bnd hm
 refine lD (σ := (Unit)) ([6,7] ++ rg 10 23) [0] (fun i0 => [(10, .int .i64 (i0 : Int))]) (fun _ => []) (fun _ => []) (fun _ => True) (fun i0 _ => JcC name f value (f.drop i0) i0 = some s0) (fun t0 => s0 = Fl.go t0) (fun i0 => f.length - i0) 0 () aS (And.intro qe (And.intro ?_ ?_))
 clear aS
 rintro i0 _ _ aS j0
 conv at aS => whnf
 refine qaf rfl ?_
 refine qag ?_ ?_ <;> intro w0
 obtain ⟨e0, aT, bp⟩ := ltx w0
 rw [bp, JcC.eq_2] at aS
 refine qai rfl ?_
 refine RStep.ofN (qac rfl rfl (qcc ae.rd aT) (nn _) (qbg aT) (ro (qap i0 _ ae.rd rfl (mp aT) rfl ?_)))
 refine cb aS fun bz bh aS => cg0 (JeS bh :) ?_
 refine cs rfl rfl aS ?_ ?_ <;> intro bC aS
 refine qau ⟨⟨[], false⟩, _, [], []⟩ (by kernel_rfl) ⟨Hp.Le.refl _, (pf rfl), ci0⟩ ?_
 obtain ⟨a8, aS⟩ := qay aS
 have bg := ae.subC a8
 refine qgt (l := f) (lo := none) (hi := (some (i0 : Int))) (lo' := (0 : Int)) (hi' := (i0 : Int)) rfl rfl rfl rfl rfl ae.le a8 ?_
 refine cb aS fun bD bf aS => ckx (Jff bf :) ?_
 rintro _ _ _ ⟨aX, ba, rfl, bc, rfl⟩
 refine qk (pf rfl) ?_
 refine qar (qbu aT aY) ?_
 obtain ⟨aZ, aS⟩ := qay aS
 have bo := ae.subC aZ
 refine qgt (l := f) (lo := (some ((i0 : Int) + 1))) (hi := none) (lo' := ((i0 : Int) + 1)) (hi' := (f.length : Int)) rfl rfl rfl rfl rfl ae.le aZ ?_
 refine cb aS fun bw bj aS => ckx (JfE bj :) ?_
 rintro _ _ _ ⟨a6, bd, rfl, aV, rfl⟩
 refine qk (pf rfl) ?_
 obtain ⟨bn, aS⟩ := qay aS
 refine apE rfl r1 qke (qa4 rfl r0 rfl (fun _ => rfl) (fun _ => rfl)) bn ?_
 intro bu bt bA
 refine qk (pf rfl) ?_
 exact eE (er aS hm)
 refine qar (qbu aT aY) ?_
 exact eR aS (_, ())
 rw [lty w0, JcC.eq_1] at aS
 refine cT ?_
 exact eM aS _
 rintro t0 _ rfl j0
 replace hm := elg hm
 refine cb hm fun bB br hm => ckx (Jff br :) ?_
 rintro _ _ _ ⟨bb, aW, rfl, aU, rfl⟩
 exact eE hm

def JdJ (n : Nat) (r' : Jg) (s : Str) (x : Jl) : Option (Jg × Int) :=
  (chk (0 ≤ (0 : Int) ∧ (0 : Int) ≤ (5 : Int) ∧ (5 : Int) ≤ (s.length : Int))).bind fun _ =>
  ((if decide ((subL s (0 : Int) (5 : Int)) ≠ ([118, 97, 114, 121, 58] : Str)) then
  some 7
  else
  some 5 : Option (Int))).bind fun aS =>
  (chk (0 ≤ aS ∧ aS ≤ (s.length : Int) ∧ (s.length : Int) ≤ (s.length : Int))).bind fun _ =>
  (Jd8 (subL s aS (s.length : Int))).bind fun aU =>
  if decide (aU.2 ≠ 0) then
  some (r', 8)
  else
  if decide (aS = 5) then
  (Jdz n r'.Vary aU.1).bind fun aV =>
  some ((⟨r'.Ae, r'.Af, r'.Ag, aV, r'.Ah, r'.TTL, r'.Ai, r'.Aj, r'.Ak, r'.Al⟩ : Jg), 0)
  else
  (JdI n x.S).bind fun aT =>
  if decide (aT.2 ≠ 0) then
  some (r', aT.2)
  else
  (JeB r'.Ag aU.1 aT.1).bind fun aW =>
  some ((⟨r'.Ae, r'.Af, aW, r'.Vary, r'.Ah, r'.TTL, r'.Ai, r'.Aj, r'.Ak, r'.Al⟩ : Jg), 0)
theorem Jf0 {n : Nat} {r' : Jg} {s : Str} {x : Jl} {aa : Option Addr} {ab : Nat} {aj : Option Addr} {am : Nat} {ak : Option Addr} {an : Nat} {K : Hp} {r : Jg × Int}
    (hm : JdJ n r' s x = some r) (hX : RdC Jc.enc K aa ab 2 r'.Ag ∧ RdC eS K aj am 1 r'.Vary ∧ RdC eS K ak an 1 r'.Ah) :
    Fn Tryz.prog 122 [.agg #[str r'.Ae, str r'.Af, .slice aa r'.Ag.length ab, .slice aj r'.Vary.length am, .slice ak r'.Ah.length an, .int .i64 r'.TTL, .int .i64 r'.Ai, .int .i64 r'.Aj, .bool r'.Ak, .bool r'.Al], str s, .agg #[.int .i64 x.As, .int .i64 x.N, str x.S, .bool x.Is]] K [] (fun v K' H' => ∃ ar_0 : Option Addr, ∃ cr_0 : Nat, ∃ ar_1 : Option Addr, ∃ cr_1 : Nat, ∃ ar_2 : Option Addr, ∃ cr_2 : Nat, v = .tuple #[.agg #[str r.1.Ae, str r.1.Af, .slice ar_0 r.1.Ag.length cr_0, .slice ar_1 r.1.Vary.length cr_1, .slice ar_2 r.1.Ah.length cr_2, .int .i64 r.1.TTL, .int .i64 r.1.Ai, .int .i64 r.1.Aj, .bool r.1.Ak, .bool r.1.Al], .int .i64 r.2] ∧ RdC Jc.enc K' ar_0 cr_0 2 r.1.Ag ∧ RdC eS K' ar_1 cr_1 1 r.1.Vary ∧ RdC eS K' ar_2 cr_2 1 r.1.Ah ∧ H' = []) := by
 obtain ⟨ae, a8, aW⟩ := hX
 refine Fn.enter Tryz.func122 Tryz.call122 rfl fun F => ?_
 unfold JdJ at hm
 refine qaq ?_
 intro b3
 refine qaq ?_
 intro b5
 refine qal rfl fun b6 => ?_
 obtain ⟨bb, hm⟩ := qay hm
 refine RStep.ofN (qbn (lo := none) (hi := (some 5)) rfl bb (qb4 ?_))
 obtain ⟨aU, aS, hm⟩ := bnd hm
 refine jD (σ := (Int)) [8] [0,1,2,3] (fun aT => [(8, .int .i64 aT)]) (fun aT => []) (fun aT => aT = aU) (And.intro ?_ ?_)
 refine cs rfl rfl aS ?_ ?_ <;> intro bm aS
 exact eM aS _
 exact eM aS _
 rintro aT rfl bj
 obtain ⟨bf, hm⟩ := qay hm
 refine RStep.ofN (qbn (lo := (some aT)) (hi := none) rfl bf ?_)
 refine cb hm fun bt bh hm => cg0 (Jgf bh :) ?_
 refine qa2 (cs rfl rfl hm ?_ ?_) <;> intro br hm
 refine ro (qae r2 rfl (nl rfl) ?_)
 refine qaa r0 rfl ⟨rfl, rfl, (nl rfl), ?_⟩
 exact ro (qae r0 rfl (nl rfl) (eE hm))
 refine qad (cs rfl rfl hm ?_ ?_) <;> intro bD hm
 refine fa rfl (ro (ld r2 rfl rfl ?_))
 refine cb hm fun bu bc hm => cfx (JeX bc :) ?_
 rintro _ bp _ bn ⟨aV, aX, rfl, a6, rfl⟩
 refine fa rfl ?_
 refine qaa r2 rfl ⟨rfl, rfl, (nl rfl), ?_⟩
 refine ro (qae r0 rfl (nl rfl) ?_)
 refine qaa r1 rfl ⟨rfl, rfl, (nl rfl), ?_⟩
 exact ro (qae r0 rfl (nl rfl) (eE hm))
 refine fa rfl (ro (ld r1 rfl rfl ?_))
 refine cb hm fun bw bg hm => cg0 (JfZ bg :) ?_
 refine qa2 (cs rfl rfl hm ?_ ?_) <;> intro bB hm
 refine ro (qae r2 rfl (nl rfl) ?_)
 refine qaa r0 rfl ⟨rfl, rfl, (nl rfl), ?_⟩
 exact ro (qae r0 rfl (nl rfl) (eE hm))
 refine fa rfl (ro (ld r2 rfl rfl ?_))
 refine cb hm fun bz bd hm => ckx (Jgq bd :) ?_
 rintro _ _ _ ⟨ba, aZ, rfl, aY, rfl⟩
 refine fa rfl ?_
 refine qaa r3 rfl ⟨rfl, rfl, (nl rfl), ?_⟩
 refine ro (qae r0 rfl (nl rfl) ?_)
 refine qaa r2 rfl ⟨rfl, rfl, (nl rfl), ?_⟩
 refine ro (qae r0 rfl (nl rfl) ?_)
 refine fE r2 fun bC bo bA => ?_
 exact eE hm

def Jef (n : Nat) (r' : Jg) (s : Str) (x : Jl) : Option (Jg × Int) :=
  ((((if (decide (s = ([112, 97, 115, 115] : Str)) || decide (s = ([116, 111, 107, 101, 110] : Str))) then
  some true
  else
  (if decide ((s.length : Int) > 5) then (chk (0 ≤ (0 : Int) ∧ (0 : Int) ≤ (5 : Int) ∧ (5 : Int) ≤ (s.length : Int))).bind fun _ =>
  some (decide ((subL s (0 : Int) (5 : Int)) = ([118, 97, 114, 121, 58] : Str))) else some false).bind fun aY =>
  some (aY || decide (s = ([118, 97, 114, 121, 58] : Str)))) : Option (Bool)).bind fun aV =>
  if aV then
  some 0
  else
  if (decide (s = ([116, 116, 108] : Str)) || decide (s = ([100, 101, 110, 121] : Str))) then
  some 2
  else
  some 1 : Option (Int))).bind fun aT =>
  if decide (x.As ≠ aT) then
  some (r', 9)
  else
  ((if decide (s = ([112, 97, 116, 104] : Str)) then
  some (Fl.go (x.S, r'.Af, r'.Ah, r'.TTL, r'.Ai, r'.Ak, r'.Al))
  else
  if decide (s = ([113, 117, 101, 114, 121] : Str)) then
  some (Fl.go (r'.Ae, x.S, r'.Ah, r'.TTL, r'.Ai, r'.Ak, r'.Al))
  else
  if decide (s = ([116, 97, 103] : Str)) then
  (Jdz n r'.Ah x.S).bind fun aX =>
  some (Fl.go (r'.Ae, r'.Af, aX, r'.TTL, r'.Ai, r'.Ak, r'.Al))
  else
  if decide (s = ([116, 116, 108] : Str)) then
  some (Fl.go (r'.Ae, r'.Af, r'.Ah, (max x.N 0), r'.Ai, r'.Ak, r'.Al))
  else
  if decide (s = ([100, 101, 110, 121] : Str)) then
  if (decide (x.N < 400) || decide (x.N > 499)) then
  some (Fl.go (r'.Ae, r'.Af, r'.Ah, r'.TTL, 403, r'.Ak, r'.Al))
  else
  some (Fl.go (r'.Ae, r'.Af, r'.Ah, r'.TTL, x.N, r'.Ak, r'.Al))
  else
  if decide (s = ([112, 97, 115, 115] : Str)) then
  some (Fl.go (r'.Ae, r'.Af, r'.Ah, r'.TTL, r'.Ai, true, r'.Al))
  else
  if decide (s = ([116, 111, 107, 101, 110] : Str)) then
  some (Fl.go (r'.Ae, r'.Af, r'.Ah, r'.TTL, r'.Ai, r'.Ak, true))
  else
  (JdJ n r' s x).bind fun aW =>
  some (Fl.ret (aW.1, aW.2)) : Option (Fl (Jg × Int) (Str × Str × (List Str) × Int × Int × Bool × Bool)))).bind fun aU => aU.el some fun aS =>
  some ((⟨aS.1, aS.2.1, r'.Ag, r'.Vary, aS.2.2.1, aS.2.2.2.1, aS.2.2.2.2.1, r'.Aj, aS.2.2.2.2.2.1, aS.2.2.2.2.2.2⟩ : Jg), 0)
theorem Jgu {n : Nat} {r' : Jg} {s : Str} {x : Jl} {aa : Option Addr} {ab : Nat} {aj : Option Addr} {am : Nat} {ak : Option Addr} {an : Nat} {K : Hp} {r : Jg × Int}
    (hm : Jef n r' s x = some r) (hX : RdC Jc.enc K aa ab 2 r'.Ag ∧ RdC eS K aj am 1 r'.Vary ∧ RdC eS K ak an 1 r'.Ah) :
    Fn Tryz.prog 79 [.agg #[str r'.Ae, str r'.Af, .slice aa r'.Ag.length ab, .slice aj r'.Vary.length am, .slice ak r'.Ah.length an, .int .i64 r'.TTL, .int .i64 r'.Ai, .int .i64 r'.Aj, .bool r'.Ak, .bool r'.Al], str s, .agg #[.int .i64 x.As, .int .i64 x.N, str x.S, .bool x.Is]] K [] (fun v K' H' => ∃ ar_0 : Option Addr, ∃ cr_0 : Nat, ∃ ar_1 : Option Addr, ∃ cr_1 : Nat, ∃ ar_2 : Option Addr, ∃ cr_2 : Nat, v = .tuple #[.agg #[str r.1.Ae, str r.1.Af, .slice ar_0 r.1.Ag.length cr_0, .slice ar_1 r.1.Vary.length cr_1, .slice ar_2 r.1.Ah.length cr_2, .int .i64 r.1.TTL, .int .i64 r.1.Ai, .int .i64 r.1.Aj, .bool r.1.Ak, .bool r.1.Al], .int .i64 r.2] ∧ RdC Jc.enc K' ar_0 cr_0 2 r.1.Ag ∧ RdC eS K' ar_1 cr_1 1 r.1.Vary ∧ RdC eS K' ar_2 cr_2 1 r.1.Ah ∧ H' = []) := by
 obtain ⟨ae, bI, br⟩ := hX
 refine Fn.enter Tryz.func79 Tryz.call79 rfl fun F => ?_
 unfold Jef at hm
 refine qaq ?_
 intro b3
 refine qaq ?_
 intro b5
 refine qal rfl fun b6 => ?_
 obtain ⟨bh, aT, hm⟩ := bnd hm
 refine jD (σ := (Int)) (rg 8 29) [0, 1, 2, 3] (fun bc => [(8, .int .i64 bc)]) (fun bc => []) (fun bc => bc = bh) (And.intro ?_ ?_)
 refine qai rfl ?_
 obtain ⟨bm, aV, aT⟩ := bnd aT
 refine jR (σ := Bool) (rg 9 21) (fun bd => [(9, .bool bd)]) (fun bd => bd = bm) ?_ ?_
 refine qah rfl ?_
 refine qam ?_
 refine qag ?_ ?_ <;> intro ba
 refine ct ba (ct ba ?_)
 replace aV := ift (qcj ba) aV
 refine cT (cT (cT (cT (cT (cT (cT (cT ?_)))))))
 refine cT ?_
 exact eM aV _
 refine cf ba (qam (cf ba ?_))
 refine qag ?_ ?_ <;> intro aU
 replace aV := ift (qf0 ba aU) aV
 refine ct aU (ct aU (ct aU (ct aU (ct aU (cT (cT (cT ?_)))))))
 exact eM aV _
 replace aV := qa6 (qee ba aU) aV
 refine cf aU (ro (qat rfl (cf aU (cf aU ?_))))
 obtain ⟨cm, bf, aV⟩ := bnd aV
 refine cS bf (fun a8 bf => ?_) fun a8 bf => ?_
 refine ct a8 ?_
 obtain ⟨bL, bf⟩ := qay bf
 refine RStep.ofN (qbn (lo := none) (hi := (some 5)) rfl bL (ct a8 (qam (cf aU (ct a8 (cf aU ?_))))))
 refine qag ?_ ?_ <;> intro bb
 refine ct bb (ct bb ?_)
 exact eMq aV _ ⟨bq (((qcj ((si bf).symm.trans bb))).symm), trivial⟩
 refine cf bb (qam (cf bb ?_))
 exact eMq aV _ ⟨bq (qhe (b := decide (s = ([118, 97, 114, 121, 58] : Str))) ((si bf).symm.trans bb)), trivial⟩
 refine cf a8 (cf a8 (cf aU (cf a8 (cf aU (cF (cF (qam ?_)))))))
 refine cF ?_
 exact eMq aV _ ⟨bq (qhe (b := decide (s = ([118, 97, 114, 121, 58] : Str))) (si bf).symm), trivial⟩
 rintro bd rfl bO
 refine cs rfl rfl aT ?_ ?_ <;> intro w9 aT
 exact eM aT _
 refine qah rfl ?_
 refine qam ?_
 refine qag ?_ ?_ <;> intro a6
 refine ct a6 (ct a6 (qaf rfl (cT ?_)))
 replace aT := ift (qcj a6) aT
 exact eM aT _
 refine cf a6 (qam (cf a6 (qaf rfl ?_)))
 refine qag ?_ ?_ <;> intro bB
 replace aT := ift (qf0 a6 bB) aT
 exact eM aT _
 replace aT := qa6 (qee a6 bB) aT
 exact eM aT _
 rintro bc rfl bQ
 refine fa rfl (ro (ld r1 rfl rfl (qa2 ?_)))
 refine cs rfl rfl hm ?_ ?_ <;> intro bV hm
 refine ro (qae r2 rfl (nl rfl) ?_)
 refine qaa r0 rfl ⟨rfl, rfl, (nl rfl), ?_⟩
 exact ro (qae r0 rfl (nl rfl) (eE hm))
 obtain ⟨bj, aS, hm⟩ := bnd hm
 refine jC (σ := (Str × Str × (List Str) × Int × Int × Bool × Bool) × Option Addr × Nat) ([7] ++ rg 43 50) [0, 1, 3] (fun (aZ, aX, aY) => []) (fun (aZ, aX, aY) => [Cells b3 44 [str aZ.1, str aZ.2.1, .slice aa r'.Ag.length ab, .slice aj r'.Vary.length am, .slice aX aZ.2.2.1.length aY, .int .i64 aZ.2.2.2.1, .int .i64 aZ.2.2.2.2.1, .int .i64 r'.Aj, .bool aZ.2.2.2.2.2.1, .bool aZ.2.2.2.2.2.2]]) (fun zz K1 => match zz with | (aZ, aX, aY) => RdC eS K1 aX aY 1 aZ.2.2.1 ∧ bj = Fl.go aZ) (And.intro ?_ ?_)
 refine qai rfl ?_
 refine qam (cs rfl rfl aS ?_ ?_) <;> intro bY aS
 refine fa rfl (ro (ld r1 rfl rfl (fa rfl ?_)))
 refine qaa r2 rfl ⟨rfl, rfl, (nl rfl), ?_⟩
 exact eM aS (_, _, _)
 refine qam (cs rfl rfl aS ?_ ?_) <;> intro bX aS
 refine fa rfl (ro (ld r1 rfl rfl (fa rfl ?_)))
 refine qaa r2 rfl ⟨rfl, rfl, (nl rfl), ?_⟩
 exact eM aS (_, _, _)
 refine qam (cs rfl rfl aS ?_ ?_) <;> intro ca aS
 refine fa rfl (ro (ld r2 rfl rfl (fa rfl (ro (ld r1 rfl rfl ?_)))))
 refine cb aS fun bW bM aS => cfx (JeX bM :) ?_
 rintro _ bU _ bT ⟨bu, bD, rfl, bn, rfl⟩
 refine fa rfl ?_
 refine qaa r2 rfl ⟨rfl, rfl, (nl rfl), ?_⟩
 exact eM aS (_, _, _)
 refine qam (cs rfl rfl aS ?_ ?_) <;> intro cn aS
 refine fa rfl (ro (ld r1 rfl rfl (ro (qcl (fa rfl ?_)))))
 refine qaa r2 rfl ⟨rfl, rfl, (nl rfl), ?_⟩
 exact eM aS (_, _, _)
 refine qam (cs rfl rfl aS ?_ ?_) <;> intro cj aS
 refine fa rfl (ro (ld r1 rfl rfl (fa rfl ?_)))
 refine qaa r2 rfl ⟨rfl, rfl, (nl rfl), ?_⟩
 refine qah rfl ?_
 refine fa rfl (ro (ld r2 rfl rfl ?_))
 refine qag ?_ ?_ <;> intro aW
 refine ct aW (ct aW (ct aW (qaf rfl (cT ?_))))
 replace aS := ift (qcj aW) aS
 refine fa rfl ?_
 refine qaa r0 rfl ⟨rfl, rfl, (nl rfl), ?_⟩
 exact eM aS (_, _, _)
 refine fa rfl (cf aW (ro (ld r2 rfl rfl (cf aW (cf aW (qaf rfl ?_))))))
 refine qag ?_ ?_ <;> intro bw
 replace aS := ift (qf0 aW bw) aS
 refine fa rfl ?_
 refine qaa r0 rfl ⟨rfl, rfl, (nl rfl), ?_⟩
 exact eM aS (_, _, _)
 replace aS := qa6 (qee aW bw) aS
 exact eM aS (_, _, _)
 refine qam (cs rfl rfl aS ?_ ?_) <;> intro cd aS
 refine fa rfl ?_
 refine qaa r2 rfl ⟨rfl, rfl, (nl rfl), ?_⟩
 exact eM aS (_, _, _)
 refine qam (cs rfl rfl aS ?_ ?_) <;> intro bR aS
 refine fa rfl ?_
 refine qaa r2 rfl ⟨rfl, rfl, (nl rfl), ?_⟩
 exact eM aS (_, _, _)
 refine ro (qae r2 rfl (nl rfl) (ro (qae r1 rfl (nl rfl) ?_)))
 refine cb aS fun bS bN aS => cfx (Jf0 bN :) ?_
 rintro _ ce _ bZ ⟨bz, bG, bt, bA, bC, bH, rfl, bJ, bp, bo, rfl⟩
 refine qaa r0 rfl ⟨rfl, rfl, (nl rfl), ?_⟩
 exact ro (qae r0 rfl (nl rfl) (eE (er aS hm)))
 rintro ⟨aZ, aX, aY⟩ bF bK ⟨bg, rfl⟩ bP
 replace hm := elg hm
 refine ro (qae r0 rfl (nl rfl) ?_)
 refine qaa r1 rfl ⟨rfl, rfl, (nl rfl), ?_⟩
 exact ro (qae r0 rfl (nl rfl) (eE hm))
