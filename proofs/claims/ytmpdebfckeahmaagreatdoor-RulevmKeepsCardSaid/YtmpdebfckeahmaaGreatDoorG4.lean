/- Functions of the program: mirrors, and that a call returns what the mirror says. Printed by gen.py. -/
import Derived.Test.YtmpdebfckeahmaaGreatDoorG3
set_option linter.unusedVariables false
set_option linter.unusedSimpArgs false
open Go Go.SL Go.Proofs
noncomputable section
set_option maxRecDepth 1000000
set_option maxHeartbeats 8000000
def Jbu (x : Jd) : Option (Jd × Err) :=
  if decide ((x.s.length : Int) > 2048) then
  some ((⟨0, 0, ([] : Str), false⟩ : Jd), (some 5))
  else
  some (x, none)
theorem Jcc {x : Jd} {K : Hp} {r : Jd × Err}
    (hm : Jbu x = some r)  :
    Fn Tryz.prog 130 [.agg #[.int .i64 x.kind, .int .i64 x.n, str x.s, .bool x.At]] K [] (fun v K' H' => v = .tuple #[.agg #[.int .i64 r.1.kind, .int .i64 r.1.n, str r.1.s, .bool r.1.At], qcu 87 r.2] ∧ H' = []) := by
 refine Fn.enter Tryz.func130 Tryz.call130 rfl fun F => ?_
 unfold Jbu at hm
 refine qas ?_
 intro b1
 refine qal rfl fun b2 => ?_
 refine fa rfl (ro (ld r1 rfl rfl (ro (qa2 rfl ?_))))
 refine cs rfl rfl hm ?_ ?_ <;> intro w7 hm
 refine qam rfl rfl ?_
 refine qa3 rfl ?_
 refine qab r0 rfl ⟨rfl, rfl, (nl rfl), ?_⟩
 exact ro (qae r0 rfl (nl rfl) (eE hm))
 refine ro (qae r1 rfl (nl rfl) ?_)
 refine qab r0 rfl ⟨rfl, rfl, (nl rfl), ?_⟩
 exact ro (qae r0 rfl (nl rfl) (eE hm))

def J6 (env : (List Jy)) (n' : Ja) : Nat → Int → Option (Fl (Jd × Err) (Int))
  | 0, _ => none
  | aM + 1, aJ =>
    if decide (aJ ≥ 0) then
    (ix env aJ).bind fun aL =>
    if decide (aL.name = n'.Ac) then
    (ix env aJ).bind fun aK =>
    some (Fl.ret (aK.value, none))
    else
    (chk (InI (aJ - 1))).bind fun _ =>
    J6 env n' aM (aJ - 1)
    else
    some (Fl.go aJ)
def JW : Nat → Jn → Ja → (List Jy) → Option (Jd × Err)
  | 0, _, _, _ => none
  | n + 1, w', n', env =>
    if decide (n'.Ab = 20) then
    (JbP n'.Ac).bind fun aY =>
    (JaH aY).bind fun bc =>
    some (bc, none)
    else
    if decide (n'.Ab = 21) then
    (Jac n'.Ac).bind fun a8 =>
    (Jbu a8).bind fun aX =>
    some (aX.1, aX.2)
    else
    if decide (n'.Ab = 22) then
    (Jat (decide (n'.Ac = ([116, 114, 117, 101] : Str)))).bind fun ba =>
    some (ba, none)
    else
    if decide (n'.Ab = 23) then
    (chk (InI ((env.length : Int) - 1))).bind fun _ =>
    (J6 env n' n ((env.length : Int) - 1)).bind fun s1 => s1.el some fun t1 =>
    (Jae n'.Ac w'.Ar).bind fun aZ =>
    (Jbu aZ).bind fun aW =>
    some (aW.1, aW.2)
    else
    (ix n'.Aa 0).bind fun a6 =>
    ((JW n) w' a6 env).bind fun aJ =>
    if aJ.2.isSome then
    some ((⟨0, 0, ([] : Str), false⟩ : Jd), aJ.2)
    else
    ((if decide (n'.Ab = 24) then
    (JE n'.Ac aJ.1 w'.Ar).bind fun bb =>
    (Jbu bb.1).bind fun aO =>
    some (Fl.ret (aO.1, aO.2))
    else
    if decide (n'.Ab = 15) then
    (Jat (!aJ.1.At)).bind fun aQ =>
    some (Fl.ret (aQ, none))
    else
    if decide (n'.Ab = 14) then
    if (!aJ.1.At) then
    some (Fl.ret (aJ.1, none))
    else
    (ix n'.Aa 1).bind fun aR =>
    ((JW n) w' aR env).bind fun aN =>
    some (Fl.ret (aN.1, aN.2))
    else
    if decide (n'.Ab = 13) then
    if aJ.1.At then
    some (Fl.ret (aJ.1, none))
    else
    (ix n'.Aa 1).bind fun aP =>
    ((JW n) w' aP env).bind fun aL =>
    some (Fl.ret (aL.1, aL.2))
    else
    if decide (n'.Ab = 17) then
    some (Fl.go ([43] : Str))
    else
    if decide (n'.Ab = 18) then
    some (Fl.go ([45] : Str))
    else
    if decide (n'.Ab = 19) then
    some (Fl.go ([42] : Str))
    else
    some (Fl.go n'.Ac) : Option (Fl (Jd × Err) (Str)))).bind fun aT => aT.el some fun aV =>
    (ix n'.Aa 1).bind fun aS =>
    ((JW n) w' aS env).bind fun aK =>
    if aK.2.isSome then
    some ((⟨0, 0, ([] : Str), false⟩ : Jd), aK.2)
    else
    (JJ aV aJ.1 aK.1).bind fun aU =>
    (Jbu aU.1).bind fun aM =>
    some (aM.1, aM.2)
theorem Jdr : ∀ {n : Nat} {w' : Jn} {n' : Ja} {env : (List Jy)} {b0 : Nat} {aa : Option Addr} {ac : Nat} {aj : Option Addr} {al : Nat} {ak : Option Addr} {am : Nat} {an : Option Addr} {ar : Nat} {af : Option Addr} {ag : Nat} {ao : Option Addr} {aq : Nat} {n2 : Nat} {K : Hp} {r : Jd × Err}
    (hm : JW n w' n' env = some r) (hX : RdC Jc.enc K aa ac 2 w'.Ar.Ao ∧ (0 < w'.result.Ag.length → Has aj) ∧ (0 < w'.result.Vary.length → Has ak) ∧ (0 < w'.result.Ah.length → Has an) ∧ LiC Ja.R K af ag 4 n'.Aa ∧ RdC Jy.enc K ao aq 5 env ∧ n2 = env.length ∧ GG K),
    Fn Tryz.prog 86 [.pointer (some ⟨b0, 0, none⟩), .agg #[.int .i64 n'.Ab, str n'.Ac, .slice af n'.Aa.length ag, .int .i64 n'.Ad], .slice ao n2 aq] K [Cells b0 125 [str w'.Ar.Am, str w'.Ar.An, str w'.Ar.Ae, str w'.Ar.Af, .slice aa w'.Ar.Ao.length ac, str w'.result.Ae, str w'.result.Af, .slice aj w'.result.Ag.length al, .slice ak w'.result.Vary.length am, .slice an w'.result.Ah.length ar, .int .i64 w'.result.TTL, .int .i64 w'.result.Ai, .int .i64 w'.result.Aj, .bool w'.result.Ak, .bool w'.result.Al, .bool w'.Aq], OwnL Jc.enc aj 77 2 al w'.result.Ag, OwnL eS ak 9 1 am w'.result.Vary, OwnL eS an 9 1 ar w'.result.Ah] (fun v K' H' => v = .tuple #[.agg #[.int .i64 r.1.kind, .int .i64 r.1.n, str r.1.s, .bool r.1.At], qcu 87 r.2] ∧ H' = [Cells b0 125 [str w'.Ar.Am, str w'.Ar.An, str w'.Ar.Ae, str w'.Ar.Af, .slice aa w'.Ar.Ao.length ac, str w'.result.Ae, str w'.result.Af, .slice aj w'.result.Ag.length al, .slice ak w'.result.Vary.length am, .slice an w'.result.Ah.length ar, .int .i64 w'.result.TTL, .int .i64 w'.result.Ai, .int .i64 w'.result.Aj, .bool w'.result.Ak, .bool w'.result.Al, .bool w'.Aq], OwnL Jc.enc aj 77 2 al w'.result.Ag, OwnL eS ak 9 1 am w'.result.Vary, OwnL eS an 9 1 ar w'.result.Ah]) := by
 intro n
 induction n with
 | zero =>
   intro w' n' env b0 aa ac aj al ak am an ar af ag ao aq n2 K r hm hX
   rw [JW.eq_1] at hm; cases hm
 | succ n ih =>
   intro w' n' env b0 aa ac aj al ak am an ar af ag ao aq n2 K r hm hX
   obtain ⟨ae, bU, bQ, bR, ah, aL, cL, hG⟩ := hX
   subst cL
   refine Fn.enter Tryz.func86 Tryz.call86 rfl fun F => ?_
   rw [JW.eq_2] at hm
   refine qas ?_
   intro b4
   refine qal rfl fun b6 => ?_
   refine fa rfl (ro (ld r1 rfl rfl ?_))
   refine qak rfl ?_
   refine qaf (cs rfl rfl hm ?_ ?_) <;> intro de hm
   refine fa rfl (ro (ld r1 rfl rfl ?_))
   refine cb hm fun dj cH hm => cg0 (Jde cH :) ?_
   refine cb hm fun c8 cj hm => cg0 (Ja1 cj :) ?_
   refine qab r0 rfl ⟨rfl, rfl, (nl rfl), ?_⟩
   exact ro (qae r0 rfl (nl rfl) (eE hm))
   refine qaf (cs rfl rfl hm ?_ ?_) <;> intro da hm
   refine fa rfl (ro (ld r1 rfl rfl ?_))
   refine cb hm fun cY cr hm => cg0 (Jaa cr :) ?_
   refine cb hm fun dk cD hm => cg0 (Jcc cD :) ?_
   refine qab r0 rfl ⟨rfl, rfl, (nl rfl), ?_⟩
   exact ro (qae r0 rfl (nl rfl) (eE hm))
   refine qaf (cs rfl rfl hm ?_ ?_) <;> intro di hm
   refine fa rfl (ro (ld r1 rfl rfl (qar ?_)))
   refine cb hm fun c5 cQ hm => cg0 (Jak cQ :) ?_
   refine qab r0 rfl ⟨rfl, rfl, (nl rfl), ?_⟩
   exact ro (qae r0 rfl (nl rfl) (eE hm))
   refine qaf (cs rfl rfl hm ?_ ?_) <;> intro dg hm
   refine ro (qai rfl ?_)
   refine ci hm fun hm => ?_
   obtain ⟨s1, aK, hm⟩ := bnd hm
   refine lD (σ := (Int)) ([7,8] ++ rg 44 17) [0, 1, 2, 3, 4, 5, 6] (fun _ => []) (fun t1 => [(8, .int .i64 t1)]) (fun _ => []) (fun _ => True) (fun i1 t1 => J6 env n' i1 t1 = some s1) (fun t1 => s1 = Fl.go t1) (fun i1 => i1) n _ aK (And.intro qe (And.intro ?_ ?_))
   clear aK
   rintro i1 aT _ aK j1
   conv at aK => whnf
   cases i1 with
   | zero => rw [J6.eq_1] at aK; cases aK
   | succ i1 =>
    rw [J6.eq_2] at aK
    refine cs rfl rfl aK ?_ ?_ <;> intro dq aK
    refine qak rfl ?_
    refine qa4 ⟨⟨[], false⟩, _, [(_, _)], []⟩ (by kernel_rfl) ⟨Hp.Le.refl _, (sc [1] rfl), ci0⟩ ?_
    obtain ⟨cZ, bP, bf, aK⟩ := ixb aK
    refine qac rfl rfl (qdg aL.rd bf) bP (qay rfl bP bf) (qaz rfl (qdg aL.rd bf) (qbk ((aT).toNat) 0 _ _ aL.rd rfl (mp bf) rfl rfl (fa rfl (qao m0 rfl rfl (qar ?_)))))
    refine cs rfl rfl aK ?_ ?_ <;> intro c9 aK
    obtain ⟨bb, bJ, bc, aK⟩ := ixb aK
    refine RStep.ofN (qac rfl rfl (qdg aL.rd bc) bJ (qay rfl bJ bc) (qaz rfl (qdg aL.rd bc) (ro (qie ((aT).toNat) 1 4 _ [.int .i64 bb.value.kind, .int .i64 bb.value.n, str bb.value.s, .bool bb.value.At] aL.rd rfl (mp bc) rfl rfl rfl ?_))))
    refine qab r0 rfl ⟨rfl, rfl, (nl rfl), ?_⟩
    exact ro (qae r0 rfl (nl rfl) (eE (er aK hm)))
    refine ci aK fun aK => ?_
    exact eR aK (_, _)
    refine cT ?_
    exact eM aK _
   rintro t1 _ rfl j1
   replace hm := elg hm
   refine qa4 ⟨⟨[], false⟩, _, [(_, _), (_, _)], []⟩ (by kernel_rfl) ⟨Hp.Le.refl _, (sc [1,1] rfl), ci0⟩ ?_
   refine fa rfl (qao m0 rfl rfl (qah (fa rfl (qbx m1 rfl (nl rfl) ?_))))
   refine cb hm fun dm ca hm => cgx (Jcn ca :) ?_
   refine qk (sc [1,1] rfl) ?_
   refine cb hm fun dl cN hm => cg0 (Jcc cN :) ?_
   refine qk (sc [1,1] rfl) ?_
   refine qab r0 rfl ⟨rfl, rfl, (nl rfl), ?_⟩
   refine qk (sc [1,1] rfl) ?_
   exact ro (qae r0 rfl (nl rfl) (eE hm))
   refine fa rfl (ro (ld r1 rfl rfl ?_))
   obtain ⟨dh, bW, bw, hm⟩ := ixb hm
   refine RStep.ofN (qac rfl rfl (qdc ah.rd bw) bW (qay rfl bW bw) ?_)
   obtain ⟨cn, cw, bv, bB, bm⟩ := LiR.get ah.rd bw
   obtain ⟨bX, bK, rfl, bS⟩ := Ja.out bm
   refine ro (qan ((0 : Int).toNat) _ bv rfl bB rfl ?_)
   refine cb hm fun cX ce hm => cgx (ih ce :) ?_
   refine qal rfl fun b9 => ?_
   refine qab r0 rfl ⟨rfl, rfl, (nl rfl), ?_⟩
   refine qbg rfl ?_
   refine cs rfl rfl hm ?_ ?_ <;> intro c6 hm
   refine qam rfl rfl ?_
   refine qab r5 rfl ⟨rfl, rfl, (nl rfl), ?_⟩
   exact ro (qae r0 rfl (nl rfl) (eE hm))
   refine fa rfl (ro (ld r6 rfl rfl (fa rfl (ro (ld r6 rfl rfl ?_)))))
   obtain ⟨bj, aJ, hm⟩ := bnd hm
   refine jD (σ := (Str)) ([7,11,12,13] ++ rg 89 58) [0, 1, 2, 3, 4, 5, 6, 7] (fun aM => [(11, str aM)]) (fun aM => []) (fun aM => bj = Fl.go aM) (And.intro ?_ ?_)
   refine qak rfl ?_
   refine qaf (cs rfl rfl aJ ?_ ?_) <;> intro cW aJ
   refine qc0 ⟨⟨[], false⟩, _, [(_, _), (_, _), (_, _)], []⟩ 14 rfl (by kernel_rfl) ⟨Hp.Le.refl _, (sc [6,0,0] rfl), ci0⟩ ?_
   refine fa rfl (qao m0 rfl rfl (qbx m1 rfl (nl rfl) (qah (fa rfl (qbx m2 rfl (nl rfl) ?_)))))
   intro db
   refine cb aJ fun cV cE aJ => cgx (JdD cE :) ?_
   refine ⟨⟨lr, (sc [6,0,0] rfl), ci0⟩, ?_⟩
   refine ⟨_, .cons r8 .nil, ⟨lr, (sc [6,0,0] rfl), ci0⟩, ?_⟩
   refine qg2 rfl ?_
   intro dp
   intro cM
   refine qab r0 rfl ⟨rfl, rfl, (nl rfl), ?_⟩
   refine ⟨⟨lr, (sc [7,1,1] rfl), ci0⟩, ?_⟩
   refine ⟨_, .cons r9 .nil, ⟨lr, (sc [7,1,1] rfl), ci0⟩, ?_⟩
   refine ro (qae r0 rfl (nl rfl) ?_)
   refine cb aJ fun cm bA aJ => cg0 (Jcc bA :) ?_
   refine qab r6 rfl ⟨rfl, rfl, (nl rfl), ?_⟩
   exact ro (qae r0 rfl (nl rfl) (eE (er aJ hm)))
   refine qaf (cs rfl rfl aJ ?_ ?_) <;> intro cR aJ
   refine fa rfl (ro (ld r0 rfl rfl (qax ?_)))
   refine cb aJ fun bY bG aJ => cg0 (Jak bG :) ?_
   refine qab r5 rfl ⟨rfl, rfl, (nl rfl), ?_⟩
   exact ro (qae r0 rfl (nl rfl) (eE (er aJ hm)))
   refine qaf (cs rfl rfl aJ ?_ ?_) <;> intro cU aJ
   refine fa rfl (ro (ld r0 rfl rfl (qax ?_)))
   refine cs rfl rfl aJ ?_ ?_ <;> intro cG aJ
   refine ro (qae r0 rfl (nl rfl) ?_)
   refine qab r5 rfl ⟨rfl, rfl, (nl rfl), ?_⟩
   exact ro (qae r0 rfl (nl rfl) (eE (er aJ hm)))
   refine fa rfl (ro (ld r6 rfl rfl ?_))
   obtain ⟨cO, ba, aO, aJ⟩ := ixb aJ
   refine RStep.ofN (qac rfl rfl (qdc ah.rd aO) ba (qay rfl ba aO) ?_)
   obtain ⟨bN, bT, aR, aS, aZ⟩ := LiR.get ah.rd aO
   obtain ⟨bt, bg, rfl, bH⟩ := Ja.out aZ
   refine ro (qan ((1 : Int).toNat) _ aR rfl aS rfl ?_)
   refine cb aJ fun cd bI aJ => cgx (ih bI :) ?_
   refine qab r5 rfl ⟨rfl, rfl, (nl rfl), ?_⟩
   exact ro (qae r0 rfl (nl rfl) (eE (er aJ hm)))
   refine qaf (cs rfl rfl aJ ?_ ?_) <;> intro cA aJ
   refine fa rfl (ro (ld r0 rfl rfl ?_))
   refine cs rfl rfl aJ ?_ ?_ <;> intro cB aJ
   refine ro (qae r0 rfl (nl rfl) ?_)
   refine qab r5 rfl ⟨rfl, rfl, (nl rfl), ?_⟩
   exact ro (qae r0 rfl (nl rfl) (eE (er aJ hm)))
   refine fa rfl (ro (ld r6 rfl rfl ?_))
   obtain ⟨cI, a8, aP, aJ⟩ := ixb aJ
   refine RStep.ofN (qac rfl rfl (qdc ah.rd aP) a8 (qay rfl a8 aP) ?_)
   obtain ⟨bV, bO, aX, aQ, aY⟩ := LiR.get ah.rd aP
   obtain ⟨bn, bD, rfl, bz⟩ := Ja.out aY
   refine ro (qan ((1 : Int).toNat) _ aX rfl aQ rfl ?_)
   refine cb aJ fun cq bh aJ => cgx (ih bh :) ?_
   refine qab r5 rfl ⟨rfl, rfl, (nl rfl), ?_⟩
   exact ro (qae r0 rfl (nl rfl) (eE (er aJ hm)))
   refine qaf (cs rfl rfl aJ ?_ ?_) <;> intro cu aJ
   exact eM aJ _
   refine qaf (cs rfl rfl aJ ?_ ?_) <;> intro cz aJ
   exact eM aJ _
   refine qaf (cs rfl rfl aJ ?_ ?_) <;> intro bZ aJ
   exact eM aJ _
   exact eM aJ _
   rintro aM rfl cp
   replace hm := elg hm
   refine fa rfl (ro (ld r6 rfl rfl ?_))
   obtain ⟨cJ, aW, aN, hm⟩ := ixb hm
   refine RStep.ofN (qac rfl rfl (qdc ah.rd aN) aW (qay rfl aW aN) ?_)
   obtain ⟨bL, bM, a6, aV, aU⟩ := LiR.get ah.rd aN
   obtain ⟨bp, bF, rfl, bo⟩ := Ja.out aU
   refine ro (qan ((1 : Int).toNat) _ a6 rfl aV rfl ?_)
   refine cb hm fun cP bu hm => cgx (ih bu :) ?_
   refine qal rfl fun df => ?_
   refine qab r0 rfl ⟨rfl, rfl, (nl rfl), ?_⟩
   refine qbg rfl ?_
   refine cs rfl rfl hm ?_ ?_ <;> intro co hm
   refine qam rfl rfl ?_
   refine qab r6 rfl ⟨rfl, rfl, (nl rfl), ?_⟩
   exact ro (qae r0 rfl (nl rfl) (eE hm))
   refine ro (qae r5 rfl (nl rfl) (ro (qae r0 rfl (nl rfl) ?_)))
   refine cb hm fun cC bC hm => cgx (JcW bC :) ?_
   refine qal rfl fun dc => ?_
   refine qab r0 rfl ⟨rfl, rfl, (nl rfl), ?_⟩
   refine ro (qae r0 rfl (nl rfl) ?_)
   refine cb hm fun cK br hm => cg0 (Jcc br :) ?_
   refine qab r7 rfl ⟨rfl, rfl, (nl rfl), ?_⟩
   exact ro (qae r0 rfl (nl rfl) (eE hm))

def JcA (n' : Ja) : Option (Str) :=
  if decide (n'.Ab = 5) then
  (chk (([104, 101, 97, 100, 101, 114, 58] : Str).length + n'.Ac.length ≤ lim)).bind fun _ =>
  some (([104, 101, 97, 100, 101, 114, 58] : Str) ++ n'.Ac)
  else
  if decide (n'.Ab = 6) then
  (chk (([118, 97, 114, 121, 58] : Str).length + n'.Ac.length ≤ lim)).bind fun _ =>
  some (([118, 97, 114, 121, 58] : Str) ++ n'.Ac)
  else
  if decide (n'.Ab = 7) then
  some ([116, 97, 103] : Str)
  else
  if decide (n'.Ab = 8) then
  some ([116, 116, 108] : Str)
  else
  if decide (n'.Ab = 9) then
  some ([100, 101, 110, 121] : Str)
  else
  if decide (n'.Ab = 10) then
  some ([112, 97, 115, 115] : Str)
  else
  if decide (n'.Ab = 11) then
  some ([116, 111, 107, 101, 110] : Str)
  else
  some n'.Ac
theorem JeU {n' : Ja} {aa : Option Addr} {ac : Nat} {K : Hp} {r : Str}
    (hm : JcA n' = some r) (ae : LiC Ja.R K aa ac 4 n'.Aa) :
    Fn Tryz.prog 87 [.agg #[.int .i64 n'.Ab, str n'.Ac, .slice aa n'.Aa.length ac, .int .i64 n'.Ad]] K [] (fun v K' H' => v = str r ∧ H' = []) := by
 refine Fn.enter Tryz.func87 Tryz.call87 rfl fun F => ?_
 unfold JcA at hm
 refine qas ?_
 intro b1
 refine fa rfl (ro (ld r0 rfl rfl ?_))
 refine qak rfl ?_
 refine qaf (cs rfl rfl hm ?_ ?_) <;> intro w5 hm
 refine fa rfl (ro (ld r0 rfl rfl ?_))
 obtain ⟨h9, hm⟩ := qa7 hm
 refine qf1 h9 ?_
 exact eE hm
 refine qaf (cs rfl rfl hm ?_ ?_) <;> intro aP hm
 refine fa rfl (ro (ld r0 rfl rfl ?_))
 obtain ⟨aJ, hm⟩ := qa7 hm
 refine qf1 aJ ?_
 exact eE hm
 refine qaf (cs rfl rfl hm ?_ ?_) <;> intro aN hm
 exact eE hm
 refine qaf (cs rfl rfl hm ?_ ?_) <;> intro aL hm
 exact eE hm
 refine qaf (cs rfl rfl hm ?_ ?_) <;> intro aO hm
 exact eE hm
 refine qaf (cs rfl rfl hm ?_ ?_) <;> intro aM hm
 exact eE hm
 refine qaf (cs rfl rfl hm ?_ ?_) <;> intro aK hm
 exact eE hm
 refine fa rfl (ro (ld r0 rfl rfl ?_))
 exact eE hm

def JL (w' : Jn) (n : Nat) (rec_ : (Jn → (List Ja) → (List Jy) → Option (Err × Jn))) : List Ja → Nat → (List Jy) → Jn → Option (Fl (Err × Jn) ((List Jy) × Jn))
  | [], _, ab, aJ => some (Fl.go (ab, (⟨w'.Ar, aJ.result, aJ.Aq⟩ : Jn)))
  | e0 :: aU, i0, ab, aJ =>
    if aJ.Aq then
    some (Fl.ret (none, (⟨w'.Ar, aJ.result, aJ.Aq⟩ : Jn)))
    else
    ((if decide ((e0.Aa.length : Int) > 0) then
    (ix e0.Aa 0).bind fun aV =>
    (JW n (⟨w'.Ar, aJ.result, aJ.Aq⟩ : Jn) aV ab).bind fun aO =>
    if aO.2.isSome then
    some (Fl.ret (aO.2, (⟨w'.Ar, aJ.result, aJ.Aq⟩ : Jn)))
    else
    some (Fl.go (aO.1.kind, aO.1.n, aO.1.s, aO.1.At))
    else
    some (Fl.go (0, 0, ([] : Str), false)) : Option (Fl (Err × Jn) (Int × Int × Str × Bool)))).bind fun aQ => aQ.el (fun r => some (Fl.ret r)) fun aK =>
    ((if decide (e0.Ab = 3) then
    (chk (ab.length + [(⟨e0.Ac, (⟨aK.1, aK.2.1, aK.2.2.1, aK.2.2.2⟩ : Jd)⟩ : Jy)].length ≤ lim)).bind fun _ =>
    some ((ab ++ [(⟨e0.Ac, (⟨aK.1, aK.2.1, aK.2.2.1, aK.2.2.2⟩ : Jd)⟩ : Jy)]), none, (⟨w'.Ar, aJ.result, aJ.Aq⟩ : Jn))
    else
    if decide (e0.Ab = 2) then
    if aK.2.2.2 then
    (ix e0.Aa 1).bind fun aY =>
    (rec_ (⟨w'.Ar, aJ.result, aJ.Aq⟩ : Jn) aY.Aa ab).bind fun aP =>
    some (ab, aP.1, (⟨w'.Ar, aP.2.result, aP.2.Aq⟩ : Jn))
    else
    (if decide ((e0.Aa.length : Int) > 2) then (ix e0.Aa 2).bind fun aX =>
    some (decide (aX.Ab = 2)) else some false).bind fun aR =>
    if aR then
    (chk (0 ≤ (2 : Int) ∧ (2 : Int) ≤ (e0.Aa.length : Int) ∧ (e0.Aa.length : Int) ≤ (e0.Aa.length : Int))).bind fun _ =>
    (rec_ (⟨w'.Ar, aJ.result, aJ.Aq⟩ : Jn) (subL e0.Aa (2 : Int) (e0.Aa.length : Int)) ab).bind fun aN =>
    some (ab, aN.1, (⟨w'.Ar, aN.2.result, aN.2.Aq⟩ : Jn))
    else
    if decide ((e0.Aa.length : Int) > 2) then
    (ix e0.Aa 2).bind fun aS =>
    (rec_ (⟨w'.Ar, aJ.result, aJ.Aq⟩ : Jn) aS.Aa ab).bind fun aM =>
    some (ab, aM.1, (⟨w'.Ar, aM.2.result, aM.2.Aq⟩ : Jn))
    else
    some (ab, none, (⟨w'.Ar, aJ.result, aJ.Aq⟩ : Jn))
    else
    (JcA e0).bind fun aW =>
    (JaK aJ.result aW (⟨aK.1, aK.2.1, aK.2.2.1, aK.2.2.2⟩ : Jd)).bind fun aT =>
    some (ab, aT.1, (⟨w'.Ar, aT.2, decide (e0.Ab = 9)⟩ : Jn)) : Option ((List Jy) × Err × Jn))).bind fun aL =>
    if aL.2.1.isSome then
    some (Fl.ret (aL.2.1, (⟨w'.Ar, aL.2.2.result, aL.2.2.Aq⟩ : Jn)))
    else
    JL w' n rec_ aU (i0 + 1) aL.1 (⟨w'.Ar, aL.2.2.result, aL.2.2.Aq⟩ : Jn)
def JC : Nat → Jn → (List Ja) → (List Jy) → Option (Err × Jn)
  | 0, _, _, _ => none
  | n + 1, w', list, env =>
    (chk (list.length ≤ qav)).bind fun _ =>
    (JL w' n (JC n) list 0 env w').bind fun s0 => s0.el some fun t0 =>
    some (none, (⟨w'.Ar, t0.2.result, t0.2.Aq⟩ : Jn))
theorem JcB : ∀ {n : Nat} {w' : Jn} {list : (List Ja)} {env : (List Jy)} {b0 : Nat} {aa : Option Addr} {ac : Nat} {aj : Option Addr} {al : Nat} {ak : Option Addr} {am : Nat} {an : Option Addr} {ar : Nat} {af : Option Addr} {ag : Nat} {n1 : Nat} {ao : Option Addr} {aq : Nat} {n2 : Nat} {K : Hp} {r : Err × Jn}
    (hm : JC n w' list env = some r) (hX : RdC Jc.enc K aa ac 2 w'.Ar.Ao ∧ (0 < w'.result.Ag.length → Has aj) ∧ (0 < w'.result.Vary.length → Has ak) ∧ (0 < w'.result.Ah.length → Has an) ∧ LiC Ja.R K af ag 4 list ∧ n1 = list.length ∧ RdC Jy.enc K ao aq 5 env ∧ n2 = env.length ∧ GG K),
    Fn Tryz.prog 52 [.pointer (some ⟨b0, 0, none⟩), .slice af n1 ag, .slice ao n2 aq] K [Cells b0 125 [str w'.Ar.Am, str w'.Ar.An, str w'.Ar.Ae, str w'.Ar.Af, .slice aa w'.Ar.Ao.length ac, str w'.result.Ae, str w'.result.Af, .slice aj w'.result.Ag.length al, .slice ak w'.result.Vary.length am, .slice an w'.result.Ah.length ar, .int .i64 w'.result.TTL, .int .i64 w'.result.Ai, .int .i64 w'.result.Aj, .bool w'.result.Ak, .bool w'.result.Al, .bool w'.Aq], OwnL Jc.enc aj 77 2 al w'.result.Ag, OwnL eS ak 9 1 am w'.result.Vary, OwnL eS an 9 1 ar w'.result.Ah] (fun v K' H' => ∃ ar_0 : Option Addr, ∃ cr_0 : Nat, ∃ ar_1 : Option Addr, ∃ cr_1 : Nat, ∃ ar_2 : Option Addr, ∃ cr_2 : Nat, v = qcu 87 r.1 ∧ (0 < r.2.result.Ag.length → Has ar_0) ∧ (0 < r.2.result.Vary.length → Has ar_1) ∧ (0 < r.2.result.Ah.length → Has ar_2) ∧ H' = [Cells b0 125 [str w'.Ar.Am, str w'.Ar.An, str w'.Ar.Ae, str w'.Ar.Af, .slice aa w'.Ar.Ao.length ac, str r.2.result.Ae, str r.2.result.Af, .slice ar_0 r.2.result.Ag.length cr_0, .slice ar_1 r.2.result.Vary.length cr_1, .slice ar_2 r.2.result.Ah.length cr_2, .int .i64 r.2.result.TTL, .int .i64 r.2.result.Ai, .int .i64 r.2.result.Aj, .bool r.2.result.Ak, .bool r.2.result.Al, .bool r.2.Aq], OwnL Jc.enc ar_0 77 2 cr_0 r.2.result.Ag, OwnL eS ar_1 9 1 cr_1 r.2.result.Vary, OwnL eS ar_2 9 1 cr_2 r.2.result.Ah]) := by
 intro n
 induction n with
 | zero =>
   intro w' list env b0 aa ac aj al ak am an ar af ag n1 ao aq n2 K r hm hX
   rw [JC.eq_1] at hm; cases hm
 | succ n ih =>
   intro w' list env b0 aa ac aj al ak am an ar af ag n1 ao aq n2 K r hm hX
   obtain ⟨ae, dB, dv, dw, ah, eD, dK, eo, hG⟩ := hX
   subst eD
   subst eo
   refine Fn.enter Tryz.func52 Tryz.call52 rfl fun F => ?_
   rw [JC.eq_2] at hm
   refine ro (qai rfl ?_)
   obtain ⟨dY, hm⟩ := qa7 hm
   obtain ⟨s0, bf, hm⟩ := bnd hm
   refine lC (σ := ((List Jy) × Jn) × Option Addr × Nat × Option Addr × Nat × Option Addr × Nat × Option Addr × Nat) ([2,6] ++ rg 8 5 ++ rg 15 102) [4] (fun i0 => [(15, .int .i64 (i0 : Int))]) (fun (t0, bb, bc, aR, aY, aP, aW, aQ, aX) => [(2, .slice bb t0.1.length bc)]) (fun (t0, bb, bc, aR, aY, aP, aW, aQ, aX) => [Cells b0 125 [str w'.Ar.Am, str w'.Ar.An, str w'.Ar.Ae, str w'.Ar.Af, .slice aa w'.Ar.Ao.length ac, str t0.2.result.Ae, str t0.2.result.Af, .slice aR t0.2.result.Ag.length aY, .slice aP t0.2.result.Vary.length aW, .slice aQ t0.2.result.Ah.length aX, .int .i64 t0.2.result.TTL, .int .i64 t0.2.result.Ai, .int .i64 t0.2.result.Aj, .bool t0.2.result.Ak, .bool t0.2.result.Al, .bool t0.2.Aq], OwnL Jc.enc aR 77 2 aY t0.2.result.Ag, OwnL eS aP 9 1 aW t0.2.result.Vary, OwnL eS aQ 9 1 aX t0.2.result.Ah]) (fun zz K1 => match zz with | (t0, bb, bc, aR, aY, aP, aW, aQ, aX) => RdC Jy.enc K1 bb bc 5 t0.1 ∧ (0 < t0.2.result.Ag.length → Has aR) ∧ (0 < t0.2.result.Vary.length → Has aP) ∧ (0 < t0.2.result.Ah.length → Has aQ)) (fun i0 (t0, bb, bc, aR, aY, aP, aW, aQ, aX) => JL w' n (JC n) (list.drop i0) i0 t0.1 t0.2 = some s0) (fun (t0, bb, bc, aR, aY, aP, aW, aQ, aX) => s0 = Fl.go t0) (fun i0 => list.length - i0) 0 ((_, _), _, _, _, _, _, _, _, _) bf (And.intro qe (And.intro ?_ ?_))
   clear bf
   rintro i0 ⟨⟨ab, cB⟩, dA, cV, bA, bK, bO, bN, bD, bz⟩ eK dl ⟨bm, bG, bB, bL⟩ bf j0
   dsimp only at bf ⊢
   refine qad rfl ?_
   refine qag ?_ ?_ <;> intro w0
   obtain ⟨e0, bC, eh⟩ := ltx w0
   rw [eh, JL.eq_2] at bf
   refine qak rfl ?_
   refine RStep.ofN (qac rfl rfl (qdc (LiC.mono Ja.R_ok dl ah).rd bC) (nn _) (qbs bC) ?_)
   obtain ⟨eg, ep, bQ, cn, cL⟩ := LiR.get (LiC.mono Ja.R_ok dl ah).rd bC
   obtain ⟨dD, dH, rfl, aU⟩ := Ja.out cL
   refine ro (qan i0 _ bQ rfl cn rfl ?_)
   refine qal rfl fun b8 => ?_
   refine qab r0 rfl ⟨rfl, rfl, (nl rfl), ?_⟩
   refine qah (fa rfl (ro (ld r1 rfl rfl ?_)))
   refine cs rfl rfl bf ?_ ?_ <;> intro eV bf
   exact eE (er bf hm)
   refine qam rfl rfl ?_
   refine qal rfl fun b9 => ?_
   refine qab r0 rfl ⟨rfl, rfl, (nl rfl), ?_⟩
   refine fa rfl (ro (ld r1 rfl rfl (ro (qai rfl ?_))))
   obtain ⟨cw, aZ, bf⟩ := bnd bf
   refine jD (σ := (Int × Int × Str × Bool)) ([6,10,11] ++ rg 28 14) [1, 2, 3, 4, 5, 6] (fun a6 => []) (fun a6 => [Cells b9 95 [.int .i64 a6.1, .int .i64 a6.2.1, str a6.2.2.1, .bool a6.2.2.2]]) (fun a6 => cw = Fl.go a6) (And.intro ?_ ?_)
   refine cs rfl rfl aZ ?_ ?_ <;> intro eJ aZ
   refine fa rfl (ro (ld r1 rfl rfl ?_))
   obtain ⟨fh, c9, cQ, aZ⟩ := ixb aZ
   refine RStep.ofN (qac rfl rfl (qdc aU.rd cQ) c9 (qay rfl c9 cQ) ?_)
   obtain ⟨em, ey, cC, cI, cz⟩ := LiR.get aU.rd cQ
   obtain ⟨dG, cX, rfl, cU⟩ := Ja.out cz
   refine ro (qan ((0 : Int).toNat) _ cC rfl cI rfl ?_)
   refine cb aZ fun e9 dR aZ => cgx (Jdr dR :) ?_
   refine qal rfl fun e7 => ?_
   refine qab r0 rfl ⟨rfl, rfl, (nl rfl), ?_⟩
   refine qbg rfl ?_
   refine cs rfl rfl aZ ?_ ?_ <;> intro fb aZ
   exact eE (er (er aZ bf :) hm)
   refine ro (qae r0 rfl (nl rfl) ?_)
   refine qab r5 rfl ⟨rfl, rfl, (nl rfl), ?_⟩
   exact eM aZ _
   exact eM aZ _
   rintro a6 rfl dS
   replace bf := elg bf
   refine fa rfl (ro (ld r1 rfl rfl ?_))
   obtain ⟨cu, aJ, bf⟩ := bnd bf
   refine jC (σ := ((List Jy) × Err × Jn) × Option Addr × Nat × Option Addr × Nat × Option Addr × Nat × Option Addr × Nat) ([2,12] ++ rg 44 69) [0, 1, 6] (fun (aL, ba, a8, aO, aS, aN, aT, aM, aV) => [(2, .slice ba aL.1.length a8), (12, qcu 87 aL.2.1)]) (fun (aL, ba, a8, aO, aS, aN, aT, aM, aV) => [Cells b0 125 [str w'.Ar.Am, str w'.Ar.An, str w'.Ar.Ae, str w'.Ar.Af, .slice aa w'.Ar.Ao.length ac, str aL.2.2.result.Ae, str aL.2.2.result.Af, .slice aO aL.2.2.result.Ag.length aS, .slice aN aL.2.2.result.Vary.length aT, .slice aM aL.2.2.result.Ah.length aV, .int .i64 aL.2.2.result.TTL, .int .i64 aL.2.2.result.Ai, .int .i64 aL.2.2.result.Aj, .bool aL.2.2.result.Ak, .bool aL.2.2.result.Al, .bool aL.2.2.Aq], OwnL Jc.enc aO 77 2 aS aL.2.2.result.Ag, OwnL eS aN 9 1 aT aL.2.2.result.Vary, OwnL eS aM 9 1 aV aL.2.2.result.Ah]) (fun zz K1 => match zz with | (aL, ba, a8, aO, aS, aN, aT, aM, aV) => RdC Jy.enc K1 ba a8 5 aL.1 ∧ (0 < aL.2.2.result.Ag.length → Has aO) ∧ (0 < aL.2.2.result.Vary.length → Has aN) ∧ (0 < aL.2.2.result.Ah.length → Has aM) ∧ aL = cu) (And.intro ?_ ?_)
   refine qak rfl ?_
   refine qaf ?_
   refine CStep.ownLe r3 fun e6 => ?_
   refine CStep.ownLe r4 fun eO => ?_
   refine CStep.ownLe r5 fun e5 => ?_
   refine cs rfl rfl aJ ?_ ?_ <;> intro eY aJ
   refine qa4 ⟨⟨[], false⟩, _, [(_, _), (_, _)], []⟩ (by kernel_rfl) ⟨Hp.Le.refl _, (sc [1,0] rfl), ci0⟩ ?_
   refine qcf rfl (qcf rfl ?_)
   refine qvf (l := ab) rfl bm.le rfl rfl ?_
   refine fa rfl (qao m0 rfl rfl (qbx m1 rfl (nl rfl) (qam rfl rfl (cT (cT ?_)))))
   refine bsO (len := 1) (enc := Jy.enc) (l := [(⟨e0.Ac, (⟨a6.1, a6.2.1, a6.2.2.1, a6.2.2.2⟩ : Jd)⟩ : Jy)]) (cl := [str e0.Ac, .int .i64 a6.1, .int .i64 a6.2.1, str a6.2.2.1, .bool a6.2.2.2]) qqi rfl rfl (fun _ _ => rfl) rfl rfl rfl ?_ fun eQ => ?_
   · conv => whnf
     refine cT ?_
     first | done | rfl
   refine qk (sc [2,1] rfl) ?_
   obtain ⟨ek, aJ⟩ := qa7 aJ
   refine qwg (l := ab) bm.clip qqi (qa6 rfl r0 rfl (fun _ => rfl) (fun _ => rfl)) (nl rfl) ek ?_
   intro fe eT ee d7 d6
   refine qk (sc [2,1] rfl) ?_
   exact eM aJ (_, _, _, _, _, _, _, _, _)
   refine qaf ?_
   refine CStep.ownLe r3 fun ef => ?_
   refine CStep.ownLe r4 fun d5 => ?_
   refine CStep.ownLe r5 fun eC => ?_
   refine cs rfl rfl aJ ?_ ?_ <;> intro e8 aJ
   refine fa rfl (ro (ld r0 rfl rfl ?_))
   refine CStep.ownLe r3 fun d9 => ?_
   refine CStep.ownLe r4 fun dZ => ?_
   refine CStep.ownLe r5 fun dU => ?_
   refine cs rfl rfl aJ ?_ ?_ <;> intro eX aJ
   refine fa rfl (ro (ld r1 rfl rfl ?_))
   obtain ⟨eL, c5, bM, aJ⟩ := ixb aJ
   refine RStep.ofN (qac rfl rfl (qdc aU.rd bM) c5 (qay rfl c5 bM) (qaz rfl (qdc aU.rd bM) ?_))
   obtain ⟨ej, d3, cR, co, bZ⟩ := LiR.get aU.rd bM
   obtain ⟨dp, dM, rfl, dq⟩ := Ja.out bZ
   refine ro (qcq ((1 : Int).toNat) 2 _ _ cR rfl co rfl rfl ?_)
   refine cb aJ fun fc d2 aJ => ckx (ih d2 :) ?_
   rintro _ _ _ ⟨dt, dF, dx, cW, de, dm, rfl, df, dy, dN, rfl⟩
   exact eM aJ (_, _, _, _, _, _, _, _, _)
   obtain ⟨bW, bg, aJ⟩ := bnd aJ
   refine jR (σ := Bool) (rg 83 12) (fun bh => [(94, .bool bh)]) (fun bh => bh = bW) ?_ ?_
   replace bg := bsm bg
   refine qaj rfl ?_
   refine fa rfl (ro (ld r1 rfl rfl (ro (qai rfl ?_))))
   obtain ⟨eZ, bn, bg⟩ := bnd bg
   refine cS bn (fun aK bn => ?_) fun aK bn => ?_
   refine fa rfl (ct aK (ro (ld r1 rfl rfl (ct aK ?_))))
   obtain ⟨fg, dJ, bP, bn⟩ := ixb bn
   refine RStep.ofN (qac rfl rfl (qdc aU.rd bP) dJ (qay rfl dJ bP) (ct aK (qaz rfl (qdc aU.rd bP) (ct aK ?_))))
   obtain ⟨ei, dX, cJ, cP, bV⟩ := LiR.get aU.rd bP
   obtain ⟨dj, dI, rfl, dk⟩ := Ja.out bV
   refine ro (qcq ((2 : Int).toNat) 0 _ _ cJ rfl cP rfl rfl (ct aK (qaf (ct aK ?_))))
   exact eMq bg _ ⟨bq (si bn), trivial⟩
   refine cf aK (cf aK (cf aK (cf aK (cf aK (cf aK ?_)))))
   exact eMq bg _ ⟨bq (si bn), trivial⟩
   rintro bh rfl eF
   refine CStep.ownLe r3 fun dP => ?_
   refine CStep.ownLe r4 fun dT => ?_
   refine CStep.ownLe r5 fun dV => ?_
   refine cs rfl rfl aJ ?_ ?_ <;> intro ff aJ
   refine fa rfl (ro (ld r1 rfl rfl ?_))
   obtain ⟨dh, aJ⟩ := qa7 aJ
   have eu := aU.subC dh
   refine RStep.ofN (qm3 (l := e0.Aa) (lo := (some 2)) (hi := none) (lo' := (2 : Int)) (hi' := (e0.Aa.length : Int)) rfl rfl rfl rfl rfl aU.le dh ?_)
   refine cb aJ fun d8 bR aJ => ckx (ih bR :) ?_
   rintro _ _ _ ⟨cp, bS, bT, cm, bU, ca, rfl, bX, cr, ce, rfl⟩
   exact eM aJ (_, _, _, _, _, _, _, _, _)
   refine fa rfl (ro (ld r1 rfl rfl (ro (qai rfl ?_))))
   refine cs rfl rfl aJ ?_ ?_ <;> intro dO aJ
   refine fa rfl (ro (ld r1 rfl rfl ?_))
   obtain ⟨eG, bv, bj, aJ⟩ := ixb aJ
   refine RStep.ofN (qac rfl rfl (qdc aU.rd bj) bv (qay rfl bv bj) (qaz rfl (qdc aU.rd bj) ?_))
   obtain ⟨dg, dL, bw, bu, bt⟩ := LiR.get aU.rd bj
   obtain ⟨cE, cj, rfl, cA⟩ := Ja.out bt
   refine ro (qcq ((2 : Int).toNat) 2 _ _ bw rfl bu rfl rfl ?_)
   refine cb aJ fun eA cH aJ => ckx (ih cH :) ?_
   rintro _ _ _ ⟨cG, cM, cq, cD, cK, bY, rfl, cN, cd, cO, rfl⟩
   exact eM aJ (_, _, _, _, _, _, _, _, _)
   exact eM aJ (_, _, _, _, _, _, _, _, _)
   refine qa4 ⟨⟨[], false⟩, _, [(_, _), (_, _)], []⟩ (by kernel_rfl) ⟨Hp.Le.refl _, (sc [1,0] rfl), ci0⟩ ?_
   refine qah (fa rfl (qbx m0 rfl (nl rfl) ?_))
   refine cb aJ fun fj d4 aJ => cgx (JeU d4 :) ?_
   refine qk (sc [1,0] rfl) ?_
   refine qbx m1 rfl (nl rfl) ?_
   refine cb aJ fun eP dW aJ => ckx (Jch (az := [str w'.Ar.Am, str w'.Ar.An, str w'.Ar.Ae, str w'.Ar.Af, .slice aa w'.Ar.Ao.length ac]) (aG := [.bool cB.Aq]) dW :) ?_
   rintro _ _ _ ⟨di, c6, dC, cY, db, c8, rfl, dc, da, cZ, rfl⟩
   refine qk (sc [5,4] rfl) ?_
   refine fa rfl (ro (ld r5 rfl rfl (qaf (qah (fa rfl ?_)))))
   refine qab r0 rfl ⟨rfl, rfl, (nl rfl), ?_⟩
   exact eM aJ (_, _, _, _, _, _, _, _, _)
   rintro ⟨aL, ba, a8, aO, aS, aN, aT, aM, aV⟩ dz du ⟨bF, br, bp, bo, rfl⟩ dQ
   refine qbg rfl ?_
   refine cs rfl rfl bf ?_ ?_ <;> intro ez bf
   exact eE (er bf hm)
   refine qat (qcl bC dY) ?_
   exact eR bf (_, (_, _), _, _, _, _, _, _, _, _)
   rw [lty w0, JL.eq_1] at bf
   refine cT ?_
   exact eM bf (_, _, _, _, _, _, _, _, _)
   rintro ⟨t0, bb, bc, aR, aY, aP, aW, aQ, aX⟩ eW eH ⟨dE, bJ, bI, bH⟩ rfl j0
   replace hm := elg hm
   exact eE hm

def JaL (n : Nat) (program : Ja) (Ar : JB) : Option (Je × Err) :=
  (Ja5 n program).bind fun av =>
  if av.2.isSome then
  some ((⟨([] : Str), ([] : Str), [], [], [], 0, 0, 0, false, false⟩ : Je), av.2)
  else
  (JC n (⟨Ar, (⟨Ar.Ae, Ar.Af, [], [], [], (-1), 0, 0, false, false⟩ : Je), false⟩ : Jn) program.Aa []).bind fun aJ =>
  if aJ.1.isSome then
  some ((⟨([] : Str), ([] : Str), [], [], [], 0, 0, 0, false, false⟩ : Je), aJ.1)
  else
  some (aJ.2.result, none)
theorem JdF {n : Nat} {program : Ja} {Ar : JB} {aa : Option Addr} {ac : Nat} {af : Option Addr} {ag : Nat} {K : Hp} {r : Je × Err}
    (hm : JaL n program Ar = some r) (hX : LiC Ja.R K aa ac 4 program.Aa ∧ RdC Jc.enc K af ag 2 Ar.Ao ∧ GG K) :
    Fn Tryz.prog 22 [.agg #[.int .i64 program.Ab, str program.Ac, .slice aa program.Aa.length ac, .int .i64 program.Ad], .agg #[str Ar.Am, str Ar.An, str Ar.Ae, str Ar.Af, .slice af Ar.Ao.length ag]] K [] (fun v K' H' => ∃ ar_0 : Option Addr, ∃ cr_0 : Nat, ∃ ar_1 : Option Addr, ∃ cr_1 : Nat, ∃ ar_2 : Option Addr, ∃ cr_2 : Nat, v = .tuple #[.agg #[str r.1.Ae, str r.1.Af, .slice ar_0 r.1.Ag.length cr_0, .slice ar_1 r.1.Vary.length cr_1, .slice ar_2 r.1.Ah.length cr_2, .int .i64 r.1.TTL, .int .i64 r.1.Ai, .int .i64 r.1.Aj, .bool r.1.Ak, .bool r.1.Al], qcu 87 r.2] ∧ (0 < r.1.Ag.length → Has ar_0) ∧ (0 < r.1.Vary.length → Has ar_1) ∧ (0 < r.1.Ah.length → Has ar_2) ∧ H' = [OwnL Jc.enc ar_0 77 2 cr_0 r.1.Ag, OwnL eS ar_1 9 1 cr_1 r.1.Vary, OwnL eS ar_2 9 1 cr_2 r.1.Ah]) := by
 obtain ⟨ae, ah, hG⟩ := hX
 refine Fn.enter Tryz.func22 Tryz.call22 rfl fun F => ?_
 unfold JaL at hm
 refine qas ?_
 intro b2
 refine qas ?_
 intro b3
 refine qal rfl fun b4 => ?_
 refine ro (qae r2 rfl (nl rfl) ?_)
 refine cb hm fun av aS hm => cgx (Jeg aS :) ?_
 refine qbg rfl ?_
 refine cs rfl rfl hm ?_ ?_ <;> intro aU hm
 refine qam rfl rfl ?_
 refine qab r0 rfl ⟨rfl, rfl, (nl rfl), ?_⟩
 refine ro (qae r0 rfl (nl rfl) ?_)
 refine qjc Jc.enc 77 2 ?_
 refine qjc eS 9 1 ?_
 refine qjc eS 9 1 ?_
 exact eE hm
 refine ro (qae r1 rfl (nl rfl) (fa rfl (ro (ld r1 rfl rfl (fa rfl (ro (ld r1 rfl rfl (qam rfl rfl (cT (cT ?_))))))))))
 refine cT (qam rfl rfl (cT (cT ?_)))
 refine qas ?_
 intro aV
 refine fa rfl (ro (ld r3 rfl rfl ?_))
 refine qu8 Tryz.call52 Jc.enc 77 2 ?_
 refine qu8 Tryz.call52 eS 9 1 ?_
 refine qu8 Tryz.call52 eS 9 1 ?_
 refine cb hm fun aX aT hm => ckx (JcB aT :) ?_
 rintro _ _ _ ⟨aP, aR, aQ, aO, aK, aN, rfl, aJ, aL, aM, rfl⟩
 refine qbg rfl ?_
 refine cs rfl rfl hm ?_ ?_ <;> intro aW hm
 refine qam rfl rfl ?_
 refine qab r4 rfl ⟨rfl, rfl, (nl rfl), ?_⟩
 refine ro (qae r0 rfl (nl rfl) ?_)
 refine qjc Jc.enc 77 2 ?_
 refine qjc eS 9 1 ?_
 refine qjc eS 9 1 ?_
 exact eE hm
 refine qah (fa rfl (ro (qae r0 rfl (nl rfl) ?_)))
 refine qab r4 rfl ⟨rfl, rfl, (nl rfl), ?_⟩
 exact ro (qae r0 rfl (nl rfl) (eE hm))

def Jbv : List Jc → Nat → (List Jh) → Option ((List Jh))
  | [], _, ab => some ab
  | e0 :: aJ, i0, ab =>
    (chk (ab.length + [(⟨e0.Name, e0.Value⟩ : Jh)].length ≤ lim)).bind fun _ =>
    Jbv aJ (i0 + 1) (ab ++ [(⟨e0.Name, e0.Value⟩ : Jh)])
def Jds (l : (List Jc)) : Option ((List Jh)) :=
  (chk (l.length ≤ qav)).bind fun _ =>
  (Jbv l 0 []).bind fun t0 =>
  some t0
theorem Jfb {l : (List Jc)} {aa : Option Addr} {ac : Nat} {n0 : Nat} {K : Hp} {r : (List Jh)}
    (hm : Jds l = some r) (hX : RdC Jc.enc K aa ac 2 l ∧ n0 = l.length) :
    Fn Tryz.prog 56 [.slice aa n0 ac] K [] (fun v K' H' => ∃ ar_0 : Option Addr, ∃ cr_0 : Nat, v = .slice ar_0 r.length cr_0 ∧ (0 < r.length → Has ar_0) ∧ H' = [OwnL Jh.enc ar_0 90 2 cr_0 r]) := by
 obtain ⟨ae, aS⟩ := hX
 subst aS
 refine Fn.enter Tryz.func56 Tryz.call56 rfl fun F => ?_
 unfold Jds at hm
 refine ro (qai rfl ?_)
 obtain ⟨aT, hm⟩ := qa7 hm
 obtain ⟨s0, aL, hm⟩ := bnd hm
 refine ql6 Jh.enc 90 2 ?_
 refine lD (σ := ((List Jh)) × Option Addr × Nat) ([3,5] ++ rg 8 13) [1] (fun i0 => [(8, .int .i64 (i0 : Int))]) (fun (t0, aJ, aK) => [(3, .slice aJ t0.length aK)]) (fun (t0, aJ, aK) => [OwnL Jh.enc aJ 90 2 aK t0]) (fun (t0, aJ, aK) => (0 < t0.length → Has aJ) ∧ True) (fun i0 (t0, aJ, aK) => Jbv (l.drop i0) i0 t0 = some s0) (fun (t0, aJ, aK) => t0 = s0) (fun i0 => l.length - i0) 0 (_, _, _) aL (And.intro qe (And.intro ?_ ?_))
 clear aL
 rintro i0 ⟨ab, aP, aQ⟩ ⟨aN, _⟩ aL j0
 conv at aL => whnf
 refine qad rfl ?_
 refine qag ?_ ?_ <;> intro w0
 obtain ⟨e0, aM, aU⟩ := ltx w0
 rw [aU, Jbv.eq_2] at aL
 refine qak rfl ?_
 refine RStep.ofN (qac rfl rfl (qdg ae.rd aM) (nn _) (qbs aM) (ro (qan i0 _ ae.rd rfl (mp aM) rfl ?_)))
 refine qal rfl fun b5 => ?_
 refine qab r0 rfl ⟨rfl, rfl, (nl rfl), ?_⟩
 refine fa rfl (ro (ld r0 rfl rfl (fa rfl (ro (ld r0 rfl rfl (qam rfl rfl (cT (cT ?_))))))))
 refine bsO (len := 1) (enc := Jh.enc) (l := [(⟨e0.Name, e0.Value⟩ : Jh)]) (cl := [str e0.Name, str e0.Value]) qos rfl rfl (fun _ _ => rfl) rfl rfl rfl ?_ fun aV => ?_
 · conv => whnf
   refine cT ?_
   first | done | rfl
 obtain ⟨aR, aL⟩ := qa7 aL
 refine apE rfl r2 qos (qa6 rfl r0 rfl (fun _ => rfl) (fun _ => rfl)) aR ?_
 intro aY aW aX
 refine qat (qcl aM aT) ?_
 exact eR aL (_, _, _, _)
 rw [lty w0, Jbv.eq_1] at aL
 refine cT ?_
 exact eM aL (_, _, _)
 rintro ⟨t0, aJ, aK⟩ ⟨aO, _⟩ rfl j0
 exact eE hm

def Jcu (r' : Je) : Option (Ji) :=
  (Jds r'.Ag).bind fun x9 =>
  some (⟨r'.Ae, r'.Af, x9, r'.Vary, r'.Ah, r'.TTL, r'.Ai, r'.Aj, r'.Ak, r'.Al⟩ : Ji)
theorem JeA {r' : Je} {aa : Option Addr} {ac : Nat} {aj : Option Addr} {al : Nat} {ak : Option Addr} {am : Nat} {K : Hp} {r : Ji}
    (hm : Jcu r' = some r) (hX : (0 < r'.Ag.length → Has aa) ∧ (0 < r'.Vary.length → Has aj) ∧ (0 < r'.Ah.length → Has ak)) :
    Fn Tryz.prog 26 [.agg #[str r'.Ae, str r'.Af, .slice aa r'.Ag.length ac, .slice aj r'.Vary.length al, .slice ak r'.Ah.length am, .int .i64 r'.TTL, .int .i64 r'.Ai, .int .i64 r'.Aj, .bool r'.Ak, .bool r'.Al]] K [OwnL Jc.enc aa 77 2 ac r'.Ag, OwnL eS aj 9 1 al r'.Vary, OwnL eS ak 9 1 am r'.Ah] (fun v K' H' => ∃ ar_0 : Option Addr, ∃ cr_0 : Nat, v = .agg #[str r.Ae, str r.Af, .slice ar_0 r.Ag.length cr_0, .slice aj r'.Vary.length al, .slice ak r'.Ah.length am, .int .i64 r.TTL, .int .i64 r.Ai, .int .i64 r.Aj, .bool r.Ak, .bool r.Al] ∧ (0 < r.Ag.length → Has ar_0) ∧ H' = [OwnL Jh.enc ar_0 90 2 cr_0 r.Ag, OwnL Jc.enc aa 77 2 ac r'.Ag, OwnL eS aj 9 1 al r'.Vary, OwnL eS ak 9 1 am r'.Ah]) := by
 obtain ⟨ae, aL, aK⟩ := hX
 refine Fn.enter Tryz.func26 Tryz.call26 rfl fun F => ?_
 unfold Jcu at hm
 refine qas ?_
 intro b1
 refine qal rfl fun b2 => ?_
 refine qa4 ⟨⟨[], false⟩, _, [(_, _)], []⟩ (by kernel_rfl) ⟨Hp.Le.refl _, (sc [1] rfl), ci0⟩ ?_
 refine fa rfl (qao m0 rfl rfl (fa rfl (qao m0 rfl rfl (fa rfl (qao m0 rfl rfl ?_)))))
 refine cb hm fun x9 q9 hm => ck0 (Fn.lend Tryz.call56 (fun aN aP aJ => (Jfb q9 ⟨aJ, rfl⟩)) (by exact fun _ _ _ _ h => h)) ?_
 rintro _ _ _ ⟨_, rfl, aO, aM, rfl, aQ, rfl⟩
 refine qk (sc [3] rfl) ?_
 refine fa rfl (qao m0 rfl rfl (fa rfl (qao m0 rfl rfl (fa rfl (qao m0 rfl rfl (fa rfl (qao m0 rfl rfl ?_)))))))
 refine fa rfl (qao m0 rfl rfl (fa rfl (qao m0 rfl rfl (fa rfl (qao m0 rfl rfl (qam rfl rfl (cT ?_)))))))
 refine cT (cT (cT (cT (cT (cT (cT (cT ?_)))))))
 refine cT ?_
 refine qab r2 rfl ⟨rfl, rfl, (nl rfl), ?_⟩
 refine qk (sc [3] rfl) ?_
 exact ro (qae r0 rfl (nl rfl) (eE hm))

def Jcd (e : Err) : Option (Int) :=
  if e.isNone then
  some 0
  else
  if (!e.isSome) then
  some (-1)
  else
  some (e.getD 0)
theorem JeF {e : Err} {K : Hp} {r : Int}
    (hm : Jcd e = some r)  :
    Fn Tryz.prog 17 [qcu 87 e] K [] (fun v K' H' => v = .int .i64 r ∧ H' = []) := by
 refine Fn.enter Tryz.func17 Tryz.call17 rfl fun F => ?_
 unfold Jcd at hm
 refine qf0 rfl ?_
 refine cs rfl rfl hm ?_ ?_ <;> intro w6 hm
 exact eE hm
 refine qv9 rfl rfl rfl ?_
 refine qax ?_
 refine cs rfl rfl hm ?_ ?_ <;> intro aJ hm
 exact eE hm
 exact eE hm

def JbL (b : (List Jh)) : List Jc → Nat → Option (Fl (Bool) (Unit))
  | [], _ => some (Fl.go ())
  | e0 :: aL, i0 =>
    (ix b (i0 : Int)).bind fun aK =>
    (if decide (e0.Name ≠ aK.Name) then some true else (ix b (i0 : Int)).bind fun aM =>
    some (decide (e0.Value ≠ aM.Value))).bind fun aJ =>
    if aJ then
    some (Fl.ret false)
    else
    JbL b aL (i0 + 1)
def Jc2 (a : (List Jc)) (b : (List Jh)) : Option (Bool) :=
  if decide ((a.length : Int) ≠ (b.length : Int)) then
  some false
  else
  (chk (a.length ≤ qav)).bind fun _ =>
  (JbL b a 0).bind fun s0 => s0.el some fun t0 =>
  some true
theorem Jei {a : (List Jc)} {b : (List Jh)} {aa : Option Addr} {ac : Nat} {n0 : Nat} {af : Option Addr} {ag : Nat} {n1 : Nat} {K : Hp} {r : Bool}
    (hm : Jc2 a b = some r) (hX : RdC Jc.enc K aa ac 2 a ∧ n0 = a.length ∧ RdC Jh.enc K af ag 2 b ∧ n1 = b.length) :
    Fn Tryz.prog 27 [.slice aa n0 ac, .slice af n1 ag] K [] (fun v K' H' => v = .bool r ∧ H' = []) := by
 obtain ⟨ae, aS, ah, aV⟩ := hX
 subst aS
 subst aV
 refine Fn.enter Tryz.func27 Tryz.call27 rfl fun F => ?_
 unfold Jc2 at hm
 refine ro (qai rfl (ro (qai rfl (qbf ?_))))
 refine cs rfl rfl hm ?_ ?_ <;> intro aY hm
 exact eE hm
 refine ro (qai rfl ?_)
 obtain ⟨aT, hm⟩ := qa7 hm
 obtain ⟨s0, aK, hm⟩ := bnd hm
 refine lD (σ := (Unit)) ([4,5] ++ rg 13 28) [0] (fun i0 => [(13, .int .i64 (i0 : Int))]) (fun _ => []) (fun _ => []) (fun _ => True) (fun i0 _ => JbL b (a.drop i0) i0 = some s0) (fun t0 => s0 = Fl.go t0) (fun i0 => a.length - i0) 0 () aK (And.intro qe (And.intro ?_ ?_))
 clear aK
 rintro i0 _ _ aK j0
 conv at aK => whnf
 refine qad rfl ?_
 refine qag ?_ ?_ <;> intro w0
 obtain ⟨e0, aL, aU⟩ := ltx w0
 rw [aU, JbL.eq_2] at aK
 refine qak rfl ?_
 refine qa4 ⟨⟨[], false⟩, _, [], []⟩ (by kernel_rfl) ⟨Hp.Le.refl _, (pf rfl), ci0⟩ ?_
 refine qac rfl rfl (qdg ae.rd aL) (nn _) (qbs aL) (qaz rfl (qdg ae.rd aL) (qbk i0 0 _ _ ae.rd rfl (mp aL) rfl rfl ?_))
 obtain ⟨aW, aQ, aN, aK⟩ := ixb aK
 refine qac rfl rfl (qdg ah.rd aN) aQ (qay rfl aQ aN) (qaz rfl (qdg ah.rd aN) (qbk (((i0 : Int)).toNat) 0 _ _ ah.rd rfl (mp aN) rfl rfl (qbz ?_)))
 obtain ⟨aX, aM, aK⟩ := bnd aK
 refine cS aM (fun aJ aM => ?_) fun aJ aM => ?_
 refine ct aJ (ct aJ (ct aJ (ct aJ (ct aJ (ct aJ (ct aJ (ct aJ ?_)))))))
 refine ct aJ (ct aJ (ct aJ (qad rfl (cT ?_))))
 replace aK := ift (si aM).symm aK
 exact eE (er aK hm)
 refine cf aJ (cf aJ (qac rfl rfl (qdg ae.rd aL) (nn _) (qbs aL) (cf aJ (qaz rfl (qdg ae.rd aL) (cf aJ (qbk i0 1 _ _ ae.rd rfl (mp aL) rfl rfl (cf aJ ?_)))))))
 refine cf aJ (cf aJ ?_)
 obtain ⟨aZ, aR, aO, aM⟩ := ixb aM
 refine qac rfl rfl (qdg ah.rd aO) aR (qay rfl aR aO) (cf aJ (qaz rfl (qdg ah.rd aO) (cf aJ (qbk (((i0 : Int)).toNat) 1 _ _ ah.rd rfl (mp aO) rfl rfl (cf aJ (qbz (cf aJ ?_)))))))
 refine qad rfl ?_
 refine qag ?_ ?_ <;> intro aP
 replace aK := ift ((si aM).symm.trans aP) aK
 exact eE (er aK hm)
 replace aK := qbp ((si aM).symm.trans aP) aK
 refine qat (qcl aL aT) ?_
 exact eR aK (_, ())
 rw [lty w0, JbL.eq_1] at aK
 refine cT ?_
 exact eM aK _
 rintro t0 _ rfl j0
 replace hm := elg hm
 exact eE hm

def Jbz (b : (List Str)) : List Str → Nat → Option (Fl (Bool) (Unit))
  | [], _ => some (Fl.go ())
  | e0 :: aJ, i0 =>
    (ix b (i0 : Int)).bind fun aK =>
    if decide (e0 ≠ aK) then
    some (Fl.ret false)
    else
    Jbz b aJ (i0 + 1)
def Jcv (a : (List Str)) (b : (List Str)) : Option (Bool) :=
  if decide ((a.length : Int) ≠ (b.length : Int)) then
  some false
  else
  (chk (a.length ≤ qav)).bind fun _ =>
  (Jbz b a 0).bind fun s0 => s0.el some fun t0 =>
  some true
theorem JdV {a : (List Str)} {b : (List Str)} {aa : Option Addr} {ac : Nat} {n0 : Nat} {af : Option Addr} {ag : Nat} {n1 : Nat} {K : Hp} {r : Bool}
    (hm : Jcv a b = some r) (hX : RdC eS K aa ac 1 a ∧ n0 = a.length ∧ RdC eS K af ag 1 b ∧ n1 = b.length) :
    Fn Tryz.prog 38 [.slice aa n0 ac, .slice af n1 ag] K [] (fun v K' H' => v = .bool r ∧ H' = []) := by
 obtain ⟨ae, aN, ah, aQ⟩ := hX
 subst aN
 subst aQ
 refine Fn.enter Tryz.func38 Tryz.call38 rfl fun F => ?_
 unfold Jcv at hm
 refine ro (qai rfl (ro (qai rfl (qbf ?_))))
 refine cs rfl rfl hm ?_ ?_ <;> intro aT hm
 exact eE hm
 refine ro (qai rfl ?_)
 obtain ⟨aO, hm⟩ := qa7 hm
 obtain ⟨s0, aJ, hm⟩ := bnd hm
 refine lD (σ := (Unit)) ([4,5] ++ rg 13 13) [0] (fun i0 => [(13, .int .i64 (i0 : Int))]) (fun _ => []) (fun _ => []) (fun _ => True) (fun i0 _ => Jbz b (a.drop i0) i0 = some s0) (fun t0 => s0 = Fl.go t0) (fun i0 => a.length - i0) 0 () aJ (And.intro qe (And.intro ?_ ?_))
 clear aJ
 rintro i0 _ _ aJ j0
 conv at aJ => whnf
 refine qad rfl ?_
 refine qag ?_ ?_ <;> intro w0
 obtain ⟨e0, aK, aP⟩ := ltx w0
 rw [aP, Jbz.eq_2] at aJ
 refine qak rfl ?_
 refine qa4 ⟨⟨[], false⟩, _, [], []⟩ (by kernel_rfl) ⟨Hp.Le.refl _, (pf rfl), ci0⟩ ?_
 refine qac rfl rfl (qdg ae.rd aK) (nn _) (qbs aK) (qbk i0 0 _ _ ae.rd rfl (mp aK) rfl rfl ?_)
 obtain ⟨aR, aM, aL, aJ⟩ := ixb aJ
 refine qac rfl rfl (qdg ah.rd aL) aM (qay rfl aM aL) (qbk (((i0 : Int)).toNat) 0 _ _ ah.rd rfl (mp aL) rfl rfl (qbz ?_))
 refine cs rfl rfl aJ ?_ ?_ <;> intro aS aJ
 exact eE (er aJ hm)
 refine qat (qcl aK aO) ?_
 exact eR aJ (_, ())
 rw [lty w0, Jbz.eq_1] at aJ
 refine cT ?_
 exact eM aJ _
 rintro t0 _ rfl j0
 replace hm := elg hm
 exact eE hm

def JbG (r' : Je) (w' : Ji) : Option (Bool) :=
  (if (decide (r'.Ae = w'.Ae) && decide (r'.Af = w'.Af)) then (Jc2 r'.Ag w'.Ag).bind fun aN =>
  some aN else some false).bind fun aJ =>
  (if aJ then (Jcv r'.Vary w'.Vary).bind fun aK =>
  some aK else some false).bind fun aL =>
  (if aL then (Jcv r'.Ah w'.Ah).bind fun aM =>
  some aM else some false).bind fun aO =>
  some (((((aO && decide (r'.TTL = w'.TTL)) && decide (r'.Ai = w'.Ai)) && decide (r'.Aj = w'.Aj)) && (r'.Ak == w'.Ak)) && (r'.Al == w'.Al))
theorem Jfj {r' : Je} {w' : Ji} {aa : Option Addr} {ac : Nat} {aj : Option Addr} {al : Nat} {ak : Option Addr} {am : Nat} {af : Option Addr} {ag : Nat} {aB : Option Addr} {aC : Nat} {aD : Option Addr} {aE : Nat} {K : Hp} {r : Bool}
    (hm : JbG r' w' = some r) (hX : RdC Jc.enc K aa ac 2 r'.Ag ∧ RdC eS K aj al 1 r'.Vary ∧ RdC eS K ak am 1 r'.Ah ∧ RdC Jh.enc K af ag 2 w'.Ag ∧ RdC eS K aB aC 1 w'.Vary ∧ RdC eS K aD aE 1 w'.Ah) :
    Fn Tryz.prog 18 [.agg #[str r'.Ae, str r'.Af, .slice aa r'.Ag.length ac, .slice aj r'.Vary.length al, .slice ak r'.Ah.length am, .int .i64 r'.TTL, .int .i64 r'.Ai, .int .i64 r'.Aj, .bool r'.Ak, .bool r'.Al], .agg #[str w'.Ae, str w'.Af, .slice af w'.Ag.length ag, .slice aB w'.Vary.length aC, .slice aD w'.Ah.length aE, .int .i64 w'.TTL, .int .i64 w'.Ai, .int .i64 w'.Aj, .bool w'.Ak, .bool w'.Al]] K [] (fun v K' H' => v = .bool r ∧ H' = []) := by
 obtain ⟨ae, aZ, aY, ah, aX, aW⟩ := hX
 refine Fn.enter Tryz.func18 Tryz.call18 rfl fun F => ?_
 unfold JbG at hm
 refine qas ?_
 intro b2
 refine qas ?_
 intro b3
 refine qaj rfl ?_
 refine fa rfl (ro (ld r1 rfl rfl (fa rfl (ro (ld r0 rfl rfl (qar ?_))))))
 refine qag ?_ ?_ <;> intro aN
 refine fa rfl (ct aN (ro (ld r1 rfl rfl (ct aN (fa rfl (ct aN (ro (ld r0 rfl rfl (ct aN ?_)))))))))
 refine qar (ct aN ?_)
 obtain ⟨a8, aU, hm⟩ := bnd hm
 refine qag ?_ ?_ <;> intro aP
 replace aU := ift (qb5 aN aP) aU
 refine fa rfl (ct aP (ro (ld r1 rfl rfl (ct aP (fa rfl (ct aP (ro (ld r0 rfl rfl (ct aP ?_)))))))))
 refine cb aU fun bf ba aU => cgx (Jei ba :) ?_
 refine ct aP ?_
 obtain ⟨a6, aT, hm⟩ := bnd hm
 refine qag ?_ ?_ <;> intro aQ
 replace aT := ift ((si aU).symm.trans aQ) aT
 refine fa rfl (ct aQ (ro (ld r1 rfl rfl (ct aQ (fa rfl (ct aQ (ro (ld r0 rfl rfl (ct aQ ?_)))))))))
 refine cb aT fun bg bc aT => cgx (JdV bc :) ?_
 refine ct aQ ?_
 obtain ⟨aV, aS, hm⟩ := bnd hm
 refine qag ?_ ?_ <;> intro aO
 replace aS := ift ((si aT).symm.trans aO) aS
 refine fa rfl (ct aO (ro (ld r1 rfl rfl (ct aO (fa rfl (ct aO (ro (ld r0 rfl rfl (ct aO ?_)))))))))
 refine cb aS fun bh bb aS => cgx (JdV bb :) ?_
 refine ct aO ?_
 refine qag ?_ ?_ <;> intro aJ
 refine fa rfl (ct aJ (ro (ld r1 rfl rfl (ct aJ (fa rfl (ct aJ (ro (ld r0 rfl rfl (ct aJ ?_)))))))))
 refine qaf (ct aJ ?_)
 refine qag ?_ ?_ <;> intro aK
 refine fa rfl (ct aK (ro (ld r1 rfl rfl (ct aK (fa rfl (ct aK (ro (ld r0 rfl rfl (ct aK ?_)))))))))
 refine qaf (ct aK ?_)
 refine qag ?_ ?_ <;> intro aL
 refine fa rfl (ct aL (ro (ld r1 rfl rfl (ct aL (fa rfl (ct aL (ro (ld r0 rfl rfl (ct aL ?_)))))))))
 refine qaf (ct aL ?_)
 refine qag ?_ ?_ <;> intro aM
 refine fa rfl (ct aM (ro (ld r1 rfl rfl (ct aM (fa rfl (ct aM (ro (ld r0 rfl rfl (ct aM ?_)))))))))
 refine qmk rfl (ct aM ?_)
 refine qag ?_ ?_ <;> intro aR
 refine fa rfl (ct aR (ro (ld r1 rfl rfl (ct aR (fa rfl (ct aR (ro (ld r0 rfl rfl (ct aR ?_)))))))))
 refine qmk rfl (ct aR ?_)
 exact bE (qdh (b := (r'.Al == w'.Al)) (qb5 (qb5 (qb5 (qb5 ((si aS).symm.trans aJ) aK) aL) aM) aR)) (eE hm)
 refine cf aR (cf aR (cf aR (cf aR (cf aR ?_))))
 exact bE (((qa0 (qcs (qb5 (qb5 (qb5 ((si aS).symm.trans aJ) aK) aL) aM) aR))).symm) (eE hm)
 refine cf aM (cf aM (cf aM (cf aM (cf aM (cF (cF (cF ?_)))))))
 refine cF (cF (cF ?_))
 exact bE (((qa0 (qa0 (qcs (qb5 (qb5 ((si aS).symm.trans aJ) aK) aL) aM)))).symm) (eE hm)
 refine cf aL (cf aL (cf aL (cf aL (cf aL (cF (cF (cF ?_)))))))
 refine cF (cF (cF (cF (cF (cF (cF (cF ?_)))))))
 refine cF ?_
 exact bE (((qa0 (qa0 (qa0 (qcs (qb5 ((si aS).symm.trans aJ) aK) aL))))).symm) (eE hm)
 refine cf aK (cf aK (cf aK (cf aK (cf aK (cF (cF (cF ?_)))))))
 refine cF (cF (cF (cF (cF (cF (cF (cF ?_)))))))
 refine cF (cF (cF (cF (cF (cF (cF ?_))))))
 exact bE (((qa0 (qa0 (qa0 (qa0 (qcs ((si aS).symm.trans aJ) aK)))))).symm) (eE hm)
 refine cf aJ (cf aJ (cf aJ (cf aJ (cf aJ (cF (cF (cF ?_)))))))
 refine cF (cF (cF (cF (cF (cF (cF (cF ?_)))))))
 refine cF (cF (cF (cF (cF (cF (cF (cF ?_)))))))
 refine cF (cF (cF (cF (cF ?_))))
 exact bE (((qa0 (qa0 (qa0 (qa0 (qa0 ((si aS).symm.trans aJ))))))).symm) (eE hm)
 replace aS := qbp ((si aT).symm.trans aO) aS
 refine cf aO (cf aO (cf aO (cf aO (cf aO (cF (cF (cF ?_)))))))
 refine cF (cF (cF (cF (cF (cF (cF (cF ?_)))))))
 refine cF (cF (cF (cF (cF (cF (cF (cF ?_)))))))
 refine cF (cF (cF (cF (cF (cF (cF (cF ?_)))))))
 refine cF (cF (cF ?_))
 exact bE (((qa0 (qa0 (qa0 (qa0 (qa0 (si aS).symm)))))).symm) (eE hm)
 replace aT := qbp ((si aU).symm.trans aQ) aT
 refine cf aQ (cf aQ (cf aQ (cf aQ (cf aQ ?_))))
 obtain ⟨aV, aS, hm⟩ := bnd hm
 replace aS := qbp (si aT).symm aS
 refine cF (cF (cF (cF (cF (cF (cF (cF ?_)))))))
 refine cF (cF (cF (cF (cF (cF (cF (cF ?_)))))))
 refine cF (cF (cF (cF (cF (cF (cF (cF ?_)))))))
 refine cF (cF (cF (cF (cF (cF (cF (cF ?_)))))))
 refine cF (cF (cF (cF ?_)))
 exact bE (((qa0 (qa0 (qa0 (qa0 (qa0 (si aS).symm)))))).symm) (eE hm)
 replace aU := qbp (qcs aN aP) aU
 refine cf aP (cf aP (cf aP (cf aP (cf aP ?_))))
 obtain ⟨a6, aT, hm⟩ := bnd hm
 replace aT := qbp (si aU).symm aT
 refine cF (cF (cF (cF (cF (cF ?_)))))
 obtain ⟨aV, aS, hm⟩ := bnd hm
 replace aS := qbp (si aT).symm aS
 refine cF (cF (cF (cF (cF (cF (cF (cF ?_)))))))
 refine cF (cF (cF (cF (cF (cF (cF (cF ?_)))))))
 refine cF (cF (cF (cF (cF (cF (cF (cF ?_)))))))
 refine cF (cF (cF (cF (cF (cF (cF (cF ?_)))))))
 refine cF (cF (cF (cF ?_)))
 exact bE (((qa0 (qa0 (qa0 (qa0 (qa0 (si aS).symm)))))).symm) (eE hm)
 refine cf aN (cf aN (cf aN (cf aN (cf aN ?_))))
 obtain ⟨a8, aU, hm⟩ := bnd hm
 replace aU := qbp (qa0 aN) aU
 refine cF (cF (cF (cF (cF (cF ?_)))))
 obtain ⟨a6, aT, hm⟩ := bnd hm
 replace aT := qbp (si aU).symm aT
 refine cF (cF (cF (cF (cF (cF ?_)))))
 obtain ⟨aV, aS, hm⟩ := bnd hm
 replace aS := qbp (si aT).symm aS
 refine cF (cF (cF (cF (cF (cF (cF (cF ?_)))))))
 refine cF (cF (cF (cF (cF (cF (cF (cF ?_)))))))
 refine cF (cF (cF (cF (cF (cF (cF (cF ?_)))))))
 refine cF (cF (cF (cF (cF (cF (cF (cF ?_)))))))
 refine cF (cF (cF (cF ?_)))
 exact bE (((qa0 (qa0 (qa0 (qa0 (qa0 (si aS).symm)))))).symm) (eE hm)

def Jaq : Nat → Int → Je → Option (Int × Je)
  | 0, _, _ => none
  | aM + 1, ab, aJ =>
    if decide (ab < (aJ.Ag.length : Int)) then
    (ix aJ.Ag ab).bind fun aK =>
    (chk (aK.Value.length + ([120] : Str).length ≤ lim)).bind fun _ =>
    (ix aJ.Ag ab).bind fun aL =>
    (chk (InI (ab + 1))).bind fun _ =>
    Jaq aM (ab + 1) (⟨aJ.Ae, aJ.Af, (aJ.Ag.set ((ab).toNat) (⟨aL.Name, (aK.Value ++ ([120] : Str))⟩ : Jc)), aJ.Vary, aJ.Ah, aJ.TTL, aJ.Ai, aJ.Aj, aJ.Ak, aJ.Al⟩ : Je)
    else
    some (ab, aJ)
def Jar : Nat → Int → Je → Option (Int × Je)
  | 0, _, _ => none
  | aL + 1, aK, aJ =>
    if decide (aK < (aJ.Ah.length : Int)) then
    (ix aJ.Ah aK).bind fun aM =>
    (chk (InI (aK + 1))).bind fun _ =>
    Jar aL (aK + 1) (⟨aJ.Ae, aJ.Af, aJ.Ag, aJ.Vary, (aJ.Ah.set ((aK).toNat) ([120] : Str)), aJ.TTL, aJ.Ai, aJ.Aj, aJ.Ak, aJ.Al⟩ : Je)
    else
    some (aK, aJ)
def Jas : Nat → Int → Je → Option (Int × Je)
  | 0, _, _ => none
  | aL + 1, aK, aJ =>
    if decide (aK < (aJ.Vary.length : Int)) then
    (ix aJ.Vary aK).bind fun aM =>
    (chk (InI (aK + 1))).bind fun _ =>
    Jas aL (aK + 1) (⟨aJ.Ae, aJ.Af, aJ.Ag, (aJ.Vary.set ((aK).toNat) ([120] : Str)), aJ.Ah, aJ.TTL, aJ.Ai, aJ.Aj, aJ.Ak, aJ.Al⟩ : Je)
    else
    some (aK, aJ)
def JbQ (n : Nat) (n' : Jb) (Ar : Js) : Option (Bool) :=
  (((Jad n).bind fun aX =>
  (if (!aX) then some true else (Jbx n n').bind fun aW =>
  some aW).bind fun aY =>
  (if aY then some true else (JbC n Ar).bind fun aU =>
  some (!aU)).bind fun aV =>
  some aV) : Option (Bool)).bind fun aP =>
  if aP then
  (Jad n).bind fun aZ =>
  some aZ
  else
  (JbF n n').bind fun aT =>
  (JaE Ar).bind fun aL =>
  (JaL n aT aL).bind fun aK =>
  (Jcu aK.1).bind fun aJ =>
  (chk (([] : List Jh).length + aJ.Ag.length ≤ lim)).bind fun _ =>
  (chk (aK.1.Vary.length ≤ lim)).bind fun _ =>
  (chk (aK.1.Ah.length ≤ lim)).bind fun _ =>
  (Jaq n 0 aK.1).bind fun t0 =>
  (Jar n 0 t0.2).bind fun t2 =>
  (Jas n 0 t2.2).bind fun t4 =>
  (JaL n aT aL).bind fun aS =>
  (Jcd aK.2).bind fun a6 =>
  (Jcd aS.2).bind fun aQ =>
  (if decide (a6 = aQ) then (JbG aS.1 (⟨aJ.Ae, aJ.Af, (([] : List Jh) ++ aJ.Ag), aK.1.Vary, aK.1.Ah, aJ.TTL, aJ.Ai, aJ.Aj, aJ.Ak, aJ.Al⟩ : Ji)).bind fun aN =>
  some aN else some false).bind fun aM =>
  (if aM then (Jc2 aL.Ao Ar.Ao).bind fun aR =>
  some aR else some false).bind fun aO =>
  some (aO && decide (aL.Ae = Ar.Ae))
theorem Jdy {n : Nat} {n' : Jb} {Ar : Js} {aa : Option Addr} {ac : Nat} {af : Option Addr} {ag : Nat} {K : Hp} {r : Bool}
    (hm : JbQ n n' Ar = some r) (hX : LiC Jb.R K aa ac 4 n'.Aa ∧ RdC Jh.enc K af ag 2 Ar.Ao ∧ GG K) :
    Fn Tryz.prog 6 [.agg #[.int .i64 n'.Ab, str n'.Ac, .slice aa n'.Aa.length ac, .int .i64 n'.Ad], .agg #[str Ar.Am, str Ar.An, str Ar.Ae, str Ar.Af, .slice af Ar.Ao.length ag]] K [] (fun v K' H' => v = .bool r ∧ H' = []) := by
 obtain ⟨ae, ah, hG⟩ := hX
 refine Fn.enter Tryz.func6 Tryz.call6 rfl fun F => ?_
 unfold JbQ at hm
 refine qas ?_
 intro b2
 refine qas ?_
 intro b3
 obtain ⟨dc, bh, hm⟩ := bnd hm
 refine jR (σ := Bool) (rg 15 11) (fun bW => [(25, .bool bW)]) (fun bW => bW = dc) ?_ ?_
 refine qaj rfl ?_
 refine cb bh fun eX ef bh => cgx (JdE ef :) ?_
 refine qax ?_
 obtain ⟨eO, ca, bh⟩ := bnd bh
 refine cS ca (fun bp ca => ?_) fun bp ca => ?_
 refine ct bp (ct bp ?_)
 obtain ⟨d7, bS, bh⟩ := bnd bh
 replace bS := ift (si ca).symm bS
 refine cT (cT (cT (cT ?_)))
 exact eMq bh _ ⟨bq (si bS), trivial⟩
 refine ro (qae r1 rfl (nl rfl) (cf bp ?_))
 refine cb ca fun eK dV ca => cgx (JeS dV :) ?_
 refine cf bp ?_
 obtain ⟨d7, bS, bh⟩ := bnd bh
 refine qag ?_ ?_ <;> intro bn
 replace bS := ift ((si ca).symm.trans bn) bS
 refine ct bn (ct bn (ct bn ?_))
 exact eMq bh _ ⟨bq (si bS), trivial⟩
 replace bS := qbp ((si ca).symm.trans bn) bS
 refine ro (qae r0 rfl (nl rfl) (cf bn ?_))
 refine cb bS fun fc eo bS => cgx (Je5 eo :) ?_
 refine cf bn (qax (cf bn ?_))
 exact eMq bh _ ⟨bq (si bS), trivial⟩
 rintro bW rfl d9
 refine cs rfl rfl hm ?_ ?_ <;> intro eT hm
 refine cb hm fun e6 d5 hm => cgx (JdE d5 :) ?_
 exact eE hm
 refine qc0 ⟨⟨[], false⟩, _, [(_, _), (_, _)], []⟩ 8 rfl (by kernel_rfl) ⟨Hp.Le.refl _, (sc [1,0] rfl), ci0⟩ ?_
 refine qbx m0 rfl (nl rfl) ?_
 intro fh
 refine cb hm fun eF dY hm => cfx (Jfi dY :) ?_
 rintro _ fg _ cd ⟨dz, dN, dC, rfl, dB, cO, rfl⟩
 refine ⟨⟨cd, (sc [2,1] rfl), ci0⟩, ?_⟩
 refine ⟨_, .cons r4 .nil, ⟨cd, (sc [2,1] rfl), ci0⟩, ?_⟩
 refine qbx m1 rfl (nl rfl) ?_
 intro em
 refine cb hm fun ep ei hm => ckx (JeT ei :) ?_
 rintro _ _ _ ⟨dG, dD, rfl, dv, rfl⟩
 refine ⟨⟨cd, (sc [3,2] rfl), ci0⟩, ?_⟩
 refine ⟨_, .cons r5 .nil, ⟨cd, (sc [3,2] rfl), ci0⟩, ?_⟩
 refine qg2 rfl ?_
 intro b5
 refine qg2 rfl ?_
 intro b6
 intro eA
 refine qab r1 rfl ⟨rfl, rfl, (nl rfl), ?_⟩
 refine ⟨⟨cd, (sc [5,4] rfl), ci0⟩, ?_⟩
 refine ⟨_, .cons r7 .nil, ⟨cd, (sc [5,4] rfl), ci0⟩, ?_⟩
 intro d8
 refine qab r1 rfl ⟨rfl, rfl, (nl rfl), ?_⟩
 refine ⟨⟨cd, (sc [5,4] rfl), ci0⟩, ?_⟩
 refine ⟨_, .cons r7 .nil, ⟨cd, (sc [5,4] rfl), ci0⟩, ?_⟩
 refine ro (qae r1 rfl (nl rfl) (ro (qae r0 rfl (nl rfl) ?_)))
 refine qwd Tryz.call22 Ja.R_ok r3 cO fun cQ cP cK => ?_
 refine fF Tryz.call22 r2 fun cM cN cL => ?_
 refine cb hm fun ez eg hm => ckx (JdF eg :) ?_
 rintro _ _ _ ⟨dF, dM, dt, dR, dE, dk, rfl, dK, dI, dA, rfl⟩
 refine qal rfl fun b7 => ?_
 refine qab r0 rfl ⟨rfl, rfl, (nl rfl), ?_⟩
 refine ro (qae r0 rfl (nl rfl) ?_)
 refine cb hm fun eH ey hm => ckx (JeA ey :) ?_
 rintro _ _ _ ⟨dP, dJ, rfl, dx, rfl⟩
 refine qal rfl fun b9 => ?_
 refine qab r0 rfl ⟨rfl, rfl, (nl rfl), ?_⟩
 refine bsO (len := 0) (enc := Jh.enc) (l := ([] : List Jh)) (cl := []) qos rfl rfl (fun _ _ => rfl) rfl rfl rfl ?_ fun eP => ?_
 · conv => whnf
   first | done | rfl
 refine fa rfl (ro (ld r1 rfl rfl ?_))
 obtain ⟨eu, hm⟩ := qa7 hm
 refine apE rfl r0 qos (qa6 rfl r1 rfl (fun _ => rfl) (fun _ => rfl)) eu ?_
 intro eQ eW ff
 refine fa rfl ?_
 refine qab r1 rfl ⟨rfl, rfl, (nl rfl), ?_⟩
 refine qc0 ⟨⟨[], false⟩, _, [(_, _)], []⟩ 12 rfl (by kernel_rfl) ⟨Hp.Le.refl _, (sc [6] rfl), ci0⟩ ?_
 refine bsA (len := 0) (cl := []) qfk rfl rfl ?_ fun eV => ?_
 · conv => whnf
   first | done | rfl
 refine fa rfl (qao m0 rfl rfl ?_)
 intro em
 obtain ⟨dW, hm⟩ := qa7 hm
 refine ape (enc := eS) r0 qfk (qa6 rfl r4 rfl (fun _ => rfl) (fun _ => rfl)) dW ?_
 intro e9 eY eC
 refine ⟨⟨lr, (sc [7] rfl), ci0⟩, ?_⟩
 refine ⟨_, .cons r13 .nil, ⟨lr, (sc [7] rfl), ci0⟩, ?_⟩
 refine bsA (len := 0) (cl := []) qfk rfl rfl ?_ fun fb => ?_
 · conv => whnf
   first | done | rfl
 refine fa rfl (qao m0 rfl rfl ?_)
 intro d8
 obtain ⟨dU, hm⟩ := qa7 hm
 refine ape (enc := eS) r0 qfk (qa6 rfl r6 rfl (fun _ => rfl) (fun _ => rfl)) dU ?_
 intro fe eJ e7
 refine ⟨⟨lr, (sc [8] rfl), ci0⟩, ?_⟩
 refine ⟨_, .cons r14 .nil, ⟨lr, (sc [8] rfl), ci0⟩, ?_⟩
 refine fa rfl ?_
 intro eG
 refine qab r2 rfl ⟨rfl, rfl, (nl rfl), ?_⟩
 refine ⟨⟨lr, (sc [8] rfl), ci0⟩, ?_⟩
 refine ⟨_, .cons r14 .nil, ⟨lr, (sc [8] rfl), ci0⟩, ?_⟩
 refine fa rfl ?_
 intro d3
 refine qab r0 rfl ⟨rfl, rfl, (nl rfl), ?_⟩
 refine ⟨⟨lr, (sc [8] rfl), ci0⟩, ?_⟩
 refine ⟨_, .cons r14 .nil, ⟨lr, (sc [8] rfl), ci0⟩, ?_⟩
 obtain ⟨s0, bo, hm⟩ := bnd hm
 refine lD (σ := (Int × Je) × Option Addr × Nat × Option Addr × Nat × Option Addr × Nat) ([10] ++ rg 54 16) [0, 1, 2, 3, 4, 9, 10, 11, 12, 13] (fun _ => []) (fun (t0, aR, bb, aP, aX, aQ, aY) => [(10, .int .i64 t0.1)]) (fun (t0, aR, bb, aP, aX, aQ, aY) => [Cells b7 33 [str t0.2.Ae, str t0.2.Af, .slice aR t0.2.Ag.length bb, .slice aP t0.2.Vary.length aX, .slice aQ t0.2.Ah.length aY, .int .i64 t0.2.TTL, .int .i64 t0.2.Ai, .int .i64 t0.2.Aj, .bool t0.2.Ak, .bool t0.2.Al], OwnL Jc.enc aR 77 2 bb t0.2.Ag, OwnL eS aP 9 1 aX t0.2.Vary, OwnL eS aQ 9 1 aY t0.2.Ah]) (fun (t0, aR, bb, aP, aX, aQ, aY) => (0 < t0.2.Ag.length → Has aR) ∧ (0 < t0.2.Vary.length → Has aP) ∧ (0 < t0.2.Ah.length → Has aQ)) (fun i0 (t0, aR, bb, aP, aX, aQ, aY) => Jaq i0 t0.1 t0.2 = some s0) (fun (t0, aR, bb, aP, aX, aQ, aY) => t0 = s0) (fun i0 => i0) n ((_, _), _, _, _, _, _, _) bo (And.intro qe (And.intro ?_ ?_))
 clear bo
 rintro i0 ⟨⟨ab, aW⟩, bz, bI, bP, bO, bB, bw⟩ ⟨bj, bT, bY⟩ bo j0
 dsimp only at bo ⊢
 cases i0 with
 | zero => rw [Jaq.eq_1] at bo; cases bo
 | succ i0 =>
  rw [Jaq.eq_2] at bo
  refine fa rfl (ro (ld r0 rfl rfl (ro (qai rfl ?_))))
  refine cs rfl rfl bo ?_ ?_ <;> intro e8 bo
  refine qak rfl ?_
  refine fa rfl (ro (ld r0 rfl rfl ?_))
  obtain ⟨db, dQ, cU, bo⟩ := ixb bo
  refine RStep.ofN (qac rfl rfl (qdb bj cU) dQ (qay rfl dQ cU) (qaz rfl (qdb bj cU) (ro (qda (i := (ab).toNat) (o := 1) r1 rfl cU rfl rfl ?_))))
  obtain ⟨eh, bo⟩ := qa7 bo
  refine qf1 eh ?_
  obtain ⟨da, du, c8, bo⟩ := ixb bo
  refine RStep.ofN (qac rfl rfl (qdb bj c8) du (qay rfl du c8) (qaz rfl (qdb bj c8) ?_))
  refine qee (o := 1) (y := (⟨da.Name, (db.Value ++ ([120] : Str))⟩ : Jc)) da r1 rfl c8 rfl (by (conv => whnf); exact ⟨rfl, rfl, (nl rfl), rfl, rfl, rfl⟩) ?_
  refine ci bo fun bo => ?_
  refine qjn r1 (congrArg (fun q_ : Nat => ([str aW.Ae, str aW.Af, .slice bz q_ bI, .slice bP aW.Vary.length bO, .slice bB aW.Ah.length bw, .int .i64 aW.TTL, .int .i64 aW.Ai, .int .i64 aW.Aj, .bool aW.Ak, .bool aW.Al] : List Value)) (show aW.Ag.length = (aW.Ag.set ((ab).toNat) (⟨da.Name, (db.Value ++ ([120] : Str))⟩ : Jc)).length from ((rfl).trans List.length_set.symm))) ?_
  exact rd (i0, ((ab + 1), (⟨aW.Ae, aW.Af, (aW.Ag.set ((ab).toNat) (⟨da.Name, (db.Value ++ ([120] : Str))⟩ : Jc)), aW.Vary, aW.Ah, aW.TTL, aW.Ai, aW.Aj, aW.Ak, aW.Al⟩ : Je)), bz, bI, bP, bO, bB, bw) ⟨rfl, trivial⟩ rfl (pf rfl) lr (Nat.lt_succ_self _) ⟨⟨(by first | simpa using bj | exact fun _ => ⟨_, _, rfl⟩), bT, bY⟩, bo⟩
  refine cT ?_
  exact eM bo (_, _, _, _, _, _, _)
 rintro ⟨t0, aR, bb, aP, aX, aQ, aY⟩ ⟨c5, cZ, cY⟩ rfl j0
 obtain ⟨s2, bt, hm⟩ := bnd hm
 refine lD (σ := (Int × Je) × Option Addr × Nat × Option Addr × Nat × Option Addr × Nat) ([11] ++ rg 70 11) [4, 5, 6, 7, 8, 9, 10, 11, 12, 13] (fun _ => []) (fun (t2, aL, bc, aM, aZ, aT, ba) => [(11, .int .i64 t2.1)]) (fun (t2, aL, bc, aM, aZ, aT, ba) => [Cells b7 33 [str t2.2.Ae, str t2.2.Af, .slice aL t2.2.Ag.length bc, .slice aM t2.2.Vary.length aZ, .slice aT t2.2.Ah.length ba, .int .i64 t2.2.TTL, .int .i64 t2.2.Ai, .int .i64 t2.2.Aj, .bool t2.2.Ak, .bool t2.2.Al], OwnL Jc.enc aL 77 2 bc t2.2.Ag, OwnL eS aM 9 1 aZ t2.2.Vary, OwnL eS aT 9 1 ba t2.2.Ah]) (fun (t2, aL, bc, aM, aZ, aT, ba) => (0 < t2.2.Ag.length → Has aL) ∧ (0 < t2.2.Vary.length → Has aM) ∧ (0 < t2.2.Ah.length → Has aT)) (fun i2 (t2, aL, bc, aM, aZ, aT, ba) => Jar i2 t2.1 t2.2 = some s2) (fun (t2, aL, bc, aM, aZ, aT, ba) => t2 = s2) (fun i2 => i2) n ((_, _), _, _, _, _, _, _) bt (And.intro qe (And.intro ?_ ?_))
 clear bt
 rintro i2 ⟨⟨ce, aU⟩, bF, bL, bG, bK, bA, bH⟩ ⟨bZ, bU, bv⟩ bt j2
 dsimp only at bt ⊢
 cases i2 with
 | zero => rw [Jar.eq_1] at bt; cases bt
 | succ i2 =>
  rw [Jar.eq_2] at bt
  refine fa rfl (ro (ld r0 rfl rfl (ro (qai rfl ?_))))
  refine cs rfl rfl bt ?_ ?_ <;> intro eL bt
  refine qak rfl ?_
  refine fa rfl (ro (ld r0 rfl rfl ?_))
  obtain ⟨dX, dT, dj, bt⟩ := ixb bt
  refine RStep.ofN (qac rfl rfl (qdb bv dj) dT (qay rfl dT dj) ?_)
  refine qee (o := 0) (y := ([120] : Str)) dX r3 rfl dj rfl (by (conv => whnf); exact ⟨rfl, rfl, (nl rfl), rfl, rfl, rfl⟩) ?_
  refine ci bt fun bt => ?_
  refine qjn r1 (congrArg (fun q_ : Nat => ([str aU.Ae, str aU.Af, .slice bF aU.Ag.length bL, .slice bG aU.Vary.length bK, .slice bA q_ bH, .int .i64 aU.TTL, .int .i64 aU.Ai, .int .i64 aU.Aj, .bool aU.Ak, .bool aU.Al] : List Value)) (show aU.Ah.length = (aU.Ah.set ((ce).toNat) ([120] : Str)).length from ((rfl).trans List.length_set.symm))) ?_
  exact rd (i2, ((ce + 1), (⟨aU.Ae, aU.Af, aU.Ag, aU.Vary, (aU.Ah.set ((ce).toNat) ([120] : Str)), aU.TTL, aU.Ai, aU.Aj, aU.Ak, aU.Al⟩ : Je)), bF, bL, bG, bK, bA, bH) ⟨rfl, trivial⟩ rfl (sc [0,1,1,0,0,0,0,0,0,0,0,0,0,0] rfl) lr (Nat.lt_succ_self _) ⟨⟨bZ, bU, (by first | simpa using bv | exact fun _ => ⟨_, _, rfl⟩)⟩, bt⟩
  refine cT ?_
  exact eM bt (_, _, _, _, _, _, _)
 rintro ⟨t2, aL, bc, aM, aZ, aT, ba⟩ ⟨c6, cR, cW⟩ rfl j2
 obtain ⟨s4, bu, hm⟩ := bnd hm
 refine lD (σ := (Int × Je) × Option Addr × Nat × Option Addr × Nat × Option Addr × Nat) ([12] ++ rg 81 11) [4, 5, 6, 7, 8, 9, 10, 11, 12, 13] (fun _ => []) (fun (t4, aO, bg, aS, a6, aN, bf) => [(12, .int .i64 t4.1)]) (fun (t4, aO, bg, aS, a6, aN, bf) => [Cells b7 33 [str t4.2.Ae, str t4.2.Af, .slice aO t4.2.Ag.length bg, .slice aS t4.2.Vary.length a6, .slice aN t4.2.Ah.length bf, .int .i64 t4.2.TTL, .int .i64 t4.2.Ai, .int .i64 t4.2.Aj, .bool t4.2.Ak, .bool t4.2.Al], OwnL Jc.enc aO 77 2 bg t4.2.Ag, OwnL eS aS 9 1 a6 t4.2.Vary, OwnL eS aN 9 1 bf t4.2.Ah]) (fun (t4, aO, bg, aS, a6, aN, bf) => (0 < t4.2.Ag.length → Has aO) ∧ (0 < t4.2.Vary.length → Has aS) ∧ (0 < t4.2.Ah.length → Has aN)) (fun i4 (t4, aO, bg, aS, a6, aN, bf) => Jas i4 t4.1 t4.2 = some s4) (fun (t4, aO, bg, aS, a6, aN, bf) => t4 = s4) (fun i4 => i4) n ((_, _), _, _, _, _, _, _) bu (And.intro qe (And.intro ?_ ?_))
 clear bu
 rintro i4 ⟨⟨cj, aV⟩, bN, bM, bJ, bR, bC, bQ⟩ ⟨bV, bD, bX⟩ bu j4
 dsimp only at bu ⊢
 cases i4 with
 | zero => rw [Jas.eq_1] at bu; cases bu
 | succ i4 =>
  rw [Jas.eq_2] at bu
  refine fa rfl (ro (ld r0 rfl rfl (ro (qai rfl ?_))))
  refine cs rfl rfl bu ?_ ?_ <;> intro e5 bu
  refine qak rfl ?_
  refine fa rfl (ro (ld r0 rfl rfl ?_))
  obtain ⟨ek, dy, dh, bu⟩ := ixb bu
  refine RStep.ofN (qac rfl rfl (qdb bD dh) dy (qay rfl dy dh) ?_)
  refine qee (o := 0) (y := ([120] : Str)) ek r2 rfl dh rfl (by (conv => whnf); exact ⟨rfl, rfl, (nl rfl), rfl, rfl, rfl⟩) ?_
  refine ci bu fun bu => ?_
  refine qjn r1 (congrArg (fun q_ : Nat => ([str aV.Ae, str aV.Af, .slice bN aV.Ag.length bM, .slice bJ q_ bR, .slice bC aV.Ah.length bQ, .int .i64 aV.TTL, .int .i64 aV.Ai, .int .i64 aV.Aj, .bool aV.Ak, .bool aV.Al] : List Value)) (show aV.Vary.length = (aV.Vary.set ((cj).toNat) ([120] : Str)).length from ((rfl).trans List.length_set.symm))) ?_
  exact rd (i4, ((cj + 1), (⟨aV.Ae, aV.Af, aV.Ag, (aV.Vary.set ((cj).toNat) ([120] : Str)), aV.Ah, aV.TTL, aV.Ai, aV.Aj, aV.Ak, aV.Al⟩ : Je)), bN, bM, bJ, bR, bC, bQ) ⟨rfl, trivial⟩ rfl (sc [0,1,0,0,0,0,0,0,0,0,0,0,0,0] rfl) lr (Nat.lt_succ_self _) ⟨⟨bV, (by first | simpa using bD | exact fun _ => ⟨_, _, rfl⟩), bX⟩, bu⟩
  refine cT ?_
  exact eM bu (_, _, _, _, _, _, _)
 rintro ⟨t4, aO, bg, aS, a6, aN, bf⟩ ⟨cX, cV, c9⟩ rfl j4
 refine ro (qae r10 rfl (nl rfl) (ro (qae r9 rfl (nl rfl) ?_)))
 refine cb hm fun fj ee hm => ckx (JdF ee :) ?_
 rintro _ _ _ ⟨dw, dq, dp, dm, dO, dL, rfl, dl, dH, dS, rfl⟩
 refine qal rfl fun eZ => ?_
 refine qab r0 rfl ⟨rfl, rfl, (nl rfl), ?_⟩
 refine qaj rfl ?_
 refine cb hm fun eD ej hm => cg0 (JeF ej :) ?_
 refine cb hm fun dZ de hm => cg0 (JeF de :) ?_
 refine qaf ?_
 obtain ⟨d4, br, hm⟩ := bnd hm
 refine cS br (fun a8 br => ?_) fun a8 br => ?_
 refine ro (qae r0 rfl (nl rfl) (ct a8 (ro (qae r8 rfl (nl rfl) (ct a8 ?_)))))
 refine fF Tryz.call18 r1 fun cr cJ cG => ?_
 refine fF Tryz.call18 r1 fun cw cp cE => ?_
 refine fF Tryz.call18 r1 fun cI cz cH => ?_
 refine fF Tryz.call18 r8 fun cA cu cD => ?_
 refine fF Tryz.call18 r7 fun cn cq cm => ?_
 refine fF Tryz.call18 r6 fun co cB cC => ?_
 refine cb br fun d6 dg br => cgx (Jfj dg :) ?_
 refine ct a8 ?_
 obtain ⟨df, bm, hm⟩ := bnd hm
 refine qag ?_ ?_ <;> intro aK
 replace bm := ift ((si br).symm.trans aK) bm
 refine fa rfl (ct aK (ro (ld r7 rfl rfl (ct aK (fa rfl (ct aK (ro (ld r9 rfl rfl (ct aK ?_)))))))))
 refine cb bm fun d2 di bm => cgx (Jei di :) ?_
 refine ct aK ?_
 refine qag ?_ ?_ <;> intro aJ
 refine fa rfl (ct aJ (ro (ld r7 rfl rfl (ct aJ (fa rfl (ct aJ (ro (ld r9 rfl rfl (ct aJ ?_)))))))))
 refine qar (ct aJ ?_)
 exact bE (qdh (b := decide (ep.Ae = Ar.Ae)) ((si bm).symm.trans aJ)) (eE hm)
 refine cf aJ (cf aJ (cf aJ (cf aJ (cf aJ ?_))))
 exact bE (((qa0 ((si bm).symm.trans aJ))).symm) (eE hm)
 replace bm := qbp ((si br).symm.trans aK) bm
 refine cf aK (cf aK (cf aK (cf aK (cf aK (cF (cF (cF ?_)))))))
 refine cF (cF (cF ?_))
 exact bE (((qa0 (si bm).symm)).symm) (eE hm)
 refine cf a8 (cf a8 (cf a8 ?_))
 obtain ⟨df, bm, hm⟩ := bnd hm
 replace bm := qbp (si br).symm bm
 refine cF (cF (cF (cF (cF (cF (cF (cF ?_)))))))
 refine cF (cF (cF (cF ?_)))
 exact bE (((qa0 (si bm).symm)).symm) (eE hm)
