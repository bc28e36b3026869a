/- Functions of the program: mirrors, and that a call returns what the mirror says. Printed by gen.py. -/
import Derived.Test.YtmpdebfckeahmaaGreatDoorG3
set_option linter.unusedVariables false
set_option linter.unusedSimpArgs false
open Go Go.SL Go.Proofs
noncomputable section
set_option maxRecDepth 1000000
set_option maxHeartbeats 8000000
def Jb9 (x : Jd) : Option (Jd × Err) :=
  if decide ((x.s.length : Int) > 2048) then
  some ((⟨0, 0, ([] : Str), false⟩ : Jd), (some 5))
  else
  some (x, none)
theorem Jc8 {x : Jd} {K : Hp} {r : Jd × Err}
    (hm : Jb9 x = some r)  :
    Fn Tryz.prog 130 [.agg #[.int .i64 x.kind, .int .i64 x.n, str x.s, .bool x.At]] K [] (fun v K' H' => v = .tuple #[.agg #[.int .i64 r.1.kind, .int .i64 r.1.n, str r.1.s, .bool r.1.At], qde 87 r.2] ∧ H' = []) := by
 refine Fn.enter Tryz.func130 Tryz.call130 rfl fun F => ?_
 unfold Jb9 at hm
 refine qaq ?_
 intro b1
 refine qal rfl fun b2 => ?_
 refine fa rfl (ro (ld r1 rfl rfl (ro (qat rfl ?_))))
 refine cs rfl rfl hm ?_ ?_ <;> intro w7 hm
 refine qak rfl rfl ?_
 refine qa7 rfl ?_
 refine qaa r0 rfl ⟨rfl, rfl, (nl rfl), ?_⟩
 exact ro (qae r0 rfl (nl rfl) (eE hm))
 refine ro (qae r1 rfl (nl rfl) ?_)
 refine qaa r0 rfl ⟨rfl, rfl, (nl rfl), ?_⟩
 exact ro (qae r0 rfl (nl rfl) (eE hm))

def Jae (env : (List JD)) (n' : Ja) : Nat → Int → Option (Fl (Jd × Err) (Int))
  | 0, _ => none
  | aV + 1, aS =>
    if decide (aS ≥ 0) then
    (ix env aS).bind fun aU =>
    if decide (aU.name = n'.Ac) then
    (ix env aS).bind fun aT =>
    some (Fl.ret (aT.value, none))
    else
    (chk (InI (aS - 1))).bind fun _ =>
    Jae env n' aV (aS - 1)
    else
    some (Fl.go aS)
def J4 : Nat → Jo → Ja → (List JD) → Option (Jd × Err)
  | 0, _, _, _ => none
  | n + 1, w', n', env =>
    if decide (n'.Ab = 20) then
    (JcE n'.Ac).bind fun bg =>
    (JbH bg).bind fun bp =>
    some (bp, none)
    else
    if decide (n'.Ab = 21) then
    (JaA n'.Ac).bind fun bm =>
    (Jb9 bm).bind fun bf =>
    some (bf.1, bf.2)
    else
    if decide (n'.Ab = 22) then
    (JaC (decide (n'.Ac = ([116, 114, 117, 101] : Str)))).bind fun bn =>
    some (bn, none)
    else
    if decide (n'.Ab = 23) then
    (chk (InI ((env.length : Int) - 1))).bind fun _ =>
    (Jae env n' n ((env.length : Int) - 1)).bind fun s1 => s1.el some fun t1 =>
    (Jam n'.Ac w'.Ar).bind fun bh =>
    (Jb9 bh).bind fun bd =>
    some (bd.1, bd.2)
    else
    (ix n'.Aa 0).bind fun bj =>
    ((J4 n) w' bj env).bind fun aS =>
    if aS.2.isSome then
    some ((⟨0, 0, ([] : Str), false⟩ : Jd), aS.2)
    else
    ((if decide (n'.Ab = 24) then
    (JL n'.Ac aS.1 w'.Ar).bind fun bo =>
    (Jb9 bo.1).bind fun aX =>
    some (Fl.ret (aX.1, aX.2))
    else
    if decide (n'.Ab = 15) then
    (JaC (!aS.1.At)).bind fun aZ =>
    some (Fl.ret (aZ, none))
    else
    if decide (n'.Ab = 14) then
    if (!aS.1.At) then
    some (Fl.ret (aS.1, none))
    else
    (ix n'.Aa 1).bind fun a6 =>
    ((J4 n) w' a6 env).bind fun aW =>
    some (Fl.ret (aW.1, aW.2))
    else
    if decide (n'.Ab = 13) then
    if aS.1.At then
    some (Fl.ret (aS.1, none))
    else
    (ix n'.Aa 1).bind fun aY =>
    ((J4 n) w' aY env).bind fun aU =>
    some (Fl.ret (aU.1, aU.2))
    else
    if decide (n'.Ab = 17) then
    some (Fl.go ([43] : Str))
    else
    if decide (n'.Ab = 18) then
    some (Fl.go ([45] : Str))
    else
    if decide (n'.Ab = 19) then
    some (Fl.go ([42] : Str))
    else
    some (Fl.go n'.Ac) : Option (Fl (Jd × Err) (Str)))).bind fun ba => ba.el some fun bc =>
    (ix n'.Aa 1).bind fun a8 =>
    ((J4 n) w' a8 env).bind fun aT =>
    if aT.2.isSome then
    some ((⟨0, 0, ([] : Str), false⟩ : Jd), aT.2)
    else
    (JS bc aS.1 aT.1).bind fun bb =>
    (Jb9 bb.1).bind fun aV =>
    some (aV.1, aV.2)
theorem Jes : ∀ {n : Nat} {w' : Jo} {n' : Ja} {env : (List JD)} {b0 : Nat} {aa : Option Addr} {ab : Nat} {aj : Option Addr} {am : Nat} {ak : Option Addr} {an : Nat} {ar : Option Addr} {au : Nat} {ag : Option Addr} {ah : Nat} {ao : Option Addr} {aq : Nat} {n2 : Nat} {K : Hp} {r : Jd × Err}
    (hm : J4 n w' n' env = some r) (hX : RdC Je.enc K aa ab 2 w'.Ar.Ao ∧ (0 < w'.result.Ag.length → Has aj) ∧ (0 < w'.result.Vary.length → Has ak) ∧ (0 < w'.result.Ah.length → Has ar) ∧ LiC Ja.R K ag ah 4 n'.Aa ∧ RdC JD.enc K ao aq 5 env ∧ n2 = env.length ∧ GG K),
    Fn Tryz.prog 86 [.pointer (some ⟨b0, 0, none⟩), .agg #[.int .i64 n'.Ab, str n'.Ac, .slice ag n'.Aa.length ah, .int .i64 n'.Ad], .slice ao n2 aq] K [Cells b0 125 [str w'.Ar.Am, str w'.Ar.An, str w'.Ar.Ae, str w'.Ar.Af, .slice aa w'.Ar.Ao.length ab, str w'.result.Ae, str w'.result.Af, .slice aj w'.result.Ag.length am, .slice ak w'.result.Vary.length an, .slice ar w'.result.Ah.length au, .int .i64 w'.result.TTL, .int .i64 w'.result.Ai, .int .i64 w'.result.Aj, .bool w'.result.Ak, .bool w'.result.Al, .bool w'.Aq], OwnL Je.enc aj 77 2 am w'.result.Ag, OwnL eS ak 9 1 an w'.result.Vary, OwnL eS ar 9 1 au w'.result.Ah] (fun v K' H' => v = .tuple #[.agg #[.int .i64 r.1.kind, .int .i64 r.1.n, str r.1.s, .bool r.1.At], qde 87 r.2] ∧ H' = [Cells b0 125 [str w'.Ar.Am, str w'.Ar.An, str w'.Ar.Ae, str w'.Ar.Af, .slice aa w'.Ar.Ao.length ab, str w'.result.Ae, str w'.result.Af, .slice aj w'.result.Ag.length am, .slice ak w'.result.Vary.length an, .slice ar w'.result.Ah.length au, .int .i64 w'.result.TTL, .int .i64 w'.result.Ai, .int .i64 w'.result.Aj, .bool w'.result.Ak, .bool w'.result.Al, .bool w'.Aq], OwnL Je.enc aj 77 2 am w'.result.Ag, OwnL eS ak 9 1 an w'.result.Vary, OwnL eS ar 9 1 au w'.result.Ah]) := by
 intro n
 induction n with
 | zero =>
   intro w' n' env b0 aa ab aj am ak an ar au ag ah ao aq n2 K r hm hX
   rw [J4.eq_1] at hm; cases hm
 | succ n ih =>
   intro w' n' env b0 aa ab aj am ak an ar au ag ah ao aq n2 K r hm hX
   obtain ⟨ae, ce, bY, bZ, af, av, cW, hG⟩ := hX
   subst cW
   refine Fn.enter Tryz.func86 Tryz.call86 rfl fun F => ?_
   rw [J4.eq_2] at hm
   refine qaq ?_
   intro b4
   refine qal rfl fun b6 => ?_
   refine fa rfl (ro (ld r1 rfl rfl ?_))
   refine qai rfl ?_
   refine qad (cs rfl rfl hm ?_ ?_) <;> intro du hm
   refine fa rfl (ro (ld r1 rfl rfl ?_))
   refine cb hm fun dz cQ hm => cg0 (Jei cQ :) ?_
   refine cb hm fun dl cw hm => cg0 (Jbo cw :) ?_
   refine qaa r0 rfl ⟨rfl, rfl, (nl rfl), ?_⟩
   exact ro (qae r0 rfl (nl rfl) (eE hm))
   refine qad (cs rfl rfl hm ?_ ?_) <;> intro dp hm
   refine fa rfl (ro (ld r1 rfl rfl ?_))
   refine cb hm fun dh cE hm => cg0 (Jaj cE :) ?_
   refine cb hm fun dA cM hm => cg0 (Jc8 cM :) ?_
   refine qaa r0 rfl ⟨rfl, rfl, (nl rfl), ?_⟩
   exact ro (qae r0 rfl (nl rfl) (eE hm))
   refine qad (cs rfl rfl hm ?_ ?_) <;> intro dy hm
   refine fa rfl (ro (ld r1 rfl rfl (qam ?_)))
   refine cb hm fun dj da hm => cg0 (Jaq da :) ?_
   refine qaa r0 rfl ⟨rfl, rfl, (nl rfl), ?_⟩
   exact ro (qae r0 rfl (nl rfl) (eE hm))
   refine qad (cs rfl rfl hm ?_ ?_) <;> intro dw hm
   refine ro (qaj rfl ?_)
   refine ci hm fun hm => ?_
   obtain ⟨s1, aT, hm⟩ := bnd hm
   refine lD (σ := (Int)) ([7,8] ++ rg 44 17) [0, 1, 2, 3, 4, 5, 6] (fun _ => []) (fun t1 => [(8, .int .i64 t1)]) (fun _ => []) (fun _ => True) (fun i1 t1 => Jae env n' i1 t1 = some s1) (fun t1 => s1 = Fl.go t1) (fun i1 => i1) n _ aT (And.intro qe (And.intro ?_ ?_))
   clear aT
   rintro i1 a8 _ aT j1
   conv at aT => whnf
   cases i1 with
   | zero => rw [Jae.eq_1] at aT; cases aT
   | succ i1 =>
    rw [Jae.eq_2] at aT
    refine cs rfl rfl aT ?_ ?_ <;> intro dE aT
    refine qai rfl ?_
    refine qau ⟨⟨[], false⟩, _, [(_, _)], []⟩ (by kernel_rfl) ⟨Hp.Le.refl _, (sc [1] rfl), ci0⟩ ?_
    obtain ⟨di, bX, bp, aT⟩ := ixb aT
    refine qac rfl rfl (qcc av.rd bp) bX (qas rfl bX bp) (qaw rfl (qcc av.rd bp) (qbj ((a8).toNat) 0 _ _ av.rd rfl (mp bp) rfl rfl (fa rfl (qan m0 rfl rfl (qam ?_)))))
    refine cs rfl rfl aT ?_ ?_ <;> intro dm aT
    obtain ⟨bn, bR, bo, aT⟩ := ixb aT
    refine RStep.ofN (qac rfl rfl (qcc av.rd bo) bR (qas rfl bR bo) (qaw rfl (qcc av.rd bo) (ro (qfr ((a8).toNat) 1 4 _ [.int .i64 bn.value.kind, .int .i64 bn.value.n, str bn.value.s, .bool bn.value.At] av.rd rfl (mp bo) rfl rfl rfl ?_))))
    refine qaa r0 rfl ⟨rfl, rfl, (nl rfl), ?_⟩
    exact ro (qae r0 rfl (nl rfl) (eE (er aT hm)))
    refine ci aT fun aT => ?_
    exact eR aT (_, _)
    refine cT ?_
    exact eM aT _
   rintro t1 _ rfl j1
   replace hm := elg hm
   refine qau ⟨⟨[], false⟩, _, [(_, _), (_, _)], []⟩ (by kernel_rfl) ⟨Hp.Le.refl _, (sc [1,1] rfl), ci0⟩ ?_
   refine fa rfl (qan m0 rfl rfl (qao (fa rfl (qba m1 rfl (nl rfl) ?_))))
   refine cb hm fun dC cq hm => cgx (Jdp cq :) ?_
   refine qk (sc [1,1] rfl) ?_
   refine cb hm fun dB cY hm => cg0 (Jc8 cY :) ?_
   refine qk (sc [1,1] rfl) ?_
   refine qaa r0 rfl ⟨rfl, rfl, (nl rfl), ?_⟩
   refine qk (sc [1,1] rfl) ?_
   exact ro (qae r0 rfl (nl rfl) (eE hm))
   refine fa rfl (ro (ld r1 rfl rfl ?_))
   obtain ⟨dx, cm, bH, hm⟩ := ixb hm
   refine RStep.ofN (qac rfl rfl (qcf af.rd bH) cm (qas rfl cm bH) ?_)
   obtain ⟨cA, cH, bG, bK, bw⟩ := LiR.get af.rd bH
   obtain ⟨cn, bS, rfl, ca⟩ := Ja.out bw
   refine ro (qap ((0 : Int).toNat) _ bG rfl bK rfl ?_)
   refine cb hm fun dg cu hm => cgx (ih cu :) ?_
   refine qal rfl fun b9 => ?_
   refine qaa r0 rfl ⟨rfl, rfl, (nl rfl), ?_⟩
   refine qbo rfl ?_
   refine cs rfl rfl hm ?_ ?_ <;> intro dk hm
   refine qak rfl rfl ?_
   refine qaa r5 rfl ⟨rfl, rfl, (nl rfl), ?_⟩
   exact ro (qae r0 rfl (nl rfl) (eE hm))
   refine fa rfl (ro (ld r6 rfl rfl (fa rfl (ro (ld r6 rfl rfl ?_)))))
   obtain ⟨bu, aS, hm⟩ := bnd hm
   refine jD (σ := (Str)) ([7,11,12,13] ++ rg 89 58) [0, 1, 2, 3, 4, 5, 6, 7] (fun aU => [(11, str aU)]) (fun aU => []) (fun aU => bu = Fl.go aU) (And.intro ?_ ?_)
   refine qai rfl ?_
   refine qad (cs rfl rfl aS ?_ ?_) <;> intro df aS
   refine qb9 ⟨⟨[], false⟩, _, [(_, _), (_, _), (_, _)], []⟩ 14 rfl (by kernel_rfl) ⟨Hp.Le.refl _, (sc [6,0,0] rfl), ci0⟩ ?_
   refine fa rfl (qan m0 rfl rfl (qba m1 rfl (nl rfl) (qao (fa rfl (qba m2 rfl (nl rfl) ?_)))))
   intro dq
   refine cb aS fun de cO aS => cgx (JeJ cO :) ?_
   refine ⟨⟨lr, (sc [6,0,0] rfl), ci0⟩, ?_⟩
   refine ⟨_, .cons r8 .nil, ⟨lr, (sc [6,0,0] rfl), ci0⟩, ?_⟩
   refine qfp rfl ?_
   intro dD
   intro cX
   refine qaa r0 rfl ⟨rfl, rfl, (nl rfl), ?_⟩
   refine ⟨⟨lr, (sc [7,1,1] rfl), ci0⟩, ?_⟩
   refine ⟨_, .cons r9 .nil, ⟨lr, (sc [7,1,1] rfl), ci0⟩, ?_⟩
   refine ro (qae r0 rfl (nl rfl) ?_)
   refine cb aS fun cz bJ aS => cg0 (Jc8 bJ :) ?_
   refine qaa r6 rfl ⟨rfl, rfl, (nl rfl), ?_⟩
   exact ro (qae r0 rfl (nl rfl) (eE (er aS hm)))
   refine qad (cs rfl rfl aS ?_ ?_) <;> intro db aS
   refine fa rfl (ro (ld r0 rfl rfl (qa1 ?_)))
   refine cb aS fun co bO aS => cg0 (Jaq bO :) ?_
   refine qaa r5 rfl ⟨rfl, rfl, (nl rfl), ?_⟩
   exact ro (qae r0 rfl (nl rfl) (eE (er aS hm)))
   refine qad (cs rfl rfl aS ?_ ?_) <;> intro dc aS
   refine fa rfl (ro (ld r0 rfl rfl (qa1 ?_)))
   refine cs rfl rfl aS ?_ ?_ <;> intro cP aS
   refine ro (qae r0 rfl (nl rfl) ?_)
   refine qaa r5 rfl ⟨rfl, rfl, (nl rfl), ?_⟩
   exact ro (qae r0 rfl (nl rfl) (eE (er aS hm)))
   refine fa rfl (ro (ld r6 rfl rfl ?_))
   obtain ⟨cZ, bm, aW, aS⟩ := ixb aS
   refine RStep.ofN (qac rfl rfl (qcf af.rd aW) bm (qas rfl bm aW) ?_)
   obtain ⟨bV, cd, aZ, a6, bg⟩ := LiR.get af.rd aW
   obtain ⟨bD, br, rfl, bP⟩ := Ja.out bg
   refine ro (qap ((1 : Int).toNat) _ aZ rfl a6 rfl ?_)
   refine cb aS fun cr bQ aS => cgx (ih bQ :) ?_
   refine qaa r5 rfl ⟨rfl, rfl, (nl rfl), ?_⟩
   exact ro (qae r0 rfl (nl rfl) (eE (er aS hm)))
   refine qad (cs rfl rfl aS ?_ ?_) <;> intro cJ aS
   refine fa rfl (ro (ld r0 rfl rfl ?_))
   refine cs rfl rfl aS ?_ ?_ <;> intro cK aS
   refine ro (qae r0 rfl (nl rfl) ?_)
   refine qaa r5 rfl ⟨rfl, rfl, (nl rfl), ?_⟩
   exact ro (qae r0 rfl (nl rfl) (eE (er aS hm)))
   refine fa rfl (ro (ld r6 rfl rfl ?_))
   obtain ⟨cR, bj, aX, aS⟩ := ixb aS
   refine RStep.ofN (qac rfl rfl (qcf af.rd aX) bj (qas rfl bj aX) ?_)
   obtain ⟨cj, bW, bd, aY, bf⟩ := LiR.get af.rd aX
   obtain ⟨bz, bM, rfl, bI⟩ := Ja.out bf
   refine ro (qap ((1 : Int).toNat) _ bd rfl aY rfl ?_)
   refine cb aS fun cD bt aS => cgx (ih bt :) ?_
   refine qaa r5 rfl ⟨rfl, rfl, (nl rfl), ?_⟩
   exact ro (qae r0 rfl (nl rfl) (eE (er aS hm)))
   refine qad (cs rfl rfl aS ?_ ?_) <;> intro cG aS
   exact eM aS _
   refine qad (cs rfl rfl aS ?_ ?_) <;> intro cI aS
   exact eM aS _
   refine qad (cs rfl rfl aS ?_ ?_) <;> intro cp aS
   exact eM aS _
   exact eM aS _
   rintro aU rfl cC
   replace hm := elg hm
   refine fa rfl (ro (ld r6 rfl rfl ?_))
   obtain ⟨cU, bc, aV, hm⟩ := ixb hm
   refine RStep.ofN (qac rfl rfl (qcf af.rd aV) bc (qas rfl bc aV) ?_)
   obtain ⟨bT, bU, bh, bb, ba⟩ := LiR.get af.rd aV
   obtain ⟨bB, bN, rfl, bA⟩ := Ja.out ba
   refine ro (qap ((1 : Int).toNat) _ bh rfl bb rfl ?_)
   refine cb hm fun c8 bF hm => cgx (ih bF :) ?_
   refine qal rfl fun dv => ?_
   refine qaa r0 rfl ⟨rfl, rfl, (nl rfl), ?_⟩
   refine qbo rfl ?_
   refine cs rfl rfl hm ?_ ?_ <;> intro cB hm
   refine qak rfl rfl ?_
   refine qaa r6 rfl ⟨rfl, rfl, (nl rfl), ?_⟩
   exact ro (qae r0 rfl (nl rfl) (eE hm))
   refine ro (qae r5 rfl (nl rfl) (ro (qae r0 rfl (nl rfl) ?_)))
   refine cb hm fun cL bL hm => cgx (JdY bL :) ?_
   refine qal rfl fun dt => ?_
   refine qaa r0 rfl ⟨rfl, rfl, (nl rfl), ?_⟩
   refine ro (qae r0 rfl (nl rfl) ?_)
   refine cb hm fun cV bC hm => cg0 (Jc8 bC :) ?_
   refine qaa r7 rfl ⟨rfl, rfl, (nl rfl), ?_⟩
   exact ro (qae r0 rfl (nl rfl) (eE hm))

def JcU (n' : Ja) : Option (Str) :=
  if decide (n'.Ab = 5) then
  (chk (([104, 101, 97, 100, 101, 114, 58] : Str).length + n'.Ac.length ≤ lim)).bind fun _ =>
  some (([104, 101, 97, 100, 101, 114, 58] : Str) ++ n'.Ac)
  else
  if decide (n'.Ab = 6) then
  (chk (([118, 97, 114, 121, 58] : Str).length + n'.Ac.length ≤ lim)).bind fun _ =>
  some (([118, 97, 114, 121, 58] : Str) ++ n'.Ac)
  else
  if decide (n'.Ab = 7) then
  some ([116, 97, 103] : Str)
  else
  if decide (n'.Ab = 8) then
  some ([116, 116, 108] : Str)
  else
  if decide (n'.Ab = 9) then
  some ([100, 101, 110, 121] : Str)
  else
  if decide (n'.Ab = 10) then
  some ([112, 97, 115, 115] : Str)
  else
  if decide (n'.Ab = 11) then
  some ([116, 111, 107, 101, 110] : Str)
  else
  some n'.Ac
theorem JfN {n' : Ja} {aa : Option Addr} {ab : Nat} {K : Hp} {r : Str}
    (hm : JcU n' = some r) (ae : LiC Ja.R K aa ab 4 n'.Aa) :
    Fn Tryz.prog 87 [.agg #[.int .i64 n'.Ab, str n'.Ac, .slice aa n'.Aa.length ab, .int .i64 n'.Ad]] K [] (fun v K' H' => v = str r ∧ H' = []) := by
 refine Fn.enter Tryz.func87 Tryz.call87 rfl fun F => ?_
 unfold JcU at hm
 refine qaq ?_
 intro b1
 refine fa rfl (ro (ld r0 rfl rfl ?_))
 refine qai rfl ?_
 refine qad (cs rfl rfl hm ?_ ?_) <;> intro w5 hm
 refine fa rfl (ro (ld r0 rfl rfl ?_))
 obtain ⟨h9, hm⟩ := qay hm
 refine qbk h9 ?_
 exact eE hm
 refine qad (cs rfl rfl hm ?_ ?_) <;> intro aY hm
 refine fa rfl (ro (ld r0 rfl rfl ?_))
 obtain ⟨aS, hm⟩ := qay hm
 refine qbk aS ?_
 exact eE hm
 refine qad (cs rfl rfl hm ?_ ?_) <;> intro aW hm
 exact eE hm
 refine qad (cs rfl rfl hm ?_ ?_) <;> intro aU hm
 exact eE hm
 refine qad (cs rfl rfl hm ?_ ?_) <;> intro aX hm
 exact eE hm
 refine qad (cs rfl rfl hm ?_ ?_) <;> intro aV hm
 exact eE hm
 refine qad (cs rfl rfl hm ?_ ?_) <;> intro aT hm
 exact eE hm
 refine fa rfl (ro (ld r0 rfl rfl ?_))
 exact eE hm

def JU (w' : Jo) (n : Nat) (rec_ : (Jo → (List Ja) → (List JD) → Option (Err × Jo))) : List Ja → Nat → (List JD) → Jo → Option (Fl (Err × Jo) ((List JD) × Jo))
  | [], _, ac, aS => some (Fl.go (ac, (⟨w'.Ar, aS.result, aS.Aq⟩ : Jo)))
  | e0 :: bb, i0, ac, aS =>
    if aS.Aq then
    some (Fl.ret (none, (⟨w'.Ar, aS.result, aS.Aq⟩ : Jo)))
    else
    ((if decide ((e0.Aa.length : Int) > 0) then
    (ix e0.Aa 0).bind fun bc =>
    (J4 n (⟨w'.Ar, aS.result, aS.Aq⟩ : Jo) bc ac).bind fun aX =>
    if aX.2.isSome then
    some (Fl.ret (aX.2, (⟨w'.Ar, aS.result, aS.Aq⟩ : Jo)))
    else
    some (Fl.go (aX.1.kind, aX.1.n, aX.1.s, aX.1.At))
    else
    some (Fl.go (0, 0, ([] : Str), false)) : Option (Fl (Err × Jo) (Int × Int × Str × Bool)))).bind fun aZ => aZ.el (fun r => some (Fl.ret r)) fun aT =>
    ((if decide (e0.Ab = 3) then
    (chk (ac.length + [(⟨e0.Ac, (⟨aT.1, aT.2.1, aT.2.2.1, aT.2.2.2⟩ : Jd)⟩ : JD)].length ≤ lim)).bind fun _ =>
    some ((ac ++ [(⟨e0.Ac, (⟨aT.1, aT.2.1, aT.2.2.1, aT.2.2.2⟩ : Jd)⟩ : JD)]), none, (⟨w'.Ar, aS.result, aS.Aq⟩ : Jo))
    else
    if decide (e0.Ab = 2) then
    if aT.2.2.2 then
    (ix e0.Aa 1).bind fun bg =>
    (rec_ (⟨w'.Ar, aS.result, aS.Aq⟩ : Jo) bg.Aa ac).bind fun aY =>
    some (ac, aY.1, (⟨w'.Ar, aY.2.result, aY.2.Aq⟩ : Jo))
    else
    (if decide ((e0.Aa.length : Int) > 2) then (ix e0.Aa 2).bind fun bf =>
    some (decide (bf.Ab = 2)) else some false).bind fun a6 =>
    if a6 then
    (chk (0 ≤ (2 : Int) ∧ (2 : Int) ≤ (e0.Aa.length : Int) ∧ (e0.Aa.length : Int) ≤ (e0.Aa.length : Int))).bind fun _ =>
    (rec_ (⟨w'.Ar, aS.result, aS.Aq⟩ : Jo) (subL e0.Aa (2 : Int) (e0.Aa.length : Int)) ac).bind fun aW =>
    some (ac, aW.1, (⟨w'.Ar, aW.2.result, aW.2.Aq⟩ : Jo))
    else
    if decide ((e0.Aa.length : Int) > 2) then
    (ix e0.Aa 2).bind fun a8 =>
    (rec_ (⟨w'.Ar, aS.result, aS.Aq⟩ : Jo) a8.Aa ac).bind fun aV =>
    some (ac, aV.1, (⟨w'.Ar, aV.2.result, aV.2.Aq⟩ : Jo))
    else
    some (ac, none, (⟨w'.Ar, aS.result, aS.Aq⟩ : Jo))
    else
    (JcU e0).bind fun bd =>
    (Ja1 aS.result bd (⟨aT.1, aT.2.1, aT.2.2.1, aT.2.2.2⟩ : Jd)).bind fun ba =>
    some (ac, ba.1, (⟨w'.Ar, ba.2, decide (e0.Ab = 9)⟩ : Jo)) : Option ((List JD) × Err × Jo))).bind fun aU =>
    if aU.2.1.isSome then
    some (Fl.ret (aU.2.1, (⟨w'.Ar, aU.2.2.result, aU.2.2.Aq⟩ : Jo)))
    else
    JU w' n rec_ bb (i0 + 1) aU.1 (⟨w'.Ar, aU.2.2.result, aU.2.2.Aq⟩ : Jo)
def JE : Nat → Jo → (List Ja) → (List JD) → Option (Err × Jo)
  | 0, _, _, _ => none
  | n + 1, w', list, env =>
    (chk (list.length ≤ qax)).bind fun _ =>
    (JU w' n (JE n) list 0 env w').bind fun s0 => s0.el some fun t0 =>
    some (none, (⟨w'.Ar, t0.2.result, t0.2.Aq⟩ : Jo))
theorem JdF : ∀ {n : Nat} {w' : Jo} {list : (List Ja)} {env : (List JD)} {b0 : Nat} {aa : Option Addr} {ab : Nat} {aj : Option Addr} {am : Nat} {ak : Option Addr} {an : Nat} {ar : Option Addr} {au : Nat} {ag : Option Addr} {ah : Nat} {n1 : Nat} {ao : Option Addr} {aq : Nat} {n2 : Nat} {K : Hp} {r : Err × Jo}
    (hm : JE n w' list env = some r) (hX : RdC Je.enc K aa ab 2 w'.Ar.Ao ∧ (0 < w'.result.Ag.length → Has aj) ∧ (0 < w'.result.Vary.length → Has ak) ∧ (0 < w'.result.Ah.length → Has ar) ∧ LiC Ja.R K ag ah 4 list ∧ n1 = list.length ∧ RdC JD.enc K ao aq 5 env ∧ n2 = env.length ∧ GG K),
    Fn Tryz.prog 52 [.pointer (some ⟨b0, 0, none⟩), .slice ag n1 ah, .slice ao n2 aq] K [Cells b0 125 [str w'.Ar.Am, str w'.Ar.An, str w'.Ar.Ae, str w'.Ar.Af, .slice aa w'.Ar.Ao.length ab, str w'.result.Ae, str w'.result.Af, .slice aj w'.result.Ag.length am, .slice ak w'.result.Vary.length an, .slice ar w'.result.Ah.length au, .int .i64 w'.result.TTL, .int .i64 w'.result.Ai, .int .i64 w'.result.Aj, .bool w'.result.Ak, .bool w'.result.Al, .bool w'.Aq], OwnL Je.enc aj 77 2 am w'.result.Ag, OwnL eS ak 9 1 an w'.result.Vary, OwnL eS ar 9 1 au w'.result.Ah] (fun v K' H' => ∃ ar_0 : Option Addr, ∃ cr_0 : Nat, ∃ ar_1 : Option Addr, ∃ cr_1 : Nat, ∃ ar_2 : Option Addr, ∃ cr_2 : Nat, v = qde 87 r.1 ∧ (0 < r.2.result.Ag.length → Has ar_0) ∧ (0 < r.2.result.Vary.length → Has ar_1) ∧ (0 < r.2.result.Ah.length → Has ar_2) ∧ H' = [Cells b0 125 [str w'.Ar.Am, str w'.Ar.An, str w'.Ar.Ae, str w'.Ar.Af, .slice aa w'.Ar.Ao.length ab, str r.2.result.Ae, str r.2.result.Af, .slice ar_0 r.2.result.Ag.length cr_0, .slice ar_1 r.2.result.Vary.length cr_1, .slice ar_2 r.2.result.Ah.length cr_2, .int .i64 r.2.result.TTL, .int .i64 r.2.result.Ai, .int .i64 r.2.result.Aj, .bool r.2.result.Ak, .bool r.2.result.Al, .bool r.2.Aq], OwnL Je.enc ar_0 77 2 cr_0 r.2.result.Ag, OwnL eS ar_1 9 1 cr_1 r.2.result.Vary, OwnL eS ar_2 9 1 cr_2 r.2.result.Ah]) := by
 intro n
 induction n with
 | zero =>
   intro w' list env b0 aa ab aj am ak an ar au ag ah n1 ao aq n2 K r hm hX
   rw [JE.eq_1] at hm; cases hm
 | succ n ih =>
   intro w' list env b0 aa ab aj am ak an ar au ag ah n1 ao aq n2 K r hm hX
   obtain ⟨ae, dO, dI, dJ, af, eY, av, eO, hG⟩ := hX
   subst eY
   subst eO
   refine Fn.enter Tryz.func52 Tryz.call52 rfl fun F => ?_
   rw [JE.eq_2] at hm
   refine ro (qaj rfl ?_)
   obtain ⟨ei, hm⟩ := qay hm
   obtain ⟨s0, br, hm⟩ := bnd hm
   refine lC (σ := ((List JD) × Jo) × Option Addr × Nat × Option Addr × Nat × Option Addr × Nat × Option Addr × Nat) ([2,6] ++ rg 8 5 ++ rg 15 102) [4] (fun i0 => [(15, .int .i64 (i0 : Int))]) (fun (t0, bo, bp, a6, bg, aY, bd, aZ, bf) => [(2, .slice bo t0.1.length bp)]) (fun (t0, bo, bp, a6, bg, aY, bd, aZ, bf) => [Cells b0 125 [str w'.Ar.Am, str w'.Ar.An, str w'.Ar.Ae, str w'.Ar.Af, .slice aa w'.Ar.Ao.length ab, str t0.2.result.Ae, str t0.2.result.Af, .slice a6 t0.2.result.Ag.length bg, .slice aY t0.2.result.Vary.length bd, .slice aZ t0.2.result.Ah.length bf, .int .i64 t0.2.result.TTL, .int .i64 t0.2.result.Ai, .int .i64 t0.2.result.Aj, .bool t0.2.result.Ak, .bool t0.2.result.Al, .bool t0.2.Aq], OwnL Je.enc a6 77 2 bg t0.2.result.Ag, OwnL eS aY 9 1 bd t0.2.result.Vary, OwnL eS aZ 9 1 bf t0.2.result.Ah]) (fun zz K1 => match zz with | (t0, bo, bp, a6, bg, aY, bd, aZ, bf) => RdC JD.enc K1 bo bp 5 t0.1 ∧ (0 < t0.2.result.Ag.length → Has a6) ∧ (0 < t0.2.result.Vary.length → Has aY) ∧ (0 < t0.2.result.Ah.length → Has aZ)) (fun i0 (t0, bo, bp, a6, bg, aY, bd, aZ, bf) => JU w' n (JE n) (list.drop i0) i0 t0.1 t0.2 = some s0) (fun (t0, bo, bp, a6, bg, aY, bd, aZ, bf) => s0 = Fl.go t0) (fun i0 => list.length - i0) 0 ((_, _), _, _, _, _, _, _, _, _) br (And.intro qe (And.intro ?_ ?_))
   clear br
   rintro i0 ⟨⟨ac, cL⟩, dN, df, bK, bT, bX, bW, bN, bJ⟩ e8 dC ⟨bz, bP, bL, bU⟩ br j0
   dsimp only at br ⊢
   refine qaf rfl ?_
   refine qag ?_ ?_ <;> intro w0
   obtain ⟨e0, bM, eG⟩ := ltx w0
   rw [eG, JU.eq_2] at br
   refine qai rfl ?_
   refine RStep.ofN (qac rfl rfl (qcf (LiC.mono Ja.R_ok dC af).rd bM) (nn _) (qbg bM) ?_)
   obtain ⟨eF, eP, bZ, cB, cX⟩ := LiR.get (LiC.mono Ja.R_ok dC af).rd bM
   obtain ⟨dQ, dV, rfl, bb⟩ := Ja.out cX
   refine ro (qap i0 _ bZ rfl cB rfl ?_)
   refine qal rfl fun b8 => ?_
   refine qaa r0 rfl ⟨rfl, rfl, (nl rfl), ?_⟩
   refine qao (fa rfl (ro (ld r1 rfl rfl ?_)))
   refine cs rfl rfl br ?_ ?_ <;> intro fh br
   exact eE (er br hm)
   refine qak rfl rfl ?_
   refine qal rfl fun b9 => ?_
   refine qaa r0 rfl ⟨rfl, rfl, (nl rfl), ?_⟩
   refine fa rfl (ro (ld r1 rfl rfl (ro (qaj rfl ?_))))
   obtain ⟨cI, bh, br⟩ := bnd br
   refine jD (σ := (Int × Int × Str × Bool)) ([6,10,11] ++ rg 28 14) [1, 2, 3, 4, 5, 6] (fun bj => []) (fun bj => [Cells b9 95 [.int .i64 bj.1, .int .i64 bj.2.1, str bj.2.2.1, .bool bj.2.2.2]]) (fun bj => cI = Fl.go bj) (And.intro ?_ ?_)
   refine cs rfl rfl bh ?_ ?_ <;> intro e7 bh
   refine fa rfl (ro (ld r1 rfl rfl ?_))
   obtain ⟨fD, dp, db, bh⟩ := ixb bh
   refine RStep.ofN (qac rfl rfl (qcf bb.rd db) dp (qas rfl dp db) ?_)
   obtain ⟨eL, eT, cM, cU, cJ⟩ := LiR.get bb.rd db
   obtain ⟨dU, dh, rfl, de⟩ := Ja.out cJ
   refine ro (qap ((0 : Int).toNat) _ cM rfl cU rfl ?_)
   refine cb bh fun fv d7 bh => cgx (Jes d7 :) ?_
   refine qal rfl fun fq => ?_
   refine qaa r0 rfl ⟨rfl, rfl, (nl rfl), ?_⟩
   refine qbo rfl ?_
   refine cs rfl rfl bh ?_ ?_ <;> intro fw bh
   exact eE (er (er bh br :) hm)
   refine ro (qae r0 rfl (nl rfl) ?_)
   refine qaa r5 rfl ⟨rfl, rfl, (nl rfl), ?_⟩
   exact eM bh _
   exact eM bh _
   rintro bj rfl d8
   replace br := elg br
   refine fa rfl (ro (ld r1 rfl rfl ?_))
   obtain ⟨cH, aS, br⟩ := bnd br
   refine jC (σ := ((List JD) × Err × Jo) × Option Addr × Nat × Option Addr × Nat × Option Addr × Nat × Option Addr × Nat) ([2,12] ++ rg 44 69) [0, 1, 6] (fun (aU, bn, bm, aX, a8, aW, ba, aV, bc) => [(2, .slice bn aU.1.length bm), (12, qde 87 aU.2.1)]) (fun (aU, bn, bm, aX, a8, aW, ba, aV, bc) => [Cells b0 125 [str w'.Ar.Am, str w'.Ar.An, str w'.Ar.Ae, str w'.Ar.Af, .slice aa w'.Ar.Ao.length ab, str aU.2.2.result.Ae, str aU.2.2.result.Af, .slice aX aU.2.2.result.Ag.length a8, .slice aW aU.2.2.result.Vary.length ba, .slice aV aU.2.2.result.Ah.length bc, .int .i64 aU.2.2.result.TTL, .int .i64 aU.2.2.result.Ai, .int .i64 aU.2.2.result.Aj, .bool aU.2.2.result.Ak, .bool aU.2.2.result.Al, .bool aU.2.2.Aq], OwnL Je.enc aX 77 2 a8 aU.2.2.result.Ag, OwnL eS aW 9 1 ba aU.2.2.result.Vary, OwnL eS aV 9 1 bc aU.2.2.result.Ah]) (fun zz K1 => match zz with | (aU, bn, bm, aX, a8, aW, ba, aV, bc) => RdC JD.enc K1 bn bm 5 aU.1 ∧ (0 < aU.2.2.result.Ag.length → Has aX) ∧ (0 < aU.2.2.result.Vary.length → Has aW) ∧ (0 < aU.2.2.result.Ah.length → Has aV) ∧ aU = cH) (And.intro ?_ ?_)
   refine qai rfl ?_
   refine qad ?_
   refine CStep.ownLe r3 fun fp => ?_
   refine CStep.ownLe r4 fun fc => ?_
   refine CStep.ownLe r5 fun fo => ?_
   refine cs rfl rfl aS ?_ ?_ <;> intro fl aS
   refine qau ⟨⟨[], false⟩, _, [(_, _), (_, _)], []⟩ (by kernel_rfl) ⟨Hp.Le.refl _, (sc [1,0] rfl), ci0⟩ ?_
   refine qcm rfl (qcm rfl ?_)
   refine qye (l := ac) rfl bz.le rfl rfl ?_
   refine fa rfl (qan m0 rfl rfl (qba m1 rfl (nl rfl) (qak rfl rfl (cT (cT ?_)))))
   refine bsO (len := 1) (enc := JD.enc) (l := [(⟨e0.Ac, (⟨bj.1, bj.2.1, bj.2.2.1, bj.2.2.2⟩ : Jd)⟩ : JD)]) (cl := [str e0.Ac, .int .i64 bj.1, .int .i64 bj.2.1, str bj.2.2.1, .bool bj.2.2.2]) qss rfl rfl (fun _ _ => rfl) rfl rfl rfl ?_ fun ff => ?_
   · conv => whnf
     refine cT ?_
     first | done | rfl
   refine qk (sc [2,1] rfl) ?_
   obtain ⟨eK, aS⟩ := qay aS
   refine qzc (l := ac) bz.clip qss (qa4 rfl r0 rfl (fun _ => rfl) (fun _ => rfl)) (nl rfl) eK ?_
   intro fA fg eC ey eu
   refine qk (sc [2,1] rfl) ?_
   exact eM aS (_, _, _, _, _, _, _, _, _)
   refine qad ?_
   refine CStep.ownLe r3 fun eD => ?_
   refine CStep.ownLe r4 fun ep => ?_
   refine CStep.ownLe r5 fun eX => ?_
   refine cs rfl rfl aS ?_ ?_ <;> intro fu aS
   refine fa rfl (ro (ld r0 rfl rfl ?_))
   refine CStep.ownLe r3 fun eA => ?_
   refine CStep.ownLe r4 fun ej => ?_
   refine CStep.ownLe r5 fun ee => ?_
   refine cs rfl rfl aS ?_ ?_ <;> intro fk aS
   refine fa rfl (ro (ld r1 rfl rfl ?_))
   obtain ⟨fb, dk, bV, aS⟩ := ixb aS
   refine RStep.ofN (qac rfl rfl (qcf bb.rd bV) dk (qas rfl dk bV) (qaw rfl (qcf bb.rd bV) ?_))
   obtain ⟨eJ, em, dc, cC, cq⟩ := LiR.get bb.rd bV
   obtain ⟨dE, dZ, rfl, dF⟩ := Ja.out cq
   refine ro (qbd ((1 : Int).toNat) 2 _ _ dc rfl cC rfl rfl ?_)
   refine cb aS fun fy ek aS => ckx (ih ek :) ?_
   rintro _ _ _ ⟨dG, dT, dK, dg, dv, dD, rfl, dw, dL, d3, rfl⟩
   exact eM aS (_, _, _, _, _, _, _, _, _)
   obtain ⟨cn, bt, aS⟩ := bnd aS
   refine jR (σ := Bool) (rg 83 12) (fun bu => [(94, .bool bu)]) (fun bu => bu = cn) ?_ ?_
   replace bt := bsm bt
   refine qah rfl ?_
   refine fa rfl (ro (ld r1 rfl rfl (ro (qaj rfl ?_))))
   obtain ⟨fm, bA, bt⟩ := bnd bt
   refine cS bA (fun aT bA => ?_) fun aT bA => ?_
   refine fa rfl (ct aT (ro (ld r1 rfl rfl (ct aT ?_))))
   obtain ⟨fC, dX, bY, bA⟩ := ixb bA
   refine RStep.ofN (qac rfl rfl (qcf bb.rd bY) dX (qas rfl dX bY) (ct aT (qaw rfl (qcf bb.rd bY) (ct aT ?_))))
   obtain ⟨eH, eh, cV, da, cm⟩ := LiR.get bb.rd bY
   obtain ⟨dA, dW, rfl, dB⟩ := Ja.out cm
   refine ro (qbd ((2 : Int).toNat) 0 _ _ cV rfl da rfl rfl (ct aT (qad (ct aT ?_))))
   exact eMq bt _ ⟨bq (si bA), trivial⟩
   refine cf aT (cf aT (cf aT (cf aT (cf aT (cf aT ?_)))))
   exact eMq bt _ ⟨bq (si bA), trivial⟩
   rintro bu rfl eZ
   refine CStep.ownLe r3 fun d5 => ?_
   refine CStep.ownLe r4 fun d9 => ?_
   refine CStep.ownLe r5 fun ef => ?_
   refine cs rfl rfl aS ?_ ?_ <;> intro fB aS
   refine fa rfl (ro (ld r1 rfl rfl ?_))
   obtain ⟨dy, aS⟩ := qay aS
   have eQ := bb.subC dy
   refine RStep.ofN (qgt (l := e0.Aa) (lo := (some 2)) (hi := none) (lo' := (2 : Int)) (hi' := (e0.Aa.length : Int)) rfl rfl rfl rfl rfl bb.le dy ?_)
   refine cb aS fun ez ca aS => ckx (ih ca :) ?_
   rintro _ _ _ ⟨cD, cd, ce, cA, cj, cr, rfl, co, cG, cw, rfl⟩
   exact eM aS (_, _, _, _, _, _, _, _, _)
   refine fa rfl (ro (ld r1 rfl rfl (ro (qaj rfl ?_))))
   refine cs rfl rfl aS ?_ ?_ <;> intro d4 aS
   refine fa rfl (ro (ld r1 rfl rfl ?_))
   obtain ⟨e5, bH, bw, aS⟩ := ixb aS
   refine RStep.ofN (qac rfl rfl (qcf bb.rd bw) bH (qas rfl bH bw) (qaw rfl (qcf bb.rd bw) ?_))
   obtain ⟨dx, dY, bI, bG, bF⟩ := LiR.get bb.rd bw
   obtain ⟨cP, cz, rfl, cK⟩ := Ja.out bF
   refine ro (qbd ((2 : Int).toNat) 2 _ _ bI rfl bG rfl rfl ?_)
   refine cb aS fun eW cR aS => ckx (ih cR :) ?_
   rintro _ _ _ ⟨cQ, cY, cE, cO, cW, cp, rfl, cZ, cu, c8, rfl⟩
   exact eM aS (_, _, _, _, _, _, _, _, _)
   exact eM aS (_, _, _, _, _, _, _, _, _)
   refine qau ⟨⟨[], false⟩, _, [(_, _), (_, _)], []⟩ (by kernel_rfl) ⟨Hp.Le.refl _, (sc [1,0] rfl), ci0⟩ ?_
   refine qao (fa rfl (qba m0 rfl (nl rfl) ?_))
   refine cb aS fun fG eo aS => cgx (JfN eo :) ?_
   refine qk (sc [1,0] rfl) ?_
   refine qba m1 rfl (nl rfl) ?_
   refine cb aS fun fe eg aS => ckx (Jdg (aI := [str w'.Ar.Am, str w'.Ar.An, str w'.Ar.Ae, str w'.Ar.Af, .slice aa w'.Ar.Ao.length ab]) (aP := [.bool cL.Aq]) eg :) ?_
   rintro _ _ _ ⟨dz, dl, dP, di, dt, dm, rfl, du, dq, dj, rfl⟩
   refine qk (sc [5,4] rfl) ?_
   refine fa rfl (ro (ld r5 rfl rfl (qad (qao (fa rfl ?_)))))
   refine qaa r0 rfl ⟨rfl, rfl, (nl rfl), ?_⟩
   exact eM aS (_, _, _, _, _, _, _, _, _)
   rintro ⟨aU, bn, bm, aX, a8, aW, ba, aV, bc⟩ dM dH ⟨bO, bD, bC, bB, rfl⟩ d6
   refine qbo rfl ?_
   refine cs rfl rfl br ?_ ?_ <;> intro eV br
   exact eE (er br hm)
   refine qar (qbu bM ei) ?_
   exact eR br (_, (_, _), _, _, _, _, _, _, _, _)
   rw [lty w0, JU.eq_1] at br
   refine cT ?_
   exact eM br (_, _, _, _, _, _, _, _, _)
   rintro ⟨t0, bo, bp, a6, bg, aY, bd, aZ, bf⟩ fj e6 ⟨dS, bS, bR, bQ⟩ rfl j0
   replace hm := elg hm
   exact eE hm

def JbB (n : Nat) (program : Ja) (Ar : JG) : Option (Jh × Err) :=
  (Jbu n program).bind fun aT =>
  if aT.2.isSome then
  some ((⟨([] : Str), ([] : Str), [], [], [], 0, 0, 0, false, false⟩ : Jh), aT.2)
  else
  (JE n (⟨Ar, (⟨Ar.Ae, Ar.Af, [], [], [], (-1), 0, 0, false, false⟩ : Jh), false⟩ : Jo) program.Aa []).bind fun aS =>
  if aS.1.isSome then
  some ((⟨([] : Str), ([] : Str), [], [], [], 0, 0, 0, false, false⟩ : Jh), aS.1)
  else
  some (aS.2.result, none)
theorem JfO {n : Nat} {program : Ja} {Ar : JG} {aa : Option Addr} {ab : Nat} {ag : Option Addr} {ah : Nat} {K : Hp} {r : Jh × Err}
    (hm : JbB n program Ar = some r) (hX : LiC Ja.R K aa ab 4 program.Aa ∧ RdC Je.enc K ag ah 2 Ar.Ao ∧ GG K) :
    Fn Tryz.prog 22 [.agg #[.int .i64 program.Ab, str program.Ac, .slice aa program.Aa.length ab, .int .i64 program.Ad], .agg #[str Ar.Am, str Ar.An, str Ar.Ae, str Ar.Af, .slice ag Ar.Ao.length ah]] K [] (fun v K' H' => ∃ ar_0 : Option Addr, ∃ cr_0 : Nat, ∃ ar_1 : Option Addr, ∃ cr_1 : Nat, ∃ ar_2 : Option Addr, ∃ cr_2 : Nat, v = .tuple #[.agg #[str r.1.Ae, str r.1.Af, .slice ar_0 r.1.Ag.length cr_0, .slice ar_1 r.1.Vary.length cr_1, .slice ar_2 r.1.Ah.length cr_2, .int .i64 r.1.TTL, .int .i64 r.1.Ai, .int .i64 r.1.Aj, .bool r.1.Ak, .bool r.1.Al], qde 87 r.2] ∧ (0 < r.1.Ag.length → Has ar_0) ∧ (0 < r.1.Vary.length → Has ar_1) ∧ (0 < r.1.Ah.length → Has ar_2) ∧ H' = [OwnL Je.enc ar_0 77 2 cr_0 r.1.Ag, OwnL eS ar_1 9 1 cr_1 r.1.Vary, OwnL eS ar_2 9 1 cr_2 r.1.Ah]) := by
 obtain ⟨ae, af, hG⟩ := hX
 refine Fn.enter Tryz.func22 Tryz.call22 rfl fun F => ?_
 unfold JbB at hm
 refine qaq ?_
 intro b2
 refine qaq ?_
 intro b3
 refine qal rfl fun b4 => ?_
 refine ro (qae r2 rfl (nl rfl) ?_)
 refine cb hm fun bb a8 hm => cgx (Je7 a8 :) ?_
 refine qbo rfl ?_
 refine cs rfl rfl hm ?_ ?_ <;> intro bc hm
 refine qak rfl rfl ?_
 refine qaa r0 rfl ⟨rfl, rfl, (nl rfl), ?_⟩
 refine ro (qae r0 rfl (nl rfl) ?_)
 refine qhp Je.enc 77 2 ?_
 refine qhp eS 9 1 ?_
 refine qhp eS 9 1 ?_
 exact eE hm
 refine ro (qae r1 rfl (nl rfl) (fa rfl (ro (ld r1 rfl rfl (fa rfl (ro (ld r1 rfl rfl (qak rfl rfl (cT (cT ?_))))))))))
 refine cT (qak rfl rfl (cT (cT ?_)))
 refine qaq ?_
 intro bd
 refine fa rfl (ro (ld r3 rfl rfl ?_))
 refine qx6 Tryz.call52 Je.enc 77 2 ?_
 refine qx6 Tryz.call52 eS 9 1 ?_
 refine qx6 Tryz.call52 eS 9 1 ?_
 refine cb hm fun bg ba hm => ckx (JdF ba :) ?_
 rintro _ _ _ ⟨aY, a6, aZ, aX, aT, aW, rfl, aS, aU, aV, rfl⟩
 refine qbo rfl ?_
 refine cs rfl rfl hm ?_ ?_ <;> intro bf hm
 refine qak rfl rfl ?_
 refine qaa r4 rfl ⟨rfl, rfl, (nl rfl), ?_⟩
 refine ro (qae r0 rfl (nl rfl) ?_)
 refine qhp Je.enc 77 2 ?_
 refine qhp eS 9 1 ?_
 refine qhp eS 9 1 ?_
 exact eE hm
 refine qao (fa rfl (ro (qae r0 rfl (nl rfl) ?_)))
 refine qaa r4 rfl ⟨rfl, rfl, (nl rfl), ?_⟩
 exact ro (qae r0 rfl (nl rfl) (eE hm))

def JbM (rec_ : (Jb → Option (Int))) : List Jb → Nat → Int → Option (Int)
  | [], _, ac => some ac
  | e0 :: aT, i0, ac =>
    (rec_ e0).bind fun aS =>
    (chk (InI (ac + aS))).bind fun _ =>
    JbM rec_ aT (i0 + 1) (ac + aS)
def JcY : Nat → Jb → Option (Int)
  | 0, _ => none
  | n + 1, n' =>
    (chk (n'.Aa.length ≤ qax)).bind fun _ =>
    (JbM (JcY n) n'.Aa 0 1).bind fun t0 =>
    some t0
theorem Jf8 : ∀ {n : Nat} {n' : Jb} {aa : Option Addr} {ab : Nat} {K : Hp} {r : Int}
    (hm : JcY n n' = some r) (ae : LiC Jb.R K aa ab 4 n'.Aa),
    Fn Tryz.prog 88 [.agg #[.int .i64 n'.Ab, str n'.Ac, .slice aa n'.Aa.length ab, .int .i64 n'.Ad]] K [] (fun v K' H' => v = .int .i64 r ∧ H' = []) := by
 intro n
 induction n with
 | zero =>
   intro n' aa ab K r hm ae
   rw [JcY.eq_1] at hm; cases hm
 | succ n ih =>
   intro n' aa ab K r hm ae
   refine Fn.enter Tryz.func88 Tryz.call88 rfl fun F => ?_
   rw [JcY.eq_2] at hm
   refine qaq ?_
   intro b1
   refine fa rfl (ro (ld r0 rfl rfl (ro (qaj rfl ?_))))
   obtain ⟨a6, hm⟩ := qay hm
   obtain ⟨s0, aS, hm⟩ := bnd hm
   refine lD (σ := (Int)) ([3,4] ++ rg 8 12) [0, 1] (fun i0 => [(8, .int .i64 (i0 : Int))]) (fun t0 => [(3, .int .i64 t0)]) (fun _ => []) (fun _ => True) (fun i0 t0 => JbM (JcY n) (n'.Aa.drop i0) i0 t0 = some s0) (fun t0 => t0 = s0) (fun i0 => n'.Aa.length - i0) 0 _ aS (And.intro qe (And.intro ?_ ?_))
   clear aS
   rintro i0 ac _ aS j0
   conv at aS => whnf
   refine qaf rfl ?_
   refine qag ?_ ?_ <;> intro w0
   obtain ⟨e0, aT, bc⟩ := ltx w0
   rw [bc, JbM.eq_2] at aS
   refine qai rfl ?_
   refine fa rfl (ro (ld r0 rfl rfl (RStep.ofN (qac rfl rfl (qcf ae.rd aT) (nn _) (qbg aT) ?_))))
   obtain ⟨a8, ba, aW, aV, aU⟩ := LiR.get ae.rd aT
   obtain ⟨aX, aY, rfl, aZ⟩ := Jb.out aU
   refine ro (qap i0 _ aW rfl aV rfl ?_)
   refine cb aS fun bf bb aS => cgx (ih bb :) ?_
   obtain ⟨bd, aS⟩ := qay aS
   refine qar bd (qar (qbu aT a6) ?_)
   exact eR aS (_, _)
   rw [lty w0, JbM.eq_1] at aS
   refine cT ?_
   exact eM aS _
   rintro t0 _ rfl j0
   exact eE hm

def Jb0 (rec_ : (Jb → Option (Int))) : List Jb → Nat → Int → Option (Int)
  | [], _, ac => some ac
  | e0 :: aS, i0, ac =>
    (rec_ e0).bind fun aT =>
    Jb0 rec_ aS (i0 + 1) (max ac aT)
def Jcw : Nat → Jb → Option (Int)
  | 0, _ => none
  | n + 1, n' =>
    (chk (n'.Aa.length ≤ qax)).bind fun _ =>
    (Jb0 (Jcw n) n'.Aa 0 0).bind fun t0 =>
    (chk (InI (t0 + 1))).bind fun _ =>
    some (t0 + 1)
theorem JfP : ∀ {n : Nat} {n' : Jb} {aa : Option Addr} {ab : Nat} {K : Hp} {r : Int}
    (hm : Jcw n n' = some r) (ae : LiC Jb.R K aa ab 4 n'.Aa),
    Fn Tryz.prog 89 [.agg #[.int .i64 n'.Ab, str n'.Ac, .slice aa n'.Aa.length ab, .int .i64 n'.Ad]] K [] (fun v K' H' => v = .int .i64 r ∧ H' = []) := by
 intro n
 induction n with
 | zero =>
   intro n' aa ab K r hm ae
   rw [Jcw.eq_1] at hm; cases hm
 | succ n ih =>
   intro n' aa ab K r hm ae
   refine Fn.enter Tryz.func89 Tryz.call89 rfl fun F => ?_
   rw [Jcw.eq_2] at hm
   refine qaq ?_
   intro b1
   refine fa rfl (ro (ld r0 rfl rfl (ro (qaj rfl ?_))))
   obtain ⟨a6, hm⟩ := qay hm
   obtain ⟨s0, aS, hm⟩ := bnd hm
   refine lD (σ := (Int)) ([3,4] ++ rg 8 12) [0, 1] (fun i0 => [(8, .int .i64 (i0 : Int))]) (fun t0 => [(3, .int .i64 t0)]) (fun _ => []) (fun _ => True) (fun i0 t0 => Jb0 (Jcw n) (n'.Aa.drop i0) i0 t0 = some s0) (fun t0 => t0 = s0) (fun i0 => n'.Aa.length - i0) 0 _ aS (And.intro qe (And.intro ?_ ?_))
   clear aS
   rintro i0 ac _ aS j0
   conv at aS => whnf
   refine qaf rfl ?_
   refine qag ?_ ?_ <;> intro w0
   obtain ⟨e0, aT, bc⟩ := ltx w0
   rw [bc, Jb0.eq_2] at aS
   refine qai rfl ?_
   refine fa rfl (ro (ld r0 rfl rfl (RStep.ofN (qac rfl rfl (qcf ae.rd aT) (nn _) (qbg aT) ?_))))
   obtain ⟨a8, ba, aW, aV, aU⟩ := LiR.get ae.rd aT
   obtain ⟨aX, aY, rfl, aZ⟩ := Jb.out aU
   refine ro (qap i0 _ aW rfl aV rfl ?_)
   refine cb aS fun bd bb aS => cgx (ih bb :) ?_
   refine ro (qcl (qar (qbu aT a6) ?_))
   exact eR aS (_, _)
   rw [lty w0, Jb0.eq_1] at aS
   refine cT ?_
   exact eM aS _
   rintro t0 _ rfl j0
   refine ci hm fun hm => ?_
   exact eE hm

def Jby (s : Str) : Nat → Nat → Option (Fl (Bool) (Unit))
  | 0, _ => some (Fl.go ())
  | aS + 1, i0 =>
    (ix ([([61, 61] : Str), ([33, 61] : Str), ([60] : Str), ([60, 61] : Str), ([115, 116, 97, 114, 116, 115] : Str), ([101, 110, 100, 115] : Str), ([99, 111, 110, 116, 97, 105, 110, 115] : Str)]) (i0 : Int)).bind fun x9 =>
    if decide (s = x9) then
    some (Fl.ret true)
    else
    Jby s aS (i0 + 1)
def JcN (s : Str) : Option (Bool) :=
  (chk (InI (7 : Int))).bind fun _ =>
  (Jby s (7 : Int).toNat 0).bind fun s0 => s0.el some fun t0 =>
  some false
theorem Je8 {s : Str} {K : Hp} {r : Bool}
    (hm : JcN s = some r)  :
    Fn Tryz.prog 194 [str s] K [] (fun v K' H' => v = .bool r ∧ H' = []) := by
 refine Fn.enter Tryz.func194 Tryz.call194 rfl fun F => ?_
 unfold JcN at hm
 refine bsO (len := 7) (enc := eS) (l := [([61, 61] : Str), ([33, 61] : Str), ([60] : Str), ([60, 61] : Str), ([115, 116, 97, 114, 116, 115] : Str), ([101, 110, 100, 115] : Str), ([99, 111, 110, 116, 97, 105, 110, 115] : Str)]) (cl := [str ([61, 61] : Str), str ([33, 61] : Str), str ([60] : Str), str ([60, 61] : Str), str ([115, 116, 97, 114, 116, 115] : Str), str ([101, 110, 100, 115] : Str), str ([99, 111, 110, 116, 97, 105, 110, 115] : Str)]) qdf rfl rfl (fun _ _ => rfl) rfl rfl rfl ?_ fun b5 => ?_
 · conv => whnf
   refine cT (cT (cT (cT (cT (cT (cT ?_))))))
   first | done | rfl
 refine ro (qaj rfl ?_)
 obtain ⟨aT, hm⟩ := qay hm
 obtain ⟨s0, aS, hm⟩ := bnd hm
 refine lD (σ := (Unit)) ([2,4] ++ rg 7 8) [0, 1] (fun i0 => [(7, .int .i64 (i0 : Int))]) (fun _ => []) (fun _ => []) (fun _ => True) (fun i0 _ => Jby s ((7 : Int).toNat - i0) i0 = some s0) (fun t0 => s0 = Fl.go t0) (fun i0 => (7 : Int).toNat - i0) 0 () aS (And.intro qe (And.intro ?_ ?_))
 clear aS
 rintro i0 _ _ aS j0
 conv at aS => whnf
 refine qaf rfl ?_
 refine qag ?_ ?_ <;> intro w0
 rw [ltn (n := (7 : Int)) w0, Jby.eq_2] at aS
 refine qai rfl ?_
 obtain ⟨x9, l9, k9, aS⟩ := ixb aS
 refine RStep.ofN (qac rfl rfl (qcp (fun _ => ⟨_, _, rfl⟩) k9) l9 (qas rfl l9 k9) (ro (qbq (i := ((i0 : Int)).toNat) (o := 0) r0 rfl k9 rfl rfl (qam ?_))))
 refine cs rfl rfl aS ?_ ?_ <;> intro aU aS
 exact eE (er aS hm)
 refine qar (qn1 w0 aT) ?_
 exact eR aS (_, ())
 rw [lto (n := (7 : Int)) w0, Jby.eq_1] at aS
 refine cT ?_
 exact eM aS _
 rintro t0 _ rfl j0
 replace hm := elg hm
 exact eE hm

def Jca (c : UInt8) : Option (Bool) :=
  some ((decide ((c.toNat : Int) ≥ 97) && decide ((c.toNat : Int) ≤ 122)) || decide ((c.toNat : Int) = 95))
theorem Jet {c : UInt8} {K : Hp} {r : Bool}
    (hm : Jca c = some r)  :
    Fn Tryz.prog 260 [.int .u8 (c.toNat : Int)] K [] (fun v K' H' => v = .bool r ∧ H' = []) := by
 refine Fn.enter Tryz.func260 Tryz.call260 rfl fun F => ?_
 unfold Jca at hm
 refine qah rfl ?_
 refine qag ?_ ?_ <;> intro aS
 refine ct aS (ct aS ?_)
 refine qag ?_ ?_ <;> intro aT
 refine ct aT (ct aT ?_)
 exact bE (((qcj (qby aS aT))).symm) (eE hm)
 refine cf aT (qad (cf aT ?_))
 exact bE (qhe (b := decide ((c.toNat : Int) = 95)) (qb8 aS aT)) (eE hm)
 refine cf aS (cf aS (cF (cF (qad (cF ?_)))))
 exact bE (qhe (b := decide ((c.toNat : Int) = 95)) (qa0 aS)) (eE hm)

def Jb1 (c : UInt8) : Option (Bool) :=
  some (decide ((c.toNat : Int) ≥ 48) && decide ((c.toNat : Int) ≤ 57))
theorem JdV {c : UInt8} {K : Hp} {r : Bool}
    (hm : Jb1 c = some r)  :
    Fn Tryz.prog 261 [.int .u8 (c.toNat : Int)] K [] (fun v K' H' => v = .bool r ∧ H' = []) := by
 refine Fn.enter Tryz.func261 Tryz.call261 rfl fun F => ?_
 unfold Jb1 at hm
 refine qah rfl ?_
 refine qag ?_ ?_ <;> intro aS
 refine ct aS (ct aS ?_)
 exact bE (qbw (b := decide ((c.toNat : Int) ≤ 57)) aS) (eE hm)
 refine cf aS (cf aS ?_)
 exact bE (((qa0 aS)).symm) (eE hm)

def Jbf (s : Str) : Nat → Str → Int → Option (Fl (Int × Str × Int) (Str × Int))
  | 0, _, _ => none
  | aU + 1, ac, aS =>
    if decide (aS < (s.length : Int)) then
    (ix s aS).bind fun aT =>
    if decide ((aT.toNat : Int) = 34) then
    (chk (InI (aS + 1))).bind fun _ =>
    some (Fl.ret (3, ac, (aS + 1)))
    else
    if (decide ((aT.toNat : Int) < 32) || decide ((aT.toNat : Int) > 126)) then
    some (Fl.ret (0, ([] : Str), 0))
    else
    if decide ((aT.toNat : Int) = 92) then
    (chk (InI (aS + 1))).bind fun _ =>
    if decide ((aS + 1) = (s.length : Int)) then
    some (Fl.ret (0, ([] : Str), 0))
    else
    (ix s (aS + 1)).bind fun aV =>
    (if decide ((aV.toNat : Int) ≠ 92) then (ix s (aS + 1)).bind fun aX =>
    some (decide ((aX.toNat : Int) ≠ 34)) else some false).bind fun aW =>
    if aW then
    some (Fl.ret (0, ([] : Str), 0))
    else
    (chk (InI ((aS + 1) + 1))).bind fun _ =>
    (chk (0 ≤ (aS + 1) ∧ (aS + 1) ≤ ((aS + 1) + 1) ∧ ((aS + 1) + 1) ≤ (s.length : Int))).bind fun _ =>
    (chk (ac.length + (subL s (aS + 1) ((aS + 1) + 1)).length ≤ lim)).bind fun _ =>
    (chk (InI ((aS + 1) + 1))).bind fun _ =>
    Jbf s aU (ac ++ (subL s (aS + 1) ((aS + 1) + 1))) ((aS + 1) + 1)
    else
    (chk (InI (aS + 1))).bind fun _ =>
    (chk (0 ≤ aS ∧ aS ≤ (aS + 1) ∧ (aS + 1) ≤ (s.length : Int))).bind fun _ =>
    (chk (ac.length + (subL s aS (aS + 1)).length ≤ lim)).bind fun _ =>
    (chk (InI (aS + 1))).bind fun _ =>
    Jbf s aU (ac ++ (subL s aS (aS + 1))) (aS + 1)
    else
    some (Fl.go (ac, aS))
def JdP (n : Nat) (s : Str) : Option (Int × Str × Int) :=
  (Jbf s n ([] : Str) 1).bind fun s0 => s0.el some fun t0 =>
  some (0, ([] : Str), 0)
theorem Jfz {n : Nat} {s : Str} {K : Hp} {r : Int × Str × Int}
    (hm : JdP n s = some r)  :
    Fn Tryz.prog 262 [str s] K [] (fun v K' H' => v = .tuple #[.int .i64 r.1, str r.2.1, .int .i64 r.2.2] ∧ H' = []) := by
 refine Fn.enter Tryz.func262 Tryz.call262 rfl fun F => ?_
 unfold JdP at hm
 obtain ⟨s0, aS, hm⟩ := bnd hm
 refine lD (σ := (Str × Int)) (rg 2 56) [0] (fun _ => []) (fun t0 => [(5, str t0.1), (6, .int .i64 t0.2)]) (fun _ => []) (fun _ => True) (fun i0 t0 => Jbf s i0 t0.1 t0.2 = some s0) (fun t0 => s0 = Fl.go t0) (fun i0 => i0) n (_, _) aS (And.intro qe (And.intro ?_ ?_))
 clear aS
 rintro i0 ⟨ac, aW⟩ _ aS j0
 dsimp only at aS ⊢
 cases i0 with
 | zero => rw [Jbf.eq_1] at aS; cases aS
 | succ i0 =>
  rw [Jbf.eq_2] at aS
  refine ro (qat rfl ?_)
  refine cs rfl rfl aS ?_ ?_ <;> intro bn aS
  refine qai rfl ?_
  obtain ⟨a6, bc, bf, aS⟩ := ixb aS
  refine qaz rfl bc bf ?_
  refine qai rfl ?_
  refine qad (cs rfl rfl aS ?_ ?_) <;> intro bt aS
  refine ci aS fun aS => ?_
  exact eE (er aS hm)
  refine jR (σ := Unit) (rg 23 7) (fun _ => [(23, .bool (decide ((a6.toNat : Int) < 32) || decide ((a6.toNat : Int) > 126)))]) (fun bb => True) ?_ ?_
  refine qah rfl ?_
  refine qag ?_ ?_ <;> intro aV
  refine ct aV (ct aV ?_)
  exact eMt () ⟨bq (((qcj aV)).symm), trivial⟩
  refine cf aV (cf aV ?_)
  exact eMt () ⟨bq (qhe (b := decide ((a6.toNat : Int) > 126)) aV), trivial⟩
  rintro _ _ bh
  refine cs rfl rfl aS ?_ ?_ <;> intro bo aS
  exact eE (er aS hm)
  refine qad (cs rfl rfl aS ?_ ?_) <;> intro br aS
  refine ci aS fun aS => ?_
  refine qah rfl ?_
  refine ro (qat rfl (qad ?_))
  refine cS aS (fun aT aS => ?_) fun aT aS => ?_
  refine ct aT (ct aT (ct aT (ct aT (ct aT (ct aT (qaf rfl (cT ?_)))))))
  exact eE (er aS hm)
  refine cf aT (cf aT ?_)
  obtain ⟨bm, bj, bd, aS⟩ := ixb aS
  refine qaz rfl bj bd (cf aT (qa2 (cf aT ?_)))
  obtain ⟨bu, aX, aS⟩ := bnd aS
  refine cS aX (fun aU aX => ?_) fun aU aX => ?_
  refine ct aU (ct aU ?_)
  obtain ⟨bp, ba, bg, aX⟩ := ixb aX
  refine qaz rfl ba bg (ct aU (qa2 (cf aT (ct aU (cf aT (qaf rfl ?_))))))
  refine qag ?_ ?_ <;> intro a8
  replace aS := ift ((si aX).symm.trans a8) aS
  exact eE (er aS hm)
  replace aS := qa6 ((si aX).symm.trans a8) aS
  refine ci aS fun aS => ?_
  obtain ⟨aZ, aS⟩ := qay aS
  refine RStep.ofN (qbn (lo := (some (aW + 1))) (hi := (some ((aW + 1) + 1))) rfl aZ ?_)
  obtain ⟨aY, aS⟩ := qay aS
  refine qbk aY ?_
  refine ci aS fun aS => ?_
  exact eR aS (_, (_, _))
  refine cf aU (cf aU (cf aU (cf aT (cf aU (cf aT (qaf rfl (cF ?_)))))))
  replace aS := qa6 (si aX).symm aS
  refine ci aS fun aS => ?_
  obtain ⟨aZ, aS⟩ := qay aS
  refine RStep.ofN (qbn (lo := (some (aW + 1))) (hi := (some ((aW + 1) + 1))) rfl aZ ?_)
  obtain ⟨aY, aS⟩ := qay aS
  refine qbk aY ?_
  refine ci aS fun aS => ?_
  exact eR aS (_, (_, _))
  refine ci aS fun aS => ?_
  obtain ⟨aZ, aS⟩ := qay aS
  refine RStep.ofN (qbn (lo := (some aW)) (hi := (some (aW + 1))) rfl aZ ?_)
  obtain ⟨aY, aS⟩ := qay aS
  refine qbk aY ?_
  refine ci aS fun aS => ?_
  exact eR aS (_, (_, _))
  refine cT ?_
  exact eM aS _
 rintro t0 _ rfl j0
 replace hm := elg hm
 exact eE hm

def JbN (s : Str) : Nat → Int → Option (Int)
  | 0, _ => none
  | aX + 1, aS =>
    if decide (aS < (s.length : Int)) then
    (ix s aS).bind fun aV =>
    (Jca aV).bind fun aT =>
    (if aT then some true else (ix s aS).bind fun aY =>
    (Jb1 aY).bind fun aU =>
    some aU).bind fun aW =>
    if aW then
    (chk (InI (aS + 1))).bind fun _ =>
    JbN s aX (aS + 1)
    else
    some aS
    else
    some aS
def JbO (s : Str) : Nat → Int → Option (Int)
  | 0, _ => none
  | aT + 1, aS =>
    (if decide (aS < (s.length : Int)) then (ix s aS).bind fun aV =>
    (Jb1 aV).bind fun aW =>
    some aW else some false).bind fun aU =>
    if aU then
    (chk (InI (aS + 1))).bind fun _ =>
    JbO s aT (aS + 1)
    else
    some aS
def Jcg (s : Str) : Nat → Nat → Option (Fl (Int × Str × Int) (Unit))
  | 0, _ => some (Fl.go ())
  | aU + 1, i5 =>
    (ix ([([61, 61] : Str), ([33, 61] : Str), ([60, 61] : Str), ([60] : Str), ([43] : Str), ([45] : Str), ([42] : Str), ([40] : Str), ([41] : Str), ([123] : Str), ([125] : Str), ([44] : Str), ([59] : Str), ([61] : Str)]) (i5 : Int)).bind fun aW =>
    (if decide ((s.length : Int) ≥ (aW.length : Int)) then (ix ([([61, 61] : Str), ([33, 61] : Str), ([60, 61] : Str), ([60] : Str), ([43] : Str), ([45] : Str), ([42] : Str), ([40] : Str), ([41] : Str), ([123] : Str), ([125] : Str), ([44] : Str), ([59] : Str), ([61] : Str)]) (i5 : Int)).bind fun aS =>
    (chk (0 ≤ (0 : Int) ∧ (0 : Int) ≤ (aS.length : Int) ∧ (aS.length : Int) ≤ (s.length : Int))).bind fun _ =>
    (ix ([([61, 61] : Str), ([33, 61] : Str), ([60, 61] : Str), ([60] : Str), ([43] : Str), ([45] : Str), ([42] : Str), ([40] : Str), ([41] : Str), ([123] : Str), ([125] : Str), ([44] : Str), ([59] : Str), ([61] : Str)]) (i5 : Int)).bind fun aT =>
    some (decide ((subL s (0 : Int) (aS.length : Int)) = aT)) else some false).bind fun aV =>
    if aV then
    (ix ([([61, 61] : Str), ([33, 61] : Str), ([60, 61] : Str), ([60] : Str), ([43] : Str), ([45] : Str), ([42] : Str), ([40] : Str), ([41] : Str), ([123] : Str), ([125] : Str), ([44] : Str), ([59] : Str), ([61] : Str)]) (i5 : Int)).bind fun aY =>
    (ix ([([61, 61] : Str), ([33, 61] : Str), ([60, 61] : Str), ([60] : Str), ([43] : Str), ([45] : Str), ([42] : Str), ([40] : Str), ([41] : Str), ([123] : Str), ([125] : Str), ([44] : Str), ([59] : Str), ([61] : Str)]) (i5 : Int)).bind fun aX =>
    some (Fl.ret (4, aY, (aX.length : Int)))
    else
    Jcg s aU (i5 + 1)
def Jcn (n : Nat) (s : Str) : Option (Int × Str × Int) :=
  (ix s 0).bind fun aT =>
  (Jca aT).bind fun aW =>
  if aW then
  (JbN s n 0).bind fun t1 =>
  (chk (0 ≤ (0 : Int) ∧ (0 : Int) ≤ t1 ∧ t1 ≤ (s.length : Int))).bind fun _ =>
  some (1, (subL s (0 : Int) t1), t1)
  else
  (ix s 0).bind fun aU =>
  (Jb1 aU).bind fun aX =>
  if aX then
  (JbO s n 0).bind fun t3 =>
  if decide (t3 > 9) then
  some (0, ([] : Str), 0)
  else
  (chk (0 ≤ (0 : Int) ∧ (0 : Int) ≤ t3 ∧ t3 ≤ (s.length : Int))).bind fun _ =>
  some (2, (subL s (0 : Int) t3), t3)
  else
  (ix s 0).bind fun aV =>
  if decide ((aV.toNat : Int) = 34) then
  (JdP n s).bind fun aS =>
  some (aS.1, aS.2.1, aS.2.2)
  else
  (chk (InI (14 : Int))).bind fun _ =>
  (Jcg s (14 : Int).toNat 0).bind fun s5 => s5.el some fun t5 =>
  some (0, ([] : Str), 0)
theorem Jf9 {n : Nat} {s : Str} {K : Hp} {r : Int × Str × Int}
    (hm : Jcn n s = some r)  :
    Fn Tryz.prog 251 [str s] K [] (fun v K' H' => v = .tuple #[.int .i64 r.1, str r.2.1, .int .i64 r.2.2] ∧ H' = []) := by
 refine Fn.enter Tryz.func251 Tryz.call251 rfl fun F => ?_
 unfold Jcn at hm
 refine qai rfl ?_
 obtain ⟨cE, bu, bC, hm⟩ := ixb hm
 refine qaz rfl bu bC ?_
 refine cb hm fun cr bQ hm => cg0 (Jet bQ :) ?_
 refine cs rfl rfl hm ?_ ?_ <;> intro w8 hm
 obtain ⟨s1, aU, hm⟩ := bnd hm
 refine lD (σ := (Int)) ([5] ++ rg 12 18) [0] (fun _ => []) (fun t1 => [(5, .int .i64 t1)]) (fun _ => []) (fun _ => True) (fun i1 t1 => JbN s i1 t1 = some s1) (fun t1 => t1 = s1) (fun i1 => i1) n _ aU (And.intro qe (And.intro ?_ ?_))
 clear aU
 rintro i1 bN _ aU j1
 conv at aU => whnf
 cases i1 with
 | zero => rw [JbN.eq_1] at aU; cases aU
 | succ i1 =>
  rw [JbN.eq_2] at aU
  refine qah rfl ?_
  refine ro (qat rfl ?_)
  refine cS aU (fun aT aU => ?_) fun aT aU => ?_
  refine ct aT (ct aT ?_)
  obtain ⟨cq, bB, bP, aU⟩ := ixb aU
  refine qaz rfl bB bP (ct aT ?_)
  refine cb aU fun cz bz aU => cg0 (Jet bz :) ?_
  refine ct aT ?_
  obtain ⟨bY, a8, aU⟩ := bnd aU
  refine cS a8 (fun aW a8 => ?_) fun aW a8 => ?_
  refine ct aW (ct aW (ct aW (ct aT (ct aW (ct aT (qaf rfl (cT ?_)))))))
  replace aU := ift (si a8).symm aU
  refine qai rfl ?_
  refine ci aU fun aU => ?_
  exact eR aU (_, _)
  refine cf aW (cf aW ?_)
  obtain ⟨cn, bA, bG, a8⟩ := ixb a8
  refine qaz rfl bA bG (cf aW ?_)
  refine cb a8 fun cC bT a8 => cg0 (JdV bT :) ?_
  refine ct aT (cf aW (ct aT (qaf rfl ?_)))
  refine qag ?_ ?_ <;> intro bh
  replace aU := ift ((si a8).symm.trans bh) aU
  refine qai rfl ?_
  refine ci aU fun aU => ?_
  exact eR aU (_, _)
  replace aU := qa6 ((si a8).symm.trans bh) aU
  refine cT ?_
  exact eM aU _
  refine cf aT (cf aT (cf aT (cf aT (cf aT (cf aT (qaf rfl (cF ?_)))))))
  refine cT ?_
  exact eM aU _
 rintro t1 _ rfl j1
 refine qau ⟨⟨[], false⟩, _, [], []⟩ (by kernel_rfl) ⟨Hp.Le.refl _, (pf rfl), ci0⟩ ?_
 obtain ⟨bD, hm⟩ := qay hm
 refine qbn (lo := none) (hi := (some t1)) rfl bD ?_
 exact eE hm
 obtain ⟨cm, bL, bJ, hm⟩ := ixb hm
 refine qaz rfl bL bJ ?_
 refine cb hm fun cD bV hm => cg0 (JdV bV :) ?_
 refine cs rfl rfl hm ?_ ?_ <;> intro cd hm
 obtain ⟨s3, aY, hm⟩ := bnd hm
 refine lD (σ := (Int)) ([5] ++ rg 38 12) [0] (fun _ => []) (fun t3 => [(5, .int .i64 t3)]) (fun _ => []) (fun _ => True) (fun i3 t3 => JbO s i3 t3 = some s3) (fun t3 => t3 = s3) (fun i3 => i3) n _ aY (And.intro qe (And.intro ?_ ?_))
 clear aY
 rintro i3 bR _ aY j3
 conv at aY => whnf
 cases i3 with
 | zero => rw [JbO.eq_1] at aY; cases aY
 | succ i3 =>
  rw [JbO.eq_2] at aY
  refine qah rfl ?_
  refine ro (qat rfl ?_)
  obtain ⟨ca, a6, aY⟩ := bnd aY
  refine cS a6 (fun aV a6 => ?_) fun aV a6 => ?_
  refine ct aV (ct aV ?_)
  obtain ⟨cw, bO, bI, a6⟩ := ixb a6
  refine qaz rfl bO bI (ct aV ?_)
  refine cb a6 fun cu bK a6 => cg0 (JdV bK :) ?_
  refine ct aV (qaf rfl ?_)
  refine qag ?_ ?_ <;> intro bt
  replace aY := ift ((si a6).symm.trans bt) aY
  refine qai rfl ?_
  refine ci aY fun aY => ?_
  exact eR aY (_, _)
  replace aY := qa6 ((si a6).symm.trans bt) aY
  refine cT ?_
  exact eM aY _
  refine cf aV (cf aV (cf aV (cf aV (qaf rfl (cF ?_)))))
  replace aY := qa6 (si a6).symm aY
  refine cT ?_
  exact eM aY _
 rintro t3 _ rfl j3
 refine cs rfl rfl hm ?_ ?_ <;> intro co hm
 exact eE hm
 refine qau ⟨⟨[], false⟩, _, [], []⟩ (by kernel_rfl) ⟨Hp.Le.refl _, (pf rfl), ci0⟩ ?_
 obtain ⟨bH, hm⟩ := qay hm
 refine qbn (lo := none) (hi := (some t3)) rfl bH ?_
 exact eE hm
 obtain ⟨bX, bw, bF, hm⟩ := ixb hm
 refine qaz rfl bw bF (qad ?_)
 refine cs rfl rfl hm ?_ ?_ <;> intro bW hm
 refine cb hm fun cB bU hm => cg0 (Jfz bU :) ?_
 exact eE hm
 refine bsO (len := 14) (enc := eS) (l := [([61, 61] : Str), ([33, 61] : Str), ([60, 61] : Str), ([60] : Str), ([43] : Str), ([45] : Str), ([42] : Str), ([40] : Str), ([41] : Str), ([123] : Str), ([125] : Str), ([44] : Str), ([59] : Str), ([61] : Str)]) (cl := [str ([61, 61] : Str), str ([33, 61] : Str), str ([60, 61] : Str), str ([60] : Str), str ([43] : Str), str ([45] : Str), str ([42] : Str), str ([40] : Str), str ([41] : Str), str ([123] : Str), str ([125] : Str), str ([44] : Str), str ([59] : Str), str ([61] : Str)]) qdf rfl rfl (fun _ _ => rfl) rfl rfl rfl ?_ fun cA => ?_
 · conv => whnf
   refine cT (cT (cT (cT (cT (cT (cT (cT ?_)))))))
   refine cT (cT (cT (cT (cT (cT ?_)))))
   first | done | rfl
 refine ro (qaj rfl ?_)
 obtain ⟨bj, hm⟩ := qay hm
 obtain ⟨s5, aX, hm⟩ := bnd hm
 refine lD (σ := (Unit)) ([2,3,4,7] ++ rg 68 35) [0, 1] (fun i5 => [(68, .int .i64 (i5 : Int))]) (fun _ => []) (fun _ => []) (fun _ => True) (fun i5 _ => Jcg s ((14 : Int).toNat - i5) i5 = some s5) (fun t5 => s5 = Fl.go t5) (fun i5 => (14 : Int).toNat - i5) 0 () aX (And.intro qe (And.intro ?_ ?_))
 clear aX
 rintro i5 _ _ aX j5
 conv at aX => whnf
 refine qaf rfl ?_
 refine qag ?_ ?_ <;> intro w5
 rw [ltn (n := (14 : Int)) w5, Jcg.eq_2] at aX
 refine qai rfl ?_
 refine DStep.ownLe r0 fun cj => ?_
 refine qau ⟨⟨[], true⟩, _, [], []⟩ (by kernel_rfl) ⟨Hp.Le.refl _, (pf rfl), ci0⟩ ?_
 refine qbs rfl ?_
 obtain ⟨ce, bp, bf, aX⟩ := ixb aX
 refine qac rfl rfl (qcp (fun _ => ⟨_, _, rfl⟩) bf) bp (qas rfl bp bf) ?_
 refine qbq (i := ((i5 : Int)).toNat) (o := 0) r0 rfl bf rfl rfl ?_
 refine qbs rfl ?_
 obtain ⟨cG, aZ, aX⟩ := bnd aX
 refine cS aZ (fun aS aZ => ?_) fun aS aZ => ?_
 refine ct aS (ct aS (ct aS ?_))
 obtain ⟨bM, bo, bb, aZ⟩ := ixb aZ
 refine qac rfl rfl (qcp (fun _ => ⟨_, _, rfl⟩) bb) bo (qas rfl bo bb) (ct aS ?_)
 refine qbq (i := ((i5 : Int)).toNat) (o := 0) r0 rfl bb rfl rfl ?_
 refine ct aS (qbs rfl (ct aS ?_))
 obtain ⟨bS, aZ⟩ := qay aZ
 refine qbn (lo := none) (hi := (some (bM.length : Int))) rfl bS (ct aS (ct aS (ct aS ?_)))
 obtain ⟨cp, bm, bd, aZ⟩ := ixb aZ
 refine qac rfl rfl (qcp (fun _ => ⟨_, _, rfl⟩) bd) bm (qas rfl bm bd) (ct aS ?_)
 refine qbq (i := ((i5 : Int)).toNat) (o := 0) r0 rfl bd rfl rfl ?_
 refine ct aS (qam (ct aS (qaf rfl ?_)))
 refine qag ?_ ?_ <;> intro br
 replace aX := ift ((si aZ).symm.trans br) aX
 refine qau ⟨⟨[], true⟩, _, [], []⟩ (by kernel_rfl) ⟨Hp.Le.refl _, (pf rfl), ci0⟩ ?_
 obtain ⟨cH, bn, bc, aX⟩ := ixb aX
 refine qac rfl rfl (qcp (fun _ => ⟨_, _, rfl⟩) bc) bn (qas rfl bn bc) ?_
 refine qbq (i := ((i5 : Int)).toNat) (o := 0) r0 rfl bc rfl rfl ?_
 obtain ⟨bZ, bg, ba, aX⟩ := ixb aX
 refine qac rfl rfl (qcp (fun _ => ⟨_, _, rfl⟩) ba) bg (qas rfl bg ba) ?_
 refine qbq (i := ((i5 : Int)).toNat) (o := 0) r0 rfl ba rfl rfl ?_
 refine qbs rfl ?_
 exact eE (er aX hm)
 replace aX := qa6 ((si aZ).symm.trans br) aX
 refine qar (qn1 w5 bj) ?_
 exact eR aX (_, ())
 refine cf aS (cf aS (cf aS (cf aS (cf aS (cf aS (cf aS (cf aS ?_)))))))
 refine cf aS (cf aS (cf aS (cf aS (qaf rfl (cF ?_)))))
 replace aX := qa6 (si aZ).symm aX
 refine qar (qn1 w5 bj) ?_
 exact eR aX (_, ())
 rw [lto (n := (14 : Int)) w5, Jcg.eq_1] at aX
 refine cT ?_
 exact eM aX _
 rintro t5 _ rfl j5
 replace hm := elg hm
 exact eE hm

def Jb2 (al : Int) (text : Str) : Nat → Int → Option (Int)
  | 0, _ => none
  | aT + 1, aS =>
    (chk (InI (al + aS))).bind fun _ =>
    (if decide ((al + aS) < (text.length : Int)) then (chk (InI (al + aS))).bind fun _ =>
    (ix text (al + aS)).bind fun aU =>
    some (decide ((aU.toNat : Int) ≠ 10)) else some false).bind fun aV =>
    if aV then
    (chk (InI (aS + 1))).bind fun _ =>
    Jb2 al text aT (aS + 1)
    else
    some aS
def Jav (text : Str) (n : Nat) : Nat → (List JO) → Int → Int → Int → Option (Fl ((List JO) × Int) ((List JO) × Int × Int × Int))
  | 0, _, _, _, _ => none
  | aW + 1, ac, aT, aS, al =>
    if decide (al < (text.length : Int)) then
    (ix text al).bind fun aV =>
    if decide ((aV.toNat : Int) = 10) then
    (chk (InI (aT + 1))).bind fun _ =>
    (chk (InI (al + 1))).bind fun _ =>
    (chk (InI (0 + 1))).bind fun _ =>
    Jav text n aW ac (aT + 1) (0 + 1) (al + 1)
    else
    if decide ((aV.toNat : Int) = 35) then
    (Jb2 al text n 1).bind fun t3 =>
    (chk (InI (al + t3))).bind fun _ =>
    (chk (InI (aS + t3))).bind fun _ =>
    Jav text n aW ac aT (aS + t3) (al + t3)
    else
    if ((decide ((aV.toNat : Int) ≠ 32) && decide ((aV.toNat : Int) ≠ 9)) && decide ((aV.toNat : Int) ≠ 13)) then
    (chk (0 ≤ al ∧ al ≤ (text.length : Int) ∧ (text.length : Int) ≤ (text.length : Int))).bind fun _ =>
    (Jcn n (subL text al (text.length : Int))).bind fun aU =>
    if decide (aU.2.2 = 0) then
    some (Fl.ret ([], 2))
    else
    (chk (ac.length + [(⟨aU.1, aU.2.1, aT, aS⟩ : JO)].length ≤ lim)).bind fun _ =>
    (chk (InI (al + aU.2.2))).bind fun _ =>
    (chk (InI (aS + aU.2.2))).bind fun _ =>
    Jav text n aW (ac ++ [(⟨aU.1, aU.2.1, aT, aS⟩ : JO)]) aT (aS + aU.2.2) (al + aU.2.2)
    else
    (chk (InI (al + 1))).bind fun _ =>
    (chk (InI (aS + 1))).bind fun _ =>
    Jav text n aW ac aT (aS + 1) (al + 1)
    else
    some (Fl.go (ac, aT, aS, al))
def Jcx (n : Nat) (text : Str) : Option ((List JO) × Int) :=
  if decide ((text.length : Int) > 4096) then
  some ([], 5)
  else
  (Jav text n n [] 1 1 0).bind fun s0 => s0.el some fun t0 =>
  (chk (t0.1.length + ([(⟨5, ([] : Str), t0.2.1, t0.2.2.1⟩ : JO)]).length ≤ lim)).bind fun _ =>
  some ((t0.1 ++ [(⟨5, ([] : Str), t0.2.1, t0.2.2.1⟩ : JO)]), 0)
theorem JfQ {n : Nat} {text : Str} {K : Hp} {r : (List JO) × Int}
    (hm : Jcx n text = some r)  :
    Fn Tryz.prog 225 [str text] K [] (fun v K' H' => ∃ ar_0 : Option Addr, ∃ cr_0 : Nat, v = .tuple #[.slice ar_0 r.1.length cr_0, .int .i64 r.2] ∧ (0 < r.1.length → Has ar_0) ∧ H' = [OwnL JO.enc ar_0 296 4 cr_0 r.1]) := by
 refine Fn.enter Tryz.func225 Tryz.call225 rfl fun F => ?_
 unfold Jcx at hm
 refine ro (qat rfl ?_)
 refine cs rfl rfl hm ?_ ?_ <;> intro bO hm
 refine qhp JO.enc 296 4 ?_
 exact eE hm
 obtain ⟨s0, aT, hm⟩ := bnd hm
 refine qkc JO.enc 296 4 ?_
 refine lD (σ := ((List JO) × Int × Int × Int) × Option Addr × Nat) (rg 2 11 ++ rg 16 67) [1] (fun _ => []) (fun (t0, aW, aX) => [(4, .slice aW t0.1.length aX), (5, .int .i64 t0.2.1), (6, .int .i64 t0.2.2.1), (7, .int .i64 t0.2.2.2)]) (fun (t0, aW, aX) => [OwnL JO.enc aW 296 4 aX t0.1]) (fun (t0, aW, aX) => (0 < t0.1.length → Has aW) ∧ True) (fun i0 (t0, aW, aX) => Jav text n i0 t0.1 t0.2.1 t0.2.2.1 t0.2.2.2 = some s0) (fun (t0, aW, aX) => s0 = Fl.go t0) (fun i0 => i0) n ((_, _, _, _), _, _) aT (And.intro qe (And.intro ?_ ?_))
 clear aT
 rintro i0 ⟨⟨ac, a6, a8, al⟩, bh, bf⟩ ⟨bc, _⟩ aT j0
 dsimp only at aT ⊢
 cases i0 with
 | zero => rw [Jav.eq_1] at aT; cases aT
 | succ i0 =>
  rw [Jav.eq_2] at aT
  refine ro (qat rfl ?_)
  refine cs rfl rfl aT ?_ ?_ <;> intro bT aT
  refine qai rfl ?_
  obtain ⟨ba, bn, br, aT⟩ := ixb aT
  refine qaz rfl bn br ?_
  refine qai rfl ?_
  refine qad ?_
  refine CStep.ownLe r0 fun bU => ?_
  refine cs rfl rfl aT ?_ ?_ <;> intro bI aT
  refine ci aT fun aT => ?_
  refine ci aT fun aT => ?_
  refine ci aT fun aT => ?_
  exact eR aT (_, (_, _, _, _), _, _)
  refine qad ?_
  refine CStep.ownLe r0 fun bJ => ?_
  refine cs rfl rfl aT ?_ ?_ <;> intro bW aT
  obtain ⟨s3, aY, aT⟩ := bnd aT
  refine lD (σ := (Int)) ([9] ++ rg 31 16) [0, 1] (fun _ => []) (fun t3 => [(9, .int .i64 t3)]) (fun _ => []) (fun _ => True) (fun i3 t3 => Jb2 al text i3 t3 = some s3) (fun t3 => t3 = s3) (fun i3 => i3) n _ aY (And.intro qe (And.intro ?_ ?_))
  clear aY
  rintro i3 bz _ aY j3
  conv at aY => whnf
  cases i3 with
  | zero => rw [Jb2.eq_1] at aY; cases aY
  | succ i3 =>
   rw [Jb2.eq_2] at aY
   refine qah rfl ?_
   obtain ⟨bp, aY⟩ := qay aY
   refine qar bp (ro (qat rfl ?_))
   obtain ⟨bR, aZ, aY⟩ := bnd aY
   refine cS aZ (fun aS aZ => ?_) fun aS aZ => ?_
   refine ct aS (ct aS (ct aS ?_))
   obtain ⟨bB, aZ⟩ := qay aZ
   refine qar bB (ct aS ?_)
   obtain ⟨bD, bw, bt, aZ⟩ := ixb aZ
   refine qaz rfl bw bt (ct aS (qa2 (ct aS (qaf rfl ?_))))
   refine qag ?_ ?_ <;> intro bg
   replace aY := ift ((si aZ).symm.trans bg) aY
   refine qai rfl ?_
   refine ci aY fun aY => ?_
   exact eR aY (_, _)
   replace aY := qa6 ((si aZ).symm.trans bg) aY
   refine cT ?_
   exact eM aY _
   refine cf aS (cf aS (cf aS (cf aS (cf aS (cf aS (qaf rfl (cF ?_)))))))
   replace aY := qa6 (si aZ).symm aY
   refine cT ?_
   exact eM aY _
  rintro t3 _ rfl j3
  refine ci aT fun aT => ?_
  refine ci aT fun aT => ?_
  exact eR aT (_, (_, _, _, _), _, _)
  refine jR (σ := Unit) (rg 47 11) (fun _ => [(47, .bool ((decide ((ba.toNat : Int) ≠ 32) && decide ((ba.toNat : Int) ≠ 9)) && decide ((ba.toNat : Int) ≠ 13)))]) (fun bC => True) ?_ ?_
  refine qah rfl ?_
  refine qa2 ?_
  refine qag ?_ ?_ <;> intro aU
  refine ct aU (qa2 (ct aU ?_))
  refine qag ?_ ?_ <;> intro aV
  refine ct aV (qa2 (ct aV ?_))
  exact eMt () ⟨bq (qbw (b := decide ((ba.toNat : Int) ≠ 13)) (qby aU aV)), trivial⟩
  refine cf aV (cf aV ?_)
  exact eMt () ⟨bq (((qa0 (qb8 aU aV))).symm), trivial⟩
  refine cf aU (cf aU (cF (cF (cF ?_))))
  exact eMt () ⟨bq (((qa0 (qa0 aU))).symm), trivial⟩
  rintro _ _ bm
  refine CStep.ownLe r0 fun bN => ?_
  refine cs rfl rfl aT ?_ ?_ <;> intro bS aT
  obtain ⟨bo, aT⟩ := qay aT
  refine RStep.ofN (qbn (lo := (some al)) (hi := none) rfl bo ?_)
  refine cb aT fun bb bA aT => cg0 (Jf9 bA :) ?_
  refine qad (cs rfl rfl aT ?_ ?_) <;> intro bV aT
  refine qhp JO.enc 296 4 ?_
  exact eE (er aT hm)
  refine qak rfl rfl (cT (cT (cT (cT ?_))))
  refine bsO (len := 1) (enc := JO.enc) (l := [(⟨bb.1, bb.2.1, a6, a8⟩ : JO)]) (cl := [.int .i64 bb.1, str bb.2.1, .int .i64 a6, .int .i64 a8]) qlm rfl rfl (fun _ _ => rfl) rfl rfl rfl ?_ fun bG => ?_
  · conv => whnf
    refine cT ?_
    first | done | rfl
  obtain ⟨bj, aT⟩ := qay aT
  refine apE rfl r1 qlm (qa4 rfl r0 rfl (fun _ => rfl) (fun _ => rfl)) bj ?_
  intro bQ bM bF
  refine ci aT fun aT => ?_
  refine ci aT fun aT => ?_
  exact eR aT (_, (_, _, _, _), _, _)
  refine ci aT fun aT => ?_
  refine ci aT fun aT => ?_
  exact eR aT (_, (_, _, _, _), _, _)
  refine cT ?_
  exact eM aT (_, _, _)
 rintro ⟨t0, aW, aX⟩ ⟨bd, _⟩ rfl j0
 replace hm := elg hm
 refine qak rfl rfl (cT (cT (cT (cT ?_))))
 refine bsO (len := 1) (enc := JO.enc) (l := [(⟨5, ([] : Str), t0.2.1, t0.2.2.1⟩ : JO)]) (cl := [.int .i64 5, str ([] : Str), .int .i64 t0.2.1, .int .i64 t0.2.2.1]) qlm rfl rfl (fun _ _ => rfl) rfl rfl rfl ?_ fun bK => ?_
 · conv => whnf
   refine cT ?_
   first | done | rfl
 obtain ⟨bu, hm⟩ := qay hm
 refine apE rfl r1 qlm (qa4 rfl r0 rfl (fun _ => rfl) (fun _ => rfl)) bu ?_
 intro bP bH bL
 exact eE hm

def Jb3 (n : Nat) (s : Str) (kind : Int) : Option (Bool) :=
  (Jcx n s).bind fun x9 =>
  (if (decide (x9.2 = 0) && decide ((x9.1.length : Int) = 2)) then (ix x9.1 0).bind fun aW =>
  some (decide (aW.Ab = kind)) else some false).bind fun aU =>
  (if aU then (ix x9.1 0).bind fun a6 =>
  some (decide (a6.Ac = s)) else some false).bind fun aZ =>
  (if aZ then (ix x9.1 0).bind fun aY =>
  some (decide (aY.Column = 1)) else some false).bind fun a8 =>
  (if a8 then (ix x9.1 1).bind fun aV =>
  (chk (InI ((s.length : Int) + 1))).bind fun _ =>
  some (decide (aV.Column = ((s.length : Int) + 1))) else some false).bind fun aX =>
  (if aX then (ix x9.1 1).bind fun aT =>
  some (decide (aT.Ad = 1)) else some false).bind fun aS =>
  some aS
theorem JeL {n : Nat} {s : Str} {kind : Int} {K : Hp} {r : Bool}
    (hm : Jb3 n s kind = some r)  :
    Fn Tryz.prog 195 [str s, .int .i64 kind] K [] (fun v K' H' => v = .bool r ∧ H' = []) := by
 refine Fn.enter Tryz.func195 Tryz.call195 rfl fun F => ?_
 unfold Jb3 at hm
 refine cb hm fun x9 q9 hm => ck0 (JfQ q9 :) ?_
 rintro _ _ _ ⟨bB, bA, rfl, a8, rfl⟩
 refine qah rfl ?_
 refine qad ?_
 refine qag ?_ ?_ <;> intro aX
 refine ct aX (ro (qaj rfl (ct aX (qad (ct aX ?_)))))
 obtain ⟨bz, bb, hm⟩ := bnd hm
 refine qag ?_ ?_ <;> intro aU
 replace bb := ift (qby aX aU) bb
 refine ct aU ?_
 obtain ⟨bF, bu, bj, bb⟩ := ixb bb
 refine RStep.ofN (qac rfl rfl (qcp a8 bj) bu (qas rfl bu bj) (ct aU (qaw rfl (qcp a8 bj) (ct aU (ro (qbq (i := (0 : Int).toNat) (o := 0) r0 rfl bj rfl rfl (ct aU (ct aU (qad ?_)))))))))
 refine ct aU ?_
 obtain ⟨bo, ba, hm⟩ := bnd hm
 refine qag ?_ ?_ <;> intro aT
 replace ba := ift ((si bb).symm.trans aT) ba
 refine ct aT ?_
 obtain ⟨bH, br, bg, ba⟩ := ixb ba
 refine RStep.ofN (qac rfl rfl (qcp a8 bg) br (qas rfl br bg) (ct aT (qaw rfl (qcp a8 bg) (ct aT (ro (qbq (i := (0 : Int).toNat) (o := 1) r0 rfl bg rfl rfl (ct aT (ct aT (qam ?_)))))))))
 refine ct aT ?_
 obtain ⟨bn, a6, hm⟩ := bnd hm
 refine qag ?_ ?_ <;> intro aW
 replace a6 := ift ((si ba).symm.trans aW) a6
 refine ct aW ?_
 obtain ⟨bG, bp, bf, a6⟩ := ixb a6
 refine RStep.ofN (qac rfl rfl (qcp a8 bf) bp (qas rfl bp bf) (ct aW (qaw rfl (qcp a8 bf) (ct aW (ro (qbq (i := (0 : Int).toNat) (o := 3) r0 rfl bf rfl rfl (ct aW (qad (ct aW ?_)))))))))
 obtain ⟨bd, aZ, hm⟩ := bnd hm
 refine qag ?_ ?_ <;> intro aS
 replace aZ := ift ((si a6).symm.trans aS) aZ
 refine ct aS ?_
 obtain ⟨bI, bw, bm, aZ⟩ := ixb aZ
 refine RStep.ofN (qac rfl rfl (qcp a8 bm) bw (qas rfl bw bm) (ct aS (qaw rfl (qcp a8 bm) (ct aS (ro (qbq (i := (1 : Int).toNat) (o := 3) r0 rfl bm rfl rfl (ct aS (ct aS (ro (qat rfl ?_))))))))))
 refine ct aS ?_
 obtain ⟨bC, aZ⟩ := qay aZ
 refine qar bC (ct aS (qad (ct aS ?_)))
 obtain ⟨bc, aY, hm⟩ := bnd hm
 refine qag ?_ ?_ <;> intro aV
 replace aY := ift ((si aZ).symm.trans aV) aY
 refine ct aV ?_
 obtain ⟨bD, bt, bh, aY⟩ := ixb aY
 refine RStep.ofN (qac rfl rfl (qcp a8 bh) bt (qas rfl bt bh) (ct aV (qaw rfl (qcp a8 bh) (ct aV (ro (qbq (i := (1 : Int).toNat) (o := 2) r0 rfl bh rfl rfl (ct aV (qad (ct aV ?_)))))))))
 exact bE (si aY) (eE hm)
 replace aY := qa6 ((si aZ).symm.trans aV) aY
 refine cf aV (cf aV (cf aV (cf aV (cf aV ?_))))
 exact bE (si aY) (eE hm)
 replace aZ := qa6 ((si a6).symm.trans aS) aZ
 refine cf aS (cf aS (cf aS (cf aS (cf aS (cf aS (cf aS (cf aS ?_)))))))
 obtain ⟨bc, aY, hm⟩ := bnd hm
 replace aY := qa6 (si aZ).symm aY
 refine cF (cF (cF (cF (cF (cF ?_)))))
 exact bE (si aY) (eE hm)
 replace a6 := qa6 ((si ba).symm.trans aW) a6
 refine cf aW (cf aW (cf aW (cf aW (cf aW ?_))))
 obtain ⟨bd, aZ, hm⟩ := bnd hm
 replace aZ := qa6 (si a6).symm aZ
 refine cF (cF (cF (cF (cF (cF (cF (cF ?_)))))))
 refine cF ?_
 obtain ⟨bc, aY, hm⟩ := bnd hm
 replace aY := qa6 (si aZ).symm aY
 refine cF (cF (cF (cF (cF (cF ?_)))))
 exact bE (si aY) (eE hm)
 replace ba := qa6 ((si bb).symm.trans aT) ba
 refine cf aT (cf aT (cf aT (cf aT (cf aT (cf aT ?_)))))
 obtain ⟨bn, a6, hm⟩ := bnd hm
 replace a6 := qa6 (si ba).symm a6
 refine cF (cF (cF (cF (cF (cF ?_)))))
 obtain ⟨bd, aZ, hm⟩ := bnd hm
 replace aZ := qa6 (si a6).symm aZ
 refine cF (cF (cF (cF (cF (cF (cF (cF ?_)))))))
 refine cF ?_
 obtain ⟨bc, aY, hm⟩ := bnd hm
 replace aY := qa6 (si aZ).symm aY
 refine cF (cF (cF (cF (cF (cF ?_)))))
 exact bE (si aY) (eE hm)
 replace bb := qa6 (qb8 aX aU) bb
 refine cf aU (cf aU (cf aU (cf aU (cf aU (cf aU ?_)))))
 obtain ⟨bo, ba, hm⟩ := bnd hm
 replace ba := qa6 (si bb).symm ba
 refine cF (cF (cF (cF (cF (cF (cF ?_))))))
 obtain ⟨bn, a6, hm⟩ := bnd hm
 replace a6 := qa6 (si ba).symm a6
 refine cF (cF (cF (cF (cF (cF ?_)))))
 obtain ⟨bd, aZ, hm⟩ := bnd hm
 replace aZ := qa6 (si a6).symm aZ
 refine cF (cF (cF (cF (cF (cF (cF (cF ?_)))))))
 refine cF ?_
 obtain ⟨bc, aY, hm⟩ := bnd hm
 replace aY := qa6 (si aZ).symm aY
 refine cF (cF (cF (cF (cF (cF ?_)))))
 exact bE (si aY) (eE hm)
 refine cf aX (cf aX (cf aX ?_))
 obtain ⟨bz, bb, hm⟩ := bnd hm
 replace bb := qa6 (qa0 aX) bb
 refine cF (cF (cF (cF (cF (cF (cF ?_))))))
 obtain ⟨bo, ba, hm⟩ := bnd hm
 replace ba := qa6 (si bb).symm ba
 refine cF (cF (cF (cF (cF (cF (cF ?_))))))
 obtain ⟨bn, a6, hm⟩ := bnd hm
 replace a6 := qa6 (si ba).symm a6
 refine cF (cF (cF (cF (cF (cF ?_)))))
 obtain ⟨bd, aZ, hm⟩ := bnd hm
 replace aZ := qa6 (si a6).symm aZ
 refine cF (cF (cF (cF (cF (cF (cF (cF ?_)))))))
 refine cF ?_
 obtain ⟨bc, aY, hm⟩ := bnd hm
 replace aY := qa6 (si aZ).symm aY
 refine cF (cF (cF (cF (cF (cF ?_)))))
 exact bE (si aY) (eE hm)

def Jbv (s : Str) : List UInt8 → Nat → Str → Option (Fl (Str × Bool) (Str))
  | [], _, ac => some (Fl.go ac)
  | e0 :: aT, i0, ac =>
    (if decide ((e0.toNat : Int) < 32) then some true else some (decide ((e0.toNat : Int) > 126))).bind fun aS =>
    if aS then
    some (Fl.ret (([] : Str), false))
    else
    (if decide ((e0.toNat : Int) = 34) then some true else some (decide ((e0.toNat : Int) = 92))).bind fun aU =>
    if aU then
    (chk (ac.length + ([(92 : UInt8)] : Str).length ≤ lim)).bind fun _ =>
    (chk (0 ≤ (i0 : Int) ∧ (i0 : Int) ≤ ((i0 : Int) + 1) ∧ ((i0 : Int) + 1) ≤ (s.length : Int))).bind fun _ =>
    (chk ((ac ++ ([(92 : UInt8)] : Str)).length + (subL s (i0 : Int) ((i0 : Int) + 1)).length ≤ lim)).bind fun _ =>
    Jbv s aT (i0 + 1) ((ac ++ ([(92 : UInt8)] : Str)) ++ (subL s (i0 : Int) ((i0 : Int) + 1)))
    else
    (chk (0 ≤ (i0 : Int) ∧ (i0 : Int) ≤ ((i0 : Int) + 1) ∧ ((i0 : Int) + 1) ≤ (s.length : Int))).bind fun _ =>
    (chk (ac.length + (subL s (i0 : Int) ((i0 : Int) + 1)).length ≤ lim)).bind fun _ =>
    Jbv s aT (i0 + 1) (ac ++ (subL s (i0 : Int) ((i0 : Int) + 1)))
def Jee (s : Str) : Option (Str × Bool) :=
  (chk (s.length ≤ qax)).bind fun _ =>
  (Jbv s s 0 ([34] : Str)).bind fun s0 => s0.el some fun t0 =>
  (chk (t0.length + ([34] : Str).length ≤ lim)).bind fun _ =>
  some ((t0 ++ ([34] : Str)), true)
theorem JfR {s : Str} {K : Hp} {r : Str × Bool}
    (hm : Jee s = some r)  :
    Fn Tryz.prog 197 [str s] K [] (fun v K' H' => v = .tuple #[str r.1, .bool r.2] ∧ H' = []) := by
 refine Fn.enter Tryz.func197 Tryz.call197 rfl fun F => ?_
 unfold Jee at hm
 refine ro (qat rfl ?_)
 obtain ⟨aY, hm⟩ := qay hm
 obtain ⟨s0, aS, hm⟩ := bnd hm
 refine lD (σ := (Str)) ([2,3,4,5] ++ rg 8 35) [0] (fun i0 => [(8, .int .i64 (i0 : Int))]) (fun t0 => [(4, str t0)]) (fun _ => []) (fun _ => True) (fun i0 t0 => Jbv s (s.drop i0) i0 t0 = some s0) (fun t0 => s0 = Fl.go t0) (fun i0 => s.length - i0) 0 _ aS (And.intro qe (And.intro ?_ ?_))
 clear aS
 rintro i0 ac _ aS j0
 conv at aS => whnf
 refine qaf rfl ?_
 refine qag ?_ ?_ <;> intro w0
 obtain ⟨e0, aW, bg⟩ := ltx w0
 rw [bg, Jbv.eq_2] at aS
 refine qai rfl ?_
 obtain ⟨bb, aV, aS⟩ := bnd aS
 refine jR (σ := Bool) (rg 11 10) (fun aX => [(20, .bool aX)]) (fun aX => aX = bb) ?_ ?_
 replace aV := bsm aV
 refine qah rfl ?_
 refine qaz rfl (nn _) aW ?_
 obtain ⟨bm, ba, aV⟩ := bnd aV
 refine cS ba (fun aU ba => ?_) fun aU ba => ?_
 refine ct aU (ct aU (ct aU (ct aU ?_)))
 exact eMq aV _ ⟨bq (si ba), trivial⟩
 refine cf aU (cf aU (qaz rfl (nn _) aW (cf aU (cf aU ?_))))
 exact eMq aV _ ⟨bq (si ba), trivial⟩
 rintro aX rfl bh
 refine cs rfl rfl aS ?_ ?_ <;> intro bo aS
 exact eE (er aS hm)
 refine qah rfl ?_
 refine qaz rfl (nn _) aW (qad ?_)
 obtain ⟨bn, aZ, aS⟩ := bnd aS
 refine cS aZ (fun aT aZ => ?_) fun aT aZ => ?_
 refine ct aT (ct aT (ct aT (ct aT (qaf rfl (cT ?_)))))
 replace aS := ift (si aZ).symm aS
 refine bsO (len := 1) (enc := eU) (l := ([(92 : UInt8)] : Str)) (cl := [.int .u8 92]) qbz rfl rfl (fun _ _ => rfl) rfl rfl rfl ?_ fun bj => ?_
 · conv => whnf
   refine cT ?_
   first | done | rfl
 refine ro (qdc rfl r0 rfl rfl rfl ?_)
 obtain ⟨bc, aS⟩ := qay aS
 refine qbk bc ?_
 refine qar (qbu aW aY) ?_
 obtain ⟨a6, aS⟩ := qay aS
 refine RStep.ofN (qbn (lo := (some (i0 : Int))) (hi := (some ((i0 : Int) + 1))) rfl a6 ?_)
 obtain ⟨a8, aS⟩ := qay aS
 refine qbk a8 ?_
 refine qar (qbu aW aY) ?_
 exact eR aS (_, _)
 refine cf aT (cf aT (qaz rfl (nn _) aW (cf aT (qad (cf aT (qaf rfl ?_))))))
 refine qag ?_ ?_ <;> intro bd
 replace aS := ift ((si aZ).symm.trans bd) aS
 refine bsO (len := 1) (enc := eU) (l := ([(92 : UInt8)] : Str)) (cl := [.int .u8 92]) qbz rfl rfl (fun _ _ => rfl) rfl rfl rfl ?_ fun bj => ?_
 · conv => whnf
   refine cT ?_
   first | done | rfl
 refine ro (qdc rfl r0 rfl rfl rfl ?_)
 obtain ⟨bc, aS⟩ := qay aS
 refine qbk bc ?_
 refine qar (qbu aW aY) ?_
 obtain ⟨a6, aS⟩ := qay aS
 refine RStep.ofN (qbn (lo := (some (i0 : Int))) (hi := (some ((i0 : Int) + 1))) rfl a6 ?_)
 obtain ⟨a8, aS⟩ := qay aS
 refine qbk a8 ?_
 refine qar (qbu aW aY) ?_
 exact eR aS (_, _)
 replace aS := qa6 ((si aZ).symm.trans bd) aS
 refine qar (qbu aW aY) ?_
 obtain ⟨a6, aS⟩ := qay aS
 refine RStep.ofN (qbn (lo := (some (i0 : Int))) (hi := (some ((i0 : Int) + 1))) rfl a6 ?_)
 obtain ⟨a8, aS⟩ := qay aS
 refine qbk a8 ?_
 refine qar (qbu aW aY) ?_
 exact eR aS (_, _)
 rw [lty w0, Jbv.eq_1] at aS
 refine cT ?_
 exact eM aS _
 rintro t0 _ rfl j0
 replace hm := elg hm
 obtain ⟨bf, hm⟩ := qay hm
 refine qbk bf ?_
 exact eE hm

def JbC (s : Str) : Option (Bool) :=
  (Jee s).bind fun x7 =>
  some x7.2
theorem Jc9 {s : Str} {K : Hp} {r : Bool}
    (hm : JbC s = some r)  :
    Fn Tryz.prog 164 [str s] K [] (fun v K' H' => v = .bool r ∧ H' = []) := by
 refine Fn.enter Tryz.func164 Tryz.call164 rfl fun F => ?_
 unfold JbC at hm
 refine cb hm fun x7 q7 hm => cg0 (JfR q7 :) ?_
 exact eE hm

def Jdn : Option ((List Str)) :=
  some ([([105, 102] : Str), ([101, 108, 115, 101] : Str), ([108, 101, 116] : Str), ([118, 97, 114, 121] : Str), ([116, 97, 103] : Str), ([116, 116, 108] : Str), ([100, 101, 110, 121] : Str), ([112, 97, 115, 115] : Str), ([116, 111, 107, 101, 110] : Str), ([111, 114] : Str), ([97, 110, 100] : Str), ([110, 111, 116] : Str), ([115, 116, 97, 114, 116, 115] : Str), ([101, 110, 100, 115] : Str), ([99, 111, 110, 116, 97, 105, 110, 115] : Str), ([116, 114, 117, 101] : Str), ([102, 97, 108, 115, 101] : Str)])
theorem Je9  {K : Hp} {r : (List Str)}
    (hm : Jdn = some r)  :
    Fn Tryz.prog 226 [] K [] (fun v K' H' => ∃ ar_0 : Option Addr, ∃ cr_0 : Nat, v = .slice ar_0 r.length cr_0 ∧ (0 < r.length → Has ar_0) ∧ H' = [OwnL eS ar_0 9 1 cr_0 r]) := by
 refine Fn.enter Tryz.func226 Tryz.call226 rfl fun F => ?_
 unfold Jdn at hm
 refine bsO (len := 17) (enc := eS) (l := [([105, 102] : Str), ([101, 108, 115, 101] : Str), ([108, 101, 116] : Str), ([118, 97, 114, 121] : Str), ([116, 97, 103] : Str), ([116, 116, 108] : Str), ([100, 101, 110, 121] : Str), ([112, 97, 115, 115] : Str), ([116, 111, 107, 101, 110] : Str), ([111, 114] : Str), ([97, 110, 100] : Str), ([110, 111, 116] : Str), ([115, 116, 97, 114, 116, 115] : Str), ([101, 110, 100, 115] : Str), ([99, 111, 110, 116, 97, 105, 110, 115] : Str), ([116, 114, 117, 101] : Str), ([102, 97, 108, 115, 101] : Str)]) (cl := [str ([105, 102] : Str), str ([101, 108, 115, 101] : Str), str ([108, 101, 116] : Str), str ([118, 97, 114, 121] : Str), str ([116, 97, 103] : Str), str ([116, 116, 108] : Str), str ([100, 101, 110, 121] : Str), str ([112, 97, 115, 115] : Str), str ([116, 111, 107, 101, 110] : Str), str ([111, 114] : Str), str ([97, 110, 100] : Str), str ([110, 111, 116] : Str), str ([115, 116, 97, 114, 116, 115] : Str), str ([101, 110, 100, 115] : Str), str ([99, 111, 110, 116, 97, 105, 110, 115] : Str), str ([116, 114, 117, 101] : Str), str ([102, 97, 108, 115, 101] : Str)]) qdf rfl rfl (fun _ _ => rfl) rfl rfl rfl ?_ fun b1 => ?_
 · conv => whnf
   refine cT (cT (cT (cT (cT (cT (cT (cT ?_)))))))
   refine cT (cT (cT (cT (cT (cT (cT (cT ?_)))))))
   refine cT ?_
   first | done | rfl
 exact eE hm

def Jbl (s : Str) : List Str → Nat → Option (Fl (Bool) (Unit))
  | [], _ => some (Fl.go ())
  | e0 :: aS, i0 =>
    if decide (e0 = s) then
    some (Fl.ret true)
    else
    Jbl s aS (i0 + 1)
def Jda (s : Str) : Option (Bool) :=
  (Jdn).bind fun x5 =>
  (chk (x5.length ≤ qax)).bind fun _ =>
  (Jbl s x5 0).bind fun s0 => s0.el some fun t0 =>
  some false
theorem Jfr {s : Str} {K : Hp} {r : Bool}
    (hm : Jda s = some r)  :
    Fn Tryz.prog 196 [str s] K [] (fun v K' H' => v = .bool r ∧ H' = []) := by
 refine Fn.enter Tryz.func196 Tryz.call196 rfl fun F => ?_
 unfold Jda at hm
 refine cb hm fun x5 q5 hm => ck0 (Je9 q5 :) ?_
 rintro _ _ _ ⟨aY, aV, rfl, aU, rfl⟩
 refine ro (qaj rfl ?_)
 obtain ⟨aW, hm⟩ := qay hm
 obtain ⟨s0, aS, hm⟩ := bnd hm
 refine lD (σ := (Unit)) ([2,4] ++ rg 8 10) [0, 1] (fun i0 => [(8, .int .i64 (i0 : Int))]) (fun _ => []) (fun _ => []) (fun _ => True) (fun i0 _ => Jbl s (x5.drop i0) i0 = some s0) (fun t0 => s0 = Fl.go t0) (fun i0 => x5.length - i0) 0 () aS (And.intro qe (And.intro ?_ ?_))
 clear aS
 rintro i0 _ _ aS j0
 conv at aS => whnf
 refine qaf rfl ?_
 refine qag ?_ ?_ <;> intro w0
 obtain ⟨e0, aT, aX⟩ := ltx w0
 rw [aX, Jbl.eq_2] at aS
 refine qai rfl ?_
 refine RStep.ofN (qac rfl rfl (qcp aU aT) (nn _) (qdx rfl aT) (ro (qbq (i := i0) (o := 0) r0 rfl aT rfl rfl (qam ?_))))
 refine cs rfl rfl aS ?_ ?_ <;> intro aZ aS
 exact eE (er aS hm)
 refine qar (qbu aT aW) ?_
 exact eR aS (_, ())
 rw [lty w0, Jbl.eq_1] at aS
 refine cT ?_
 exact eM aS _
 rintro t0 _ rfl j0
 replace hm := elg hm
 exact eE hm

def JcV (n : Nat) (s : Str) : Option (Bool) :=
  (Jb3 n s 1).bind fun x4 =>
  (if x4 then (Jda s).bind fun x7 =>
  some (!x7) else some false).bind fun x9 =>
  some x9
theorem JdW {n : Nat} {s : Str} {K : Hp} {r : Bool}
    (hm : JcV n s = some r)  :
    Fn Tryz.prog 162 [str s] K [] (fun v K' H' => v = .bool r ∧ H' = []) := by
 refine Fn.enter Tryz.func162 Tryz.call162 rfl fun F => ?_
 unfold JcV at hm
 refine qah rfl ?_
 refine cb hm fun x4 q4 hm => cg0 (JeL q4 :) ?_
 obtain ⟨x9, e9, hm⟩ := bnd hm
 refine cS e9 (fun aS e9 => ?_) fun aS e9 => ?_
 refine ct aS ?_
 refine cb e9 fun x7 q7 e9 => cg0 (Jfr q7 :) ?_
 refine ct aS (qa1 (ct aS ?_))
 exact bE (si e9) (eE hm)
 refine cf aS (cf aS (cf aS ?_))
 exact bE (si e9) (eE hm)

def JaN (aA : (Jb → Option (Bool))) : List Jb → Nat → Option (Fl (Bool) (Unit))
  | [], _ => some (Fl.go ())
  | e0 :: aS, i0 =>
    (aA e0).bind fun aT =>
    if (!aT) then
    some (Fl.ret false)
    else
    JaN aA aS (i0 + 1)
def Jag (aA : (Jb → Option (Bool))) (n : Nat) (l : (List Jb)) (many : Int) : Option (Bool) :=
  (chk (l.length ≤ qax)).bind fun _ =>
  (JaN aA l 0).bind fun s0 => s0.el some fun t0 =>
  some (decide ((l.length : Int) = many))
theorem J6 {aA : (Jb → Option (Bool))} (ihrec1_0 : ∀ {n' : Jb} {aa : Option Addr} {ab : Nat} {K : Hp} {r : Bool} (hm : aA n' = some r) (ae : LiC Jb.R K aa ab 4 n'.Aa), Fn Tryz.prog 160 [.agg #[.int .i64 n'.Ab, str n'.Ac, .slice aa n'.Aa.length ab, .int .i64 n'.Ad]] K [] (fun v K' H' => v = .bool r ∧ H' = [])) {n : Nat} {l : (List Jb)} {many : Int} {aa : Option Addr} {ab : Nat} {n0 : Nat} {K : Hp} {r : Bool}
    (hm : Jag aA n l many = some r) (hX : LiC Jb.R K aa ab 4 l ∧ n0 = l.length) :
    Fn Tryz.prog 163 [.slice aa n0 ab, .int .i64 many] K [] (fun v K' H' => v = .bool r ∧ H' = []) := by
 obtain ⟨ae, a8⟩ := hX
 subst a8
 refine Fn.enter Tryz.func163 Tryz.call163 rfl fun F => ?_
 unfold Jag at hm
 refine ro (qaj rfl ?_)
 obtain ⟨bb, hm⟩ := qay hm
 obtain ⟨s0, aS, hm⟩ := bnd hm
 refine lD (σ := (Unit)) ([4,5] ++ rg 8 10) [0] (fun i0 => [(8, .int .i64 (i0 : Int))]) (fun _ => []) (fun _ => []) (fun _ => True) (fun i0 _ => JaN aA (l.drop i0) i0 = some s0) (fun t0 => s0 = Fl.go t0) (fun i0 => l.length - i0) 0 () aS (And.intro qe (And.intro ?_ ?_))
 clear aS
 rintro i0 _ _ aS j0
 conv at aS => whnf
 refine qaf rfl ?_
 refine qag ?_ ?_ <;> intro w0
 obtain ⟨e0, aT, bc⟩ := ltx w0
 rw [bc, JaN.eq_2] at aS
 refine qai rfl ?_
 refine RStep.ofN (qac rfl rfl (qcf ae.rd aT) (nn _) (qbg aT) ?_)
 obtain ⟨bd, ba, aU, aV, aW⟩ := LiR.get ae.rd aT
 obtain ⟨aZ, aX, rfl, aY⟩ := Jb.out aW
 refine ro (qap i0 _ aU rfl aV rfl ?_)
 refine cb aS fun bg a6 aS => cgx (ihrec1_0 a6 :) ?_
 refine qa1 ?_
 refine cs rfl rfl aS ?_ ?_ <;> intro bf aS
 exact eE (er aS hm)
 refine qar (qbu aT bb) ?_
 exact eR aS (_, ())
 rw [lty w0, JaN.eq_1] at aS
 refine cT ?_
 exact eM aS _
 rintro t0 _ rfl j0
 replace hm := elg hm
 refine ro (qaj rfl (qad ?_))
 exact eE hm

def Jt : Nat → Jb → Option (Bool)
  | 0, _ => none
  | n + 1, n' =>
    if decide (n'.Ab = 13) then
    (if decide (n'.Ac = ([] : Str)) then (Jag (Jt n) n n'.Aa 2).bind fun aS =>
    some aS else some false).bind fun aT =>
    some aT
    else
    if decide (n'.Ab = 14) then
    (if decide (n'.Ac = ([] : Str)) then (Jag (Jt n) n n'.Aa 2).bind fun aS =>
    some aS else some false).bind fun aT =>
    some aT
    else
    if decide (n'.Ab = 17) then
    (if decide (n'.Ac = ([] : Str)) then (Jag (Jt n) n n'.Aa 2).bind fun aS =>
    some aS else some false).bind fun aT =>
    some aT
    else
    if decide (n'.Ab = 18) then
    (if decide (n'.Ac = ([] : Str)) then (Jag (Jt n) n n'.Aa 2).bind fun aS =>
    some aS else some false).bind fun aT =>
    some aT
    else
    if decide (n'.Ab = 19) then
    (if decide (n'.Ac = ([] : Str)) then (Jag (Jt n) n n'.Aa 2).bind fun aS =>
    some aS else some false).bind fun aT =>
    some aT
    else
    if decide (n'.Ab = 15) then
    (if decide (n'.Ac = ([] : Str)) then (Jag (Jt n) n n'.Aa 1).bind fun a8 =>
    some a8 else some false).bind fun bb =>
    some bb
    else
    if decide (n'.Ab = 16) then
    (JcN n'.Ac).bind fun bc =>
    (if bc then (Jag (Jt n) n n'.Aa 2).bind fun aY =>
    some aY else some false).bind fun a6 =>
    some a6
    else
    if decide (n'.Ab = 20) then
    (Jb3 n n'.Ac 2).bind fun ba =>
    some (ba && decide ((n'.Aa.length : Int) = 0))
    else
    if decide (n'.Ab = 21) then
    (JbC n'.Ac).bind fun aV =>
    some (aV && decide ((n'.Aa.length : Int) = 0))
    else
    if decide (n'.Ab = 22) then
    some ((decide (n'.Ac = ([116, 114, 117, 101] : Str)) || decide (n'.Ac = ([102, 97, 108, 115, 101] : Str))) && decide ((n'.Aa.length : Int) = 0))
    else
    if decide (n'.Ab = 23) then
    (JcV n n'.Ac).bind fun aW =>
    some (aW && decide ((n'.Aa.length : Int) = 0))
    else
    if decide (n'.Ab = 24) then
    (JcV n n'.Ac).bind fun aX =>
    (if aX then (Jag (Jt n) n n'.Aa (n'.Aa.length : Int)).bind fun aZ =>
    some aZ else some false).bind fun aU =>
    some aU
    else
    some false
theorem Jar : ∀ {n : Nat} {n' : Jb} {aa : Option Addr} {ab : Nat} {K : Hp} {r : Bool}
    (hm : Jt n n' = some r) (ae : LiC Jb.R K aa ab 4 n'.Aa),
    Fn Tryz.prog 160 [.agg #[.int .i64 n'.Ab, str n'.Ac, .slice aa n'.Aa.length ab, .int .i64 n'.Ad]] K [] (fun v K' H' => v = .bool r ∧ H' = []) := by
 intro n
 induction n with
 | zero =>
   intro n' aa ab K r hm ae
   rw [Jt.eq_1] at hm; cases hm
 | succ n ih =>
   intro n' aa ab K r hm ae
   refine Fn.enter Tryz.func160 Tryz.call160 rfl fun F => ?_
   rw [Jt.eq_2] at hm
   refine qaq ?_
   intro b1
   refine fa rfl (ro (ld r0 rfl rfl ?_))
   refine qai rfl ?_
   refine qad (cs rfl rfl hm ?_ ?_) <;> intro w5 hm
   refine qaf rfl (ct w5 ?_)
   refine qah rfl ?_
   refine fa rfl (ro (ld r0 rfl rfl (qam ?_)))
   obtain ⟨bf, aY, hm⟩ := bnd hm
   refine cS aY (fun aS aY => ?_) fun aS aY => ?_
   refine fa rfl (ct aS (ro (ld r0 rfl rfl (ct aS ?_))))
   refine cb aY fun bg bb aY => cgx (J6 ih bb :) ?_
   refine ct aS ?_
   exact bE (si aY) (eE hm)
   refine cf aS (cf aS (cf aS ?_))
   exact bE (si aY) (eE hm)
   refine qad (cs rfl rfl hm ?_ ?_) <;> intro w5 hm
   refine qaf rfl (ct w5 ?_)
   refine qah rfl ?_
   refine fa rfl (ro (ld r0 rfl rfl (qam ?_)))
   obtain ⟨bf, aY, hm⟩ := bnd hm
   refine cS aY (fun aS aY => ?_) fun aS aY => ?_
   refine fa rfl (ct aS (ro (ld r0 rfl rfl (ct aS ?_))))
   refine cb aY fun bg bb aY => cgx (J6 ih bb :) ?_
   refine ct aS ?_
   exact bE (si aY) (eE hm)
   refine cf aS (cf aS (cf aS ?_))
   exact bE (si aY) (eE hm)
   refine qad (cs rfl rfl hm ?_ ?_) <;> intro w5 hm
   refine qaf rfl (ct w5 ?_)
   refine qah rfl ?_
   refine fa rfl (ro (ld r0 rfl rfl (qam ?_)))
   obtain ⟨bf, aY, hm⟩ := bnd hm
   refine cS aY (fun aS aY => ?_) fun aS aY => ?_
   refine fa rfl (ct aS (ro (ld r0 rfl rfl (ct aS ?_))))
   refine cb aY fun bg bb aY => cgx (J6 ih bb :) ?_
   refine ct aS ?_
   exact bE (si aY) (eE hm)
   refine cf aS (cf aS (cf aS ?_))
   exact bE (si aY) (eE hm)
   refine qad (cs rfl rfl hm ?_ ?_) <;> intro w5 hm
   refine qaf rfl (ct w5 ?_)
   refine qah rfl ?_
   refine fa rfl (ro (ld r0 rfl rfl (qam ?_)))
   obtain ⟨bf, aY, hm⟩ := bnd hm
   refine cS aY (fun aS aY => ?_) fun aS aY => ?_
   refine fa rfl (ct aS (ro (ld r0 rfl rfl (ct aS ?_))))
   refine cb aY fun bg bb aY => cgx (J6 ih bb :) ?_
   refine ct aS ?_
   exact bE (si aY) (eE hm)
   refine cf aS (cf aS (cf aS ?_))
   exact bE (si aY) (eE hm)
   refine qad (cs rfl rfl hm ?_ ?_) <;> intro w5 hm
   refine qah rfl ?_
   refine fa rfl (ro (ld r0 rfl rfl (qam ?_)))
   obtain ⟨bf, aY, hm⟩ := bnd hm
   refine cS aY (fun aS aY => ?_) fun aS aY => ?_
   refine fa rfl (ct aS (ro (ld r0 rfl rfl (ct aS ?_))))
   refine cb aY fun bg bb aY => cgx (J6 ih bb :) ?_
   refine ct aS ?_
   exact bE (si aY) (eE hm)
   refine cf aS (cf aS (cf aS ?_))
   exact bE (si aY) (eE hm)
   refine qad (cs rfl rfl hm ?_ ?_) <;> intro bP hm
   refine qah rfl ?_
   refine fa rfl (ro (ld r0 rfl rfl (qam ?_)))
   obtain ⟨bD, bc, hm⟩ := bnd hm
   refine cS bc (fun a8 bc => ?_) fun a8 bc => ?_
   refine fa rfl (ct a8 (ro (ld r0 rfl rfl (ct a8 ?_))))
   refine cb bc fun bL bp bc => cgx (J6 ih bp :) ?_
   refine ct a8 ?_
   exact bE (si bc) (eE hm)
   refine cf a8 (cf a8 (cf a8 ?_))
   exact bE (si bc) (eE hm)
   refine qad (cs rfl rfl hm ?_ ?_) <;> intro bz hm
   refine qah rfl ?_
   refine fa rfl (ro (ld r0 rfl rfl ?_))
   refine cb hm fun bF bo hm => cg0 (Je8 bo :) ?_
   obtain ⟨bK, bd, hm⟩ := bnd hm
   refine cS bd (fun a6 bd => ?_) fun a6 bd => ?_
   refine fa rfl (ct a6 (ro (ld r0 rfl rfl (ct a6 ?_))))
   refine cb bd fun bJ bu bd => cgx (J6 ih bu :) ?_
   refine ct a6 ?_
   exact bE (si bd) (eE hm)
   refine cf a6 (cf a6 (cf a6 ?_))
   exact bE (si bd) (eE hm)
   refine qad (cs rfl rfl hm ?_ ?_) <;> intro bI hm
   refine qah rfl ?_
   refine fa rfl (ro (ld r0 rfl rfl ?_))
   refine cb hm fun bM bm hm => cg0 (JeL bm :) ?_
   refine qag ?_ ?_ <;> intro aX
   refine fa rfl (ct aX (ro (ld r0 rfl rfl (ct aX (ro (qaj rfl (ct aX (qad (ct aX ?_)))))))))
   exact bE (qbw (b := decide ((n'.Aa.length : Int) = 0)) aX) (eE hm)
   refine cf aX (cf aX (cf aX (cf aX ?_)))
   exact bE (((qa0 aX)).symm) (eE hm)
   refine qad (cs rfl rfl hm ?_ ?_) <;> intro bw hm
   refine qah rfl ?_
   refine fa rfl (ro (ld r0 rfl rfl ?_))
   refine cb hm fun bH bj hm => cg0 (Jc9 bj :) ?_
   refine qag ?_ ?_ <;> intro aV
   refine fa rfl (ct aV (ro (ld r0 rfl rfl (ct aV (ro (qaj rfl (ct aV (qad (ct aV ?_)))))))))
   exact bE (qbw (b := decide ((n'.Aa.length : Int) = 0)) aV) (eE hm)
   refine cf aV (cf aV (cf aV (cf aV ?_)))
   exact bE (((qa0 aV)).symm) (eE hm)
   refine qad (cs rfl rfl hm ?_ ?_) <;> intro bA hm
   refine qah rfl ?_
   refine fa rfl (ro (ld r0 rfl rfl (qam ?_)))
   refine qag ?_ ?_ <;> intro aZ
   refine ct aZ (ct aZ (ct aZ (cT (fa rfl (cT (ro (ld r0 rfl rfl (cT ?_))))))))
   refine ro (qaj rfl (cT (qad (cT ?_))))
   exact bE (qbw (b := decide ((n'.Aa.length : Int) = 0)) (qcj aZ)) (eE hm)
   refine fa rfl (cf aZ (ro (ld r0 rfl rfl (cf aZ (qam (cf aZ ?_))))))
   refine qag ?_ ?_ <;> intro aW
   refine fa rfl (ct aW (ro (ld r0 rfl rfl (ct aW (ro (qaj rfl (ct aW (qad (ct aW ?_)))))))))
   exact bE (qbw (b := decide ((n'.Aa.length : Int) = 0)) (qf0 aZ aW)) (eE hm)
   refine cf aW (cf aW (cf aW (cf aW ?_)))
   exact bE (((qa0 (qee aZ aW))).symm) (eE hm)
   refine qad (cs rfl rfl hm ?_ ?_) <;> intro bO hm
   refine qah rfl ?_
   refine fa rfl (ro (ld r0 rfl rfl ?_))
   refine cb hm fun bB bh hm => cg0 (JdW bh :) ?_
   refine qag ?_ ?_ <;> intro aU
   refine fa rfl (ct aU (ro (ld r0 rfl rfl (ct aU (ro (qaj rfl (ct aU (qad (ct aU ?_)))))))))
   exact bE (qbw (b := decide ((n'.Aa.length : Int) = 0)) aU) (eE hm)
   refine cf aU (cf aU (cf aU (cf aU ?_)))
   exact bE (((qa0 aU)).symm) (eE hm)
   refine qad (cs rfl rfl hm ?_ ?_) <;> intro bG hm
   refine qah rfl ?_
   refine fa rfl (ro (ld r0 rfl rfl ?_))
   refine cb hm fun bN br hm => cg0 (JdW br :) ?_
   obtain ⟨bt, ba, hm⟩ := bnd hm
   refine cS ba (fun aT ba => ?_) fun aT ba => ?_
   refine fa rfl (ct aT (ro (ld r0 rfl rfl (ct aT (fa rfl (ct aT (ro (ld r0 rfl rfl (ct aT ?_)))))))))
   refine ro (qaj rfl (ct aT ?_))
   refine cb ba fun bC bn ba => cgx (J6 ih bn :) ?_
   refine ct aT ?_
   exact bE (si ba) (eE hm)
   refine cf aT (cf aT (cf aT (cf aT (cf aT (cf aT ?_)))))
   exact bE (si ba) (eE hm)
   exact eE hm

def JcZ (ax : ((List Jb) → Option (Bool))) (n : Nat) (n' : Jb) : Option (Bool) :=
  (if (decide (n'.Ab = 12) && decide (n'.Ac = ([] : Str))) then (ax n'.Aa).bind fun aS =>
  some aS else some false).bind fun aT =>
  some aT
theorem Jeu {ax : ((List Jb) → Option (Bool))} (ihrec2_0 : ∀ {l : (List Jb)} {aa : Option Addr} {ab : Nat} {n0 : Nat} {K : Hp} {r : Bool} (hm : ax l = some r) (hX : LiC Jb.R K aa ab 4 l ∧ n0 = l.length), Fn Tryz.prog 90 [.slice aa n0 ab] K [] (fun v K' H' => v = .bool r ∧ H' = [])) {n : Nat} {n' : Jb} {aa : Option Addr} {ab : Nat} {K : Hp} {r : Bool}
    (hm : JcZ ax n n' = some r) (ae : LiC Jb.R K aa ab 4 n'.Aa) :
    Fn Tryz.prog 161 [.agg #[.int .i64 n'.Ab, str n'.Ac, .slice aa n'.Aa.length ab, .int .i64 n'.Ad]] K [] (fun v K' H' => v = .bool r ∧ H' = []) := by
 refine Fn.enter Tryz.func161 Tryz.call161 rfl fun F => ?_
 unfold JcZ at hm
 refine qaq ?_
 intro b1
 refine qah rfl ?_
 refine fa rfl (ro (ld r0 rfl rfl (qad ?_)))
 refine qag ?_ ?_ <;> intro aT
 refine fa rfl (ct aT (ro (ld r0 rfl rfl (ct aT (qam (ct aT ?_))))))
 obtain ⟨aV, aU, hm⟩ := bnd hm
 refine qag ?_ ?_ <;> intro aS
 replace aU := ift (qby aT aS) aU
 refine fa rfl (ct aS (ro (ld r0 rfl rfl (ct aS ?_))))
 refine cb aU fun aX aW aU => cgx (ihrec2_0 aW :) ?_
 refine ct aS ?_
 exact bE (si aU) (eE hm)
 replace aU := qa6 (qb8 aT aS) aU
 refine cf aS (cf aS (cf aS ?_))
 exact bE (si aU) (eE hm)
 refine cf aT (cf aT (cf aT ?_))
 obtain ⟨aV, aU, hm⟩ := bnd hm
 replace aU := qa6 (qa0 aT) aU
 refine cF (cF (cF (cF ?_)))
 exact bE (si aU) (eE hm)
