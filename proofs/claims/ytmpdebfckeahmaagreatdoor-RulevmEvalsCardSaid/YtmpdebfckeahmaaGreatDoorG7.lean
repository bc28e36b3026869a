/- Functions of the program: mirrors, and that a call returns what the mirror says. Printed by gen.py. -/
import Derived.Test.YtmpdebfckeahmaaGreatDoorG6
set_option linter.unusedVariables false
set_option linter.unusedSimpArgs false
open Go Go.SL Go.Proofs
noncomputable section
set_option maxRecDepth 1000000
set_option maxHeartbeats 8000000
def Jax (list : (List Jb)) (n : Nat) (Ar : Ju) (rec_ : ((List Jb) → (List Jz) → Jg → Ju → Option (Jg × Int))) : Nat → (List Jz) → Int → Str → Str → (List Jc) → (List Str) → (List Str) → Int → Int → Int → Bool → Bool → Option (Fl (Jg × Int) ((List Jz) × Int × Str × Str × (List Jc) × (List Str) × (List Str) × Int × Int × Int × Bool × Bool))
  | 0, _, _, _, _, _, _, _, _, _, _, _, _ => none
  | bu + 1, ac, bg, bd, al, a8, bf, ba, bc, a6, bb, aX, aV =>
    if (decide (bg < (list.length : Int)) && decide (a6 = 0)) then
    (ix list bg).bind fun aZ =>
    ((if (decide (aZ.Ab ≠ 12) && decide ((aZ.Aa.length : Int) > 0)) then
    (ix aZ.Aa 0).bind fun bt =>
    (Jco n bt ac Ar).bind fun bj =>
    some (bj.2, bj.1.As, bj.1.N, bj.1.S, bj.1.Is)
    else
    some (0, 0, 0, ([] : Str), false) : Option (Int × Int × Int × Str × Bool))).bind fun aS =>
    ((if decide (aS.1 ≠ 0) then
    some (Fl.ret ((⟨([] : Str), ([] : Str), [], [], [], 0, 0, 0, false, false⟩ : Jg), aS.1))
    else
    if decide (aZ.Ab = 3) then
    (chk (ac.length ≤ lim)).bind fun _ =>
    (chk (ac.length + [(⟨aZ.Ac, (⟨aS.2.1, aS.2.2.1, aS.2.2.2.1, aS.2.2.2.2⟩ : Jl)⟩ : Jz)].length ≤ lim)).bind fun _ =>
    some (Fl.go ((ac ++ [(⟨aZ.Ac, (⟨aS.2.1, aS.2.2.1, aS.2.2.2.1, aS.2.2.2.2⟩ : Jl)⟩ : Jz)]), aS.1, bd, al, a8, bf, ba, bc, a6, bb, aX, aV))
    else
    if (decide (aZ.Ab = 2) && aS.2.2.2.2) then
    (ix aZ.Aa 1).bind fun bw =>
    (rec_ bw.Aa ac (⟨bd, al, a8, bf, ba, bc, a6, bb, aX, aV⟩ : Jg) Ar).bind fun bh =>
    some (Fl.go (ac, bh.2, bh.1.Ae, bh.1.Af, bh.1.Ag, bh.1.Vary, bh.1.Ah, bh.1.TTL, bh.1.Ai, bh.1.Aj, bh.1.Ak, bh.1.Al))
    else
    (if (decide (aZ.Ab = 2) && decide ((aZ.Aa.length : Int) > 2)) then (ix aZ.Aa 2).bind fun bp =>
    some (decide (bp.Ab = 12)) else some false).bind fun bo =>
    if bo then
    (ix aZ.Aa 2).bind fun br =>
    (rec_ br.Aa ac (⟨bd, al, a8, bf, ba, bc, a6, bb, aX, aV⟩ : Jg) Ar).bind fun aU =>
    some (Fl.go (ac, aU.2, aU.1.Ae, aU.1.Af, aU.1.Ag, aU.1.Vary, aU.1.Ah, aU.1.TTL, aU.1.Ai, aU.1.Aj, aU.1.Ak, aU.1.Al))
    else
    if (decide (aZ.Ab = 2) && decide ((aZ.Aa.length : Int) > 2)) then
    (chk (0 ≤ (2 : Int) ∧ (2 : Int) ≤ (aZ.Aa.length : Int) ∧ (aZ.Aa.length : Int) ≤ (aZ.Aa.length : Int))).bind fun _ =>
    (rec_ (subL aZ.Aa (2 : Int) (aZ.Aa.length : Int)) ac (⟨bd, al, a8, bf, ba, bc, a6, bb, aX, aV⟩ : Jg) Ar).bind fun aY =>
    some (Fl.go (ac, aY.2, aY.1.Ae, aY.1.Af, aY.1.Ag, aY.1.Vary, aY.1.Ah, aY.1.TTL, aY.1.Ai, aY.1.Aj, aY.1.Ak, aY.1.Al))
    else
    if decide (aZ.Ab ≠ 2) then
    (Jdy aZ).bind fun bn =>
    (Jef n (⟨bd, al, a8, bf, ba, bc, a6, bb, aX, aV⟩ : Jg) bn (⟨aS.2.1, aS.2.2.1, aS.2.2.2.1, aS.2.2.2.2⟩ : Jl)).bind fun aW =>
    some (Fl.go (ac, aW.2, aW.1.Ae, aW.1.Af, aW.1.Ag, aW.1.Vary, aW.1.Ah, aW.1.TTL, aW.1.Ai, aW.1.Aj, aW.1.Ak, aW.1.Al))
    else
    some (Fl.go (ac, aS.1, bd, al, a8, bf, ba, bc, a6, bb, aX, aV)) : Option (Fl (Jg × Int) ((List Jz) × Int × Str × Str × (List Jc) × (List Str) × (List Str) × Int × Int × Int × Bool × Bool)))).bind fun bm => bm.el (fun r => some (Fl.ret r)) fun aT =>
    if decide (aT.2.1 ≠ 0) then
    some (Fl.ret ((⟨([] : Str), ([] : Str), [], [], [], 0, 0, 0, false, false⟩ : Jg), aT.2.1))
    else
    (chk (InI (bg + 1))).bind fun _ =>
    Jax list n Ar rec_ bu aT.1 (bg + 1) aT.2.2.1 aT.2.2.2.1 aT.2.2.2.2.1 aT.2.2.2.2.2.1 aT.2.2.2.2.2.2.1 aT.2.2.2.2.2.2.2.1 aT.2.2.2.2.2.2.2.2.1 aT.2.2.2.2.2.2.2.2.2.1 aT.2.2.2.2.2.2.2.2.2.2.1 aT.2.2.2.2.2.2.2.2.2.2.2
    else
    some (Fl.go (ac, bg, bd, al, a8, bf, ba, bc, a6, bb, aX, aV))
def Jal : Nat → (List Jb) → (List Jz) → Jg → Ju → Option (Jg × Int)
  | 0, _, _, _, _ => none
  | n + 1, list, env, r', Ar =>
    (Jax list n Ar (Jal n) n env 0 r'.Ae r'.Af r'.Ag r'.Vary r'.Ah r'.TTL r'.Ai r'.Aj r'.Ak r'.Al).bind fun s0 => s0.el some fun t0 =>
    some ((⟨t0.2.2.1, t0.2.2.2.1, t0.2.2.2.2.1, t0.2.2.2.2.2.1, t0.2.2.2.2.2.2.1, t0.2.2.2.2.2.2.2.1, t0.2.2.2.2.2.2.2.2.1, t0.2.2.2.2.2.2.2.2.2.1, t0.2.2.2.2.2.2.2.2.2.2.1, t0.2.2.2.2.2.2.2.2.2.2.2⟩ : Jg), 0)
theorem Jf1 : ∀ {n : Nat} {list : (List Jb)} {env : (List Jz)} {r' : Jg} {Ar : Ju} {aa : Option Addr} {ab : Nat} {n0 : Nat} {ag : Option Addr} {ah : Nat} {n1 : Nat} {ao : Option Addr} {aq : Nat} {aB : Option Addr} {aC : Nat} {aD : Option Addr} {aE : Nat} {aF : Option Addr} {aG : Nat} {K : Hp} {r : Jg × Int}
    (hm : Jal n list env r' Ar = some r) (hX : LiC Jb.R K aa ab 4 list ∧ n0 = list.length ∧ RdC Jz.enc K ag ah 5 env ∧ n1 = env.length ∧ RdC Jc.enc K ao aq 2 r'.Ag ∧ RdC eS K aB aC 1 r'.Vary ∧ RdC eS K aD aE 1 r'.Ah ∧ RdC Jc.enc K aF aG 2 Ar.Ao),
    Fn Tryz.prog 55 [.slice aa n0 ab, .slice ag n1 ah, .agg #[str r'.Ae, str r'.Af, .slice ao r'.Ag.length aq, .slice aB r'.Vary.length aC, .slice aD r'.Ah.length aE, .int .i64 r'.TTL, .int .i64 r'.Ai, .int .i64 r'.Aj, .bool r'.Ak, .bool r'.Al], .agg #[str Ar.Am, str Ar.An, str Ar.Ae, str Ar.Af, .slice aF Ar.Ao.length aG]] K [] (fun v K' H' => ∃ ar_0 : Option Addr, ∃ cr_0 : Nat, ∃ ar_1 : Option Addr, ∃ cr_1 : Nat, ∃ ar_2 : Option Addr, ∃ cr_2 : Nat, v = .tuple #[.agg #[str r.1.Ae, str r.1.Af, .slice ar_0 r.1.Ag.length cr_0, .slice ar_1 r.1.Vary.length cr_1, .slice ar_2 r.1.Ah.length cr_2, .int .i64 r.1.TTL, .int .i64 r.1.Ai, .int .i64 r.1.Aj, .bool r.1.Ak, .bool r.1.Al], .int .i64 r.2] ∧ RdC Jc.enc K' ar_0 cr_0 2 r.1.Ag ∧ RdC eS K' ar_1 cr_1 1 r.1.Vary ∧ RdC eS K' ar_2 cr_2 1 r.1.Ah ∧ H' = []) := by
 intro n
 induction n with
 | zero =>
   intro list env r' Ar aa ab n0 ag ah n1 ao aq aB aC aD aE aF aG K r hm hX
   rw [Jal.eq_1] at hm; cases hm
 | succ n ih =>
   intro list env r' Ar aa ab n0 ag ah n1 ao aq aB aC aD aE aF aG K r hm hX
   obtain ⟨ae, fk, af, fD, av, dP, em, dG⟩ := hX
   subst fk
   subst fD
   refine Fn.enter Tryz.func55 Tryz.call55 rfl fun F => ?_
   rw [Jal.eq_2] at hm
   refine qaq ?_
   intro b6
   refine qaq ?_
   intro b7
   refine qal rfl fun b8 => ?_
   obtain ⟨s0, bo, hm⟩ := bnd hm
   refine lC (σ := ((List Jz) × Int × Str × Str × (List Jc) × (List Str) × (List Str) × Int × Int × Int × Bool × Bool) × Option Addr × Nat × Option Addr × Nat × Option Addr × Nat × Option Addr × Nat) ([1] ++ rg 9 144) [0, 1, 3] (fun _ => []) (fun (t0, bw, bC, bA, bB, br, bu, bz, bt) => [(1, .slice bw t0.1.length bC), (10, .int .i64 t0.2.1)]) (fun (t0, bw, bC, bA, bB, br, bu, bz, bt) => [Cells b6 44 [str t0.2.2.1, str t0.2.2.2.1, .slice bA t0.2.2.2.2.1.length bB, .slice br t0.2.2.2.2.2.1.length bu, .slice bz t0.2.2.2.2.2.2.1.length bt, .int .i64 t0.2.2.2.2.2.2.2.1, .int .i64 t0.2.2.2.2.2.2.2.2.1, .int .i64 t0.2.2.2.2.2.2.2.2.2.1, .bool t0.2.2.2.2.2.2.2.2.2.2.1, .bool t0.2.2.2.2.2.2.2.2.2.2.2]]) (fun zz K1 => match zz with | (t0, bw, bC, bA, bB, br, bu, bz, bt) => RdC Jz.enc K1 bw bC 5 t0.1 ∧ RdC Jc.enc K1 bA bB 2 t0.2.2.2.2.1 ∧ RdC eS K1 br bu 1 t0.2.2.2.2.2.1 ∧ RdC eS K1 bz bt 1 t0.2.2.2.2.2.2.1) (fun i0 (t0, bw, bC, bA, bB, br, bu, bz, bt) => Jax list n Ar (Jal n) i0 t0.1 t0.2.1 t0.2.2.1 t0.2.2.2.1 t0.2.2.2.2.1 t0.2.2.2.2.2.1 t0.2.2.2.2.2.2.1 t0.2.2.2.2.2.2.2.1 t0.2.2.2.2.2.2.2.2.1 t0.2.2.2.2.2.2.2.2.2.1 t0.2.2.2.2.2.2.2.2.2.2.1 t0.2.2.2.2.2.2.2.2.2.2.2 = some s0) (fun (t0, bw, bC, bA, bB, br, bu, bz, bt) => s0 = Fl.go t0) (fun i0 => i0) n ((_, _, _, _, _, _, _, _, _, _, _, _), _, _, _, _, _, _, _, _) bo (And.intro qe (And.intro ?_ ?_))
   clear bo
   rintro i0 ⟨⟨ac, bN, eX, al, fe, fg, ff, fy, bJ, eV, dB, dz⟩, d7, dy, dW, d8, ei, dQ, dH, ej⟩ fM dS ⟨bM, dE, dI, dF⟩ bo j0
   dsimp only at bo ⊢
   cases i0 with
   | zero => rw [Jax.eq_1] at bo; cases bo
   | succ i0 =>
    rw [Jax.eq_2] at bo
    refine jR (σ := Unit) (rg 14 9) (fun _ => [(22, .bool (decide (bN < (list.length : Int)) && decide (bJ = 0)))]) (fun eW => True) ?_ ?_
    refine qah rfl ?_
    refine ro (qaj rfl ?_)
    refine qag ?_ ?_ <;> intro bn
    refine fa rfl (ct bn (ro (ld r0 rfl rfl (ct bn (qad (ct bn ?_))))))
    exact eMt () ⟨bq (qbw (b := decide (bJ = 0)) bn), trivial⟩
    refine cf bn (cf bn (cf bn ?_))
    exact eMt () ⟨bq (((qa0 bn)).symm), trivial⟩
    rintro _ _ e5
    refine cs rfl rfl bo ?_ ?_ <;> intro fP bo
    refine qai rfl ?_
    obtain ⟨bD, eg, dv, bo⟩ := ixb bo
    refine RStep.ofN (qac rfl rfl (qcf (LiC.mono Jb.R_ok dS ae).rd dv) eg (qas rfl eg dv) ?_)
    obtain ⟨fA, fq, cP, dj, dl⟩ := LiR.get (LiC.mono Jb.R_ok dS ae).rd dv
    obtain ⟨dO, ef, rfl, aX⟩ := Jb.out dl
    refine ro (qap ((bN).toNat) _ cP rfl dj rfl ?_)
    refine qal rfl fun fT => ?_
    refine qaa r0 rfl ⟨rfl, rfl, (nl rfl), ?_⟩
    refine qak rfl rfl ?_
    refine qal rfl fun fC => ?_
    refine qaa r0 rfl ⟨rfl, rfl, (nl rfl), ?_⟩
    refine jR (σ := Unit) (rg 30 9) (fun _ => [(38, .bool (decide (bD.Ab ≠ 12) && decide ((bD.Aa.length : Int) > 0)))]) (fun eC => True) ?_ ?_
    refine qah rfl ?_
    refine fa rfl (ro (ld r1 rfl rfl (qa2 ?_)))
    refine qag ?_ ?_ <;> intro aY
    refine fa rfl (ct aY (ro (ld r1 rfl rfl (ct aY (ro (qaj rfl (ct aY (ct aY ?_))))))))
    exact eMt () ⟨bq (qbw (b := decide ((bD.Aa.length : Int) > 0)) aY), trivial⟩
    refine cf aY (cf aY (cf aY (cf aY ?_)))
    exact eMt () ⟨bq (((qa0 aY)).symm), trivial⟩
    rintro _ _ eH
    obtain ⟨cj, bm, bo⟩ := bnd bo
    refine jD (σ := (Int × Int × Int × Str × Bool)) ([13] ++ rg 39 10) [1, 2, 3, 4, 5] (fun aZ => [(13, .int .i64 aZ.1)]) (fun aZ => [Cells fC 56 [.int .i64 aZ.2.1, .int .i64 aZ.2.2.1, str aZ.2.2.2.1, .bool aZ.2.2.2.2]]) (fun aZ => aZ = cj) (And.intro ?_ ?_)
    refine cs rfl rfl bm ?_ ?_ <;> intro fV bm
    refine qau ⟨⟨[], false⟩, _, [(_, _), (_, _)], []⟩ (by kernel_rfl) ⟨Hp.Le.refl _, (sc [1,3] rfl), ci0⟩ ?_
    refine fa rfl (qan m0 rfl rfl ?_)
    obtain ⟨fJ, ey, cz, bm⟩ := ixb bm
    refine qac rfl rfl (qcf aX.rd cz) ey (qas rfl ey cz) ?_
    obtain ⟨fB, fh, db, cm, cK⟩ := LiR.get aX.rd cz
    obtain ⟨ep, eh, rfl, dx⟩ := Jb.out cK
    refine qcw ((0 : Int).toNat) _ db rfl cm rfl (qba m1 rfl (nl rfl) ?_)
    refine cb bm fun gc fu bm => cgx (Jgd fu :) ?_
    refine qk (sc [1,3] rfl) ?_
    refine qaa r0 rfl ⟨rfl, rfl, (nl rfl), ?_⟩
    refine qk (sc [1,3] rfl) ?_
    exact eM bm _
    exact eM bm _
    rintro aZ rfl fj
    obtain ⟨cU, aS, bo⟩ := bnd bo
    refine jC (σ := ((List Jz) × Int × Str × Str × (List Jc) × (List Str) × (List Str) × Int × Int × Int × Bool × Bool) × Option Addr × Nat × Option Addr × Nat × Option Addr × Nat × Option Addr × Nat) ([1,9,13] ++ rg 49 100) [0, 1, 3, 4, 5] (fun (aW, a6, bg, a8, bf, bb, bc, bd, ba) => [(1, .slice a6 aW.1.length bg), (13, .int .i64 aW.2.1)]) (fun (aW, a6, bg, a8, bf, bb, bc, bd, ba) => [Cells b6 44 [str aW.2.2.1, str aW.2.2.2.1, .slice a8 aW.2.2.2.2.1.length bf, .slice bb aW.2.2.2.2.2.1.length bc, .slice bd aW.2.2.2.2.2.2.1.length ba, .int .i64 aW.2.2.2.2.2.2.2.1, .int .i64 aW.2.2.2.2.2.2.2.2.1, .int .i64 aW.2.2.2.2.2.2.2.2.2.1, .bool aW.2.2.2.2.2.2.2.2.2.2.1, .bool aW.2.2.2.2.2.2.2.2.2.2.2]]) (fun zz K1 => match zz with | (aW, a6, bg, a8, bf, bb, bc, bd, ba) => RdC Jz.enc K1 a6 bg 5 aW.1 ∧ RdC Jc.enc K1 a8 bf 2 aW.2.2.2.2.1 ∧ RdC eS K1 bb bc 1 aW.2.2.2.2.2.1 ∧ RdC eS K1 bd ba 1 aW.2.2.2.2.2.2.1 ∧ cU = Fl.go aW) (And.intro ?_ ?_)
    refine qai rfl ?_
    refine qa2 (cs rfl rfl aS ?_ ?_) <;> intro gb aS
    refine qak rfl rfl ?_
    refine qaa r3 rfl ⟨rfl, rfl, (nl rfl), ?_⟩
    exact ro (qae r0 rfl (nl rfl) (eE (er (er aS bo :) hm)))
    refine fa rfl (ro (ld r1 rfl rfl (qad ?_)))
    refine cs rfl rfl aS ?_ ?_ <;> intro fO aS
    refine qb9 ⟨⟨[], false⟩, _, [(_, _), (_, _)], []⟩ 10 rfl (by kernel_rfl) ⟨Hp.Le.refl _, (sc [1,0] rfl), ci0⟩ ?_
    refine bsA (len := 0) (cl := []) qlo rfl rfl ?_ fun f9 => ?_
    · conv => whnf
      first | done | rfl
    intro ga
    obtain ⟨eK, aS⟩ := qay aS
    refine ape (enc := Jz.enc) r0 qlo (qom rfl bM.rd rfl) eK ?_
    intro fW fQ fL
    refine ⟨⟨lr, (sc [2,1] rfl), ci0⟩, ?_⟩
    refine ⟨_, .cons r7 .nil, ⟨lr, (sc [2,1] rfl), ci0⟩, ?_⟩
    refine fa rfl (qan m0 rfl rfl (qba m1 rfl (nl rfl) (qak rfl rfl (cT (cT ?_)))))
    refine bsA (len := 1) (cl := [str bD.Ac, .int .i64 aZ.2.1, .int .i64 aZ.2.2.1, str aZ.2.2.2.1, .bool aZ.2.2.2.2]) qlo rfl rfl ?_ fun gf => ?_
    · conv => whnf
      refine cT ?_
      first | done | rfl
    intro fK
    obtain ⟨eZ, aS⟩ := qay aS
    refine apE rfl r1 qlo (qol rfl r0 rfl rfl (fun _ _ => rfl) rfl) eZ ?_
    intro f8 fX ge
    refine ⟨⟨lr, (sc [3,2] rfl), ci0⟩, ?_⟩
    refine ⟨_, .cons r8 .nil, ⟨lr, (sc [3,2] rfl), ci0⟩, ?_⟩
    refine fMe r0 fun ca cd bZ => ?_
    exact eM aS (_, _, _, _, _, _, _, _, _)
    refine jR (σ := Unit) (rg 67 8) (fun _ => [(67, .bool (decide (bD.Ab = 2) && aZ.2.2.2.2))]) (fun e7 => True) ?_ ?_
    refine qah rfl ?_
    refine fa rfl (ro (ld r1 rfl rfl (qad ?_)))
    refine qag ?_ ?_ <;> intro bj
    refine fa rfl (ct bj (ro (ld r0 rfl rfl (ct bj ?_))))
    exact eMt () ⟨bq (qbw (b := aZ.2.2.2.2) bj), trivial⟩
    refine cf bj (cf bj ?_)
    exact eMt () ⟨bq (((qa0 bj)).symm), trivial⟩
    rintro _ _ eO
    refine cs rfl rfl aS ?_ ?_ <;> intro fZ aS
    refine qau ⟨⟨[], true⟩, _, [], []⟩ (by kernel_rfl) ⟨Hp.Le.refl _, (pf rfl), ci0⟩ ?_
    refine fa rfl ?_
    refine ld r1 rfl rfl ?_
    obtain ⟨fN, dC, bY, aS⟩ := ixb aS
    refine qac rfl rfl (qcf aX.rd bY) dC (qas rfl dC bY) (qaw rfl (qcf aX.rd bY) ?_)
    obtain ⟨fp, eQ, dw, cW, cA⟩ := LiR.get aX.rd bY
    obtain ⟨dU, eu, rfl, dV⟩ := Jb.out cA
    refine qbd ((1 : Int).toNat) 2 _ _ dw rfl cW rfl rfl ?_
    refine qae r2 rfl (nl rfl) ?_
    refine qae r4 rfl (nl rfl) ?_
    refine cb aS fun fR fm aS => cfx (ih fm :) ?_
    rintro _ fY _ fU ⟨dM, d4, dK, dD, dY, dT, rfl, dN, d6, ek, rfl⟩
    refine qk (pf rfl) ?_
    refine qaa r2 rfl ⟨rfl, rfl, (nl rfl), ?_⟩
    refine qk (pf rfl) ?_
    exact eM aS (_, _, _, _, _, _, _, _, _)
    obtain ⟨cD, bh, aS⟩ := bnd aS
    refine jR (σ := Bool) (rg 87 18) (fun bG => [(87, .bool bG)]) (fun bG => bG = cD) ?_ ?_
    replace bh := bsm bh
    refine qah rfl ?_
    refine fa rfl (ro (ld r1 rfl rfl (qad ?_)))
    refine qag ?_ ?_ <;> intro aV
    refine fa rfl (ct aV (ro (ld r1 rfl rfl (ct aV (ro (qaj rfl (ct aV (ct aV ?_))))))))
    obtain ⟨dh, bp, bh⟩ := bnd bh
    refine qag ?_ ?_ <;> intro aT
    replace bp := ift (qby aV aT) bp
    refine fa rfl (ct aT (ro (ld r1 rfl rfl (ct aT ?_))))
    obtain ⟨e8, bO, bF, bp⟩ := ixb bp
    refine RStep.ofN (qac rfl rfl (qcf aX.rd bF) bO (qas rfl bO bF) (ct aT (qaw rfl (qcf aX.rd bF) (ct aT ?_))))
    obtain ⟨dA, d9, bL, bK, bS⟩ := LiR.get aX.rd bF
    obtain ⟨dt, cR, rfl, dk⟩ := Jb.out bS
    refine ro (qbd ((2 : Int).toNat) 0 _ _ bL rfl bK rfl rfl (ct aT (qad (ct aT ?_))))
    exact eMq bh _ ⟨bq (si bp), trivial⟩
    replace bp := qa6 (qb8 aV aT) bp
    refine cf aT (cf aT (cf aT (cf aT (cf aT (cf aT ?_)))))
    exact eMq bh _ ⟨bq (si bp), trivial⟩
    refine cf aV (cf aV (cf aV (cf aV ?_)))
    obtain ⟨dh, bp, bh⟩ := bnd bh
    replace bp := qa6 (qa0 aV) bp
    refine cF (cF (cF (cF (cF (cF (cF ?_))))))
    exact eMq bh _ ⟨bq (si bp), trivial⟩
    rintro bG rfl eY
    refine cs rfl rfl aS ?_ ?_ <;> intro gh aS
    refine qau ⟨⟨[], true⟩, _, [], []⟩ (by kernel_rfl) ⟨Hp.Le.refl _, (pf rfl), ci0⟩ ?_
    refine fa rfl ?_
    refine ld r1 rfl rfl ?_
    obtain ⟨fH, bR, bH, aS⟩ := ixb aS
    refine qac rfl rfl (qcf aX.rd bH) bR (qas rfl bR bH) (qaw rfl (qcf aX.rd bH) ?_)
    obtain ⟨dJ, eo, bT, bQ, bI⟩ := LiR.get aX.rd bH
    obtain ⟨df, cL, rfl, da⟩ := Jb.out bI
    refine qbd ((2 : Int).toNat) 2 _ _ bT rfl bQ rfl rfl ?_
    refine qae r2 rfl (nl rfl) ?_
    refine qae r4 rfl (nl rfl) ?_
    refine cb aS fun eT cB aS => cfx (ih cB :) ?_
    rintro _ eJ _ fG ⟨cu, cr, cH, de, c8, cG, rfl, di, cQ, dq, rfl⟩
    refine qk (pf rfl) ?_
    refine qaa r2 rfl ⟨rfl, rfl, (nl rfl), ?_⟩
    refine qk (pf rfl) ?_
    exact eM aS (_, _, _, _, _, _, _, _, _)
    refine jR (σ := Unit) (rg 117 10) (fun _ => [(117, .bool (decide (bD.Ab = 2) && decide ((bD.Aa.length : Int) > 2)))]) (fun fc => True) ?_ ?_
    refine qah rfl ?_
    refine fa rfl (ro (ld r1 rfl rfl (qad ?_)))
    refine qag ?_ ?_ <;> intro aU
    refine fa rfl (ct aU (ro (ld r1 rfl rfl (ct aU (ro (qaj rfl (ct aU (ct aU ?_))))))))
    exact eMt () ⟨bq (qbw (b := decide ((bD.Aa.length : Int) > 2)) aU), trivial⟩
    refine cf aU (cf aU (cf aU (cf aU ?_)))
    exact eMt () ⟨bq (((qa0 aU)).symm), trivial⟩
    rintro _ _ eF
    refine cs rfl rfl aS ?_ ?_ <;> intro eL aS
    refine qau ⟨⟨[], true⟩, _, [], []⟩ (by kernel_rfl) ⟨Hp.Le.refl _, (pf rfl), ci0⟩ ?_
    refine fa rfl ?_
    refine ld r1 rfl rfl ?_
    obtain ⟨bP, aS⟩ := qay aS
    have d5 := aX.subC bP
    refine qgt (l := bD.Aa) (lo := (some 2)) (hi := none) (lo' := (2 : Int)) (hi' := (bD.Aa.length : Int)) rfl rfl rfl rfl rfl aX.le bP ?_
    refine qae r2 rfl (nl rfl) ?_
    refine qae r4 rfl (nl rfl) ?_
    refine cb aS fun fv cC aS => cfx (ih cC :) ?_
    rintro _ fw _ eD ⟨cq, cI, cV, cw, dp, cO, rfl, cX, dc, cZ, rfl⟩
    refine qk (pf rfl) ?_
    refine qaa r2 rfl ⟨rfl, rfl, (nl rfl), ?_⟩
    refine qk (pf rfl) ?_
    exact eM aS (_, _, _, _, _, _, _, _, _)
    refine fa rfl (ro (ld r1 rfl rfl (qa2 ?_)))
    refine cs rfl rfl aS ?_ ?_ <;> intro eP aS
    refine qau ⟨⟨[95], true⟩, _, [], []⟩ (by kernel_rfl) ⟨Hp.Le.refl _, (pf rfl), ci0⟩ ?_
    refine qae r2 rfl (nl rfl) ?_
    refine qae r1 rfl (nl rfl) ?_
    refine cb aS fun eA du aS => cqx (Jge du :) ?_
    refine qae r0 rfl (nl rfl) ?_
    refine cb aS fun fl cY aS => cfx (Jgu cY :) ?_
    rintro _ fb _ e6 ⟨dm, cn, dg, cM, cE, co, rfl, cp, ce, cJ, rfl⟩
    refine qk (pf rfl) ?_
    refine qaa r2 rfl ⟨rfl, rfl, (nl rfl), ?_⟩
    refine qk (pf rfl) ?_
    exact eM aS (_, _, _, _, _, _, _, _, _)
    exact eM aS (_, _, _, _, _, _, _, _, _)
    rintro ⟨aW, a6, bg, a8, bf, bb, bc, bd, ba⟩ dL ez ⟨bW, bX, bV, bU, rfl⟩ eG
    replace bo := elg bo
    refine qa2 (cs rfl rfl bo ?_ ?_) <;> intro fo bo
    refine qak rfl rfl ?_
    refine qaa r3 rfl ⟨rfl, rfl, (nl rfl), ?_⟩
    exact ro (qae r0 rfl (nl rfl) (eE (er bo hm)))
    refine ci bo fun bo => ?_
    exact eR bo (_, (_, _, _, _, _, _, _, _, _, _, _, _), _, _, _, _, _, _, _, _)
    refine cT ?_
    exact eM bo (_, _, _, _, _, _, _, _, _)
   rintro ⟨t0, bw, bC, bA, bB, br, bu, bz, bt⟩ fS fI ⟨ee, dZ, dX, d3⟩ rfl j0
   replace hm := elg hm
   refine ro (qae r0 rfl (nl rfl) ?_)
   refine qaa r1 rfl ⟨rfl, rfl, (nl rfl), ?_⟩
   exact ro (qae r0 rfl (nl rfl) (eE hm))

def JdA (n : Nat) (program : Jb) (Ar : Ju) : Option (Jg × Int) :=
  (JdH Ar).bind fun x9 =>
  (Jal n program.Aa [] x9 Ar).bind fun aS =>
  some (aS.1, aS.2)
theorem Jgh {n : Nat} {program : Jb} {Ar : Ju} {aa : Option Addr} {ab : Nat} {ag : Option Addr} {ah : Nat} {K : Hp} {r : Jg × Int}
    (hm : JdA n program Ar = some r) (hX : LiC Jb.R K aa ab 4 program.Aa ∧ RdC Jc.enc K ag ah 2 Ar.Ao) :
    Fn Tryz.prog 25 [.agg #[.int .i64 program.Ab, str program.Ac, .slice aa program.Aa.length ab, .int .i64 program.Ad], .agg #[str Ar.Am, str Ar.An, str Ar.Ae, str Ar.Af, .slice ag Ar.Ao.length ah]] K [] (fun v K' H' => ∃ ar_0 : Option Addr, ∃ cr_0 : Nat, ∃ ar_1 : Option Addr, ∃ cr_1 : Nat, ∃ ar_2 : Option Addr, ∃ cr_2 : Nat, v = .tuple #[.agg #[str r.1.Ae, str r.1.Af, .slice ar_0 r.1.Ag.length cr_0, .slice ar_1 r.1.Vary.length cr_1, .slice ar_2 r.1.Ah.length cr_2, .int .i64 r.1.TTL, .int .i64 r.1.Ai, .int .i64 r.1.Aj, .bool r.1.Ak, .bool r.1.Al], .int .i64 r.2] ∧ RdC Jc.enc K' ar_0 cr_0 2 r.1.Ag ∧ RdC eS K' ar_1 cr_1 1 r.1.Vary ∧ RdC eS K' ar_2 cr_2 1 r.1.Ah ∧ H' = []) := by
 obtain ⟨ae, af⟩ := hX
 refine Fn.enter Tryz.func25 Tryz.call25 rfl fun F => ?_
 unfold JdA at hm
 refine qaq ?_
 intro b2
 refine qaq ?_
 intro b3
 refine qal rfl fun b4 => ?_
 refine qau ⟨⟨[], false⟩, _, [(_, _), (_, _)], []⟩ (by kernel_rfl) ⟨Hp.Le.refl _, (sc [2,1] rfl), ci0⟩ ?_
 refine fa rfl (qan m0 rfl rfl (qba m1 rfl (nl rfl) ?_))
 refine cb hm fun x9 q9 hm => ckx (JfV q9 :) ?_
 rintro _ _ _ ⟨bz, bt, bo, bn, bp, br, rfl, bB, bA, bu, rfl⟩
 refine qk (sc [5,4] rfl) ?_
 refine qba m1 rfl (nl rfl) ?_
 refine fF Tryz.call55 r0 fun aX aT a6 => ?_
 refine fF Tryz.call55 r0 fun aY aS aV => ?_
 refine fF Tryz.call55 r0 fun aW aU aZ => ?_
 refine cb hm fun bC bw hm => cfx (Jf1 bw :) ?_
 rintro _ bD _ ba ⟨a8, bc, bg, bf, bd, bb, rfl, bj, bm, bh, rfl⟩
 refine ⟨⟨(((aT.trans aS).trans aU).trans ba), (sc [2,1] rfl), ci0⟩, ?_⟩
 refine qaa r0 rfl ⟨rfl, rfl, (nl rfl), ?_⟩
 refine ⟨⟨(((aT.trans aS).trans aU).trans ba), (sc [2,1] rfl), ci0⟩, ?_⟩
 exact ro (qae r0 rfl (nl rfl) (eE hm))

def JcI (n : Nat) (n' : Jb) (Ar : Ju) : Option (Bool) :=
  (((JaB n).bind fun aW =>
  (if (!aW) then some true else (Jcr n n').bind fun bc =>
  some bc).bind fun bd =>
  (if bd then some true else (JcF n Ar).bind fun bf =>
  some (!bf)).bind fun aX =>
  some aX) : Option (Bool)).bind fun aT =>
  if aT then
  (JaB n).bind fun bb =>
  some bb
  else
  (JcG n n').bind fun bg =>
  (Ja2 Ar).bind fun a8 =>
  (JbB n bg a8).bind fun aS =>
  (Jcy n n').bind fun aV =>
  if decide (aV.Code ≠ 0) then
  (Jdb aS.2).bind fun aY =>
  (if decide (aY = aV.Code) then (Jb6 aS.1 (⟨([] : Str), ([] : Str), [], [], [], 0, 0, 0, false, false⟩ : Jg)).bind fun bj =>
  some bj else some false).bind fun ba =>
  some ba
  else
  (JdA n n' Ar).bind fun aU =>
  (Jdb aS.2).bind fun aZ =>
  (if decide (aZ = aU.2) then (Jb6 aS.1 aU.1).bind fun a6 =>
  some a6 else some false).bind fun bh =>
  some bh
theorem JeD {n : Nat} {n' : Jb} {Ar : Ju} {aa : Option Addr} {ab : Nat} {ag : Option Addr} {ah : Nat} {K : Hp} {r : Bool}
    (hm : JcI n n' Ar = some r) (hX : LiC Jb.R K aa ab 4 n'.Aa ∧ RdC Jc.enc K ag ah 2 Ar.Ao ∧ GG K) :
    Fn Tryz.prog 5 [.agg #[.int .i64 n'.Ab, str n'.Ac, .slice aa n'.Aa.length ab, .int .i64 n'.Ad], .agg #[str Ar.Am, str Ar.An, str Ar.Ae, str Ar.Af, .slice ag Ar.Ao.length ah]] K [] (fun v K' H' => v = .bool r ∧ H' = []) := by
 obtain ⟨ae, af, hG⟩ := hX
 refine Fn.enter Tryz.func5 Tryz.call5 rfl fun F => ?_
 unfold JcI at hm
 refine qaq ?_
 intro b2
 refine qaq ?_
 intro b3
 obtain ⟨bK, aS, hm⟩ := bnd hm
 refine jR (σ := Bool) (rg 10 11) (fun bb => [(20, .bool bb)]) (fun bb => bb = bK) ?_ ?_
 refine qah rfl ?_
 refine cb aS fun dk cL aS => cgx (JeK cL :) ?_
 refine qa1 ?_
 obtain ⟨cP, bd, aS⟩ := bnd aS
 refine cS bd (fun aY bd => ?_) fun aY bd => ?_
 refine ct aY (ct aY ?_)
 obtain ⟨cB, aZ, aS⟩ := bnd aS
 replace aZ := ift (si bd).symm aZ
 refine cT (cT (cT (cT ?_)))
 exact eMq aS _ ⟨bq (si aZ), trivial⟩
 refine ro (qae r1 rfl (nl rfl) (cf aY ?_))
 refine cb bd fun dm cw bd => cgx (JfL cw :) ?_
 refine cf aY ?_
 obtain ⟨cB, aZ, aS⟩ := bnd aS
 refine qag ?_ ?_ <;> intro aV
 replace aZ := ift ((si bd).symm.trans aV) aZ
 refine ct aV (ct aV (ct aV ?_))
 exact eMq aS _ ⟨bq (si aZ), trivial⟩
 replace aZ := qa6 ((si bd).symm.trans aV) aZ
 refine ro (qae r0 rfl (nl rfl) (cf aV ?_))
 refine cb aZ fun di cE aZ => cgx (Jf7 cE :) ?_
 refine cf aV (qa1 (cf aV ?_))
 exact eMq aS _ ⟨bq (si aZ), trivial⟩
 rintro bb rfl cJ
 refine cs rfl rfl hm ?_ ?_ <;> intro cX hm
 refine cb hm fun c8 cA hm => cgx (JeK cA :) ?_
 exact eE hm
 refine qb9 ⟨⟨[], false⟩, _, [(_, _), (_, _)], []⟩ 11 rfl (by kernel_rfl) ⟨Hp.Le.refl _, (sc [1,0] rfl), ci0⟩ ?_
 refine qba m0 rfl (nl rfl) ?_
 intro dq
 refine cb hm fun dg cu hm => cfx (Jgt cu :) ?_
 rintro _ da _ bc ⟨bN, bS, bT, rfl, bV, bG, rfl⟩
 refine ⟨⟨bc, (sc [2,1] rfl), ci0⟩, ?_⟩
 refine ⟨_, .cons r4 .nil, ⟨bc, (sc [2,1] rfl), ci0⟩, ?_⟩
 refine qba m1 rfl (nl rfl) ?_
 intro dc
 refine cb hm fun cU cG hm => ckx (JfM cG :) ?_
 rintro _ _ _ ⟨bZ, bU, rfl, co, rfl⟩
 refine ⟨⟨bc, (sc [3,2] rfl), ci0⟩, ?_⟩
 refine ⟨_, .cons r5 .nil, ⟨bc, (sc [3,2] rfl), ci0⟩, ?_⟩
 intro cV
 refine qy9 Tryz.call22 Ja.R_ok r1 bG fun bA aU bw => ?_
 refine fF Tryz.call22 r0 fun bm aT bC => ?_
 refine cb hm fun de cI hm => ckx (JfO cI :) ?_
 rintro _ _ _ ⟨bW, bX, cn, bO, bY, bL, rfl, cm, bQ, cp, rfl⟩
 refine ⟨⟨((bc.trans aU).trans aT), (sc [4,3] rfl), ci0⟩, ?_⟩
 refine ⟨_, .cons r6 .nil, ⟨((bc.trans aU).trans aT), (sc [4,3] rfl), ci0⟩, ?_⟩
 refine qfp rfl ?_
 intro b5
 intro db
 refine qaa r0 rfl ⟨rfl, rfl, (nl rfl), ?_⟩
 refine ⟨⟨((bc.trans aU).trans aT), (sc [5,4] rfl), ci0⟩, ?_⟩
 refine ⟨_, .cons r7 .nil, ⟨((bc.trans aU).trans aT), (sc [5,4] rfl), ci0⟩, ?_⟩
 refine ro (qae r5 rfl (nl rfl) ?_)
 refine cb hm fun cQ cC hm => cgx (JfU cC :) ?_
 refine qal rfl fun b7 => ?_
 refine qaa r0 rfl ⟨rfl, rfl, (nl rfl), ?_⟩
 refine fa rfl (ro (ld r0 rfl rfl (qa2 ?_)))
 refine cs rfl rfl hm ?_ ?_ <;> intro cZ hm
 refine qau ⟨⟨[], false⟩, _, [(_, _), (_, _)], []⟩ (by kernel_rfl) ⟨Hp.Le.refl _, (pf rfl), ci0⟩ ?_
 refine cb hm fun df cK hm => cg0 (JfB cK :) ?_
 refine qk (pf rfl) ?_
 refine fa rfl (qan m0 rfl rfl (qad ?_))
 obtain ⟨dl, bf, hm⟩ := bnd hm
 refine cS bf (fun aW bf => ?_) fun aW bf => ?_
 refine qba m1 rfl (nl rfl) (ct aW (qak rfl rfl (ct aW ?_)))
 refine fF Tryz.call18 r2 fun bJ ba bp => ?_
 refine fF Tryz.call18 r2 fun bD a8 bu => ?_
 refine fF Tryz.call18 r2 fun bh a6 bH => ?_
 refine cb bf fun dj cD bf => cgx (JfC cD :) ?_
 refine ⟨⟨((ba.trans a8).trans a6), (pf rfl), ci0⟩, ?_⟩
 refine ct aW ?_
 exact bE (si bf) (eE hm)
 refine cf aW (cf aW (cf aW ?_))
 exact bE (si bf) (eE hm)
 refine ro (qae r6 rfl (nl rfl) (ro (qae r5 rfl (nl rfl) ?_)))
 refine cb hm fun dp cH hm => cfx (Jgh cH :) ?_
 rintro _ cW _ cY ⟨cd, bR, cj, ca, cq, cr, rfl, bP, bM, ce, rfl⟩
 refine qal rfl fun b8 => ?_
 refine qaa r0 rfl ⟨rfl, rfl, (nl rfl), ?_⟩
 refine qah rfl ?_
 refine cb hm fun dh cM hm => cg0 (JfB cM :) ?_
 refine qad ?_
 obtain ⟨cR, bg, hm⟩ := bnd hm
 refine cS bg (fun aX bg => ?_) fun aX bg => ?_
 refine ro (qae r2 rfl (nl rfl) (ct aX (ro (qae r0 rfl (nl rfl) (ct aX ?_)))))
 refine fF Tryz.call18 r3 fun bF bj br => ?_
 refine fF Tryz.call18 r3 fun bn bI bz => ?_
 refine fF Tryz.call18 r3 fun bo bB bt => ?_
 refine cb bg fun cO cz bg => cgx (JfC cz :) ?_
 refine ct aX ?_
 exact bE (si bg) (eE hm)
 refine cf aX (cf aX (cf aX ?_))
 exact bE (si bg) (eE hm)
