/- Functions of the program: mirrors, and that a call returns what the mirror says. Printed by gen.py. -/
import Derived.Test.YtiaaooopklhobaaGreatDoorG3
set_option linter.unusedVariables false
set_option linter.unusedSimpArgs false
open Go Go.SL Go.Proofs
noncomputable section
set_option maxRecDepth 1000000
set_option maxHeartbeats 8000000
def Ja5 (av : (Jd → (List Ja) → Option (Jd))) (n : Nat) (c : Jd) (n' : Ja) : Option (Jd) :=
  if decide (n'.Ab = 2) then
  (Jap av n c n').bind fun x9 =>
  some x9
  else
  if decide ((n'.Aa.length : Int) > 0) then
  (ix n'.Aa 0).bind fun bc =>
  (JB n c bc).bind fun aT =>
  if decide (n'.Ab = 3) then
  (Jj aT 4 aT.Ap ([] : Str)).bind fun aS =>
  (chk (aS.2.names.length + [(⟨n'.Ac, aS.2.Ap⟩ : Jr)].length ≤ lim)).bind fun _ =>
  (chk (InI (aS.2.Ap + 1))).bind fun _ =>
  some (⟨aS.2.code, (aS.2.names ++ [(⟨n'.Ac, aS.2.Ap⟩ : Jr)]), (aS.2.Ap + 1)⟩ : Jd)
  else
  if decide (n'.Ab = 4) then
  (Jj aT 11 0 n'.Ac).bind fun aV =>
  some aV.2
  else
  if decide (n'.Ab = 5) then
  (chk (([104, 101, 97, 100, 101, 114, 58] : Str).length + n'.Ac.length ≤ lim)).bind fun _ =>
  (Jj aT 11 0 (([104, 101, 97, 100, 101, 114, 58] : Str) ++ n'.Ac)).bind fun aU =>
  some aU.2
  else
  if decide (n'.Ab = 6) then
  (chk (([118, 97, 114, 121, 58] : Str).length + n'.Ac.length ≤ lim)).bind fun _ =>
  (Jj aT 11 0 (([118, 97, 114, 121, 58] : Str) ++ n'.Ac)).bind fun aY =>
  some aY.2
  else
  if decide (n'.Ab = 7) then
  (Jj aT 11 0 ([116, 97, 103] : Str)).bind fun aX =>
  some aX.2
  else
  if decide (n'.Ab = 8) then
  (Jj aT 11 0 ([116, 116, 108] : Str)).bind fun aW =>
  some aW.2
  else
  if decide (n'.Ab = 9) then
  (Jj aT 11 0 ([100, 101, 110, 121] : Str)).bind fun bb =>
  some bb.2
  else
  if decide (n'.Ab = 10) then
  (Jj aT 11 0 ([112, 97, 115, 115] : Str)).bind fun ba =>
  some ba.2
  else
  if decide (n'.Ab = 11) then
  (Jj aT 11 0 ([116, 111, 107, 101, 110] : Str)).bind fun aZ =>
  some aZ.2
  else
  some aT
  else
  if decide (n'.Ab = 3) then
  (Jj c 4 c.Ap ([] : Str)).bind fun aS =>
  (chk (aS.2.names.length + [(⟨n'.Ac, aS.2.Ap⟩ : Jr)].length ≤ lim)).bind fun _ =>
  (chk (InI (aS.2.Ap + 1))).bind fun _ =>
  some (⟨aS.2.code, (aS.2.names ++ [(⟨n'.Ac, aS.2.Ap⟩ : Jr)]), (aS.2.Ap + 1)⟩ : Jd)
  else
  if decide (n'.Ab = 4) then
  (Jj c 11 0 n'.Ac).bind fun aV =>
  some aV.2
  else
  if decide (n'.Ab = 5) then
  (chk (([104, 101, 97, 100, 101, 114, 58] : Str).length + n'.Ac.length ≤ lim)).bind fun _ =>
  (Jj c 11 0 (([104, 101, 97, 100, 101, 114, 58] : Str) ++ n'.Ac)).bind fun aU =>
  some aU.2
  else
  if decide (n'.Ab = 6) then
  (chk (([118, 97, 114, 121, 58] : Str).length + n'.Ac.length ≤ lim)).bind fun _ =>
  (Jj c 11 0 (([118, 97, 114, 121, 58] : Str) ++ n'.Ac)).bind fun aY =>
  some aY.2
  else
  if decide (n'.Ab = 7) then
  (Jj c 11 0 ([116, 97, 103] : Str)).bind fun aX =>
  some aX.2
  else
  if decide (n'.Ab = 8) then
  (Jj c 11 0 ([116, 116, 108] : Str)).bind fun aW =>
  some aW.2
  else
  if decide (n'.Ab = 9) then
  (Jj c 11 0 ([100, 101, 110, 121] : Str)).bind fun bb =>
  some bb.2
  else
  if decide (n'.Ab = 10) then
  (Jj c 11 0 ([112, 97, 115, 115] : Str)).bind fun ba =>
  some ba.2
  else
  if decide (n'.Ab = 11) then
  (Jj c 11 0 ([116, 111, 107, 101, 110] : Str)).bind fun aZ =>
  some aZ.2
  else
  some c
theorem JcK {av : (Jd → (List Ja) → Option (Jd))} (ihrec4_0 : ∀ {c : Jd} {list : (List Ja)} {b0 : Nat} {aa : Option Addr} {ab : Nat} {ah : Option Addr} {ak : Nat} {af : Option Addr} {ag : Nat} {n1 : Nat} {K : Hp} {r : Jd} (hm : av c list = some r) (hX : (0 < c.code.length → Has aa) ∧ (0 < c.names.length → Has ah) ∧ LiC Ja.R K af ag 4 list ∧ n1 = list.length), Fn Tryz.prog 142 [.pointer (some ⟨b0, 0, none⟩), .slice af n1 ag] K [Cells b0 209 [.slice aa c.code.length ab, .slice ah c.names.length ak, .int .i64 c.Ap], qau Jf.enc aa 135 3 ab c.code, qau Jr.enc ah 290 2 ak c.names] (fun v K' H' => ∃ ar_0 : Option Addr, ∃ cr_0 : Nat, ∃ ar_1 : Option Addr, ∃ cr_1 : Nat, v = .tuple #[] ∧ (0 < r.code.length → Has ar_0) ∧ (0 < r.names.length → Has ar_1) ∧ H' = [Cells b0 209 [.slice ar_0 r.code.length cr_0, .slice ar_1 r.names.length cr_1, .int .i64 r.Ap], qau Jf.enc ar_0 135 3 cr_0 r.code, qau Jr.enc ar_1 290 2 cr_1 r.names])) {n : Nat} {c : Jd} {n' : Ja} {b0 : Nat} {aa : Option Addr} {ab : Nat} {ah : Option Addr} {ak : Nat} {af : Option Addr} {ag : Nat} {K : Hp} {r : Jd}
    (hm : Ja5 av n c n' = some r) (hX : (0 < c.code.length → Has aa) ∧ (0 < c.names.length → Has ah) ∧ LiC Ja.R K af ag 4 n'.Aa) :
    Fn Tryz.prog 197 [.pointer (some ⟨b0, 0, none⟩), .agg #[.int .i64 n'.Ab, str n'.Ac, .slice af n'.Aa.length ag, .int .i64 n'.Ad]] K [Cells b0 209 [.slice aa c.code.length ab, .slice ah c.names.length ak, .int .i64 c.Ap], qau Jf.enc aa 135 3 ab c.code, qau Jr.enc ah 290 2 ak c.names] (fun v K' H' => ∃ ar_0 : Option Addr, ∃ cr_0 : Nat, ∃ ar_1 : Option Addr, ∃ cr_1 : Nat, v = .tuple #[] ∧ (0 < r.code.length → Has ar_0) ∧ (0 < r.names.length → Has ar_1) ∧ H' = [Cells b0 209 [.slice ar_0 r.code.length cr_0, .slice ar_1 r.names.length cr_1, .int .i64 r.Ap], qau Jf.enc ar_0 135 3 cr_0 r.code, qau Jr.enc ar_1 290 2 cr_1 r.names]) := by
 obtain ⟨ae, cO, ai⟩ := hX
 refine Fn.enter Tryz.func197 Tryz.call197 rfl fun F => ?_
 unfold Ja5 at hm
 refine qar ?_
 intro b3
 refine fa rfl (ro (ld r0 rfl rfl (qaf ?_)))
 refine cs rfl rfl hm ?_ ?_ <;> intro w6 hm
 refine ro (qab r0 rfl (nl rfl) ?_)
 refine cb hm fun x9 q9 hm => ckx (Jc2 ihrec4_0 q9 :) ?_
 rintro _ _ _ ⟨dh, dB, cZ, cY, rfl, dt, di, rfl⟩
 exact eE hm
 refine fa rfl (ro (ld r0 rfl rfl (ro (qak rfl ?_))))
 refine cs rfl rfl hm ?_ ?_ <;> intro dI hm
 refine fa rfl (ro (ld r0 rfl rfl ?_))
 obtain ⟨dJ, cL, cD, hm⟩ := ixb hm
 refine RStep.ofN (qad rfl rfl (qc0 ai.rd cD) cL (qaz rfl cL cD) ?_)
 obtain ⟨dn, dA, cm, cz, cB⟩ := LiR.get ai.rd cD
 obtain ⟨cP, cU, rfl, cR⟩ := Ja.out cB
 refine ro (qan ((0 : Int).toNat) _ cm rfl cz rfl ?_)
 refine cb hm fun dK dg hm => ckx (Jcb dg :) ?_
 rintro _ _ _ ⟨cQ, cN, cK, cW, rfl, cV, cM, rfl⟩
 refine fa rfl (ro (ld r3 rfl rfl ?_))
 refine qal rfl ?_
 refine qaf (cs rfl rfl hm ?_ ?_) <;> intro du hm
 refine qag (fa rfl (ro (ld r0 rfl rfl ?_)))
 refine cb hm fun bo cC hm => ckx (Jg cC :) ?_
 rintro _ _ _ ⟨bb, bp, bD, aS, rfl, bC, aV, rfl⟩
 refine qa2 ⟨⟨[], false⟩, _, [(_, _), (_, _)], []⟩ 14 rfl (by kernel_rfl) ⟨Hp.Le.refl _, (sc [0,2] rfl), ci0⟩ ?_
 refine qag (fa rfl (qap m0 rfl rfl (fa rfl (qap m1 rfl rfl (qag (fa rfl (qap m0 rfl rfl ?_)))))))
 refine qaj rfl rfl (cT (cT ?_))
 refine bsO (len := 1) (enc := Jr.enc) (l := [(⟨n'.Ac, bo.2.Ap⟩ : Jr)]) (cl := [str n'.Ac, .int .i64 bo.2.Ap]) qkb rfl rfl (fun _ _ => rfl) rfl rfl rfl ?_ fun dp => ?_
 · conv => whnf
   refine cT ?_
   first | done | rfl
 refine qk (sc [1,3] rfl) ?_
 obtain ⟨cr, hm⟩ := qax hm
 refine apE rfl r3 qkb (qat rfl r0 rfl (fun _ => rfl) (fun _ => rfl)) cr ?_
 intro dk dq dz
 refine qk (sc [2,3] rfl) ?_
 refine qag (fa rfl ?_)
 refine qaa r2 rfl ⟨rfl, rfl, (nl rfl), ?_⟩
 refine ⟨⟨Hp.emp_le _, (pf rfl), ci0⟩, ?_⟩
 refine qag (fa rfl (ro (ld r0 rfl rfl ?_)))
 obtain ⟨cG, hm⟩ := qax hm
 refine qam cG (qag (fa rfl ?_))
 refine qaa r0 rfl ⟨rfl, rfl, (nl rfl), ?_⟩
 exact eE hm
 refine qaf (cs rfl rfl hm ?_ ?_) <;> intro dy hm
 refine fa rfl (ro (ld r3 rfl rfl ?_))
 refine cb hm fun cX co hm => ckx (Jg co :) ?_
 rintro _ _ _ ⟨bd, bP, aT, bv, rfl, aY, aZ, rfl⟩
 exact eE hm
 refine qaf (cs rfl rfl hm ?_ ?_) <;> intro dE hm
 refine fa rfl (ro (ld r3 rfl rfl ?_))
 obtain ⟨cI, hm⟩ := qax hm
 refine qbd cI ?_
 refine cb hm fun dC cy hm => ckx (Jg cy :) ?_
 rintro _ _ _ ⟨ba, bN, bl, bY, rfl, aU, bh, rfl⟩
 exact eE hm
 refine qaf (cs rfl rfl hm ?_ ?_) <;> intro dj hm
 refine fa rfl (ro (ld r3 rfl rfl ?_))
 obtain ⟨cE, hm⟩ := qax hm
 refine qbd cE ?_
 refine cb hm fun dv cw hm => ckx (Jg cw :) ?_
 rintro _ _ _ ⟨bA, bw, bM, bt, rfl, bc, bT, rfl⟩
 exact eE hm
 refine qaf (cs rfl rfl hm ?_ ?_) <;> intro dF hm
 refine cb hm fun dD cH hm => ckx (Jg cH :) ?_
 rintro _ _ _ ⟨bS, bn, bJ, bZ, rfl, bg, bG, rfl⟩
 exact eE hm
 refine qaf (cs rfl rfl hm ?_ ?_) <;> intro dw hm
 refine cb hm fun dm cn hm => ckx (Jg cn :) ?_
 rintro _ _ _ ⟨ce, ca, bL, bm, rfl, cj, bO, rfl⟩
 exact eE hm
 refine qaf (cs rfl rfl hm ?_ ?_) <;> intro dc hm
 refine cb hm fun dx cu hm => ckx (Jg cu :) ?_
 rintro _ _ _ ⟨bU, bj, bR, bf, rfl, bV, bu, rfl⟩
 exact eE hm
 refine qaf (cs rfl rfl hm ?_ ?_) <;> intro de hm
 refine cb hm fun dH cA hm => ckx (Jg cA :) ?_
 rintro _ _ _ ⟨bF, bH, bQ, aW, rfl, bz, aX, rfl⟩
 exact eE hm
 refine qaf (cs rfl rfl hm ?_ ?_) <;> intro df hm
 refine cb hm fun dG cJ hm => ckx (Jg cJ :) ?_
 rintro _ _ _ ⟨bW, bK, br, bI, rfl, bX, bB, rfl⟩
 exact eE hm
 exact eE hm
 refine fa rfl (ro (ld r0 rfl rfl ?_))
 refine qal rfl ?_
 refine qaf (cs rfl rfl hm ?_ ?_) <;> intro du hm
 refine qag (fa rfl (ro (ld r1 rfl rfl ?_)))
 refine cb hm fun bo cC hm => ckx (Jg cC :) ?_
 rintro _ _ _ ⟨bb, bp, bD, aS, rfl, bC, aV, rfl⟩
 refine qa2 ⟨⟨[], false⟩, _, [(_, _), (_, _)], []⟩ 14 rfl (by kernel_rfl) ⟨Hp.Le.refl _, (sc [0,2] rfl), ci0⟩ ?_
 refine qag (fa rfl (qap m0 rfl rfl (fa rfl (qap m1 rfl rfl (qag (fa rfl (qap m0 rfl rfl ?_)))))))
 refine qaj rfl rfl (cT (cT ?_))
 refine bsO (len := 1) (enc := Jr.enc) (l := [(⟨n'.Ac, bo.2.Ap⟩ : Jr)]) (cl := [str n'.Ac, .int .i64 bo.2.Ap]) qkb rfl rfl (fun _ _ => rfl) rfl rfl rfl ?_ fun dp => ?_
 · conv => whnf
   refine cT ?_
   first | done | rfl
 refine qk (sc [1,3] rfl) ?_
 obtain ⟨cr, hm⟩ := qax hm
 refine apE rfl r3 qkb (qat rfl r0 rfl (fun _ => rfl) (fun _ => rfl)) cr ?_
 intro dk dq dz
 refine qk (sc [2,3] rfl) ?_
 refine qag (fa rfl ?_)
 refine qaa r2 rfl ⟨rfl, rfl, (nl rfl), ?_⟩
 refine ⟨⟨Hp.emp_le _, (pf rfl), ci0⟩, ?_⟩
 refine qag (fa rfl (ro (ld r0 rfl rfl ?_)))
 obtain ⟨cG, hm⟩ := qax hm
 refine qam cG (qag (fa rfl ?_))
 refine qaa r0 rfl ⟨rfl, rfl, (nl rfl), ?_⟩
 exact eE hm
 refine qaf (cs rfl rfl hm ?_ ?_) <;> intro dy hm
 refine fa rfl (ro (ld r0 rfl rfl ?_))
 refine cb hm fun cX co hm => ckx (Jg co :) ?_
 rintro _ _ _ ⟨bd, bP, aT, bv, rfl, aY, aZ, rfl⟩
 exact eE hm
 refine qaf (cs rfl rfl hm ?_ ?_) <;> intro dE hm
 refine fa rfl (ro (ld r0 rfl rfl ?_))
 obtain ⟨cI, hm⟩ := qax hm
 refine qbd cI ?_
 refine cb hm fun dC cy hm => ckx (Jg cy :) ?_
 rintro _ _ _ ⟨ba, bN, bl, bY, rfl, aU, bh, rfl⟩
 exact eE hm
 refine qaf (cs rfl rfl hm ?_ ?_) <;> intro dj hm
 refine fa rfl (ro (ld r0 rfl rfl ?_))
 obtain ⟨cE, hm⟩ := qax hm
 refine qbd cE ?_
 refine cb hm fun dv cw hm => ckx (Jg cw :) ?_
 rintro _ _ _ ⟨bA, bw, bM, bt, rfl, bc, bT, rfl⟩
 exact eE hm
 refine qaf (cs rfl rfl hm ?_ ?_) <;> intro dF hm
 refine cb hm fun dD cH hm => ckx (Jg cH :) ?_
 rintro _ _ _ ⟨bS, bn, bJ, bZ, rfl, bg, bG, rfl⟩
 exact eE hm
 refine qaf (cs rfl rfl hm ?_ ?_) <;> intro dw hm
 refine cb hm fun dm cn hm => ckx (Jg cn :) ?_
 rintro _ _ _ ⟨ce, ca, bL, bm, rfl, cj, bO, rfl⟩
 exact eE hm
 refine qaf (cs rfl rfl hm ?_ ?_) <;> intro dc hm
 refine cb hm fun dx cu hm => ckx (Jg cu :) ?_
 rintro _ _ _ ⟨bU, bj, bR, bf, rfl, bV, bu, rfl⟩
 exact eE hm
 refine qaf (cs rfl rfl hm ?_ ?_) <;> intro de hm
 refine cb hm fun dH cA hm => ckx (Jg cA :) ?_
 rintro _ _ _ ⟨bF, bH, bQ, aW, rfl, bz, aX, rfl⟩
 exact eE hm
 refine qaf (cs rfl rfl hm ?_ ?_) <;> intro df hm
 refine cb hm fun dG cJ hm => ckx (Jg cJ :) ?_
 rintro _ _ _ ⟨bW, bK, br, bI, rfl, bX, bB, rfl⟩
 exact eE hm
 exact eE hm

def Jaf (rec_ : (Jd → (List Ja) → Option (Jd))) (n : Nat) : List Ja → Nat → Jd → Option (Jd)
  | [], _, ac => some ac
  | e0 :: aT, i0, ac =>
    (Ja5 rec_ n ac e0).bind fun aS =>
    Jaf rec_ n aT (i0 + 1) aS
def Jad : Nat → Jd → (List Ja) → Option (Jd)
  | 0, _, _ => none
  | n + 1, c, list =>
    (chk (list.length ≤ qbg)).bind fun _ =>
    (Jaf (Jad n) n list 0 c).bind fun t0 =>
    (chk (0 ≤ (0 : Int) ∧ (0 : Int) ≤ (c.names.length : Int) ∧ (c.names.length : Int) ≤ (t0.names.length : Int))).bind fun _ =>
    some (⟨t0.code, (subL t0.names (0 : Int) (c.names.length : Int)), t0.Ap⟩ : Jd)
theorem Jc5 : ∀ {n : Nat} {c : Jd} {list : (List Ja)} {b0 : Nat} {aa : Option Addr} {ab : Nat} {ah : Option Addr} {ak : Nat} {af : Option Addr} {ag : Nat} {n1 : Nat} {K : Hp} {r : Jd}
    (hm : Jad n c list = some r) (hX : (0 < c.code.length → Has aa) ∧ (0 < c.names.length → Has ah) ∧ LiC Ja.R K af ag 4 list ∧ n1 = list.length),
    Fn Tryz.prog 142 [.pointer (some ⟨b0, 0, none⟩), .slice af n1 ag] K [Cells b0 209 [.slice aa c.code.length ab, .slice ah c.names.length ak, .int .i64 c.Ap], qau Jf.enc aa 135 3 ab c.code, qau Jr.enc ah 290 2 ak c.names] (fun v K' H' => ∃ ar_0 : Option Addr, ∃ cr_0 : Nat, ∃ ar_1 : Option Addr, ∃ cr_1 : Nat, v = .tuple #[] ∧ (0 < r.code.length → Has ar_0) ∧ (0 < r.names.length → Has ar_1) ∧ H' = [Cells b0 209 [.slice ar_0 r.code.length cr_0, .slice ar_1 r.names.length cr_1, .int .i64 r.Ap], qau Jf.enc ar_0 135 3 cr_0 r.code, qau Jr.enc ar_1 290 2 cr_1 r.names]) := by
 intro n
 induction n with
 | zero =>
   intro c list b0 aa ab ah ak af ag n1 K r hm hX
   rw [Jad.eq_1] at hm; cases hm
 | succ n ih =>
   intro c list b0 aa ab ah ak af ag n1 K r hm hX
   obtain ⟨ae, bz, ai, bH⟩ := hX
   subst bH
   refine Fn.enter Tryz.func142 Tryz.call142 rfl fun F => ?_
   rw [Jad.eq_2] at hm
   refine qag (fa rfl (ro (ld r0 rfl rfl (ro (qak rfl (ro (qak rfl ?_)))))))
   obtain ⟨bC, hm⟩ := qax hm
   obtain ⟨s0, aW, hm⟩ := bnd hm
   refine lD (σ := (Jd) × Option Addr × Nat × Option Addr × Nat) ([6] ++ rg 14 8) [3] (fun i0 => [(14, .int .i64 (i0 : Int))]) (fun _ => []) (fun (t0, aT, aU, aS, aV) => [Cells b0 209 [.slice aT t0.code.length aU, .slice aS t0.names.length aV, .int .i64 t0.Ap], qau Jf.enc aT 135 3 aU t0.code, qau Jr.enc aS 290 2 aV t0.names]) (fun (t0, aT, aU, aS, aV) => (0 < t0.code.length → Has aT) ∧ (0 < t0.names.length → Has aS)) (fun i0 (t0, aT, aU, aS, aV) => Jaf (Jad n) n (list.drop i0) i0 t0 = some s0) (fun (t0, aT, aU, aS, aV) => t0 = s0) (fun i0 => list.length - i0) 0 (_, _, _, _, _) aW (And.intro qe (And.intro ?_ ?_))
   clear aW
   rintro i0 ⟨ac, bc, bb, bg, bd⟩ ⟨aZ, ba⟩ aW j0
   conv at aW => whnf
   refine qac rfl ?_
   refine qae ?_ ?_ <;> intro w0
   obtain ⟨e0, bf, bG⟩ := ltx w0
   rw [bG, Jaf.eq_2] at aW
   refine qal rfl ?_
   refine RStep.ofN (qad rfl rfl (qc0 ai.rd bf) (nn _) (qbm bf) ?_)
   obtain ⟨bF, bD, bl, bj, bh⟩ := LiR.get ai.rd bf
   obtain ⟨bt, bw, rfl, bu⟩ := Ja.out bh
   refine ro (qan i0 _ bl rfl bj rfl ?_)
   refine qai rfl fun b6 => ?_
   refine qaa r0 rfl ⟨rfl, rfl, (nl rfl), ?_⟩
   refine ro (qab r0 rfl (nl rfl) ?_)
   refine cb aW fun bI bB aW => ckx (JcK ih bB :) ?_
   rintro _ _ _ ⟨bm, br, bA, bp, rfl, bv, bn, rfl⟩
   refine qam (qbj bf bC) ?_
   exact eR aW (_, _, _, _, _, _)
   rw [lty w0, Jaf.eq_1] at aW
   refine cT ?_
   exact eM aW (_, _, _, _, _)
   rintro ⟨t0, aT, aU, aS, aV⟩ ⟨aY, aX⟩ rfl j0
   refine qag (fa rfl (ro (ld r0 rfl rfl ?_)))
   obtain ⟨bo, hm⟩ := qax hm
   refine qnd (l := t0.names) (hi := (some (c.names.length : Int))) rfl r2 (by simp) rfl rfl bo ?_
   refine qag (fa rfl ?_)
   refine tkW (c.names.length : Int) r2 ?_
   refine qaa r1 rfl ⟨rfl, rfl, (nl rfl), ?_⟩
   cases hm
   exact en lr ⟨aT, aU, aS, aV, rfl, aY, (fun h => aX (qgl bo h)), rfl⟩ (sc [0,1,0,0] rfl)

def JcP (n : Nat) (program : Ja) : Option ((List Jf) × Err) :=
  (Jca n program).bind fun x9 =>
  if x9.2.isSome then
  some ([], x9.2)
  else
  (Jad n (⟨[], [], 0⟩ : Jd) program.Aa).bind fun aT =>
  (Jj aT 12 0 ([] : Str)).bind fun aS =>
  if decide ((aS.2.code.length : Int) > 2048) then
  some ([], (some 5))
  else
  some (aS.2.code, none)
theorem JdN {n : Nat} {program : Ja} {aa : Option Addr} {ab : Nat} {K : Hp} {r : (List Jf) × Err}
    (hm : JcP n program = some r) (hX : LiC Ja.R K aa ab 4 program.Aa ∧ GG K) :
    Fn Tryz.prog 90 [.agg #[.int .i64 program.Ab, str program.Ac, .slice aa program.Aa.length ab, .int .i64 program.Ad]] K [] (fun v K' H' => ∃ ar_0 : Option Addr, ∃ cr_0 : Nat, v = .tuple #[.slice ar_0 r.1.length cr_0, qcy 48 r.2] ∧ (0 < r.1.length → Has ar_0) ∧ H' = [qau Jf.enc ar_0 135 3 cr_0 r.1]) := by
 obtain ⟨ae, hG⟩ := hX
 refine Fn.enter Tryz.func90 Tryz.call90 rfl fun F => ?_
 unfold JcP at hm
 refine qar ?_
 intro b1
 refine ro (qab r0 rfl (nl rfl) ?_)
 refine cb hm fun x9 q9 hm => cgx (JcG q9 :) ?_
 refine qa5 rfl ?_
 refine cs rfl rfl hm ?_ ?_ <;> intro bl hm
 refine qcg Jf.enc 135 3 ?_
 exact eE hm
 refine qaj rfl rfl ?_
 refine qar ?_
 intro bh
 refine fa rfl (ro (ld r1 rfl rfl ?_))
 refine qr7 Tryz.call142 Jf.enc 135 3 ?_
 refine qr7 Tryz.call142 Jr.enc 290 2 ?_
 refine cb hm fun bm bf hm => ckx (Jc5 bf :) ?_
 rintro _ _ _ ⟨aT, aS, bd, ba, rfl, aY, aV, rfl⟩
 refine cb hm fun bj bg hm => ckx (Jg bg :) ?_
 rintro _ _ _ ⟨aW, bc, aZ, aU, rfl, aX, bb, rfl⟩
 refine qag (fa rfl (ro (ld r0 rfl rfl (ro (qak rfl ?_)))))
 refine cs rfl rfl hm ?_ ?_ <;> intro bn hm
 refine qas rfl ?_
 refine qcg Jf.enc 135 3 ?_
 exact eE hm
 refine qag (fa rfl (ro (ld r0 rfl rfl ?_)))
 exact eE hm

def JaZ (rec_ : (Ja → (List Jk) → Option (Int × Int))) (env : (List Jk)) : List Ja → Nat → (List Int) → Int → Int → Option ((List Int) × Int × Int)
  | [], _, ac, aU, aS => some (ac, aU, aS)
  | e0 :: aV, i0, ac, aU, aS =>
    (rec_ e0 env).bind fun aT =>
    (chk (ac.length + [aT.1].length ≤ lim)).bind fun _ =>
    if decide ((i0 : Int) = 0) then
    (chk (InI (aS + aT.2))).bind fun _ =>
    JaZ rec_ env aV (i0 + 1) (ac ++ [aT.1]) aT.2 (aS + aT.2)
    else
    (chk (InI (aS + aT.2))).bind fun _ =>
    JaZ rec_ env aV (i0 + 1) (ac ++ [aT.1]) aU (aS + aT.2)
def JbO : Nat → Ja → (List Jk) → Option (Int × Int)
  | 0, _, _ => none
  | n + 1, n', env =>
    (chk (n'.Aa.length ≤ qbg)).bind fun _ =>
    (JaZ (JbO n) env n'.Aa 0 [] 0 0).bind fun t0 =>
    if decide (n'.Ab = 20) then
    some (2, 1)
    else
    if decide (n'.Ab = 21) then
    some (1, 1)
    else
    if decide (n'.Ab = 22) then
    some (3, 3)
    else
    if decide (n'.Ab = 23) then
    (JbY n n'.Ac env).bind fun aT =>
    some (aT, 1)
    else
    if decide (n'.Ab = 24) then
    (Jbg (⟨0, none⟩ : Jn) n' t0.1).bind fun aA =>
    if decide (aA.1 = 1) then
    (chk (InI (t0.2.2 + 32))).bind fun _ =>
    (chk (InI ((t0.2.2 + 32) + 1))).bind fun _ =>
    some (aA.1, ((t0.2.2 + 32) + 1))
    else
    (chk (InI (t0.2.2 + 1))).bind fun _ =>
    some (aA.1, (t0.2.2 + 1))
    else
    if decide (n'.Ab = 14) then
    if decide (n'.Ab = 14) then
    (chk (InI (t0.2.1 + 1))).bind fun _ =>
    (chk (InI (t0.2.2 - t0.2.1))).bind fun _ =>
    (chk (InI ((t0.2.2 - t0.2.1) + 1))).bind fun _ =>
    (chk (InI ((t0.2.1 + 1) + (max 3 ((t0.2.2 - t0.2.1) + 1))))).bind fun _ =>
    some (3, ((t0.2.1 + 1) + (max 3 ((t0.2.2 - t0.2.1) + 1))))
    else
    (chk (InI (t0.2.1 + 1))).bind fun _ =>
    (chk (InI (t0.2.2 - t0.2.1))).bind fun _ =>
    (chk (InI ((t0.2.1 + 1) + (max 4 (t0.2.2 - t0.2.1))))).bind fun _ =>
    some (3, ((t0.2.1 + 1) + (max 4 (t0.2.2 - t0.2.1))))
    else
    if decide (n'.Ab = 13) then
    if decide (n'.Ab = 14) then
    (chk (InI (t0.2.1 + 1))).bind fun _ =>
    (chk (InI (t0.2.2 - t0.2.1))).bind fun _ =>
    (chk (InI ((t0.2.2 - t0.2.1) + 1))).bind fun _ =>
    (chk (InI ((t0.2.1 + 1) + (max 3 ((t0.2.2 - t0.2.1) + 1))))).bind fun _ =>
    some (3, ((t0.2.1 + 1) + (max 3 ((t0.2.2 - t0.2.1) + 1))))
    else
    (chk (InI (t0.2.1 + 1))).bind fun _ =>
    (chk (InI (t0.2.2 - t0.2.1))).bind fun _ =>
    (chk (InI ((t0.2.1 + 1) + (max 4 (t0.2.2 - t0.2.1))))).bind fun _ =>
    some (3, ((t0.2.1 + 1) + (max 4 (t0.2.2 - t0.2.1))))
    else
    (Jb3 n' t0.1).bind fun aS =>
    if decide (aS = 1) then
    (chk (InI (t0.2.2 + 32))).bind fun _ =>
    (chk (InI ((t0.2.2 + 32) + 1))).bind fun _ =>
    some (aS, ((t0.2.2 + 32) + 1))
    else
    (chk (InI (t0.2.2 + 1))).bind fun _ =>
    some (aS, (t0.2.2 + 1))
theorem Jd2 : ∀ {n : Nat} {n' : Ja} {env : (List Jk)} {aa : Option Addr} {ab : Nat} {af : Option Addr} {ag : Nat} {n1 : Nat} {K : Hp} {r : Int × Int}
    (hm : JbO n n' env = some r) (hX : LiC Ja.R K aa ab 4 n'.Aa ∧ RdC Jk.enc K af ag 2 env ∧ n1 = env.length),
    Fn Tryz.prog 198 [.agg #[.int .i64 n'.Ab, str n'.Ac, .slice aa n'.Aa.length ab, .int .i64 n'.Ad], .slice af n1 ag] K [] (fun v K' H' => v = .tuple #[.int .i64 r.1, .int .i64 r.2] ∧ H' = []) := by
 intro n
 induction n with
 | zero =>
   intro n' env aa ab af ag n1 K r hm hX
   rw [JbO.eq_1] at hm; cases hm
 | succ n ih =>
   intro n' env aa ab af ag n1 K r hm hX
   obtain ⟨ae, ai, bL⟩ := hX
   subst bL
   refine Fn.enter Tryz.func198 Tryz.call198 rfl fun F => ?_
   rw [JbO.eq_2] at hm
   refine qar ?_
   intro b2
   refine fa rfl (ro (ld r0 rfl rfl (ro (qak rfl ?_))))
   obtain ⟨bu, hm⟩ := qax hm
   obtain ⟨s0, aU, hm⟩ := bnd hm
   refine qgy eN 3 1 ?_
   refine lD (σ := ((List Int) × Int × Int) × Option Addr × Nat) (rg 6 7 ++ rg 19 22) [1, 2] (fun i0 => [(19, .int .i64 (i0 : Int))]) (fun (t0, aS, aT) => [(6, .slice aS t0.1.length aT), (7, .int .i64 t0.2.1), (8, .int .i64 t0.2.2)]) (fun (t0, aS, aT) => [qau eN aS 3 1 aT t0.1]) (fun (t0, aS, aT) => (0 < t0.1.length → Has aS) ∧ True) (fun i0 (t0, aS, aT) => JaZ (JbO n) env (n'.Aa.drop i0) i0 t0.1 t0.2.1 t0.2.2 = some s0) (fun (t0, aS, aT) => t0 = s0) (fun i0 => n'.Aa.length - i0) 0 ((_, _, _), _, _) aU (And.intro qe (And.intro ?_ ?_))
   clear aU
   rintro i0 ⟨⟨ac, bz, bI⟩, br, bl⟩ ⟨bh, _⟩ aU j0
   dsimp only at aU ⊢
   refine qac rfl ?_
   refine qae ?_ ?_ <;> intro w0
   obtain ⟨e0, aW, bD⟩ := ltx w0
   rw [bD, JaZ.eq_2] at aU
   refine qal rfl ?_
   refine RStep.ofN (qad rfl rfl (qc0 ae.rd aW) (nn _) (qbm aW) ?_)
   obtain ⟨bA, bH, bd, bb, ba⟩ := LiR.get ae.rd aW
   obtain ⟨bn, bj, rfl, bw⟩ := Ja.out ba
   refine ro (qan i0 _ bd rfl bb rfl ?_)
   refine qai rfl fun bO => ?_
   refine qaa r0 rfl ⟨rfl, rfl, (nl rfl), ?_⟩
   refine ro (qab r0 rfl (nl rfl) ?_)
   refine cb aU fun bo bK aU => cgx (ih bK :) ?_
   refine bsO (len := 1) (enc := eN) (l := [bo.1]) (cl := [.int .i64 bo.1]) qj9 rfl rfl (fun _ _ => rfl) rfl rfl rfl ?_ fun bV => ?_
   · conv => whnf
     refine cT ?_
     first | done | rfl
   obtain ⟨bB, aU⟩ := qax aU
   refine apE rfl r2 qj9 (qat rfl r0 rfl (fun _ => rfl) (fun _ => rfl)) bB ?_
   intro bQ bP bT
   refine qaf (cs rfl rfl aU ?_ ?_) <;> intro bU aU
   obtain ⟨bf, aU⟩ := qax aU
   refine qam bf (qam (qbj aW bu) ?_)
   exact eR aU (_, (_, _, _), _, _)
   obtain ⟨bf, aU⟩ := qax aU
   refine qam bf (qam (qbj aW bu) ?_)
   exact eR aU (_, (_, _, _), _, _)
   rw [lty w0, JaZ.eq_1] at aU
   refine cT ?_
   exact eM aU (_, _, _)
   rintro ⟨t0, aS, aT⟩ ⟨bt, _⟩ rfl j0
   refine qaj rfl rfl ?_
   refine qar ?_
   intro bS
   refine fa rfl (ro (ld r2 rfl rfl ?_))
   refine qal rfl ?_
   refine qaf (cs rfl rfl hm ?_ ?_) <;> intro ce hm
   exact eE hm
   refine qaf (cs rfl rfl hm ?_ ?_) <;> intro ca hm
   exact eE hm
   refine qaf (cs rfl rfl hm ?_ ?_) <;> intro bR hm
   exact eE hm
   refine qaf (cs rfl rfl hm ?_ ?_) <;> intro bW hm
   refine fa rfl (ro (ld r2 rfl rfl ?_))
   refine cb hm fun bM bC hm => cgx (Jct bC :) ?_
   exact eE hm
   refine qaf (cs rfl rfl hm ?_ ?_) <;> intro bY hm
   refine ro (qab r2 rfl (nl rfl) ?_)
   refine cb hm fun aA bJ hm => ck0 (Fn.lend Tryz.call228 (fun bp aX aV => (Jcm (c := (⟨0, none⟩ : Jn)) (n' := n') bJ ⟨(LiC.mono Ja.R_ok aX ae), aV, rfl⟩)) (by exact fun _ _ _ _ h => h)) ?_
   rintro _ _ _ ⟨_, rfl, rfl, rfl⟩
   refine qaf (cs rfl rfl hm ?_ ?_) <;> intro bN hm
   refine ci hm fun hm => ?_
   refine ci hm fun hm => ?_
   exact eE hm
   refine ci hm fun hm => ?_
   exact eE hm
   refine qaf (cs rfl rfl hm ?_ ?_) <;> intro bv hm
   refine qac rfl (ct bv (fa rfl (ro (ld r2 rfl rfl (qaf ?_)))))
   refine cs rfl rfl hm ?_ ?_ <;> intro bF hm
   refine ci hm fun hm => ?_
   refine ci hm fun hm => ?_
   obtain ⟨bg, hm⟩ := qax hm
   refine qam bg (ro (qce ?_))
   refine ci hm fun hm => ?_
   exact eE hm
   refine ci hm fun hm => ?_
   obtain ⟨bc, hm⟩ := qax hm
   refine qam bc (ro (qce ?_))
   refine ci hm fun hm => ?_
   exact eE hm
   refine qaf (cs rfl rfl hm ?_ ?_) <;> intro bv hm
   refine fa rfl (ro (ld r2 rfl rfl (qaf ?_)))
   refine cs rfl rfl hm ?_ ?_ <;> intro bF hm
   refine ci hm fun hm => ?_
   refine ci hm fun hm => ?_
   obtain ⟨bg, hm⟩ := qax hm
   refine qam bg (ro (qce ?_))
   refine ci hm fun hm => ?_
   exact eE hm
   refine ci hm fun hm => ?_
   obtain ⟨bc, hm⟩ := qax hm
   refine qam bc (ro (qce ?_))
   refine ci hm fun hm => ?_
   exact eE hm
   refine ro (qab r2 rfl (nl rfl) ?_)
   refine cb hm fun bZ bG hm => ck0 (Fn.lend Tryz.call229 (fun bm aY aZ => (JcS (n' := n') bG ⟨(LiC.mono Ja.R_ok aY ae), aZ, rfl⟩)) (by exact fun _ _ _ _ h => h)) ?_
   rintro _ _ _ ⟨_, rfl, rfl, rfl⟩
   refine qaf (cs rfl rfl hm ?_ ?_) <;> intro bX hm
   refine ci hm fun hm => ?_
   refine ci hm fun hm => ?_
   exact eE hm
   refine ci hm fun hm => ?_
   exact eE hm

def Jae (n : Nat) (rec_ : ((List Ja) → (List Jk) → Option (Int))) : List Ja → Nat → (List Jk) → Int → Option ((List Jk) × Int)
  | [], _, ac, aS => some (ac, aS)
  | e0 :: aV, i0, ac, aS =>
    (chk (InI (aS + 1))).bind fun _ =>
    if decide ((e0.Aa.length : Int) = 0) then
    Jae n rec_ aV (i0 + 1) ac (aS + 1)
    else
    (ix e0.Aa 0).bind fun aY =>
    (JbO n aY ac).bind fun aT =>
    (chk (InI ((aS + 1) + aT.2))).bind fun _ =>
    if decide (e0.Ab = 3) then
    (JaH ac e0.Ac aT.1).bind fun bb =>
    Jae n rec_ aV (i0 + 1) bb ((aS + 1) + aT.2)
    else
    if decide (e0.Ab = 2) then
    (ix e0.Aa 1).bind fun aZ =>
    (JbZ aZ).bind fun ba =>
    (rec_ ba ac).bind fun aU =>
    if decide ((e0.Aa.length : Int) > 2) then
    (chk (InI (aU + 1))).bind fun _ =>
    (ix e0.Aa 2).bind fun bc =>
    (JbZ bc).bind fun aX =>
    (rec_ aX ac).bind fun aW =>
    (chk (InI (((aS + 1) + aT.2) + (max (aU + 1) aW)))).bind fun _ =>
    Jae n rec_ aV (i0 + 1) ac (((aS + 1) + aT.2) + (max (aU + 1) aW))
    else
    (chk (InI (((aS + 1) + aT.2) + aU))).bind fun _ =>
    Jae n rec_ aV (i0 + 1) ac (((aS + 1) + aT.2) + aU)
    else
    Jae n rec_ aV (i0 + 1) ac ((aS + 1) + aT.2)
def JbP : Nat → (List Ja) → (List Jk) → Option (Int)
  | 0, _, _ => none
  | n + 1, list, env =>
    (chk (list.length ≤ qbg)).bind fun _ =>
    (Jae n (JbP n) list 0 env 0).bind fun t0 =>
    some t0.2
theorem Jd3 : ∀ {n : Nat} {list : (List Ja)} {env : (List Jk)} {aa : Option Addr} {ab : Nat} {n0 : Nat} {af : Option Addr} {ag : Nat} {n1 : Nat} {K : Hp} {r : Int}
    (hm : JbP n list env = some r) (hX : LiC Ja.R K aa ab 4 list ∧ n0 = list.length ∧ RdC Jk.enc K af ag 2 env ∧ n1 = env.length),
    Fn Tryz.prog 144 [.slice aa n0 ab, .slice af n1 ag] K [] (fun v K' H' => v = .int .i64 r ∧ H' = []) := by
 intro n
 induction n with
 | zero =>
   intro list env aa ab n0 af ag n1 K r hm hX
   rw [JbP.eq_1] at hm; cases hm
 | succ n ih =>
   intro list env aa ab n0 af ag n1 K r hm hX
   obtain ⟨ae, cu, ai, cL⟩ := hX
   subst cu
   subst cL
   refine Fn.enter Tryz.func144 Tryz.call144 rfl fun F => ?_
   rw [JbP.eq_2] at hm
   refine ro (qak rfl ?_)
   obtain ⟨aX, hm⟩ := qax hm
   obtain ⟨s0, aS, hm⟩ := bnd hm
   refine lC (σ := ((List Jk) × Int) × Option Addr × Nat) ([1,5,7,8,9,10] ++ rg 13 58) [0] (fun i0 => [(13, .int .i64 (i0 : Int))]) (fun (t0, aT, aV) => [(1, .slice aT t0.1.length aV), (5, .int .i64 t0.2)]) (fun _ => []) (fun zz K1 => match zz with | (t0, aT, aV) => RdC Jk.enc K1 aT aV 2 t0.1 ∧ True) (fun i0 (t0, aT, aV) => Jae n (JbP n) (list.drop i0) i0 t0.1 t0.2 = some s0) (fun (t0, aT, aV) => t0 = s0) (fun i0 => list.length - i0) 0 ((_, _), _, _) aS (And.intro qe (And.intro ?_ ?_))
   clear aS
   rintro i0 ⟨⟨ac, cj⟩, bF, bC⟩ cQ bX ⟨bt, _⟩ aS j0
   dsimp only at aS ⊢
   refine qac rfl ?_
   refine qae ?_ ?_ <;> intro w0
   obtain ⟨e0, aW, cy⟩ := ltx w0
   rw [cy, Jae.eq_2] at aS
   refine qal rfl ?_
   refine RStep.ofN (qad rfl rfl (qc0 (LiC.mono Ja.R_ok bX ae).rd aW) (nn _) (qbm aW) ?_)
   obtain ⟨cG, cr, bo, bb, bg⟩ := LiR.get (LiC.mono Ja.R_ok bX ae).rd aW
   obtain ⟨bQ, bz, rfl, aU⟩ := Ja.out bg
   refine ro (qan i0 _ bo rfl bb rfl ?_)
   refine qai rfl fun b7 => ?_
   refine qaa r0 rfl ⟨rfl, rfl, (nl rfl), ?_⟩
   obtain ⟨cz, aS⟩ := qax aS
   refine qam cz (fa rfl (ro (ld r0 rfl rfl (ro (qak rfl (qaf ?_))))))
   refine cs rfl rfl aS ?_ ?_ <;> intro cW aS
   refine cT (qam (qbj aW aX) ?_)
   exact eR aS (_, (_, _), _, _)
   refine fa rfl (ro (ld r0 rfl rfl ?_))
   obtain ⟨cR, bK, bc, aS⟩ := ixb aS
   refine RStep.ofN (qad rfl rfl (qc0 aU.rd bc) bK (qaz rfl bK bc) ?_)
   obtain ⟨cn, cC, bf, bl, bh⟩ := LiR.get aU.rd bc
   obtain ⟨bG, bI, rfl, bT⟩ := Ja.out bh
   refine ro (qan ((0 : Int).toNat) _ bf rfl bl rfl ?_)
   refine cb aS fun cU cH aS => cgx (Jd2 cH :) ?_
   obtain ⟨cw, aS⟩ := qax aS
   refine qam cw (fa rfl (ro (ld r0 rfl rfl ?_)))
   refine qal rfl ?_
   refine qaf (cs rfl rfl aS ?_ ?_) <;> intro de aS
   refine fa rfl (ro (ld r0 rfl rfl ?_))
   refine cb aS fun df cI aS => ckx (JaU cI :) ?_
   rintro _ _ _ ⟨bY, bP, rfl, bA, rfl⟩
   refine qam (qbj aW aX) ?_
   refine fRo r0 fun bZ bv bW => ?_
   exact eR aS (_, (_, _), _, _)
   refine qaf (cs rfl rfl aS ?_ ?_) <;> intro di aS
   refine fa rfl (ro (ld r0 rfl rfl ?_))
   obtain ⟨dj, bD, bd, aS⟩ := ixb aS
   refine RStep.ofN (qad rfl rfl (qc0 aU.rd bd) bD (qaz rfl bD bd) ?_)
   obtain ⟨cm, cA, aY, bj, bp⟩ := LiR.get aU.rd bd
   obtain ⟨ce, bS, rfl, bB⟩ := Ja.out bp
   refine ro (qan ((1 : Int).toNat) _ aY rfl bj rfl ?_)
   refine cb aS fun cV cB aS => cfx (JbU cB :) ?_
   rintro _ dg _ ca ⟨bU, bJ, rfl, bO, rfl⟩
   refine cb aS fun cY cM aS => cgx (ih cM :) ?_
   refine fa rfl (ro (ld r0 rfl rfl (ro (qak rfl ?_))))
   refine cs rfl rfl aS ?_ ?_ <;> intro cN aS
   obtain ⟨cK, aS⟩ := qax aS
   refine qam cK (fa rfl (ro (ld r0 rfl rfl ?_)))
   obtain ⟨cZ, bL, ba, aS⟩ := ixb aS
   refine RStep.ofN (qad rfl rfl (qc0 (LiC.mono Ja.R_ok ca aU).rd ba) bL (qaz rfl bL ba) ?_)
   obtain ⟨cJ, co, aZ, bm, bn⟩ := LiR.get (LiC.mono Ja.R_ok ca aU).rd ba
   obtain ⟨bw, bR, rfl, bV⟩ := Ja.out bn
   refine ro (qan ((2 : Int).toNat) _ aZ rfl bm rfl ?_)
   refine cb aS fun cO cE aS => cfx (JbU cE :) ?_
   rintro _ dk _ dh ⟨bM, bu, rfl, bH, rfl⟩
   refine cb aS fun dc cD aS => cgx (ih cD :) ?_
   refine ro (qce ?_)
   obtain ⟨br, aS⟩ := qax aS
   refine qam br (qam (qbj aW aX) ?_)
   exact eR aS (_, (_, _), _, _)
   obtain ⟨br, aS⟩ := qax aS
   refine qam br (qam (qbj aW aX) ?_)
   exact eR aS (_, (_, _), _, _)
   refine qam (qbj aW aX) ?_
   exact eR aS (_, (_, _), _, _)
   rw [lty w0, Jae.eq_1] at aS
   refine cT ?_
   exact eM aS (_, _, _)
   rintro ⟨t0, aT, aV⟩ cX cP ⟨bN, _⟩ rfl j0
   exact eE hm

def Jdd (n : Nat) (program : Ja) : Option (Int × Err) :=
  (Jca n program).bind fun x8 =>
  if x8.2.isSome then
  some (0, x8.2)
  else
  (JbP n program.Aa []).bind fun aS =>
  (chk (InI (aS + 1))).bind fun _ =>
  some ((aS + 1), none)
theorem Jd4 {n : Nat} {program : Ja} {aa : Option Addr} {ab : Nat} {K : Hp} {r : Int × Err}
    (hm : Jdd n program = some r) (hX : LiC Ja.R K aa ab 4 program.Aa ∧ GG K) :
    Fn Tryz.prog 91 [.agg #[.int .i64 program.Ab, str program.Ac, .slice aa program.Aa.length ab, .int .i64 program.Ad]] K [] (fun v K' H' => v = .tuple #[.int .i64 r.1, qcy 48 r.2] ∧ H' = []) := by
 obtain ⟨ae, hG⟩ := hX
 refine Fn.enter Tryz.func91 Tryz.call91 rfl fun F => ?_
 unfold Jdd at hm
 refine qar ?_
 intro b1
 refine ro (qab r0 rfl (nl rfl) ?_)
 refine cb hm fun x8 q8 hm => cgx (JcG q8 :) ?_
 refine qa5 rfl ?_
 refine cs rfl rfl hm ?_ ?_ <;> intro aU hm
 exact eE hm
 refine fa rfl (ro (ld r0 rfl rfl ?_))
 refine cb hm fun aT aS hm => cgx (Jd3 aS :) ?_
 refine ci hm fun hm => ?_
 exact eE hm

def qda (n : Nat) (text : Str) : Option ((List Jf) × Err) :=
  (Jc8 n text).bind fun aS =>
  if aS.2.2.isSome then
  some ([], aS.2.2)
  else
  (Jca n aS.1).bind fun aV =>
  if aV.2.isSome then
  some ([], aV.2)
  else
  (JcP n aS.1).bind fun aT =>
  if aT.2.isSome then
  some ([], aT.2)
  else
  (Jdd n aS.1).bind fun aU =>
  if aU.2.isSome then
  some ([], aU.2)
  else
  if decide (aU.1 > 10000) then
  some ([], (some 5))
  else
  some (aT.1, none)
theorem qe8 {n : Nat} {text : Str} {K : Hp} {r : (List Jf) × Err}
    (hm : qda n text = some r) (hG : GG K) :
    Fn Tryz.prog 67 [str text] K [] (fun v K' H' => ∃ ar_0 : Option Addr, ∃ cr_0 : Nat, v = .tuple #[.slice ar_0 r.1.length cr_0, qcy 48 r.2] ∧ (0 < r.1.length → Has ar_0) ∧ H' = [qau Jf.enc ar_0 135 3 cr_0 r.1]) := by
 refine Fn.enter Tryz.func67 Tryz.call67 rfl fun F => ?_
 unfold qda at hm
 refine cb hm fun bc aY hm => cfx (JdY aY :) ?_
 rintro _ bg _ bf ⟨aS, aW, rfl, aT, rfl⟩
 refine qai rfl fun b4 => ?_
 refine qaa r0 rfl ⟨rfl, rfl, (nl rfl), ?_⟩
 refine qa5 rfl ?_
 refine cs rfl rfl hm ?_ ?_ <;> intro bd hm
 refine qcg Jf.enc 135 3 ?_
 exact eE hm
 refine ro (qab r0 rfl (nl rfl) ?_)
 refine cb hm fun bm aZ hm => cgx (JcG aZ :) ?_
 refine qa5 rfl ?_
 refine cs rfl rfl hm ?_ ?_ <;> intro bj hm
 refine qcg Jf.enc 135 3 ?_
 exact eE hm
 refine ro (qab r0 rfl (nl rfl) ?_)
 refine cb hm fun bp ba hm => ckx (JdN ba :) ?_
 rintro _ _ _ ⟨aU, aV, rfl, aX, rfl⟩
 refine qa5 rfl ?_
 refine cs rfl rfl hm ?_ ?_ <;> intro bl hm
 refine qcg Jf.enc 135 3 ?_
 exact eE hm
 refine ro (qab r1 rfl (nl rfl) ?_)
 refine cb hm fun bn bb hm => cgx (Jd4 bb :) ?_
 refine qa5 rfl ?_
 refine cs rfl rfl hm ?_ ?_ <;> intro bo hm
 refine qcg Jf.enc 135 3 ?_
 exact eE hm
 refine cs rfl rfl hm ?_ ?_ <;> intro bh hm
 refine qas rfl ?_
 refine qcg Jf.enc 135 3 ?_
 exact eE hm
 exact eE hm

def qb6 (n : Nat) (d : JG) (s : Jas) : Option (Err × JG) :=
  (JbV s.An).bind fun aT =>
  if ((aT.2.isSome || decide (aT.1 ≠ s.An)) || (mget d.sites s.An).isSome) then
  some ((some 8), d)
  else
  if (decide (s.Tenant < 0) || decide (s.Tenant ≥ 16)) then
  some ((some 1), d)
  else
  (qda n s.Program).bind fun aS =>
  if aS.2.isSome then
  some (aS.2, d)
  else
  some (none, (⟨(mset d.sites s.An (⟨s.Tenant, aS.1⟩ : Jy))⟩ : JG))
theorem qdi {n : Nat} {d : JG} {s : Jas} {b0 : Nat} {aE : Nat} {aG : List (Str × EnD Jy)} {K : Hp} {r : Err × JG}
    (hm : qb6 n d s = some r) (hX : MR Jy.R K aG d.sites ∧ GG K) :
    Fn Tryz.prog 35 [.pointer (some ⟨b0, 0, none⟩), .agg #[str s.An, .int .i64 s.Tenant, str s.Program]] K [Cells b0 78 [.map (some aE)], qk9 qk8 vAg aE aG] (fun v K' H' => ∃ mr_0 : Nat, ∃ wr_0 : List (Str × EnD Jy), v = qcy 48 r.1 ∧ MR Jy.R K' wr_0 r.2.sites ∧ H' = [Cells b0 78 [.map (some mr_0)], qk9 qk8 vAg mr_0 wr_0]) := by
 obtain ⟨ba, hG⟩ := hX
 refine Fn.enter Tryz.func35 Tryz.call35 rfl fun F => ?_
 unfold qb6 at hm
 refine qar ?_
 intro b3
 refine fa rfl (ro (ld r0 rfl rfl ?_))
 refine cb hm fun bd bo hm => cgx (JdB bo :) ?_
 refine qe2 ⟨⟨[], false⟩, _, [(_, _), (_, _)], []⟩ 13 rfl (by kernel_rfl) ⟨Hp.Le.refl _, (sc [1,0] rfl), ci0⟩ ?_
 refine qag (fa rfl (qap m0 rfl rfl (fa rfl (qap m1 rfl rfl ?_))))
 refine qhm (kenc := qk8) (R := Jy.R) (zs := [.int .i64 0, .slice none 0 0]) (z := (⟨0, []⟩ : Jy)) r2 rfl rfl (qjd rfl) ba (⟨none, 0, rfl, RdC.nil⟩) fun bt bc => ?_
 obtain ⟨bf, bj, rfl, bg⟩ := bc
 refine qki rfl ?_
 intro b7
 intro bu
 refine qaa r0 rfl ⟨rfl, rfl, (nl rfl), ?_⟩
 refine ⟨⟨lr, (sc [2,1] rfl), ci0⟩, ?_⟩
 refine ⟨_, .cons r5 .nil, ⟨lr, (sc [2,1] rfl), ci0⟩, ?_⟩
 refine jR (σ := Unit) (rg 26 11) (fun _ => [(36, .bool ((bd.2.isSome || decide (bd.1 ≠ s.An)) || (mget d.sites s.An).isSome))]) (fun bl => True) ?_ ?_
 refine qah rfl ?_
 refine qa5 rfl ?_
 refine qae ?_ ?_ <;> intro aT
 refine ct aT (ct aT (ct aT (ct aT (cT (cT ?_)))))
 exact eMt () ⟨bq (((qcj (qcj aT))).symm), trivial⟩
 refine cf aT (fa rfl (cf aT (ro (ld r1 rfl rfl (cf aT (qbp (cf aT ?_)))))))
 refine qae ?_ ?_ <;> intro aX
 refine ct aX ?_
 exact eMt () ⟨bq (((qcj (qgx aT aX))).symm), trivial⟩
 refine cf aX ?_
 exact eMt () ⟨bq (qg2 (b := (mget d.sites s.An).isSome) (qeh aT aX)), trivial⟩
 rintro _ _ br
 refine cs rfl rfl hm ?_ ?_ <;> intro bv hm
 refine qas rfl ?_
 exact eE hm
 refine jR (σ := Unit) (rg 38 8) (fun _ => [(45, .bool (decide (s.Tenant < 0) || decide (s.Tenant ≥ 16)))]) (fun bp => True) ?_ ?_
 refine qah rfl ?_
 refine fa rfl (ro (ld r1 rfl rfl ?_))
 refine qae ?_ ?_ <;> intro aV
 refine ct aV (ct aV (ct aV ?_))
 exact eMt () ⟨bq (((qcj aV)).symm), trivial⟩
 refine fa rfl (cf aV (ro (ld r1 rfl rfl (cf aV (cf aV ?_)))))
 exact eMt () ⟨bq (qg2 (b := decide (s.Tenant ≥ 16)) aV), trivial⟩
 rintro _ _ bn
 refine cs rfl rfl hm ?_ ?_ <;> intro bz hm
 refine qas rfl ?_
 exact eE hm
 refine fa rfl (ro (ld r1 rfl rfl ?_))
 refine cb hm fun bb bm hm => ckx (qe8 bm :) ?_
 rintro _ _ _ ⟨aY, aZ, rfl, bh, rfl⟩
 refine qa5 rfl ?_
 refine cs rfl rfl hm ?_ ?_ <;> intro bw hm
 exact eE hm
 refine qa3 ⟨⟨[], false⟩, _, [(_, _), (_, _)], []⟩ (by kernel_rfl) ⟨Hp.Le.refl _, (sc [3,2] rfl), ci0⟩ ?_
 refine qag (fa rfl (qap m0 rfl rfl (fa rfl (qap m1 rfl rfl (fa rfl (qap m1 rfl rfl (qaj rfl rfl ?_)))))))
 refine cT (cT ?_)
 refine fW r0 fun aW aS aU => ?_
 refine qjf (kenc := qk8) (venc := vAg) ([.int .i64 s.Tenant, .slice aY bb.1.length aZ], (⟨s.Tenant, bb.1⟩ : Jy)) rfl r3 rfl (qjd rfl) ?_
 refine qk (sc [3,2] rfl) ?_
 cases hm
 exact en aS ⟨aE, (mset aG s.An ([.int .i64 s.Tenant, .slice aY bb.1.length aZ], (⟨s.Tenant, bb.1⟩ : Jy))), rfl, (MR.set (R := Jy.R) (MR.mono Jy.R_ok ba aS) s.An (⟨aY, aZ, rfl, aU⟩)), rfl⟩ (sc [3,0,2] rfl)

def tenant_New_L0 (n : Nat) : List Jas → Nat → JG → Option (Fl (Option JG × Int × Err) (JG))
  | [], _, ac => some (Fl.go ac)
  | e0 :: aT, i0, ac =>
    (qb6 n ac e0).bind fun aS =>
    if aS.1.isSome then
    some (Fl.ret (none, (i0 : Int), aS.1))
    else
    tenant_New_L0 n aT (i0 + 1) aS.2
def qe9 (n : Nat) (sites : (List Jas)) : Option (Option JG × Int × Err) :=
  (chk (sites.length ≤ qbg)).bind fun _ =>
  (tenant_New_L0 n sites 0 (⟨[]⟩ : JG)).bind fun s0 => s0.el some fun t0 =>
  some ((some t0), 0, none)
theorem qho {n : Nat} {sites : (List Jas)} {aa : Option Addr} {ab : Nat} {n0 : Nat} {K : Hp} {r : Option JG × Int × Err}
    (hm : qe9 n sites = some r) (hX : RdC Jas.enc K aa ab 3 sites ∧ n0 = sites.length ∧ GG K) :
    Fn Tryz.prog 12 [.slice aa n0 ab] K [] (fun v K' H' => match r.1 with | none => (v = .tuple #[.pointer none, .int .i64 r.2.1, qcy 48 r.2.2] ∧ H' = []) | some ro => (∃ br_0 : Nat, ∃ mr_1 : Nat, ∃ wr_1 : List (Str × EnD Jy), v = .tuple #[.pointer (some ⟨br_0, 0, none⟩), .int .i64 r.2.1, qcy 48 r.2.2] ∧ MR Jy.R K' wr_1 ro.sites ∧ H' = [Cells br_0 78 [.map (some mr_1)], qk9 qk8 vAg mr_1 wr_1])) := by
 obtain ⟨ae, bj, hG⟩ := hX
 subst bj
 refine Fn.enter Tryz.func12 Tryz.call12 rfl fun F => ?_
 unfold qe9 at hm
 refine qil qk8 (venc := (vAg : EnD Jy → Value)) fun b9 => ?_
 refine qaj rfl rfl (cT ?_)
 refine qar ?_
 intro bf
 refine ro (qak rfl ?_)
 obtain ⟨bg, hm⟩ := qax hm
 obtain ⟨s0, aU, hm⟩ := bnd hm
 refine lC (σ := (JG) × Nat × List (Str × EnD Jy)) ([2,3,4,6,7,8] ++ rg 14 13) [2] (fun i0 => [(14, .int .i64 (i0 : Int))]) (fun _ => []) (fun (t0, aS, aT) => [Cells bf 78 [.map (some aS)], qk9 qk8 vAg aS aT]) (fun zz K1 => match zz with | (t0, aS, aT) => MR Jy.R K1 aT t0.sites ∧ True) (fun i0 (t0, aS, aT) => tenant_New_L0 n (sites.drop i0) i0 t0 = some s0) (fun (t0, aS, aT) => s0 = Fl.go t0) (fun i0 => sites.length - i0) 0 ((⟨[]⟩ : JG), b9, ([] : List (Str × EnD Jy))) aU (And.intro ⟨⟨MR.nil, trivial⟩, ⟨rfl, trivial⟩, _, (sp rfl)⟩ (And.intro ?_ ?_))
 clear aU
 rintro i0 ⟨ac, aV, aW⟩ bp bd ⟨aY, _⟩ aU j0
 conv at aU => whnf
 refine qac rfl ?_
 refine qae ?_ ?_ <;> intro w0
 obtain ⟨e0, aZ, bl⟩ := ltx w0
 rw [bl, tenant_New_L0.eq_2] at aU
 refine qal rfl ?_
 refine RStep.ofN (qad rfl rfl (qfy (ae.mono bd).rd aZ) (nn _) (qbm aZ) (ro (qan i0 _ (ae.mono bd).rd rfl (mp aZ) rfl ?_)))
 refine qai rfl fun b7 => ?_
 refine qaa r0 rfl ⟨rfl, rfl, (nl rfl), ?_⟩
 refine ro (qab r0 rfl (nl rfl) ?_)
 refine cb aU fun br bh aU => cfx (qdi bh :) ?_
 rintro _ bu _ bt ⟨bc, bb, rfl, ba, rfl⟩
 refine qa5 rfl ?_
 refine cs rfl rfl aU ?_ ?_ <;> intro bo aU
 exact eE (er aU hm)
 refine qam (qbj aZ bg) ?_
 exact eR aU (_, _, _, _)
 rw [lty w0, tenant_New_L0.eq_1] at aU
 refine cT ?_
 exact eM aU (_, _, _)
 rintro ⟨t0, aS, aT⟩ bn bm ⟨aX, _⟩ rfl j0
 replace hm := elg hm
 exact eE hm

def JaX : Nat → Nat → Str → Option (Str)
  | 0, _, ac => some ac
  | aT + 1, i0, ac =>
    (ix ac (i0 : Int)).bind fun aS =>
    if (decide ((aS.toNat : Int) ≥ 65) && decide ((aS.toNat : Int) ≤ 90)) then
    (ix ac (i0 : Int)).bind fun aU =>
    JaX aT (i0 + 1) (ac.set (((i0 : Int)).toNat) (aS + (32 : UInt8)))
    else
    JaX aT (i0 + 1) ac
def JaI (s : Str) : Option (Str) :=
  (chk (s.length ≤ lim)).bind fun _ =>
  (chk (InI (s.length : Int))).bind fun _ =>
  (JaX (s.length : Int).toNat 0 s).bind fun t0 =>
  some t0
theorem JaK {s : Str} {K : Hp} {r : Str}
    (hm : JaI s = some r)  :
    Fn Tryz.prog 51 [str s] K [] (fun v K' H' => v = str r ∧ H' = []) := by
 refine Fn.enter Tryz.func51 Tryz.call51 rfl fun F => ?_
 unfold JaI at hm
 obtain ⟨h7, hm⟩ := qax hm
 refine qex rfl rfl rfl h7 ?_
 intro a7 c7 o7
 refine ro (qak rfl ?_)
 obtain ⟨aZ, hm⟩ := qax hm
 obtain ⟨s0, aT, hm⟩ := bnd hm
 refine lD (σ := (Str)) ([4,5] ++ rg 10 17) [1] (fun i0 => [(10, .int .i64 (i0 : Int))]) (fun _ => []) (fun t0 => [qau eU a7 5 1 c7 t0]) (fun t0 => (0 < t0.length → Has a7) ∧ s.length = t0.length) (fun i0 t0 => JaX ((s.length : Int).toNat - i0) i0 t0 = some s0) (fun t0 => t0 = s0) (fun i0 => (s.length : Int).toNat - i0) 0 _ aT (And.intro qe (And.intro ?_ ?_))
 clear aT
 rintro i0 ac ⟨aU, aV⟩ aT j0
 conv at aT => whnf
 refine qac rfl ?_
 refine qae ?_ ?_ <;> intro w0
 rw [ltn w0, JaX.eq_2] at aT
 refine qal rfl ?_
 obtain ⟨aY, bc, ba, aT⟩ := ixb aT
 refine RStep.ofN (qad rfl rfl (qcm aU ba) bc (qaz aV bc ba) (ro (qby (i := ((i0 : Int)).toNat) (o := 0) r0 rfl ba rfl rfl ?_)))
 refine qah rfl ?_
 refine qae ?_ ?_ <;> intro aS
 refine ct aS (ct aS (qac rfl ?_))
 refine qae ?_ ?_ <;> intro bf
 replace aT := ift (qct aS bf) aT
 refine qhy (x := aY) (y := (32 : UInt8)) rfl rfl ?_
 obtain ⟨bg, bd, aX, aT⟩ := ixb aT
 refine RStep.ofN (qad rfl rfl (qcm aU aX) bd (qaz aV bd aX) ?_)
 refine qd8 (o := 0) (y := (aY + (32 : UInt8))) bg r0 rfl aX rfl (by (conv => whnf); exact ⟨rfl, rfl, (nl rfl), rfl, rfl, rfl⟩) ?_
 refine qam (qio w0 aZ) ?_
 exact rd (i0 + 1, (ac.set (((i0 : Int)).toNat) (aY + (32 : UInt8)))) ⟨rfl, trivial⟩ rfl (pf rfl) lr (qpd w0) ⟨⟨(by first | simpa using aU | exact fun _ => ⟨_, _, rfl⟩), ((aV).trans List.length_set.symm)⟩, aT⟩
 replace aT := qa7 (qcu aS bf) aT
 refine qam (qio w0 aZ) ?_
 exact eR aT (_, _)
 refine cf aS (cf aS (qac rfl (cF ?_)))
 replace aT := qa7 (qa9 aS) aT
 refine qam (qio w0 aZ) ?_
 exact eR aT (_, _)
 rw [lto w0, JaX.eq_1] at aT
 refine cT ?_
 exact eM aT _
 rintro t0 ⟨bb, aW⟩ rfl j0
 refine ro (qdm aW r0 rfl rfl rfl ?_)
 exact eE hm

def Jbz (x9 : Str) : List Jc → Nat → (List Str) → Option ((List Str))
  | [], _, ac => some ac
  | e0 :: aS, i0, ac =>
    (JaI e0.Name).bind fun aT =>
    if decide (aT = x9) then
    (chk (ac.length + [e0.Value].length ≤ lim)).bind fun _ =>
    Jbz x9 aS (i0 + 1) (ac ++ [e0.Value])
    else
    Jbz x9 aS (i0 + 1) ac
def Jcu (f : (List Jc)) (name : Str) : Option ((List Str)) :=
  (JaI name).bind fun x9 =>
  (chk (f.length ≤ qbg)).bind fun _ =>
  (Jbz x9 f 0 []).bind fun t0 =>
  some t0
theorem Jcn {f : (List Jc)} {name : Str} {aa : Option Addr} {ab : Nat} {n0 : Nat} {K : Hp} {r : (List Str)}
    (hm : Jcu f name = some r) (hX : RdC Jc.enc K aa ab 2 f ∧ n0 = f.length) :
    Fn Tryz.prog 24 [.slice aa n0 ab, str name] K [] (fun v K' H' => ∃ ar_0 : Option Addr, ∃ cr_0 : Nat, v = .slice ar_0 r.length cr_0 ∧ (0 < r.length → Has ar_0) ∧ H' = [qau eS ar_0 9 1 cr_0 r]) := by
 obtain ⟨ae, bd⟩ := hX
 subst bd
 refine Fn.enter Tryz.func24 Tryz.call24 rfl fun F => ?_
 unfold Jcu at hm
 refine cb hm fun x9 q9 hm => cg0 (JaK q9 :) ?_
 refine ro (qak rfl ?_)
 obtain ⟨aY, hm⟩ := qax hm
 obtain ⟨s0, aU, hm⟩ := bnd hm
 refine qgy eS 9 1 ?_
 refine lD (σ := ((List Str)) × Option Addr × Nat) ([5,7] ++ rg 12 15) [1] (fun i0 => [(12, .int .i64 (i0 : Int))]) (fun (t0, aS, aT) => [(5, .slice aS t0.length aT)]) (fun (t0, aS, aT) => [qau eS aS 9 1 aT t0]) (fun (t0, aS, aT) => (0 < t0.length → Has aS) ∧ True) (fun i0 (t0, aS, aT) => Jbz x9 (f.drop i0) i0 t0 = some s0) (fun (t0, aS, aT) => t0 = s0) (fun i0 => f.length - i0) 0 (_, _, _) aU (And.intro qe (And.intro ?_ ?_))
 clear aU
 rintro i0 ⟨ac, ba, aZ⟩ ⟨aW, _⟩ aU j0
 conv at aU => whnf
 refine qac rfl ?_
 refine qae ?_ ?_ <;> intro w0
 obtain ⟨e0, aV, bf⟩ := ltx w0
 rw [bf, Jbz.eq_2] at aU
 refine qal rfl ?_
 refine RStep.ofN (qad rfl rfl (qfy ae.rd aV) (nn _) (qbm aV) (ro (qan i0 _ ae.rd rfl (mp aV) rfl ?_)))
 refine qai rfl fun b7 => ?_
 refine qaa r0 rfl ⟨rfl, rfl, (nl rfl), ?_⟩
 refine fa rfl (ro (ld r0 rfl rfl ?_))
 refine cb aU fun bm bc aU => cg0 (JaK bc :) ?_
 refine qaq (cs rfl rfl aU ?_ ?_) <;> intro bl aU
 refine fa rfl (ro (ld r0 rfl rfl ?_))
 refine bsO (len := 1) (enc := eS) (l := [e0.Value]) (cl := [str e0.Value]) qbr rfl rfl (fun _ _ => rfl) rfl rfl rfl ?_ fun bg => ?_
 · conv => whnf
   refine cT ?_
   first | done | rfl
 obtain ⟨bb, aU⟩ := qax aU
 refine apE rfl r2 qbr (qat rfl r0 rfl (fun _ => rfl) (fun _ => rfl)) bb ?_
 intro bn bj bh
 refine qam (qbj aV aY) ?_
 exact eR aU (_, _, _, _)
 refine qam (qbj aV aY) ?_
 exact eR aU (_, _, _, _)
 rw [lty w0, Jbz.eq_1] at aU
 refine cT ?_
 exact eM aU (_, _, _)
 rintro ⟨t0, aS, aT⟩ ⟨aX, _⟩ rfl j0
 exact eE hm

def tenant_lower_L0 : Nat → Nat → Str → Option (Str)
  | 0, _, ac => some ac
  | aT + 1, i0, ac =>
    (ix ac (i0 : Int)).bind fun aS =>
    if (decide ((aS.toNat : Int) ≥ 65) && decide ((aS.toNat : Int) ≤ 90)) then
    (ix ac (i0 : Int)).bind fun aU =>
    tenant_lower_L0 aT (i0 + 1) (ac.set (((i0 : Int)).toNat) (aS + (32 : UInt8)))
    else
    tenant_lower_L0 aT (i0 + 1) ac
def qc6 (s : Str) : Option (Str) :=
  (chk (s.length ≤ lim)).bind fun _ =>
  (chk (InI (s.length : Int))).bind fun _ =>
  (tenant_lower_L0 (s.length : Int).toNat 0 s).bind fun t0 =>
  some t0
theorem qdo {s : Str} {K : Hp} {r : Str}
    (hm : qc6 s = some r)  :
    Fn Tryz.prog 36 [str s] K [] (fun v K' H' => v = str r ∧ H' = []) := by
 refine Fn.enter Tryz.func36 Tryz.call36 rfl fun F => ?_
 unfold qc6 at hm
 obtain ⟨h7, hm⟩ := qax hm
 refine qex rfl rfl rfl h7 ?_
 intro a7 c7 o7
 refine ro (qak rfl ?_)
 obtain ⟨aZ, hm⟩ := qax hm
 obtain ⟨s0, aT, hm⟩ := bnd hm
 refine lD (σ := (Str)) ([4,5] ++ rg 10 17) [1] (fun i0 => [(10, .int .i64 (i0 : Int))]) (fun _ => []) (fun t0 => [qau eU a7 5 1 c7 t0]) (fun t0 => (0 < t0.length → Has a7) ∧ s.length = t0.length) (fun i0 t0 => tenant_lower_L0 ((s.length : Int).toNat - i0) i0 t0 = some s0) (fun t0 => t0 = s0) (fun i0 => (s.length : Int).toNat - i0) 0 _ aT (And.intro qe (And.intro ?_ ?_))
 clear aT
 rintro i0 ac ⟨aU, aV⟩ aT j0
 conv at aT => whnf
 refine qac rfl ?_
 refine qae ?_ ?_ <;> intro w0
 rw [ltn w0, tenant_lower_L0.eq_2] at aT
 refine qal rfl ?_
 obtain ⟨aY, bc, ba, aT⟩ := ixb aT
 refine RStep.ofN (qad rfl rfl (qcm aU ba) bc (qaz aV bc ba) (ro (qby (i := ((i0 : Int)).toNat) (o := 0) r0 rfl ba rfl rfl ?_)))
 refine qah rfl ?_
 refine qae ?_ ?_ <;> intro aS
 refine ct aS (ct aS (qac rfl ?_))
 refine qae ?_ ?_ <;> intro bf
 replace aT := ift (qct aS bf) aT
 refine qhy (x := aY) (y := (32 : UInt8)) rfl rfl ?_
 obtain ⟨bg, bd, aX, aT⟩ := ixb aT
 refine RStep.ofN (qad rfl rfl (qcm aU aX) bd (qaz aV bd aX) ?_)
 refine qd8 (o := 0) (y := (aY + (32 : UInt8))) bg r0 rfl aX rfl (by (conv => whnf); exact ⟨rfl, rfl, (nl rfl), rfl, rfl, rfl⟩) ?_
 refine qam (qio w0 aZ) ?_
 exact rd (i0 + 1, (ac.set (((i0 : Int)).toNat) (aY + (32 : UInt8)))) ⟨rfl, trivial⟩ rfl (pf rfl) lr (qpd w0) ⟨⟨(by first | simpa using aU | exact fun _ => ⟨_, _, rfl⟩), ((aV).trans List.length_set.symm)⟩, aT⟩
 replace aT := qa7 (qcu aS bf) aT
 refine qam (qio w0 aZ) ?_
 exact eR aT (_, _)
 refine cf aS (cf aS (qac rfl (cF ?_)))
 replace aT := qa7 (qa9 aS) aT
 refine qam (qio w0 aZ) ?_
 exact eR aT (_, _)
 rw [lto w0, tenant_lower_L0.eq_1] at aT
 refine cT ?_
 exact eM aT _
 rintro t0 ⟨bb, aW⟩ rfl j0
 refine ro (qdm aW r0 rfl rfl rfl ?_)
 exact eE hm

def Jax (c : UInt8) : Option (Bool) :=
  (Jbb c).bind fun x4 =>
  some ((((x4 || decide ((c.toNat : Int) = 45)) || decide ((c.toNat : Int) = 46)) || decide ((c.toNat : Int) = 95)) || decide ((c.toNat : Int) = 126))
theorem JcL {c : UInt8} {K : Hp} {r : Bool}
    (hm : Jax c = some r)  :
    Fn Tryz.prog 79 [.int .u8 (c.toNat : Int)] K [] (fun v K' H' => v = .bool r ∧ H' = []) := by
 refine Fn.enter Tryz.func79 Tryz.call79 rfl fun F => ?_
 unfold Jax at hm
 refine qah rfl ?_
 refine cb hm fun x4 q4 hm => cg0 (Jdt q4 :) ?_
 refine qae ?_ ?_ <;> intro aU
 refine ct aU (ct aU (cT (cT (cT (cT (cT (cT ?_)))))))
 refine cT (cT (cT ?_))
 exact bE (((qcj (qcj (qcj (qcj aU))))).symm) (eE hm)
 refine cf aU (qaf (cf aU ?_))
 refine qae ?_ ?_ <;> intro aV
 refine ct aV (ct aV (cT (cT (cT (cT (cT (cT ?_)))))))
 exact bE (((qcj (qcj (qcj (qgx aU aV))))).symm) (eE hm)
 refine cf aV (qaf (cf aV ?_))
 refine qae ?_ ?_ <;> intro aS
 refine ct aS (ct aS (cT (cT (cT ?_))))
 exact bE (((qcj (qcj (qgx (qeh aU aV) aS)))).symm) (eE hm)
 refine cf aS (qaf (cf aS ?_))
 refine qae ?_ ?_ <;> intro aT
 refine ct aT (ct aT ?_)
 exact bE (((qcj (qgx (qeh (qeh aU aV) aS) aT))).symm) (eE hm)
 refine cf aT (qaf (cf aT ?_))
 exact bE (qg2 (b := decide ((c.toNat : Int) = 126)) (qeh (qeh (qeh aU aV) aS) aT)) (eE hm)

def Jbh (c : UInt8) : Option (Int) :=
  if (decide ((c.toNat : Int) ≥ 48) && decide ((c.toNat : Int) ≤ 57)) then
  some ((c - (48 : UInt8)).toNat : Int)
  else
  if (decide ((c.toNat : Int) ≥ 97) && decide ((c.toNat : Int) ≤ 102)) then
  (chk (InI (((c - (97 : UInt8)).toNat : Int) + 10))).bind fun _ =>
  some (((c - (97 : UInt8)).toNat : Int) + 10)
  else
  if (decide ((c.toNat : Int) ≥ 65) && decide ((c.toNat : Int) ≤ 70)) then
  (chk (InI (((c - (65 : UInt8)).toNat : Int) + 10))).bind fun _ =>
  some (((c - (65 : UInt8)).toNat : Int) + 10)
  else
  some (-1)
theorem Jcf {c : UInt8} {K : Hp} {r : Int}
    (hm : Jbh c = some r)  :
    Fn Tryz.prog 81 [.int .u8 (c.toNat : Int)] K [] (fun v K' H' => v = .int .i64 r ∧ H' = []) := by
 refine Fn.enter Tryz.func81 Tryz.call81 rfl fun F => ?_
 unfold Jbh at hm
 refine qal rfl ?_
 refine jR (σ := Unit) (rg 3 7) (fun _ => [(3, .bool (decide ((c.toNat : Int) ≥ 48) && decide ((c.toNat : Int) ≤ 57)))]) (fun aY => True) ?_ ?_
 refine qah rfl ?_
 refine qae ?_ ?_ <;> intro aU
 refine ct aU (ct aU ?_)
 exact eMt () ⟨bq (qcr (b := decide ((c.toNat : Int) ≤ 57)) aU), trivial⟩
 refine cf aU (cf aU ?_)
 exact eMt () ⟨bq (((qa9 aU)).symm), trivial⟩
 rintro _ _ aZ
 refine cs rfl rfl hm ?_ ?_ <;> intro w3 hm
 refine qhz (x := c) (y := (48 : UInt8)) rfl rfl (qfx rfl rfl (qrb (c - (48 : UInt8))) ?_)
 exact eE hm
 refine jR (σ := Unit) (rg 13 7) (fun _ => [(13, .bool (decide ((c.toNat : Int) ≥ 97) && decide ((c.toNat : Int) ≤ 102)))]) (fun aX => True) ?_ ?_
 refine qah rfl ?_
 refine qae ?_ ?_ <;> intro aT
 refine ct aT (ct aT ?_)
 exact eMt () ⟨bq (qcr (b := decide ((c.toNat : Int) ≤ 102)) aT), trivial⟩
 refine cf aT (cf aT ?_)
 exact eMt () ⟨bq (((qa9 aT)).symm), trivial⟩
 rintro _ _ aW
 refine cs rfl rfl hm ?_ ?_ <;> intro ba hm
 refine qhz (x := c) (y := (97 : UInt8)) rfl rfl (qfx rfl rfl (qrb (c - (97 : UInt8))) ?_)
 refine ci hm fun hm => ?_
 exact eE hm
 refine qah rfl ?_
 refine qae ?_ ?_ <;> intro aS
 refine ct aS (ct aS (qac rfl ?_))
 refine qae ?_ ?_ <;> intro aV
 replace hm := ift (qct aS aV) hm
 refine qhz (x := c) (y := (65 : UInt8)) rfl rfl (qfx rfl rfl (qrb (c - (65 : UInt8))) ?_)
 refine ci hm fun hm => ?_
 exact eE hm
 replace hm := qa7 (qcu aS aV) hm
 exact eE hm
 refine cf aS (cf aS (qac rfl (cF ?_)))
 replace hm := qa7 (qa9 aS) hm
 exact eE hm

def J0 (s : Str) (others : Str) : Nat → Str → Int → Option (Fl (Str × Bool) (Str × Int))
  | 0, _, _ => none
  | aW + 1, ac, aS =>
    if decide (aS < (s.length : Int)) then
    (ix s aS).bind fun aV =>
    if decide ((aV.toNat : Int) ≠ 37) then
    (Jax aV).bind fun bc =>
    (if (!bc) then (ixByteM others aV).bind fun bm =>
    some (decide (bm < 0)) else some false).bind fun bo =>
    if bo then
    some (Fl.ret (([] : Str), false))
    else
    (chk (ac.length + ([aV] : Str).length ≤ lim)).bind fun _ =>
    (chk (InI (aS + 1))).bind fun _ =>
    J0 s others aW (ac ++ ([aV] : Str)) (aS + 1)
    else
    (((chk (InI (aS + 2))).bind fun _ =>
    (if decide ((aS + 2) ≥ (s.length : Int)) then some true else (chk (InI (aS + 1))).bind fun _ =>
    (ix s (aS + 1)).bind fun bb =>
    (Jbh bb).bind fun bj =>
    some (decide (bj < 0))).bind fun bh =>
    (if bh then some true else (chk (InI (aS + 2))).bind fun _ =>
    (ix s (aS + 2)).bind fun bg =>
    (Jbh bg).bind fun bd =>
    some (decide (bd < 0))).bind fun bn =>
    some bn) : Option (Bool)).bind fun aX =>
    if aX then
    some (Fl.ret (([] : Str), false))
    else
    (chk (InI (aS + 1))).bind fun _ =>
    (ix s (aS + 1)).bind fun bl =>
    (Jbh bl).bind fun aT =>
    (chk (InI (16 * aT))).bind fun _ =>
    (chk (InI (aS + 2))).bind fun _ =>
    (ix s (aS + 2)).bind fun ba =>
    (Jbh ba).bind fun aU =>
    (chk (InI ((16 * aT) + aU))).bind fun _ =>
    (chk (InI (aS + 2))).bind fun _ =>
    if (decide (((qhe ((16 * aT) + aU)).toNat : Int) < 32) || decide (((qhe ((16 * aT) + aU)).toNat : Int) = 127)) then
    some (Fl.ret (([] : Str), false))
    else
    (Jax (qhe ((16 * aT) + aU))).bind fun bf =>
    if bf then
    (chk (ac.length + ([(qhe ((16 * aT) + aU))] : Str).length ≤ lim)).bind fun _ =>
    (chk (InI ((aS + 2) + 1))).bind fun _ =>
    J0 s others aW (ac ++ ([(qhe ((16 * aT) + aU))] : Str)) ((aS + 2) + 1)
    else
    (ix ([48, 49, 50, 51, 52, 53, 54, 55, 56, 57, 65, 66, 67, 68, 69, 70] : Str) (((qhe ((16 * aT) + aU)) / 16).toNat : Int)).bind fun aZ =>
    (ix ([48, 49, 50, 51, 52, 53, 54, 55, 56, 57, 65, 66, 67, 68, 69, 70] : Str) (((qhe ((16 * aT) + aU)) &&& (15 : UInt8)).toNat : Int)).bind fun aY =>
    (chk (ac.length + ([(37 : UInt8), aZ, aY] : Str).length ≤ lim)).bind fun _ =>
    (chk (InI ((aS + 2) + 1))).bind fun _ =>
    J0 s others aW (ac ++ ([(37 : UInt8), aZ, aY] : Str)) ((aS + 2) + 1)
    else
    some (Fl.go (ac, aS))
def Ja0 (n : Nat) (s : Str) (others : Str) : Option (Str × Bool) :=
  (J0 s others n [] 0).bind fun s0 => s0.el some fun t0 =>
  some (t0.1, true)
theorem JcU {n : Nat} {s : Str} {others : Str} {K : Hp} {r : Str × Bool}
    (hm : Ja0 n s others = some r)  :
    Fn Tryz.prog 46 [str s, str others] K [] (fun v K' H' => v = .tuple #[str r.1, .bool r.2] ∧ H' = []) := by
 refine Fn.enter Tryz.func46 Tryz.call46 rfl fun F => ?_
 unfold Ja0 at hm
 obtain ⟨s0, aS, hm⟩ := bnd hm
 refine qgy eU 5 1 ?_
 refine lD (σ := (Str × Int) × Option Addr × Nat) (rg 4 86) [1] (fun _ => []) (fun (t0, aY, aZ) => [(6, .slice aY t0.1.length aZ), (7, .int .i64 t0.2)]) (fun (t0, aY, aZ) => [qau eU aY 5 1 aZ t0.1]) (fun (t0, aY, aZ) => (0 < t0.1.length → Has aY) ∧ True) (fun i0 (t0, aY, aZ) => J0 s others i0 t0.1 t0.2 = some s0) (fun (t0, aY, aZ) => s0 = Fl.go t0) (fun i0 => i0) n ((_, _), _, _) aS (And.intro qe (And.intro ?_ ?_))
 clear aS
 rintro i0 ⟨⟨ac, bv⟩, bo, bn⟩ ⟨bm, _⟩ aS j0
 dsimp only at aS ⊢
 cases i0 with
 | zero => rw [J0.eq_1] at aS; cases aS
 | succ i0 =>
  rw [J0.eq_2] at aS
  refine ro (qa0 rfl ?_)
  refine cs rfl rfl aS ?_ ?_ <;> intro cU aS
  refine qal rfl ?_
  obtain ⟨bh, bJ, ca, aS⟩ := ixb aS
  refine qay rfl bJ ca (qa6 ?_)
  refine cs rfl rfl aS ?_ ?_ <;> intro cV aS
  refine qah rfl ?_
  refine cb aS fun cH bH aS => cg0 (JcL bH :) ?_
  refine qaw ?_
  obtain ⟨cG, bd, aS⟩ := bnd aS
  refine cS bd (fun aW bd => ?_) fun aW bd => ?_
  refine ct aW (ct aW ?_)
  refine cb bd fun cC bZ bd => cg0 (qi1 bZ) ?_
  refine ct aW (ct aW (qac rfl ?_))
  refine qae ?_ ?_ <;> intro br
  replace aS := ift ((si bd).symm.trans br) aS
  exact eE (er aS hm)
  replace aS := qa7 ((si bd).symm.trans br) aS
  refine bsO (len := 1) (enc := eU) (l := ([bh] : Str)) (cl := [.int .u8 (bh.toNat : Int)]) qbe rfl rfl (fun _ _ => rfl) rfl rfl rfl ?_ fun bW => ?_
  · conv => whnf
    refine cT ?_
    first | done | rfl
  obtain ⟨bl, aS⟩ := qax aS
  refine apE rfl r1 qbe (qat rfl r0 rfl (fun _ => rfl) (fun _ => rfl)) bl ?_
  intro bU bS bP
  refine cT ?_
  refine ci aS fun aS => ?_
  exact eR aS (_, (_, _), _, _)
  refine cf aW (cf aW (cf aW (cf aW (qac rfl (cF ?_)))))
  replace aS := qa7 (si bd).symm aS
  refine bsO (len := 1) (enc := eU) (l := ([bh] : Str)) (cl := [.int .u8 (bh.toNat : Int)]) qbe rfl rfl (fun _ _ => rfl) rfl rfl rfl ?_ fun bW => ?_
  · conv => whnf
    refine cT ?_
    first | done | rfl
  obtain ⟨bl, aS⟩ := qax aS
  refine apE rfl r1 qbe (qat rfl r0 rfl (fun _ => rfl) (fun _ => rfl)) bl ?_
  intro bU bS bP
  refine cT ?_
  refine ci aS fun aS => ?_
  exact eR aS (_, (_, _), _, _)
  obtain ⟨bj, aV, aS⟩ := bnd aS
  refine jR (σ := Bool) (rg 33 21) (fun bc => [(53, .bool bc)]) (fun bc => bc = bj) ?_ ?_
  refine qah rfl ?_
  obtain ⟨bL, aV⟩ := qax aV
  refine qam bL (ro (qa0 rfl ?_))
  obtain ⟨cM, bb, aV⟩ := bnd aV
  refine cS bb (fun aU bb => ?_) fun aU bb => ?_
  refine ct aU (ct aU (ct aU (ct aU (ct aU (ct aU ?_)))))
  obtain ⟨bC, ba, aV⟩ := bnd aV
  replace ba := ift (si bb).symm ba
  refine cT (cT (cT (cT (cT (cT (cT ?_))))))
  exact eMq aV _ ⟨bq (si ba), trivial⟩
  refine cf aU (cf aU ?_)
  obtain ⟨cm, bb⟩ := qax bb
  refine qam cm (cf aU ?_)
  obtain ⟨cw, cr, bG, bb⟩ := ixb bb
  refine qay rfl cr bG (cf aU ?_)
  refine cb bb fun cR bX bb => cg0 (Jcf bX :) ?_
  refine cf aU (cf aU ?_)
  obtain ⟨bC, ba, aV⟩ := bnd aV
  refine qae ?_ ?_ <;> intro aT
  replace ba := ift ((si bb).symm.trans aT) ba
  refine ct aT (ct aT (ct aT (ct aT (ct aT (ct aT ?_)))))
  exact eMq aV _ ⟨bq (si ba), trivial⟩
  replace ba := qa7 ((si bb).symm.trans aT) ba
  refine cf aT (cf aT ?_)
  obtain ⟨bM, ba⟩ := qax ba
  refine qam bM (cf aT ?_)
  obtain ⟨cI, co, bT, ba⟩ := ixb ba
  refine qay rfl co bT (cf aT ?_)
  refine cb ba fun cy cn ba => cg0 (Jcf cn :) ?_
  refine cf aT (cf aT ?_)
  exact eMq aV _ ⟨bq (si ba), trivial⟩
  rintro bc rfl bI
  refine cs rfl rfl aS ?_ ?_ <;> intro cN aS
  exact eE (er aS hm)
  refine qa3 ⟨⟨[], false⟩, _, [], []⟩ (by kernel_rfl) ⟨Hp.Le.refl _, (pf rfl), ci0⟩ ?_
  refine ci aS fun aS => ?_
  obtain ⟨cB, bY, bA, aS⟩ := ixb aS
  refine qay rfl bY bA ?_
  refine cb aS fun bf bB aS => cg0 (Jcf bB :) ?_
  refine qk (pf rfl) ?_
  refine ci aS fun aS => ?_
  refine ci aS fun aS => ?_
  obtain ⟨cu, cj, bD, aS⟩ := ixb aS
  refine qay rfl cj bD ?_
  refine cb aS fun bg bR aS => cg0 (Jcf bR :) ?_
  refine qk (pf rfl) ?_
  refine ci aS fun aS => ?_
  refine qpg rfl rfl ?_
  refine ci aS fun aS => ?_
  refine jR (σ := Unit) (rg 69 6) (fun _ => [(74, .bool (decide (((qhe ((16 * bf) + bg)).toNat : Int) < 32) || decide (((qhe ((16 * bf) + bg)).toNat : Int) = 127)))]) (fun bQ => True) ?_ ?_
  refine qah rfl ?_
  refine qae ?_ ?_ <;> intro aX
  refine ct aX (ct aX ?_)
  exact eMt () ⟨bq (((qcj aX)).symm), trivial⟩
  refine cf aX (qaf (cf aX ?_))
  exact eMt () ⟨bq (qg2 (b := decide (((qhe ((16 * bf) + bg)).toNat : Int) = 127)) aX), trivial⟩
  rintro _ _ bK
  refine cs rfl rfl aS ?_ ?_ <;> intro cL aS
  exact eE (er aS hm)
  refine cb aS fun cO bN aS => cg0 (JcL bN :) ?_
  refine cs rfl rfl aS ?_ ?_ <;> intro cK aS
  refine bsO (len := 1) (enc := eU) (l := ([(qhe ((16 * bf) + bg))] : Str)) (cl := [.int .u8 ((qhe ((16 * bf) + bg)).toNat : Int)]) qbe rfl rfl (fun _ _ => rfl) rfl rfl rfl ?_ fun cz => ?_
  · conv => whnf
    refine cT ?_
    first | done | rfl
  obtain ⟨bw, aS⟩ := qax aS
  refine apE rfl r1 qbe (qat rfl r0 rfl (fun _ => rfl) (fun _ => rfl)) bw ?_
  intro cD cP cJ
  refine cT ?_
  refine ci aS fun aS => ?_
  exact eR aS (_, (_, _), _, _)
  refine qa3 ⟨⟨[], false⟩, _, [], []⟩ (by kernel_rfl) ⟨Hp.Le.refl _, (pf rfl), ci0⟩ ?_
  refine qqu (x := (qhe ((16 * bf) + bg))) 16 rfl (by decide) (by decide) ?_
  obtain ⟨bp, bV, bO, aS⟩ := ixb aS
  refine qay rfl bV bO ?_
  refine qqv (x := (qhe ((16 * bf) + bg))) (y := (15 : UInt8)) rfl rfl ?_
  obtain ⟨bu, ce, bz, aS⟩ := ixb aS
  refine qay rfl ce bz ?_
  refine bsO (len := 3) (enc := eU) (l := ([(37 : UInt8), bp, bu] : Str)) (cl := [.int .u8 37, .int .u8 (bp.toNat : Int), .int .u8 (bu.toNat : Int)]) qbe rfl rfl (fun _ _ => rfl) rfl rfl rfl ?_ fun cA => ?_
  · conv => whnf
    refine cT (cT (cT ?_))
    first | done | rfl
  refine qk (pf rfl) ?_
  obtain ⟨bF, aS⟩ := qax aS
  refine apE rfl r1 qbe (qat rfl r0 rfl (fun _ => rfl) (fun _ => rfl)) bF ?_
  intro cQ cE cW
  refine qk (pf rfl) ?_
  refine ci aS fun aS => ?_
  exact eR aS (_, (_, _), _, _)
  refine cT ?_
  exact eM aS (_, _, _)
 rintro ⟨t0, aY, aZ⟩ ⟨bt, _⟩ rfl j0
 replace hm := elg hm
 refine ro (qdm rfl r0 rfl rfl rfl ?_)
 exact eE hm

def JbA (a : Jl) : Option (Str) :=
  if a.HasQuery then
  (chk (a.An.length + a.Ae.length ≤ lim)).bind fun _ =>
  (chk ((a.An ++ a.Ae).length + ([63] : Str).length ≤ lim)).bind fun _ =>
  (chk (((a.An ++ a.Ae) ++ ([63] : Str)).length + a.Af.length ≤ lim)).bind fun _ =>
  some (((a.An ++ a.Ae) ++ ([63] : Str)) ++ a.Af)
  else
  (chk (a.An.length + a.Ae.length ≤ lim)).bind fun _ =>
  some (a.An ++ a.Ae)
theorem JdC {a : Jl} {K : Hp} {r : Str}
    (hm : JbA a = some r)  :
    Fn Tryz.prog 49 [.agg #[str a.An, str a.Ae, str a.Af, .bool a.HasQuery]] K [] (fun v K' H' => v = str r ∧ H' = []) := by
 refine Fn.enter Tryz.func49 Tryz.call49 rfl fun F => ?_
 unfold JbA at hm
 refine qar ?_
 intro b1
 refine fa rfl (ro (ld r0 rfl rfl ?_))
 refine cs rfl rfl hm ?_ ?_ <;> intro w4 hm
 refine fa rfl (ro (ld r0 rfl rfl (fa rfl (ro (ld r0 rfl rfl ?_)))))
 obtain ⟨h9, hm⟩ := qax hm
 refine qbd h9 ?_
 obtain ⟨aT, hm⟩ := qax hm
 refine qbd aT ?_
 refine fa rfl (ro (ld r0 rfl rfl ?_))
 obtain ⟨aS, hm⟩ := qax hm
 refine qbd aS ?_
 exact eE hm
 refine fa rfl (ro (ld r0 rfl rfl (fa rfl (ro (ld r0 rfl rfl ?_)))))
 obtain ⟨aU, hm⟩ := qax hm
 refine qbd aU ?_
 exact eE hm

def JF (aA : (List Str)) : List Str → Nat → (List Str) → Option (Fl (Jl × Err) ((List Str)))
  | [], _, ac => some (Fl.go ac)
  | e0 :: aS, i0, ac =>
    if decide (e0 = ([46] : Str)) then
    if decide (e0 = ([46, 46] : Str)) then
    if decide ((ac.length : Int) = 0) then
    some (Fl.ret ((⟨([] : Str), ([] : Str), ([] : Str), false⟩ : Jl), (some 27)))
    else
    (chk (InI ((ac.length : Int) - 1))).bind fun _ =>
    (chk (0 ≤ (0 : Int) ∧ (0 : Int) ≤ ((ac.length : Int) - 1) ∧ ((ac.length : Int) - 1) ≤ (ac.length : Int))).bind fun _ =>
    (chk (InI ((aA.length : Int) - 1))).bind fun _ =>
    if decide ((i0 : Int) = ((aA.length : Int) - 1)) then
    (chk ((subL ac (0 : Int) ((ac.length : Int) - 1)).length + ([([] : Str)]).length ≤ lim)).bind fun _ =>
    JF aA aS (i0 + 1) ((subL ac (0 : Int) ((ac.length : Int) - 1)) ++ [([] : Str)])
    else
    JF aA aS (i0 + 1) (subL ac (0 : Int) ((ac.length : Int) - 1))
    else
    (chk (InI ((aA.length : Int) - 1))).bind fun _ =>
    if decide ((i0 : Int) = ((aA.length : Int) - 1)) then
    (chk (ac.length + ([([] : Str)]).length ≤ lim)).bind fun _ =>
    JF aA aS (i0 + 1) (ac ++ [([] : Str)])
    else
    JF aA aS (i0 + 1) ac
    else
    if decide (e0 = ([46, 46] : Str)) then
    if decide (e0 = ([46, 46] : Str)) then
    if decide ((ac.length : Int) = 0) then
    some (Fl.ret ((⟨([] : Str), ([] : Str), ([] : Str), false⟩ : Jl), (some 27)))
    else
    (chk (InI ((ac.length : Int) - 1))).bind fun _ =>
    (chk (0 ≤ (0 : Int) ∧ (0 : Int) ≤ ((ac.length : Int) - 1) ∧ ((ac.length : Int) - 1) ≤ (ac.length : Int))).bind fun _ =>
    (chk (InI ((aA.length : Int) - 1))).bind fun _ =>
    if decide ((i0 : Int) = ((aA.length : Int) - 1)) then
    (chk ((subL ac (0 : Int) ((ac.length : Int) - 1)).length + ([([] : Str)]).length ≤ lim)).bind fun _ =>
    JF aA aS (i0 + 1) ((subL ac (0 : Int) ((ac.length : Int) - 1)) ++ [([] : Str)])
    else
    JF aA aS (i0 + 1) (subL ac (0 : Int) ((ac.length : Int) - 1))
    else
    (chk (InI ((aA.length : Int) - 1))).bind fun _ =>
    if decide ((i0 : Int) = ((aA.length : Int) - 1)) then
    (chk (ac.length + ([([] : Str)]).length ≤ lim)).bind fun _ =>
    JF aA aS (i0 + 1) (ac ++ [([] : Str)])
    else
    JF aA aS (i0 + 1) ac
    else
    (chk (ac.length + [e0].length ≤ lim)).bind fun _ =>
    JF aA aS (i0 + 1) (ac ++ [e0])
def Jay (n : Nat) (host : Str) (target : Str) : Option (Jl × Err) :=
  (JbV host).bind fun aV =>
  if aV.2.isSome then
  some ((⟨([] : Str), ([] : Str), ([] : Str), false⟩ : Jl), aV.2)
  else
  (qon target ([63] : Str)).bind fun aU =>
  (if decide (aU.1 = ([] : Str)) then some true else (ix aU.1 0).bind fun aZ =>
  some (decide ((aZ.toNat : Int) ≠ 47))).bind fun aY =>
  if aY then
  some ((⟨([] : Str), ([] : Str), ([] : Str), false⟩ : Jl), (some 27))
  else
  (Ja0 n aU.1 ([33, 36, 38, 39, 40, 41, 42, 43, 44, 59, 61, 58, 64, 47] : Str)).bind fun aT =>
  (Ja0 n aU.2.1 ([33, 36, 38, 39, 40, 41, 42, 43, 44, 59, 61, 58, 64, 47, 63] : Str)).bind fun aX =>
  if ((!aT.2) || (!aX.2)) then
  some ((⟨([] : Str), ([] : Str), ([] : Str), false⟩ : Jl), (some 27))
  else
  (chk (0 ≤ (1 : Int) ∧ (1 : Int) ≤ (aT.1.length : Int) ∧ (aT.1.length : Int) ≤ (aT.1.length : Int))).bind fun _ =>
  (qe6 (subL aT.1 (1 : Int) (aT.1.length : Int)) ([47] : Str)).bind fun aA =>
  (chk (aA.length ≤ qbg)).bind fun _ =>
  (JF aA aA 0 []).bind fun s0 => s0.el some fun t0 =>
  (qe4 t0 ([47] : Str)).bind fun aS =>
  (chk (([47] : Str).length + aS.length ≤ lim)).bind fun _ =>
  (JbA (⟨aV.1, (([47] : Str) ++ aS), aX.1, aU.2.2⟩ : Jl)).bind fun aW =>
  if decide ((aW.length : Int) > 1024) then
  some ((⟨([] : Str), ([] : Str), ([] : Str), false⟩ : Jl), (some 5))
  else
  some ((⟨aV.1, (([47] : Str) ++ aS), aX.1, aU.2.2⟩ : Jl), none)
theorem Jcg {n : Nat} {host : Str} {target : Str} {K : Hp} {r : Jl × Err}
    (hm : Jay n host target = some r) (hG : GG K) :
    Fn Tryz.prog 14 [str host, str target] K [] (fun v K' H' => v = .tuple #[.agg #[str r.1.An, str r.1.Ae, str r.1.Af, .bool r.1.HasQuery], qcy 48 r.2] ∧ H' = []) := by
 refine Fn.enter Tryz.func14 Tryz.call14 rfl fun F => ?_
 unfold Jay at hm
 refine qai rfl fun b4 => ?_
 refine cb hm fun cu bL hm => cgx (JdB bL :) ?_
 refine qa5 rfl ?_
 refine cs rfl rfl hm ?_ ?_ <;> intro cj hm
 refine qaj rfl rfl ?_
 refine qaa r0 rfl ⟨rfl, rfl, (nl rfl), ?_⟩
 exact ro (qab r0 rfl (nl rfl) (eE hm))
 refine cb hm fun cn bV hm => cg0 (qmz bV (gg0 hG)) ?_
 obtain ⟨bB, aX, hm⟩ := bnd hm
 refine jR (σ := Bool) (rg 33 7) (fun ba => [(39, .bool ba)]) (fun ba => ba = bB) ?_ ?_
 replace aX := bsm aX
 refine qah rfl ?_
 refine qaq ?_
 obtain ⟨cr, bh, aX⟩ := bnd aX
 refine cS bh (fun aU bh => ?_) fun aU bh => ?_
 refine ct aU (ct aU (ct aU ?_))
 exact eMq aX _ ⟨bq (si bh), trivial⟩
 refine cf aU ?_
 obtain ⟨cA, bU, bS, bh⟩ := ixb bh
 refine qay rfl bU bS (cf aU (qa6 (cf aU ?_)))
 exact eMq aX _ ⟨bq (si bh), trivial⟩
 rintro ba rfl bN
 refine cs rfl rfl hm ?_ ?_ <;> intro cm hm
 refine qaj rfl rfl ?_
 refine qas rfl ?_
 refine qaa r0 rfl ⟨rfl, rfl, (nl rfl), ?_⟩
 exact ro (qab r0 rfl (nl rfl) (eE hm))
 refine cb hm fun ca bM hm => cg0 (JcU bM :) ?_
 refine cb hm fun bH bK hm => cg0 (JcU bK :) ?_
 refine jR (σ := Unit) (rg 52 6) (fun _ => [(57, .bool ((!ca.2) || (!bH.2)))]) (fun bZ => True) ?_ ?_
 refine qah rfl ?_
 refine qaw ?_
 refine qae ?_ ?_ <;> intro aW
 refine ct aW (ct aW ?_)
 exact eMt () ⟨bq (((qcj (qfh (qla aW)))).symm), trivial⟩
 refine cf aW (qaw (cf aW ?_))
 exact eMt () ⟨bq (qg2 (b := (!bH.2)) (qdg (qib aW))), trivial⟩
 rintro _ _ bO
 refine cs rfl rfl hm ?_ ?_ <;> intro cw hm
 refine qaj rfl rfl ?_
 refine qas rfl ?_
 refine qaa r0 rfl ⟨rfl, rfl, (nl rfl), ?_⟩
 exact ro (qab r0 rfl (nl rfl) (eE hm))
 obtain ⟨bT, hm⟩ := qax hm
 refine RStep.ofN (qdy (lo := (some 1)) (hi := none) rfl bT ?_)
 refine cb hm fun aA bY hm => ck0 (qf1 bY (gg0 hG)) ?_
 rintro _ _ _ ⟨bC, bG, rfl, bm, rfl⟩
 refine ro (qak rfl ?_)
 obtain ⟨aZ, hm⟩ := qax hm
 obtain ⟨s0, aS, hm⟩ := bnd hm
 refine qgy eS 9 1 ?_
 refine lD (σ := ((List Str)) × Option Addr × Nat) ([5,13,15,16] ++ rg 65 34) [1, 2, 3] (fun i0 => [(65, .int .i64 (i0 : Int))]) (fun (t0, aT, aV) => [(13, .slice aT t0.length aV)]) (fun (t0, aT, aV) => [qau eS aT 9 1 aV t0]) (fun (t0, aT, aV) => (0 < t0.length → Has aT) ∧ True) (fun i0 (t0, aT, aV) => JF aA (aA.drop i0) i0 t0 = some s0) (fun (t0, aT, aV) => s0 = Fl.go t0) (fun i0 => aA.length - i0) 0 (_, _, _) aS (And.intro qe (And.intro ?_ ?_))
 clear aS
 rintro i0 ⟨ac, bd, bc⟩ ⟨bb, _⟩ aS j0
 conv at aS => whnf
 refine qac rfl ?_
 refine qae ?_ ?_ <;> intro w0
 obtain ⟨e0, aY, bQ⟩ := ltx w0
 rw [bQ, JF.eq_2] at aS
 refine qal rfl ?_
 refine RStep.ofN (qad rfl rfl (qcm bm aY) (nn _) (qef rfl aY) (ro (qby (i := i0) (o := 0) r1 rfl aY rfl rfl ?_)))
 refine qal rfl ?_
 refine qaq (cs rfl rfl aS ?_ ?_) <;> intro bF aS
 refine qac rfl (ct bF (qaq ?_))
 refine cs rfl rfl aS ?_ ?_ <;> intro bI aS
 refine ro (qak rfl (qaf ?_))
 refine cs rfl rfl aS ?_ ?_ <;> intro bP aS
 refine qaj rfl rfl ?_
 refine qas rfl ?_
 refine qaa r2 rfl ⟨rfl, rfl, (nl rfl), ?_⟩
 exact ro (qab r0 rfl (nl rfl) (eE (er aS hm)))
 refine ro (qak rfl ?_)
 refine ci aS fun aS => ?_
 obtain ⟨bl, aS⟩ := qax aS
 refine qnd (l := ac) (hi := (some ((ac.length : Int) - 1))) rfl r0 (by simp) rfl rfl bl ?_
 refine ro (qak rfl ?_)
 obtain ⟨bg, aS⟩ := qax aS
 refine qam bg (qaf ?_)
 refine cs rfl rfl aS ?_ ?_ <;> intro bw aS
 refine bsO (len := 1) (enc := eS) (l := [([] : Str)]) (cl := [str ([] : Str)]) qbr rfl rfl (fun _ _ => rfl) rfl rfl rfl ?_ fun bA => ?_
 · conv => whnf
   refine cT ?_
   first | done | rfl
 obtain ⟨bf, aS⟩ := qax aS
 refine tkW ((ac.length : Int) - 1) r1 ?_
 refine apE rfl r0 qbr (qat rfl r0 rfl (fun _ => rfl) (fun _ => rfl)) bf ?_
 intro bz bt bp
 refine qam (qbj aY aZ) ?_
 exact eR aS (_, _, _, _)
 refine qam (qbj aY aZ) ?_
 refine qr9 ((ac.length : Int) - 1) r0 ?_
 exact rd (i0 + 1, (subL ac (0 : Int) ((ac.length : Int) - 1)), bd, bc) ⟨rfl, rfl, trivial⟩ rfl (pf rfl) lr (ltm aY) ⟨⟨(fun h => bb (qgl bl h)), trivial⟩, aS⟩
 refine ro (qak rfl ?_)
 obtain ⟨bg, aS⟩ := qax aS
 refine qam bg (qaf ?_)
 refine cs rfl rfl aS ?_ ?_ <;> intro bw aS
 refine bsO (len := 1) (enc := eS) (l := [([] : Str)]) (cl := [str ([] : Str)]) qbr rfl rfl (fun _ _ => rfl) rfl rfl rfl ?_ fun bA => ?_
 · conv => whnf
   refine cT ?_
   first | done | rfl
 obtain ⟨bf, aS⟩ := qax aS
 refine apE rfl r1 qbr (qat rfl r0 rfl (fun _ => rfl) (fun _ => rfl)) bf ?_
 intro bz bt bp
 refine qam (qbj aY aZ) ?_
 exact eR aS (_, _, _, _)
 refine qam (qbj aY aZ) ?_
 exact eR aS (_, _, _, _)
 refine qaq (cs rfl rfl aS ?_ ?_) <;> intro bF aS
 refine qaq (cs rfl rfl aS ?_ ?_) <;> intro bI aS
 refine ro (qak rfl (qaf ?_))
 refine cs rfl rfl aS ?_ ?_ <;> intro bP aS
 refine qaj rfl rfl ?_
 refine qas rfl ?_
 refine qaa r2 rfl ⟨rfl, rfl, (nl rfl), ?_⟩
 exact ro (qab r0 rfl (nl rfl) (eE (er aS hm)))
 refine ro (qak rfl ?_)
 refine ci aS fun aS => ?_
 obtain ⟨bl, aS⟩ := qax aS
 refine qnd (l := ac) (hi := (some ((ac.length : Int) - 1))) rfl r0 (by simp) rfl rfl bl ?_
 refine ro (qak rfl ?_)
 obtain ⟨bg, aS⟩ := qax aS
 refine qam bg (qaf ?_)
 refine cs rfl rfl aS ?_ ?_ <;> intro bw aS
 refine bsO (len := 1) (enc := eS) (l := [([] : Str)]) (cl := [str ([] : Str)]) qbr rfl rfl (fun _ _ => rfl) rfl rfl rfl ?_ fun bA => ?_
 · conv => whnf
   refine cT ?_
   first | done | rfl
 obtain ⟨bf, aS⟩ := qax aS
 refine tkW ((ac.length : Int) - 1) r1 ?_
 refine apE rfl r0 qbr (qat rfl r0 rfl (fun _ => rfl) (fun _ => rfl)) bf ?_
 intro bz bt bp
 refine qam (qbj aY aZ) ?_
 exact eR aS (_, _, _, _)
 refine qam (qbj aY aZ) ?_
 refine qr9 ((ac.length : Int) - 1) r0 ?_
 exact rd (i0 + 1, (subL ac (0 : Int) ((ac.length : Int) - 1)), bd, bc) ⟨rfl, rfl, trivial⟩ rfl (pf rfl) lr (ltm aY) ⟨⟨(fun h => bb (qgl bl h)), trivial⟩, aS⟩
 refine ro (qak rfl ?_)
 obtain ⟨bg, aS⟩ := qax aS
 refine qam bg (qaf ?_)
 refine cs rfl rfl aS ?_ ?_ <;> intro bw aS
 refine bsO (len := 1) (enc := eS) (l := [([] : Str)]) (cl := [str ([] : Str)]) qbr rfl rfl (fun _ _ => rfl) rfl rfl rfl ?_ fun bA => ?_
 · conv => whnf
   refine cT ?_
   first | done | rfl
 obtain ⟨bf, aS⟩ := qax aS
 refine apE rfl r1 qbr (qat rfl r0 rfl (fun _ => rfl) (fun _ => rfl)) bf ?_
 intro bz bt bp
 refine qam (qbj aY aZ) ?_
 exact eR aS (_, _, _, _)
 refine qam (qbj aY aZ) ?_
 exact eR aS (_, _, _, _)
 refine bsO (len := 1) (enc := eS) (l := [e0]) (cl := [str e0]) qbr rfl rfl (fun _ _ => rfl) rfl rfl rfl ?_ fun cy => ?_
 · conv => whnf
   refine cT ?_
   first | done | rfl
 obtain ⟨bJ, aS⟩ := qax aS
 refine apE rfl r1 qbr (qat rfl r0 rfl (fun _ => rfl) (fun _ => rfl)) bJ ?_
 intro co ce cz
 refine qam (qbj aY aZ) ?_
 exact eR aS (_, _, _, _)
 rw [lty w0, JF.eq_1] at aS
 refine cT ?_
 exact eM aS (_, _, _)
 rintro ⟨t0, aT, aV⟩ ⟨bD, _⟩ rfl j0
 replace hm := elg hm
 refine cb hm fun bR bo hm => ck0 (Fn.lend Tryz.call48 (fun br bv bj => (qia bo bj rfl)) (by exact fun _ _ _ _ h => h)) ?_
 rintro _ _ _ ⟨_, rfl, rfl, rfl⟩
 obtain ⟨bu, hm⟩ := qax hm
 refine qbd bu ?_
 refine qaj rfl rfl (cT (cT (cT (cT ?_))))
 refine qai rfl fun cB => ?_
 refine qaa r0 rfl ⟨rfl, rfl, (nl rfl), ?_⟩
 refine ro (qab r0 rfl (nl rfl) ?_)
 refine cb hm fun bX bn hm => cg0 (JdC bn :) ?_
 refine ro (qa0 rfl ?_)
 refine cs rfl rfl hm ?_ ?_ <;> intro bW hm
 refine qaj rfl rfl ?_
 refine qas rfl ?_
 refine qaa r3 rfl ⟨rfl, rfl, (nl rfl), ?_⟩
 exact ro (qab r0 rfl (nl rfl) (eE hm))
 refine ro (qab r0 rfl (nl rfl) ?_)
 refine qaa r3 rfl ⟨rfl, rfl, (nl rfl), ?_⟩
 exact ro (qab r0 rfl (nl rfl) (eE hm))

def Jbi (s : Str) : Option (Bool) :=
  (JcZ s).bind fun x7 =>
  some x7.2.isNone
theorem Jb0 {s : Str} {K : Hp} {r : Bool}
    (hm : Jbi s = some r)  :
    Fn Tryz.prog 213 [str s] K [] (fun v K' H' => v = .bool r ∧ H' = []) := by
 refine Fn.enter Tryz.func213 Tryz.call213 rfl fun F => ?_
 unfold Jbi at hm
 refine cb hm fun x7 q7 hm => cg0 (Jdv q7 :) ?_
 refine qew rfl ?_
 exact eE hm

def JaP (s : Str) (prefixZ : Str) : Option (Str × Bool) :=
  (Jag s prefixZ).bind fun x8 =>
  if (!x8) then
  some (s, false)
  else
  (chk (0 ≤ (prefixZ.length : Int) ∧ (prefixZ.length : Int) ≤ (s.length : Int) ∧ (s.length : Int) ≤ (s.length : Int))).bind fun _ =>
  some ((subL s (prefixZ.length : Int) (s.length : Int)), true)
theorem Jcv {s : Str} {prefixZ : Str} {K : Hp} {r : Str × Bool}
    (hm : JaP s prefixZ = some r)  :
    Fn Tryz.prog 255 [str s, str prefixZ] K [] (fun v K' H' => v = .tuple #[str r.1, .bool r.2] ∧ H' = []) := by
 refine Fn.enter Tryz.func255 Tryz.call255 rfl fun F => ?_
 unfold JaP at hm
 refine cb hm fun x8 q8 hm => cg0 (Jbc q8 :) ?_
 refine qaw ?_
 refine cs rfl rfl hm ?_ ?_ <;> intro w9 hm
 exact eE hm
 refine ro (qa0 rfl ?_)
 obtain ⟨aS, hm⟩ := qax hm
 refine RStep.ofN (qdy (lo := (some (prefixZ.length : Int))) (hi := none) rfl aS ?_)
 exact eE hm

def Jb5 (s : Str) (prefixZ : Str) : Option (Str × Bool) :=
  (JaP s prefixZ).bind fun x8 =>
  some (x8.1, x8.2)
theorem JcV {s : Str} {prefixZ : Str} {K : Hp} {r : Str × Bool}
    (hm : Jb5 s prefixZ = some r)  :
    Fn Tryz.prog 239 [str s, str prefixZ] K [] (fun v K' H' => v = .tuple #[str r.1, .bool r.2] ∧ H' = []) := by
 refine Fn.enter Tryz.func239 Tryz.call239 rfl fun F => ?_
 unfold Jb5 at hm
 refine cb hm fun x8 q8 hm => cg0 (Jcv q8 :) ?_
 exact eE hm

def JdD (s : Str) : Option (Int × Bool) :=
  if decide (s = ([112, 97, 116, 104] : Str)) then
  some (1, true)
  else
  if decide (s = ([113, 117, 101, 114, 121] : Str)) then
  some (1, true)
  else
  if decide (s = ([116, 97, 103] : Str)) then
  some (1, true)
  else
  if decide (s = ([116, 116, 108] : Str)) then
  some (1, true)
  else
  if decide (s = ([100, 101, 110, 121] : Str)) then
  some (1, true)
  else
  if decide (s = ([112, 97, 115, 115] : Str)) then
  some (0, true)
  else
  if decide (s = ([116, 111, 107, 101, 110] : Str)) then
  some (0, true)
  else
  (Jb5 s ([104, 101, 97, 100, 101, 114, 58] : Str)).bind fun aS =>
  if aS.2 then
  (Jbi aS.1).bind fun aU =>
  some (1, aU)
  else
  (Jb5 s ([118, 97, 114, 121, 58] : Str)).bind fun aT =>
  (if aT.2 then (Jbi aT.1).bind fun aV =>
  some aV else some false).bind fun aW =>
  some (0, aW)
theorem Jei {s : Str} {K : Hp} {r : Int × Bool}
    (hm : JdD s = some r)  :
    Fn Tryz.prog 214 [str s] K [] (fun v K' H' => v = .tuple #[.int .i64 r.1, .bool r.2] ∧ H' = []) := by
 refine Fn.enter Tryz.func214 Tryz.call214 rfl fun F => ?_
 unfold JdD at hm
 refine qal rfl ?_
 refine qaq (cs rfl rfl hm ?_ ?_) <;> intro w9 hm
 refine qac rfl (ct w9 ?_)
 exact eE hm
 refine qaq (cs rfl rfl hm ?_ ?_) <;> intro w9 hm
 refine qac rfl (ct w9 ?_)
 exact eE hm
 refine qaq (cs rfl rfl hm ?_ ?_) <;> intro w9 hm
 refine qac rfl (ct w9 ?_)
 exact eE hm
 refine qaq (cs rfl rfl hm ?_ ?_) <;> intro w9 hm
 refine qac rfl (ct w9 ?_)
 exact eE hm
 refine qaq (cs rfl rfl hm ?_ ?_) <;> intro w9 hm
 exact eE hm
 refine qaq (cs rfl rfl hm ?_ ?_) <;> intro aU hm
 refine qac rfl (ct aU ?_)
 exact eE hm
 refine qaq (cs rfl rfl hm ?_ ?_) <;> intro aU hm
 exact eE hm
 refine cb hm fun aZ aV hm => cg0 (JcV aV :) ?_
 refine cs rfl rfl hm ?_ ?_ <;> intro ba hm
 refine cb hm fun bb aW hm => cg0 (Jb0 aW :) ?_
 exact eE hm
 refine cb hm fun bf aX hm => cg0 (JcV aX :) ?_
 refine qah rfl ?_
 obtain ⟨bd, aT, hm⟩ := bnd hm
 refine cS aT (fun aS aT => ?_) fun aS aT => ?_
 refine ct aS ?_
 refine cb aT fun bc aY aT => cg0 (Jb0 aY :) ?_
 refine ct aS ?_
 cases hm
 exact en lr ⟨(by rw [← (si aT)] <;> rfl), rfl⟩ (pf rfl)
 refine cf aS (cf aS ?_)
 cases hm
 exact en lr ⟨(by rw [← ((si aT).symm).symm] <;> rfl), rfl⟩ (pf rfl)

def Jde (x : Jf) : Option (Int × Int × Bool) :=
  if decide (x.Op = 1) then
  some (0, 1, ((decide (x.S = ([] : Str)) && decide (x.N ≥ 0)) && decide (x.N ≤ 999999999)))
  else
  if decide (x.Op = 2) then
  (if decide (x.N = 0) then (Jbi x.S).bind fun aU =>
  some aU else some false).bind fun aV =>
  some (0, 1, aV)
  else
  if decide (x.Op = 3) then
  some (0, 1, ((decide (x.S = ([] : Str)) && decide (x.N ≥ 0)) && decide (x.N ≤ 511)))
  else
  if decide (x.Op = 4) then
  some (1, 0, ((decide (x.S = ([] : Str)) && decide (x.N ≥ 0)) && decide (x.N ≤ 511)))
  else
  if decide (x.Op = 5) then
  (if decide (x.N = 0) then (JK Jar x.S).bind fun aY =>
  some aY else some false).bind fun aA =>
  some (0, 1, aA)
  else
  if decide (x.Op = 6) then
  (if decide (x.N = 0) then (JK JaV x.S).bind fun aZ =>
  some aZ else some false).bind fun aX =>
  some (1, 1, aX)
  else
  if decide (x.Op = 7) then
  (if decide (x.N = 0) then (JK JaW x.S).bind fun aW =>
  some aW else some false).bind fun aT =>
  some (2, 1, aT)
  else
  if decide (x.Op = 8) then
  some (1, 1, (decide (x.N = 0) && decide (x.S = ([] : Str))))
  else
  if decide (x.Op = 9) then
  some (0, 0, decide (x.S = ([] : Str)))
  else
  if decide (x.Op = 10) then
  some (1, 0, decide (x.S = ([] : Str)))
  else
  if decide (x.Op = 11) then
  (JdD x.S).bind fun aS =>
  some (aS.1, 0, (decide (x.N = 0) && aS.2))
  else
  if decide (x.Op = 12) then
  some (0, 0, (decide (x.N = 0) && decide (x.S = ([] : Str))))
  else
  some (0, 0, false)
theorem Jd5 {x : Jf} {K : Hp} {r : Int × Int × Bool}
    (hm : Jde x = some r) (hG : GG K) :
    Fn Tryz.prog 153 [.agg #[.int .i64 x.Op, .int .i64 x.N, str x.S]] K [] (fun v K' H' => v = .tuple #[.int .i64 r.1, .int .i64 r.2.1, .bool r.2.2] ∧ H' = []) := by
 obtain ⟨bX, ca, bI, gn_, bj, bA⟩ := gg1 hG
 subst gn_
 obtain ⟨cm, bR, bQ, gn_, bo, bZ⟩ := gg2 hG
 subst gn_
 obtain ⟨cj, bP, bB, gn_, bu, bV⟩ := gg3 hG
 subst gn_
 refine Fn.enter Tryz.func153 Tryz.call153 rfl fun F => ?_
 unfold Jde at hm
 refine qar ?_
 intro b1
 refine fa rfl (ro (ld r0 rfl rfl (qaf (fa rfl (ro (ld r0 rfl rfl (qaq ?_)))))))
 refine jR (σ := Unit) ([7] ++ rg 14 11) (fun _ => [(7, .bool ((decide (x.S = ([] : Str)) && decide (x.N ≥ 0)) && decide (x.N ≤ 511)))]) (fun bp => True) ?_ ?_
 refine qah rfl ?_
 refine qae ?_ ?_ <;> intro aW
 refine fa rfl (ct aW (ro (ld r0 rfl rfl (ct aW (ct aW ?_)))))
 refine qae ?_ ?_ <;> intro aX
 refine fa rfl (ct aX (ro (ld r0 rfl rfl (ct aX (ct aX ?_)))))
 exact eMt () ⟨bq (qcr (b := decide (x.N ≤ 511)) (qct aW aX)), trivial⟩
 refine cf aX (cf aX (cf aX ?_))
 exact eMt () ⟨bq (((qa9 (qcu aW aX))).symm), trivial⟩
 refine cf aW (cf aW (cf aW (cF (cF (cF (cF ?_))))))
 exact eMt () ⟨bq (((qa9 (qa9 aW))).symm), trivial⟩
 rintro _ _ bz
 refine fa rfl (ro (ld r0 rfl rfl ?_))
 refine qal rfl ?_
 refine qaf (cs rfl rfl hm ?_ ?_) <;> intro bH hm
 refine qa3 ⟨⟨[], false⟩, _, [(_, _)], []⟩ (by kernel_rfl) ⟨Hp.Le.refl _, (pf rfl), ci0⟩ ?_
 refine qae ?_ ?_ <;> intro aV
 refine fa rfl (ct aV (qap m0 rfl rfl (ct aV (ct aV ?_))))
 refine qae ?_ ?_ <;> intro aY
 refine fa rfl (ct aY (qap m0 rfl rfl (ct aY (ct aY ?_))))
 cases hm
 exact en lr ⟨(by rw [← (qcr (b := decide (x.N ≤ 999999999)) (qct aV aY))] <;> rfl), rfl⟩ (sc [1] rfl)
 refine cf aY (cf aY (cf aY ?_))
 cases hm
 exact en lr ⟨(by rw [← ((qa9 (qcu aV aY))).symm] <;> rfl), rfl⟩ (sc [1] rfl)
 refine cf aV (cf aV (cf aV (cF (cF (cF (cF ?_))))))
 cases hm
 exact en lr ⟨(by rw [← ((qa9 (qa9 aV))).symm] <;> rfl), rfl⟩ (sc [1] rfl)
 refine qaf (cs rfl rfl hm ?_ ?_) <;> intro bN hm
 refine qah rfl ?_
 obtain ⟨bL, bf, hm⟩ := bnd hm
 refine cS bf (fun bb bf => ?_) fun bb bf => ?_
 refine fa rfl (ct bb (ro (ld r0 rfl rfl (ct bb ?_))))
 refine cb bf fun bG bm bf => cg0 (Jb0 bm :) ?_
 refine ct bb ?_
 cases hm
 exact en lr ⟨(by rw [← (si bf)] <;> rfl), rfl⟩ (sc [1] rfl)
 refine cf bb (cf bb (cf bb ?_))
 cases hm
 exact en lr ⟨(by rw [← ((si bf).symm).symm] <;> rfl), rfl⟩ (sc [1] rfl)
 refine qaf (cs rfl rfl hm ?_ ?_) <;> intro bD hm
 exact eE hm
 refine qaf (cs rfl rfl hm ?_ ?_) <;> intro cn hm
 exact eE hm
 refine qaf (cs rfl rfl hm ?_ ?_) <;> intro bS hm
 refine qah rfl ?_
 obtain ⟨aA, bh, hm⟩ := bnd hm
 refine cS bh (fun aT bh => ?_) fun aT bh => ?_
 refine ro (qkj bj rfl (ct aT (fa rfl (ct aT (ro (ld r0 rfl rfl (ct aT ?_)))))))
 refine cb bh fun bO bv bh => cgx (JM bv :) ?_
 refine ct aT ?_
 cases hm
 exact en lr ⟨(by rw [← (si bh)] <;> rfl), rfl⟩ (sc [1] rfl)
 refine cf aT (cf aT (cf aT (cf aT ?_)))
 cases hm
 exact en lr ⟨(by rw [← ((si bh).symm).symm] <;> rfl), rfl⟩ (sc [1] rfl)
 refine qaf (cs rfl rfl hm ?_ ?_) <;> intro ce hm
 refine qah rfl ?_
 obtain ⟨bJ, bg, hm⟩ := bnd hm
 refine cS bg (fun aS bg => ?_) fun aS bg => ?_
 refine ro (qkj bo rfl (ct aS (fa rfl (ct aS (ro (ld r0 rfl rfl (ct aS ?_)))))))
 refine cb bg fun bK bn bg => cgx (JM bn :) ?_
 refine ct aS ?_
 cases hm
 exact en lr ⟨(by rw [← (si bg)] <;> rfl), rfl⟩ (sc [1] rfl)
 refine cf aS (cf aS (cf aS (cf aS ?_)))
 cases hm
 exact en lr ⟨(by rw [← ((si bg).symm).symm] <;> rfl), rfl⟩ (sc [1] rfl)
 refine qaf (cs rfl rfl hm ?_ ?_) <;> intro bT hm
 refine qah rfl ?_
 obtain ⟨bY, bd, hm⟩ := bnd hm
 refine cS bd (fun aU bd => ?_) fun aU bd => ?_
 refine ro (qkj bu rfl (ct aU (fa rfl (ct aU (ro (ld r0 rfl rfl (ct aU ?_)))))))
 refine cb bd fun bM bw bd => cgx (JM bw :) ?_
 refine ct aU ?_
 cases hm
 exact en lr ⟨(by rw [← (si bd)] <;> rfl), rfl⟩ (sc [1] rfl)
 refine cf aU (cf aU (cf aU (cf aU ?_)))
 cases hm
 exact en lr ⟨(by rw [← ((si bd).symm).symm] <;> rfl), rfl⟩ (sc [1] rfl)
 refine qaf (cs rfl rfl hm ?_ ?_) <;> intro bC hm
 refine qah rfl ?_
 refine qae ?_ ?_ <;> intro bc
 refine ct bc ?_
 cases hm
 exact en lr ⟨(by rw [← (qcr (b := decide (x.S = ([] : Str))) bc)] <;> rfl), rfl⟩ (sc [1] rfl)
 refine cf bc ?_
 cases hm
 exact en lr ⟨(by rw [← ((qa9 bc)).symm] <;> rfl), rfl⟩ (sc [1] rfl)
 refine qaf (cs rfl rfl hm ?_ ?_) <;> intro bU hm
 exact eE hm
 refine qaf (cs rfl rfl hm ?_ ?_) <;> intro bF hm
 exact eE hm
 refine qaf (cs rfl rfl hm ?_ ?_) <;> intro bW hm
 refine fa rfl (ro (ld r0 rfl rfl ?_))
 refine cb hm fun bl br hm => cg0 (Jei br :) ?_
 refine qah rfl ?_
 refine qae ?_ ?_ <;> intro aZ
 refine ct aZ ?_
 cases hm
 exact en lr ⟨(by rw [← (qcr (b := bl.2) aZ)] <;> rfl), rfl⟩ (sc [1] rfl)
 refine cf aZ ?_
 cases hm
 exact en lr ⟨(by rw [← ((qa9 aZ)).symm] <;> rfl), rfl⟩ (sc [1] rfl)
 refine qaf (cs rfl rfl hm ?_ ?_) <;> intro bt hm
 refine qah rfl ?_
 refine qae ?_ ?_ <;> intro ba
 refine ct ba ?_
 cases hm
 exact en lr ⟨(by rw [← (qcr (b := decide (x.S = ([] : Str))) ba)] <;> rfl), rfl⟩ (sc [1] rfl)
 refine cf ba ?_
 cases hm
 exact en lr ⟨(by rw [← ((qa9 ba)).symm] <;> rfl), rfl⟩ (sc [1] rfl)
 exact eE hm

def Jcw (s : Jo) (slot : Int) : Option (Bool) :=
  (chk ((64 : Int) ≠ 0 ∧ InI (Int.tdiv slot 64))).bind fun _ =>
  (chk (0 ≤ (Int.tdiv slot 64) ∧ (Int.tdiv slot 64) < 8)).bind fun _ =>
  (chk (0 ≤ (Int.tmod slot 64))).bind fun _ =>
  some (decide ((u64and (qok (List.getD [s.At.f0, s.At.f1, s.At.f2, s.At.f3, s.At.f4, s.At.f5, s.At.f6, s.At.f7] (Int.toNat (Int.tdiv slot 64)) 0) (Int.tmod slot 64)) 1) = 1))
theorem JdE {s : Jo} {slot : Int} {K : Hp} {r : Bool}
    (hm : Jcw s slot = some r)  :
    Fn Tryz.prog 154 [.agg #[.bool s.Au, .int .i64 s.depth, .int .u64 s.At.f0, .int .u64 s.At.f1, .int .u64 s.At.f2, .int .u64 s.At.f3, .int .u64 s.At.f4, .int .u64 s.At.f5, .int .u64 s.At.f6, .int .u64 s.At.f7], .int .i64 slot] K [] (fun v K' H' => v = .bool r ∧ H' = []) := by
 refine Fn.enter Tryz.func154 Tryz.call154 rfl fun F => ?_
 unfold Jcw at hm
 refine qar ?_
 intro b2
 obtain ⟨h6, hm⟩ := qax hm
 refine ql0 h6.1 h6.2 (fa rfl ?_)
 obtain ⟨h8, hm⟩ := qax hm
 refine RStep.ofN (qbv (sz := 1) rfl rfl h8.1 h8.2 (ro (qom (L := [s.At.f0, s.At.f1, s.At.f2, s.At.f3, s.At.f4, s.At.f5, s.At.f6, s.At.f7]) (pre := [.bool s.Au, .int .i64 s.depth]) (post := []) r0 rfl (by simp) rfl h8.1 h8.2 (qpe (by decide) ?_))))
 obtain ⟨aS, hm⟩ := qax hm
 refine qps aS ?_
 refine qjp ?_
 refine qaf ?_
 exact eE hm

def JaE (t : Jo) : Nat → Nat → Int → Int → Int → Int → Int → Int → Int → Int → Option (Int × Int × Int × Int × Int × Int × Int × Int)
  | 0, _, ac, aW, aV, aX, aT, aZ, aU, aY => some (ac, aW, aV, aX, aT, aZ, aU, aY)
  | ba + 1, i0, ac, aW, aV, aX, aT, aZ, aU, aY =>
    (chk (0 ≤ (i0 : Int) ∧ (i0 : Int) < 8)).bind fun _ =>
    (chk (0 ≤ (i0 : Int) ∧ (i0 : Int) < 8)).bind fun _ =>
    (chk (0 ≤ (i0 : Int) ∧ (i0 : Int) < 8)).bind fun _ =>
    (some (List.set [ac, aW, aV, aX, aT, aZ, aU, aY] (Int.toNat (i0 : Int)) (u64and (List.getD [ac, aW, aV, aX, aT, aZ, aU, aY] (Int.toNat (i0 : Int)) 0) (List.getD [t.At.f0, t.At.f1, t.At.f2, t.At.f3, t.At.f4, t.At.f5, t.At.f6, t.At.f7] (Int.toNat (i0 : Int)) 0)))).bind fun aS =>
    JaE t ba (i0 + 1) (List.getD aS 0 0) (List.getD aS 1 0) (List.getD aS 2 0) (List.getD aS 3 0) (List.getD aS 4 0) (List.getD aS 5 0) (List.getD aS 6 0) (List.getD aS 7 0)
def Jc3 (s : Jo) (t : Jo) : Option (Bool × Jo) :=
  if (!s.Au) then
  some (true, t)
  else
  (chk (InI (8 : Int))).bind fun _ =>
  (JaE t (8 : Int).toNat 0 s.At.f0 s.At.f1 s.At.f2 s.At.f3 s.At.f4 s.At.f5 s.At.f6 s.At.f7).bind fun t0 =>
  some (decide (s.depth = t.depth), (⟨s.Au, s.depth, (⟨t0.1, t0.2.1, t0.2.2.1, t0.2.2.2.1, t0.2.2.2.2.1, t0.2.2.2.2.2.1, t0.2.2.2.2.2.2.1, t0.2.2.2.2.2.2.2⟩ : JaF)⟩ : Jo))
theorem Jet {s : Jo} {t : Jo} {b0 : Nat} {K : Hp} {r : Bool × Jo}
    (hm : Jc3 s t = some r)  :
    Fn Tryz.prog 155 [.pointer (some ⟨b0, 0, none⟩), .agg #[.bool t.Au, .int .i64 t.depth, .int .u64 t.At.f0, .int .u64 t.At.f1, .int .u64 t.At.f2, .int .u64 t.At.f3, .int .u64 t.At.f4, .int .u64 t.At.f5, .int .u64 t.At.f6, .int .u64 t.At.f7]] K [Cells b0 228 [.bool s.Au, .int .i64 s.depth, .int .u64 s.At.f0, .int .u64 s.At.f1, .int .u64 s.At.f2, .int .u64 s.At.f3, .int .u64 s.At.f4, .int .u64 s.At.f5, .int .u64 s.At.f6, .int .u64 s.At.f7]] (fun v K' H' => v = .bool r.1 ∧ H' = [Cells b0 228 [.bool r.2.Au, .int .i64 r.2.depth, .int .u64 r.2.At.f0, .int .u64 r.2.At.f1, .int .u64 r.2.At.f2, .int .u64 r.2.At.f3, .int .u64 r.2.At.f4, .int .u64 r.2.At.f5, .int .u64 r.2.At.f6, .int .u64 r.2.At.f7]]) := by
 refine Fn.enter Tryz.func155 Tryz.call155 rfl fun F => ?_
 unfold Jc3 at hm
 refine qar ?_
 intro b3
 refine qag (fa rfl (ro (ld r1 rfl rfl (qaw ?_))))
 refine cs rfl rfl hm ?_ ?_ <;> intro bj hm
 refine ro (qab r0 rfl (nl rfl) (qag ?_))
 refine qaa r1 rfl ⟨rfl, rfl, (nl rfl), ?_⟩
 exact eE hm
 obtain ⟨bh, hm⟩ := qax hm
 obtain ⟨s0, aT, hm⟩ := bnd hm
 refine lD (σ := (Int × Int × Int × Int × Int × Int × Int × Int)) ([5] ++ rg 14 18) [0, 2] (fun i0 => [(14, .int .i64 (i0 : Int))]) (fun _ => []) (fun t0 => [Cells b0 228 [.bool s.Au, .int .i64 s.depth, .int .u64 t0.1, .int .u64 t0.2.1, .int .u64 t0.2.2.1, .int .u64 t0.2.2.2.1, .int .u64 t0.2.2.2.2.1, .int .u64 t0.2.2.2.2.2.1, .int .u64 t0.2.2.2.2.2.2.1, .int .u64 t0.2.2.2.2.2.2.2]]) (fun _ => True) (fun i0 t0 => JaE t ((8 : Int).toNat - i0) i0 t0.1 t0.2.1 t0.2.2.1 t0.2.2.2.1 t0.2.2.2.2.1 t0.2.2.2.2.2.1 t0.2.2.2.2.2.2.1 t0.2.2.2.2.2.2.2 = some s0) (fun t0 => t0 = s0) (fun i0 => (8 : Int).toNat - i0) 0 (_, _, _, _, _, _, _, _) aT (And.intro qe (And.intro ?_ ?_))
 clear aT
 rintro i0 ⟨ac, aY, bc, aZ, aW, bb, aX, ba⟩ _ aT j0
 dsimp only at aT ⊢
 refine qac rfl ?_
 refine qae ?_ ?_ <;> intro w0
 rw [ltn (n := (8 : Int)) w0, JaE.eq_2] at aT
 refine qal rfl ?_
 refine qa2 ⟨⟨[], false⟩, _, [(_, _), (_, _)], []⟩ 13 rfl (by kernel_rfl) ⟨Hp.Le.refl _, (pf rfl), ci0⟩ ?_
 refine qag (fa rfl ?_)
 obtain ⟨bd, aT⟩ := qax aT
 refine qbv (sz := 1) rfl rfl bd.1 bd.2 ?_
 refine qfz (L := [ac, aY, bc, aZ, aW, bb, aX, ba]) (pre := [.bool s.Au, .int .i64 s.depth]) (post := []) m0 rfl (by simp) rfl bd.1 bd.2 ?_
 refine fa rfl ?_
 obtain ⟨bf, aT⟩ := qax aT
 refine qbv (sz := 1) rfl rfl bf.1 bf.2 ?_
 refine qfz (L := [t.At.f0, t.At.f1, t.At.f2, t.At.f3, t.At.f4, t.At.f5, t.At.f6, t.At.f7]) (pre := [.bool t.Au, .int .i64 t.depth]) (post := []) m1 rfl (by simp) rfl bf.1 bf.2 ?_
 refine qjp ?_
 refine qag (fa rfl ?_)
 obtain ⟨bg, aT⟩ := qax aT
 refine qbv (sz := 1) rfl rfl bg.1 bg.2 ?_
 obtain ⟨aS, aU, aT⟩ := bnd aT
 replace aU := Option.some.inj aU
 have aV : aS.length = 8 := by rw [← aU]; simp
 refine qmd (L := [ac, aY, bc, aZ, aW, bb, aX, ba]) (pre := [.bool s.Au, .int .i64 s.depth]) (post := []) (cs' := [.bool s.Au, .int .i64 s.depth, .int .u64 (List.getD aS 0 0), .int .u64 (List.getD aS 1 0), .int .u64 (List.getD aS 2 0), .int .u64 (List.getD aS 3 0), .int .u64 (List.getD aS 4 0), .int .u64 (List.getD aS 5 0), .int .u64 (List.getD aS 6 0), .int .u64 (List.getD aS 7 0)]) r0 rfl (by simp) rfl bg.1 bg.2 aU (by rw [qrd aV]; rfl) ?_
 refine ⟨⟨Hp.emp_le _, (pf rfl), ci0⟩, ?_⟩
 refine qam (qio w0 bh) ?_
 exact eR aT (_, (_, _, _, _, _, _, _, _))
 rw [lto (n := (8 : Int)) w0, JaE.eq_1] at aT
 refine cT ?_
 exact eM aT _
 rintro t0 _ rfl j0
 refine qa3 ⟨⟨[], false⟩, _, [(_, _), (_, _)], []⟩ (by kernel_rfl) ⟨Hp.Le.refl _, (pf rfl), ci0⟩ ?_
 refine qag (fa rfl (qap m0 rfl rfl (fa rfl (qap m1 rfl rfl (qaf ?_)))))
 exact eE hm

def Jal (s_i : Nat) (t : Jo) : Nat → Nat → (List Jo) → Option ((List Jo))
  | 0, _, ac => some ac
  | aU + 1, i0, ac =>
    (chk (0 ≤ (i0 : Int) ∧ (i0 : Int) < 8)).bind fun _ =>
    (ac[s_i]?).bind fun aS =>
    (chk (0 ≤ (i0 : Int) ∧ (i0 : Int) < 8)).bind fun _ =>
    (chk (0 ≤ (i0 : Int) ∧ (i0 : Int) < 8)).bind fun _ =>
    (some (List.set [aS.At.f0, aS.At.f1, aS.At.f2, aS.At.f3, aS.At.f4, aS.At.f5, aS.At.f6, aS.At.f7] (Int.toNat (i0 : Int)) (u64and (List.getD [aS.At.f0, aS.At.f1, aS.At.f2, aS.At.f3, aS.At.f4, aS.At.f5, aS.At.f6, aS.At.f7] (Int.toNat (i0 : Int)) 0) (List.getD [t.At.f0, t.At.f1, t.At.f2, t.At.f3, t.At.f4, t.At.f5, t.At.f6, t.At.f7] (Int.toNat (i0 : Int)) 0)))).bind fun aT =>
    Jal s_i t aU (i0 + 1) (ac.set s_i (⟨aS.Au, aS.depth, (⟨(List.getD aT 0 0), (List.getD aT 1 0), (List.getD aT 2 0), (List.getD aT 3 0), (List.getD aT 4 0), (List.getD aT 5 0), (List.getD aT 6 0), (List.getD aT 7 0)⟩ : JaF)⟩ : Jo))
def Ja6 (s : (List Jo)) (s_i : Nat) (t : Jo) : Option (Bool × (List Jo)) :=
  (s[s_i]?).bind fun aT =>
  if (!aT.Au) then
  some (true, (s.set s_i t))
  else
  (chk (InI (8 : Int))).bind fun _ =>
  (Jal s_i t (8 : Int).toNat 0 s).bind fun t0 =>
  (t0[s_i]?).bind fun aS =>
  some (decide (aS.depth = t.depth), t0)
theorem JaL {s : (List Jo)} {s_i : Nat} {t : Jo} {aO : Option Addr} {aR : Nat} {K : Hp} {r : Bool × (List Jo)}
    (hm : Ja6 s s_i t = some r) (aL : 0 < s.length → Has aO) :
    Fn Tryz.prog 155 [(qi3 aO (s_i * 10)), .agg #[.bool t.Au, .int .i64 t.depth, .int .u64 t.At.f0, .int .u64 t.At.f1, .int .u64 t.At.f2, .int .u64 t.At.f3, .int .u64 t.At.f4, .int .u64 t.At.f5, .int .u64 t.At.f6, .int .u64 t.At.f7]] K [qau Jo.enc aO 228 10 aR s] (fun v K' H' => v = .bool r.1 ∧ (0 < r.2.length → Has aO) ∧ s.length = r.2.length ∧ H' = [qau Jo.enc aO 228 10 aR r.2]) := by
 refine Fn.enter Tryz.func155 Tryz.call155 rfl fun F => ?_
 unfold Ja6 at hm
 obtain ⟨bh, aV, hm⟩ := bnd hm
 refine qar ?_
 intro b3
 refine qdh (qcm aL aV) (qa8 rfl (qcm aL aV) (ro (qby (i := s_i) (o := 0) r1 rfl aV rfl rfl (qaw ?_))))
 refine cs rfl rfl hm ?_ ?_ <;> intro bn hm
 refine ro (qab r0 rfl (nl rfl) (qdh (qcm aL aV) ?_))
 refine qd8 (o := 0) (y := t) bh r1 rfl aV rfl (by (conv => whnf); exact ⟨rfl, rfl, (nl rfl), rfl, rfl, rfl⟩) ?_
 cases hm
 exact en lr ⟨rfl, (by first | simpa using aL | exact fun _ => ⟨_, _, rfl⟩), ((rfl).trans List.length_set.symm), rfl⟩ (sc [0,1] rfl)
 obtain ⟨bj, hm⟩ := qax hm
 obtain ⟨s0, aT, hm⟩ := bnd hm
 refine lD (σ := ((List Jo))) ([5] ++ rg 14 18) [0, 2] (fun i0 => [(14, .int .i64 (i0 : Int))]) (fun _ => []) (fun t0 => [qau Jo.enc aO 228 10 aR t0]) (fun t0 => (0 < t0.length → Has aO) ∧ s.length = t0.length) (fun i0 t0 => Jal s_i t ((8 : Int).toNat - i0) i0 t0 = some s0) (fun t0 => t0 = s0) (fun i0 => (8 : Int).toNat - i0) 0 _ aT (And.intro qe (And.intro ?_ ?_))
 clear aT
 rintro i0 ac ⟨aX, aZ⟩ aT j0
 conv at aT => whnf
 refine qac rfl ?_
 refine qae ?_ ?_ <;> intro w0
 rw [ltn (n := (8 : Int)) w0, Jal.eq_2] at aT
 refine qal rfl ?_
 refine qa3 ⟨⟨[], true⟩, _, [], []⟩ (by kernel_rfl) ⟨Hp.Le.refl _, (pf rfl), ci0⟩ ?_
 refine qdh (qcm aL aV) (qa8 rfl (qcm aL aV) ?_)
 obtain ⟨ba, aT⟩ := qax aT
 refine qit (sz := 1) rfl rfl (qcm aL aV) ba.1 ba.2 ?_
 obtain ⟨aS, bf, aT⟩ := bnd aT
 refine qby (i := s_i) (o := 2 + (Int.toNat (i0 : Int))) r0 rfl bf (qjq (L := [aS.At.f0, aS.At.f1, aS.At.f2, aS.At.f3, aS.At.f4, aS.At.f5, aS.At.f6, aS.At.f7]) (pre := [.bool aS.Au, .int .i64 aS.depth]) (post := []) rfl ba.1 ba.2) (by omega) ?_
 refine fa rfl ?_
 obtain ⟨bb, aT⟩ := qax aT
 refine qbv (sz := 1) rfl rfl bb.1 bb.2 ?_
 refine qom (L := [t.At.f0, t.At.f1, t.At.f2, t.At.f3, t.At.f4, t.At.f5, t.At.f6, t.At.f7]) (pre := [.bool t.Au, .int .i64 t.depth]) (post := []) r1 rfl (by simp) rfl bb.1 bb.2 ?_
 refine qjp ?_
 refine qdh (qcm aL aV) (qa8 rfl (qcm aL aV) ?_)
 obtain ⟨bc, aT⟩ := qax aT
 refine qit (sz := 1) rfl rfl (qcm aL aV) bc.1 bc.2 ?_
 obtain ⟨aU, aW, aT⟩ := bnd aT
 replace aW := Option.some.inj aW
 have aY : aU.length = 8 := by rw [← aW]; simp
 refine qd8 (n := 1) (o := 2 + (Int.toNat (i0 : Int))) (y := (⟨aS.Au, aS.depth, (⟨(List.getD aU 0 0), (List.getD aU 1 0), (List.getD aU 2 0), (List.getD aU 3 0), (List.getD aU 4 0), (List.getD aU 5 0), (List.getD aU 6 0), (List.getD aU 7 0)⟩ : JaF)⟩ : Jo)) aS r0 rfl bf (by omega) (by rw [qbu]; exact ⟨rfl, rfl, by omega, (qhk (L := [aS.At.f0, aS.At.f1, aS.At.f2, aS.At.f3, aS.At.f4, aS.At.f5, aS.At.f6, aS.At.f7]) (pre := [.bool aS.Au, .int .i64 aS.depth]) (post := []) bc.1 bc.2).trans (by rw [aW, qrd aY]; rfl), rfl, rfl⟩) ?_
 refine qk (pf rfl) ?_
 refine qam (qio w0 bj) ?_
 exact rd (i0 + 1, (ac.set s_i (⟨aS.Au, aS.depth, (⟨(List.getD aU 0 0), (List.getD aU 1 0), (List.getD aU 2 0), (List.getD aU 3 0), (List.getD aU 4 0), (List.getD aU 5 0), (List.getD aU 6 0), (List.getD aU 7 0)⟩ : JaF)⟩ : Jo))) ⟨rfl, trivial⟩ rfl (pf rfl) lr (qpd w0) ⟨⟨(by first | simpa using aX | exact fun _ => ⟨_, _, rfl⟩), ((aZ).trans List.length_set.symm)⟩, aT⟩
 rw [lto (n := (8 : Int)) w0, Jal.eq_1] at aT
 refine cT ?_
 exact eM aT _
 rintro t0 ⟨bd, bg⟩ rfl j0
 refine qa3 ⟨⟨[], true⟩, _, [], []⟩ (by kernel_rfl) ⟨Hp.Le.refl _, (pf rfl), ci0⟩ ?_
 refine qdh (qcm aL aV) (qa8 rfl (qcm aL aV) ?_)
 obtain ⟨bm, bl, hm⟩ := bnd hm
 refine qby (i := s_i) (o := 1) r0 rfl bl rfl rfl ?_
 refine fa rfl ?_
 refine ld r1 rfl rfl ?_
 refine qaf ?_
 exact eE hm
