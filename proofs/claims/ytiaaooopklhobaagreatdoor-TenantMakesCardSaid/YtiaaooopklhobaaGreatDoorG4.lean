/- Functions of the program: mirrors, and that a call returns what the mirror says. Printed by gen.py. -/
import Derived.Test.YtiaaooopklhobaaGreatDoorG3
set_option linter.unusedVariables false
set_option linter.unusedSimpArgs false
open Go Go.SL Go.Proofs
noncomputable section
set_option maxRecDepth 1000000
set_option maxHeartbeats 8000000
def JaO (aw : (Jd → (List Ja) → Option (Jd))) (n : Nat) (c : Jd) (n' : Ja) : Option (Jd) :=
  if decide (n'.Ab = 2) then
  (Jaf aw n c n').bind fun x9 =>
  some x9
  else
  if decide ((n'.Aa.length : Int) > 0) then
  (ix n'.Aa 0).bind fun bf =>
  (JD n c bf).bind fun aW =>
  if decide (n'.Ab = 3) then
  (Jf aW 4 aW.Ap ([] : Str)).bind fun aV =>
  (chk (aV.2.names.length + [(⟨n'.Ac, aV.2.Ap⟩ : Jj)].length ≤ lim)).bind fun _ =>
  (chk (InI (aV.2.Ap + 1))).bind fun _ =>
  some (⟨aV.2.code, (aV.2.names ++ [(⟨n'.Ac, aV.2.Ap⟩ : Jj)]), (aV.2.Ap + 1)⟩ : Jd)
  else
  if decide (n'.Ab = 4) then
  (Jf aW 11 0 n'.Ac).bind fun aY =>
  some aY.2
  else
  if decide (n'.Ab = 5) then
  (chk (([104, 101, 97, 100, 101, 114, 58] : Str).length + n'.Ac.length ≤ lim)).bind fun _ =>
  (Jf aW 11 0 (([104, 101, 97, 100, 101, 114, 58] : Str) ++ n'.Ac)).bind fun aX =>
  some aX.2
  else
  if decide (n'.Ab = 6) then
  (chk (([118, 97, 114, 121, 58] : Str).length + n'.Ac.length ≤ lim)).bind fun _ =>
  (Jf aW 11 0 (([118, 97, 114, 121, 58] : Str) ++ n'.Ac)).bind fun a8 =>
  some a8.2
  else
  if decide (n'.Ab = 7) then
  (Jf aW 11 0 ([116, 97, 103] : Str)).bind fun a6 =>
  some a6.2
  else
  if decide (n'.Ab = 8) then
  (Jf aW 11 0 ([116, 116, 108] : Str)).bind fun aZ =>
  some aZ.2
  else
  if decide (n'.Ab = 9) then
  (Jf aW 11 0 ([100, 101, 110, 121] : Str)).bind fun bc =>
  some bc.2
  else
  if decide (n'.Ab = 10) then
  (Jf aW 11 0 ([112, 97, 115, 115] : Str)).bind fun bb =>
  some bb.2
  else
  if decide (n'.Ab = 11) then
  (Jf aW 11 0 ([116, 111, 107, 101, 110] : Str)).bind fun ba =>
  some ba.2
  else
  some aW
  else
  if decide (n'.Ab = 3) then
  (Jf c 4 c.Ap ([] : Str)).bind fun aV =>
  (chk (aV.2.names.length + [(⟨n'.Ac, aV.2.Ap⟩ : Jj)].length ≤ lim)).bind fun _ =>
  (chk (InI (aV.2.Ap + 1))).bind fun _ =>
  some (⟨aV.2.code, (aV.2.names ++ [(⟨n'.Ac, aV.2.Ap⟩ : Jj)]), (aV.2.Ap + 1)⟩ : Jd)
  else
  if decide (n'.Ab = 4) then
  (Jf c 11 0 n'.Ac).bind fun aY =>
  some aY.2
  else
  if decide (n'.Ab = 5) then
  (chk (([104, 101, 97, 100, 101, 114, 58] : Str).length + n'.Ac.length ≤ lim)).bind fun _ =>
  (Jf c 11 0 (([104, 101, 97, 100, 101, 114, 58] : Str) ++ n'.Ac)).bind fun aX =>
  some aX.2
  else
  if decide (n'.Ab = 6) then
  (chk (([118, 97, 114, 121, 58] : Str).length + n'.Ac.length ≤ lim)).bind fun _ =>
  (Jf c 11 0 (([118, 97, 114, 121, 58] : Str) ++ n'.Ac)).bind fun a8 =>
  some a8.2
  else
  if decide (n'.Ab = 7) then
  (Jf c 11 0 ([116, 97, 103] : Str)).bind fun a6 =>
  some a6.2
  else
  if decide (n'.Ab = 8) then
  (Jf c 11 0 ([116, 116, 108] : Str)).bind fun aZ =>
  some aZ.2
  else
  if decide (n'.Ab = 9) then
  (Jf c 11 0 ([100, 101, 110, 121] : Str)).bind fun bc =>
  some bc.2
  else
  if decide (n'.Ab = 10) then
  (Jf c 11 0 ([112, 97, 115, 115] : Str)).bind fun bb =>
  some bb.2
  else
  if decide (n'.Ab = 11) then
  (Jf c 11 0 ([116, 111, 107, 101, 110] : Str)).bind fun ba =>
  some ba.2
  else
  some c
theorem JcW {aw : (Jd → (List Ja) → Option (Jd))} (ihrec4_0 : ∀ {c : Jd} {list : (List Ja)} {b0 : Nat} {aa : Option Addr} {ab : Nat} {ah : Option Addr} {al : Nat} {af : Option Addr} {ag : Nat} {n1 : Nat} {K : Hp} {r : Jd} (hm : aw c list = some r) (hX : (0 < c.code.length → Has aa) ∧ (0 < c.names.length → Has ah) ∧ LiC Ja.R K af ag 4 list ∧ n1 = list.length), Fn Tryz.prog 142 [.pointer (some ⟨b0, 0, none⟩), .slice af n1 ag] K [Cells b0 209 [.slice aa c.code.length ab, .slice ah c.names.length al, .int .i64 c.Ap], OwnL Jg.enc aa 135 3 ab c.code, OwnL Jj.enc ah 290 2 al c.names] (fun v K' H' => ∃ ar_0 : Option Addr, ∃ cr_0 : Nat, ∃ ar_1 : Option Addr, ∃ cr_1 : Nat, v = .tuple #[] ∧ (0 < r.code.length → Has ar_0) ∧ (0 < r.names.length → Has ar_1) ∧ H' = [Cells b0 209 [.slice ar_0 r.code.length cr_0, .slice ar_1 r.names.length cr_1, .int .i64 r.Ap], OwnL Jg.enc ar_0 135 3 cr_0 r.code, OwnL Jj.enc ar_1 290 2 cr_1 r.names])) {n : Nat} {c : Jd} {n' : Ja} {b0 : Nat} {aa : Option Addr} {ab : Nat} {ah : Option Addr} {al : Nat} {af : Option Addr} {ag : Nat} {K : Hp} {r : Jd}
    (hm : JaO aw n c n' = some r) (hX : (0 < c.code.length → Has aa) ∧ (0 < c.names.length → Has ah) ∧ LiC Ja.R K af ag 4 n'.Aa) :
    Fn Tryz.prog 197 [.pointer (some ⟨b0, 0, none⟩), .agg #[.int .i64 n'.Ab, str n'.Ac, .slice af n'.Aa.length ag, .int .i64 n'.Ad]] K [Cells b0 209 [.slice aa c.code.length ab, .slice ah c.names.length al, .int .i64 c.Ap], OwnL Jg.enc aa 135 3 ab c.code, OwnL Jj.enc ah 290 2 al c.names] (fun v K' H' => ∃ ar_0 : Option Addr, ∃ cr_0 : Nat, ∃ ar_1 : Option Addr, ∃ cr_1 : Nat, v = .tuple #[] ∧ (0 < r.code.length → Has ar_0) ∧ (0 < r.names.length → Has ar_1) ∧ H' = [Cells b0 209 [.slice ar_0 r.code.length cr_0, .slice ar_1 r.names.length cr_1, .int .i64 r.Ap], OwnL Jg.enc ar_0 135 3 cr_0 r.code, OwnL Jj.enc ar_1 290 2 cr_1 r.names]) := by
 obtain ⟨ae, cR, aj⟩ := hX
 refine Fn.enter Tryz.func197 Tryz.call197 rfl fun F => ?_
 unfold JaO at hm
 refine qar ?_
 intro b3
 refine fa rfl (ro (ld r0 rfl rfl (qag ?_)))
 refine cs rfl rfl hm ?_ ?_ <;> intro w6 hm
 refine ro (qab r0 rfl (nl rfl) ?_)
 refine cb hm fun x9 q9 hm => ckx (Jdd ihrec4_0 q9 :) ?_
 rintro _ _ _ ⟨dc, dw, c6, c5, rfl, dl, de, rfl⟩
 exact eE hm
 refine fa rfl (ro (ld r0 rfl rfl (ro (qal rfl ?_))))
 refine cs rfl rfl hm ?_ ?_ <;> intro dD hm
 refine fa rfl (ro (ld r0 rfl rfl ?_))
 obtain ⟨dE, cO, cH, hm⟩ := ixb hm
 refine RStep.ofN (qae rfl rfl (qda aj.rd cH) cO (qaw rfl cO cH) ?_)
 obtain ⟨di, dv, cq, cB, cD⟩ := LiR.get aj.rd cH
 obtain ⟨cU, cX, rfl, cW⟩ := Ja.out cD
 refine ro (qao ((0 : Int).toNat) _ cq rfl cB rfl ?_)
 refine cb hm fun dF db hm => ckx (Jcx db :) ?_
 rintro _ _ _ ⟨cV, cQ, cN, cZ, rfl, cY, cP, rfl⟩
 refine fa rfl (ro (ld r3 rfl rfl ?_))
 refine qam rfl ?_
 refine qag (cs rfl rfl hm ?_ ?_) <;> intro dm hm
 refine qah (fa rfl (ro (ld r0 rfl rfl ?_)))
 refine cb hm fun bu cG hm => ckx (Ji cG :) ?_
 rintro _ _ _ ⟨bc, bv, bI, aV, rfl, bH, aY, rfl⟩
 refine qa6 ⟨⟨[], false⟩, _, [(_, _), (_, _)], []⟩ 14 rfl (by kernel_rfl) ⟨Hp.Le.refl _, (sc [0,2] rfl), ci0⟩ ?_
 refine qah (fa rfl (qap m0 rfl rfl (fa rfl (qap m1 rfl rfl (qah (fa rfl (qap m0 rfl rfl ?_)))))))
 refine qak rfl rfl (cT (cT ?_))
 refine bsO (len := 1) (enc := Jj.enc) (l := [(⟨n'.Ac, bu.2.Ap⟩ : Jj)]) (cl := [str n'.Ac, .int .i64 bu.2.Ap]) qnb rfl rfl (fun _ _ => rfl) rfl rfl rfl ?_ fun dj => ?_
 · conv => whnf
   refine cT ?_
   first | done | rfl
 refine qk (sc [1,3] rfl) ?_
 obtain ⟨cw, hm⟩ := qax hm
 refine apE rfl r3 qnb (qaz rfl r0 rfl (fun _ => rfl) (fun _ => rfl)) cw ?_
 intro dg dk du
 refine qk (sc [2,3] rfl) ?_
 refine qah (fa rfl ?_)
 refine qaa r2 rfl ⟨rfl, rfl, (nl rfl), ?_⟩
 refine ⟨⟨Hp.emp_le _, (pf rfl), ci0⟩, ?_⟩
 refine qah (fa rfl (ro (ld r0 rfl rfl ?_)))
 obtain ⟨cJ, hm⟩ := qax hm
 refine qan cJ (qah (fa rfl ?_))
 refine qaa r0 rfl ⟨rfl, rfl, (nl rfl), ?_⟩
 exact eE hm
 refine qag (cs rfl rfl hm ?_ ?_) <;> intro dt hm
 refine fa rfl (ro (ld r3 rfl rfl ?_))
 refine cb hm fun c4 cu hm => ckx (Ji cu :) ?_
 rintro _ _ _ ⟨bg, bT, aW, bB, rfl, a8, ba, rfl⟩
 exact eE hm
 refine qag (cs rfl rfl hm ?_ ?_) <;> intro dz hm
 refine fa rfl (ro (ld r3 rfl rfl ?_))
 obtain ⟨cL, hm⟩ := qax hm
 refine qby cL ?_
 refine cb hm fun dx cA hm => ckx (Ji cA :) ?_
 rintro _ _ _ ⟨bb, bR, bo, ce, rfl, aX, bm, rfl⟩
 exact eE hm
 refine qag (cs rfl rfl hm ?_ ?_) <;> intro df hm
 refine fa rfl (ro (ld r3 rfl rfl ?_))
 obtain ⟨cI, hm⟩ := qax hm
 refine qby cI ?_
 refine cb hm fun dn cz hm => ckx (Ji cz :) ?_
 rintro _ _ _ ⟨bF, bC, bQ, bz, rfl, bf, bX, rfl⟩
 exact eE hm
 refine qag (cs rfl rfl hm ?_ ?_) <;> intro dA hm
 refine cb hm fun dy cK hm => ckx (Ji cK :) ?_
 rintro _ _ _ ⟨bW, bt, bN, cj, rfl, bj, bK, rfl⟩
 exact eE hm
 refine qag (cs rfl rfl hm ?_ ?_) <;> intro dp hm
 refine cb hm fun dh cr hm => ckx (Ji cr :) ?_
 rintro _ _ _ ⟨cn, cm, bP, bp, rfl, cp, bS, rfl⟩
 exact eE hm
 refine qag (cs rfl rfl hm ?_ ?_) <;> intro c8 hm
 refine cb hm fun dq cy hm => ckx (Ji cy :) ?_
 rintro _ _ _ ⟨bY, bn, bV, bh, rfl, bZ, bA, rfl⟩
 exact eE hm
 refine qag (cs rfl rfl hm ?_ ?_) <;> intro c9 hm
 refine cb hm fun dC cC hm => ckx (Ji cC :) ?_
 rintro _ _ _ ⟨bJ, bL, bU, aZ, rfl, bD, a6, rfl⟩
 exact eE hm
 refine qag (cs rfl rfl hm ?_ ?_) <;> intro da hm
 refine cb hm fun dB cM hm => ckx (Ji cM :) ?_
 rintro _ _ _ ⟨ca, bO, bw, bM, rfl, cd, bG, rfl⟩
 exact eE hm
 exact eE hm
 refine fa rfl (ro (ld r0 rfl rfl ?_))
 refine qam rfl ?_
 refine qag (cs rfl rfl hm ?_ ?_) <;> intro dm hm
 refine qah (fa rfl (ro (ld r1 rfl rfl ?_)))
 refine cb hm fun bu cG hm => ckx (Ji cG :) ?_
 rintro _ _ _ ⟨bc, bv, bI, aV, rfl, bH, aY, rfl⟩
 refine qa6 ⟨⟨[], false⟩, _, [(_, _), (_, _)], []⟩ 14 rfl (by kernel_rfl) ⟨Hp.Le.refl _, (sc [0,2] rfl), ci0⟩ ?_
 refine qah (fa rfl (qap m0 rfl rfl (fa rfl (qap m1 rfl rfl (qah (fa rfl (qap m0 rfl rfl ?_)))))))
 refine qak rfl rfl (cT (cT ?_))
 refine bsO (len := 1) (enc := Jj.enc) (l := [(⟨n'.Ac, bu.2.Ap⟩ : Jj)]) (cl := [str n'.Ac, .int .i64 bu.2.Ap]) qnb rfl rfl (fun _ _ => rfl) rfl rfl rfl ?_ fun dj => ?_
 · conv => whnf
   refine cT ?_
   first | done | rfl
 refine qk (sc [1,3] rfl) ?_
 obtain ⟨cw, hm⟩ := qax hm
 refine apE rfl r3 qnb (qaz rfl r0 rfl (fun _ => rfl) (fun _ => rfl)) cw ?_
 intro dg dk du
 refine qk (sc [2,3] rfl) ?_
 refine qah (fa rfl ?_)
 refine qaa r2 rfl ⟨rfl, rfl, (nl rfl), ?_⟩
 refine ⟨⟨Hp.emp_le _, (pf rfl), ci0⟩, ?_⟩
 refine qah (fa rfl (ro (ld r0 rfl rfl ?_)))
 obtain ⟨cJ, hm⟩ := qax hm
 refine qan cJ (qah (fa rfl ?_))
 refine qaa r0 rfl ⟨rfl, rfl, (nl rfl), ?_⟩
 exact eE hm
 refine qag (cs rfl rfl hm ?_ ?_) <;> intro dt hm
 refine fa rfl (ro (ld r0 rfl rfl ?_))
 refine cb hm fun c4 cu hm => ckx (Ji cu :) ?_
 rintro _ _ _ ⟨bg, bT, aW, bB, rfl, a8, ba, rfl⟩
 exact eE hm
 refine qag (cs rfl rfl hm ?_ ?_) <;> intro dz hm
 refine fa rfl (ro (ld r0 rfl rfl ?_))
 obtain ⟨cL, hm⟩ := qax hm
 refine qby cL ?_
 refine cb hm fun dx cA hm => ckx (Ji cA :) ?_
 rintro _ _ _ ⟨bb, bR, bo, ce, rfl, aX, bm, rfl⟩
 exact eE hm
 refine qag (cs rfl rfl hm ?_ ?_) <;> intro df hm
 refine fa rfl (ro (ld r0 rfl rfl ?_))
 obtain ⟨cI, hm⟩ := qax hm
 refine qby cI ?_
 refine cb hm fun dn cz hm => ckx (Ji cz :) ?_
 rintro _ _ _ ⟨bF, bC, bQ, bz, rfl, bf, bX, rfl⟩
 exact eE hm
 refine qag (cs rfl rfl hm ?_ ?_) <;> intro dA hm
 refine cb hm fun dy cK hm => ckx (Ji cK :) ?_
 rintro _ _ _ ⟨bW, bt, bN, cj, rfl, bj, bK, rfl⟩
 exact eE hm
 refine qag (cs rfl rfl hm ?_ ?_) <;> intro dp hm
 refine cb hm fun dh cr hm => ckx (Ji cr :) ?_
 rintro _ _ _ ⟨cn, cm, bP, bp, rfl, cp, bS, rfl⟩
 exact eE hm
 refine qag (cs rfl rfl hm ?_ ?_) <;> intro c8 hm
 refine cb hm fun dq cy hm => ckx (Ji cy :) ?_
 rintro _ _ _ ⟨bY, bn, bV, bh, rfl, bZ, bA, rfl⟩
 exact eE hm
 refine qag (cs rfl rfl hm ?_ ?_) <;> intro c9 hm
 refine cb hm fun dC cC hm => ckx (Ji cC :) ?_
 rintro _ _ _ ⟨bJ, bL, bU, aZ, rfl, bD, a6, rfl⟩
 exact eE hm
 refine qag (cs rfl rfl hm ?_ ?_) <;> intro da hm
 refine cb hm fun dB cM hm => ckx (Ji cM :) ?_
 rintro _ _ _ ⟨ca, bO, bw, bM, rfl, cd, bG, rfl⟩
 exact eE hm
 exact eE hm

def JX (rec_ : (Jd → (List Ja) → Option (Jd))) (n : Nat) : List Ja → Nat → Jd → Option (Jd)
  | [], _, ac => some ac
  | e0 :: aW, i0, ac =>
    (JaO rec_ n ac e0).bind fun aV =>
    JX rec_ n aW (i0 + 1) aV
def JZ : Nat → Jd → (List Ja) → Option (Jd)
  | 0, _, _ => none
  | n + 1, c, list =>
    (chk (list.length ≤ qa1)).bind fun _ =>
    (JX (JZ n) n list 0 c).bind fun t0 =>
    (chk (0 ≤ (0 : Int) ∧ (0 : Int) ≤ (c.names.length : Int) ∧ (c.names.length : Int) ≤ (t0.names.length : Int))).bind fun _ =>
    some (⟨t0.code, (subL t0.names (0 : Int) (c.names.length : Int)), t0.Ap⟩ : Jd)
theorem Jdi : ∀ {n : Nat} {c : Jd} {list : (List Ja)} {b0 : Nat} {aa : Option Addr} {ab : Nat} {ah : Option Addr} {al : Nat} {af : Option Addr} {ag : Nat} {n1 : Nat} {K : Hp} {r : Jd}
    (hm : JZ n c list = some r) (hX : (0 < c.code.length → Has aa) ∧ (0 < c.names.length → Has ah) ∧ LiC Ja.R K af ag 4 list ∧ n1 = list.length),
    Fn Tryz.prog 142 [.pointer (some ⟨b0, 0, none⟩), .slice af n1 ag] K [Cells b0 209 [.slice aa c.code.length ab, .slice ah c.names.length al, .int .i64 c.Ap], OwnL Jg.enc aa 135 3 ab c.code, OwnL Jj.enc ah 290 2 al c.names] (fun v K' H' => ∃ ar_0 : Option Addr, ∃ cr_0 : Nat, ∃ ar_1 : Option Addr, ∃ cr_1 : Nat, v = .tuple #[] ∧ (0 < r.code.length → Has ar_0) ∧ (0 < r.names.length → Has ar_1) ∧ H' = [Cells b0 209 [.slice ar_0 r.code.length cr_0, .slice ar_1 r.names.length cr_1, .int .i64 r.Ap], OwnL Jg.enc ar_0 135 3 cr_0 r.code, OwnL Jj.enc ar_1 290 2 cr_1 r.names]) := by
 intro n
 induction n with
 | zero =>
   intro c list b0 aa ab ah al af ag n1 K r hm hX
   rw [JZ.eq_1] at hm; cases hm
 | succ n ih =>
   intro c list b0 aa ab ah al af ag n1 K r hm hX
   obtain ⟨ae, bD, aj, bL⟩ := hX
   subst bL
   refine Fn.enter Tryz.func142 Tryz.call142 rfl fun F => ?_
   rw [JZ.eq_2] at hm
   refine qah (fa rfl (ro (ld r0 rfl rfl (ro (qal rfl (ro (qal rfl ?_)))))))
   obtain ⟨bH, hm⟩ := qax hm
   obtain ⟨s0, aZ, hm⟩ := bnd hm
   refine lD (σ := (Jd) × Option Addr × Nat × Option Addr × Nat) ([6] ++ rg 14 8) [3] (fun i0 => [(14, .int .i64 (i0 : Int))]) (fun _ => []) (fun (t0, aW, aX, aV, aY) => [Cells b0 209 [.slice aW t0.code.length aX, .slice aV t0.names.length aY, .int .i64 t0.Ap], OwnL Jg.enc aW 135 3 aX t0.code, OwnL Jj.enc aV 290 2 aY t0.names]) (fun (t0, aW, aX, aV, aY) => (0 < t0.code.length → Has aW) ∧ (0 < t0.names.length → Has aV)) (fun i0 (t0, aW, aX, aV, aY) => JX (JZ n) n (list.drop i0) i0 t0 = some s0) (fun (t0, aW, aX, aV, aY) => t0 = s0) (fun i0 => list.length - i0) 0 (_, _, _, _, _) aZ (And.intro qe (And.intro ?_ ?_))
   clear aZ
   rintro i0 ⟨ac, bf, bc, bj, bg⟩ ⟨ba, bb⟩ aZ j0
   conv at aZ => whnf
   refine qac rfl ?_
   refine qaf ?_ ?_ <;> intro w0
   obtain ⟨e0, bh, bK⟩ := ltx w0
   rw [bK, JX.eq_2] at aZ
   refine qam rfl ?_
   refine RStep.ofN (qae rfl rfl (qda aj.rd bh) (nn _) (qbp bh) ?_)
   obtain ⟨bJ, bI, bo, bn, bm⟩ := LiR.get aj.rd bh
   obtain ⟨bz, bC, rfl, bA⟩ := Ja.out bm
   refine ro (qao i0 _ bo rfl bn rfl ?_)
   refine qai rfl fun b6 => ?_
   refine qaa r0 rfl ⟨rfl, rfl, (nl rfl), ?_⟩
   refine ro (qab r0 rfl (nl rfl) ?_)
   refine cb aZ fun bM bG aZ => ckx (JcW ih bG :) ?_
   rintro _ _ _ ⟨bp, bw, bF, bv, rfl, bB, bt, rfl⟩
   refine qan (qbu bh bH) ?_
   exact eR aZ (_, _, _, _, _, _)
   rw [lty w0, JX.eq_1] at aZ
   refine cT ?_
   exact eM aZ (_, _, _, _, _)
   rintro ⟨t0, aW, aX, aV, aY⟩ ⟨a8, a6⟩ rfl j0
   refine qah (fa rfl (ro (ld r0 rfl rfl ?_)))
   obtain ⟨bu, hm⟩ := qax hm
   refine qrc (l := t0.names) (hi := (some (c.names.length : Int))) rfl r2 (by simp) rfl rfl bu ?_
   refine qah (fa rfl ?_)
   refine tkW (c.names.length : Int) r2 ?_
   refine qaa r1 rfl ⟨rfl, rfl, (nl rfl), ?_⟩
   cases hm
   exact en lr ⟨aW, aX, aV, aY, rfl, a8, (fun h => a6 (qic bu h)), rfl⟩ (sc [0,1,0,0] rfl)

def JaT (n : Nat) (program : Ja) : Option ((List Jg) × Err) :=
  (Jbp n program).bind fun x9 =>
  if x9.2.isSome then
  some ([], x9.2)
  else
  (JZ n (⟨[], [], 0⟩ : Jd) program.Aa).bind fun aW =>
  (Jf aW 12 0 ([] : Str)).bind fun aV =>
  if decide ((aV.2.code.length : Int) > 2048) then
  some ([], (some 5))
  else
  some (aV.2.code, none)
theorem Jde {n : Nat} {program : Ja} {aa : Option Addr} {ab : Nat} {K : Hp} {r : (List Jg) × Err}
    (hm : JaT n program = some r) (hX : LiC Ja.R K aa ab 4 program.Aa ∧ GG K) :
    Fn Tryz.prog 90 [.agg #[.int .i64 program.Ab, str program.Ac, .slice aa program.Aa.length ab, .int .i64 program.Ad]] K [] (fun v K' H' => ∃ ar_0 : Option Addr, ∃ cr_0 : Nat, v = .tuple #[.slice ar_0 r.1.length cr_0, qc3 48 r.2] ∧ (0 < r.1.length → Has ar_0) ∧ H' = [OwnL Jg.enc ar_0 135 3 cr_0 r.1]) := by
 obtain ⟨ae, hG⟩ := hX
 refine Fn.enter Tryz.func90 Tryz.call90 rfl fun F => ?_
 unfold JaT at hm
 refine qar ?_
 intro b1
 refine ro (qab r0 rfl (nl rfl) ?_)
 refine cb hm fun x9 q9 hm => cgx (Jcp q9 :) ?_
 refine qa7 rfl ?_
 refine cs rfl rfl hm ?_ ?_ <;> intro bo hm
 refine qcp Jg.enc 135 3 ?_
 exact eE hm
 refine qak rfl rfl ?_
 refine qar ?_
 intro bm
 refine fa rfl (ro (ld r1 rfl rfl ?_))
 refine qxa Tryz.call142 Jg.enc 135 3 ?_
 refine qxa Tryz.call142 Jj.enc 290 2 ?_
 refine cb hm fun bp bh hm => ckx (Jdi bh :) ?_
 rintro _ _ _ ⟨aW, aV, bg, bb, rfl, a8, aY, rfl⟩
 refine cb hm fun bn bj hm => ckx (Ji bj :) ?_
 rintro _ _ _ ⟨aZ, bf, ba, aX, rfl, a6, bc, rfl⟩
 refine qah (fa rfl (ro (ld r0 rfl rfl (ro (qal rfl ?_)))))
 refine cs rfl rfl hm ?_ ?_ <;> intro bt hm
 refine qas rfl ?_
 refine qcp Jg.enc 135 3 ?_
 exact eE hm
 refine qah (fa rfl (ro (ld r0 rfl rfl ?_)))
 exact eE hm

def Jaq (rec_ : (Ja → (List Jl) → Option (Int × Int))) (env : (List Jl)) : List Ja → Nat → (List Int) → Int → Int → Option ((List Int) × Int × Int)
  | [], _, ac, aX, aV => some (ac, aX, aV)
  | e0 :: aY, i0, ac, aX, aV =>
    (rec_ e0 env).bind fun aW =>
    (chk (ac.length + [aW.1].length ≤ lim)).bind fun _ =>
    if decide ((i0 : Int) = 0) then
    (chk (InI (aV + aW.2))).bind fun _ =>
    Jaq rec_ env aY (i0 + 1) (ac ++ [aW.1]) aW.2 (aV + aW.2)
    else
    (chk (InI (aV + aW.2))).bind fun _ =>
    Jaq rec_ env aY (i0 + 1) (ac ++ [aW.1]) aX (aV + aW.2)
def Jbr : Nat → Ja → (List Jl) → Option (Int × Int)
  | 0, _, _ => none
  | n + 1, n', env =>
    (chk (n'.Aa.length ≤ qa1)).bind fun _ =>
    (Jaq (Jbr n) env n'.Aa 0 [] 0 0).bind fun t0 =>
    if decide (n'.Ab = 20) then
    some (2, 1)
    else
    if decide (n'.Ab = 21) then
    some (1, 1)
    else
    if decide (n'.Ab = 22) then
    some (3, 3)
    else
    if decide (n'.Ab = 23) then
    (Jbe n n'.Ac env).bind fun aW =>
    some (aW, 1)
    else
    if decide (n'.Ab = 24) then
    (J6 (⟨0, none⟩ : Jn) n' t0.1).bind fun aC =>
    if decide (aC.1 = 1) then
    (chk (InI (t0.2.2 + 32))).bind fun _ =>
    (chk (InI ((t0.2.2 + 32) + 1))).bind fun _ =>
    some (aC.1, ((t0.2.2 + 32) + 1))
    else
    (chk (InI (t0.2.2 + 1))).bind fun _ =>
    some (aC.1, (t0.2.2 + 1))
    else
    if decide (n'.Ab = 14) then
    if decide (n'.Ab = 14) then
    (chk (InI (t0.2.1 + 1))).bind fun _ =>
    (chk (InI (t0.2.2 - t0.2.1))).bind fun _ =>
    (chk (InI ((t0.2.2 - t0.2.1) + 1))).bind fun _ =>
    (chk (InI ((t0.2.1 + 1) + (max 3 ((t0.2.2 - t0.2.1) + 1))))).bind fun _ =>
    some (3, ((t0.2.1 + 1) + (max 3 ((t0.2.2 - t0.2.1) + 1))))
    else
    (chk (InI (t0.2.1 + 1))).bind fun _ =>
    (chk (InI (t0.2.2 - t0.2.1))).bind fun _ =>
    (chk (InI ((t0.2.1 + 1) + (max 4 (t0.2.2 - t0.2.1))))).bind fun _ =>
    some (3, ((t0.2.1 + 1) + (max 4 (t0.2.2 - t0.2.1))))
    else
    if decide (n'.Ab = 13) then
    if decide (n'.Ab = 14) then
    (chk (InI (t0.2.1 + 1))).bind fun _ =>
    (chk (InI (t0.2.2 - t0.2.1))).bind fun _ =>
    (chk (InI ((t0.2.2 - t0.2.1) + 1))).bind fun _ =>
    (chk (InI ((t0.2.1 + 1) + (max 3 ((t0.2.2 - t0.2.1) + 1))))).bind fun _ =>
    some (3, ((t0.2.1 + 1) + (max 3 ((t0.2.2 - t0.2.1) + 1))))
    else
    (chk (InI (t0.2.1 + 1))).bind fun _ =>
    (chk (InI (t0.2.2 - t0.2.1))).bind fun _ =>
    (chk (InI ((t0.2.1 + 1) + (max 4 (t0.2.2 - t0.2.1))))).bind fun _ =>
    some (3, ((t0.2.1 + 1) + (max 4 (t0.2.2 - t0.2.1))))
    else
    (Jag n' t0.1).bind fun aV =>
    if decide (aV = 1) then
    (chk (InI (t0.2.2 + 32))).bind fun _ =>
    (chk (InI ((t0.2.2 + 32) + 1))).bind fun _ =>
    some (aV, ((t0.2.2 + 32) + 1))
    else
    (chk (InI (t0.2.2 + 1))).bind fun _ =>
    some (aV, (t0.2.2 + 1))
theorem Jec : ∀ {n : Nat} {n' : Ja} {env : (List Jl)} {aa : Option Addr} {ab : Nat} {af : Option Addr} {ag : Nat} {n1 : Nat} {K : Hp} {r : Int × Int}
    (hm : Jbr n n' env = some r) (hX : LiC Ja.R K aa ab 4 n'.Aa ∧ RdC Jl.enc K af ag 2 env ∧ n1 = env.length),
    Fn Tryz.prog 198 [.agg #[.int .i64 n'.Ab, str n'.Ac, .slice aa n'.Aa.length ab, .int .i64 n'.Ad], .slice af n1 ag] K [] (fun v K' H' => v = .tuple #[.int .i64 r.1, .int .i64 r.2] ∧ H' = []) := by
 intro n
 induction n with
 | zero =>
   intro n' env aa ab af ag n1 K r hm hX
   rw [Jbr.eq_1] at hm; cases hm
 | succ n ih =>
   intro n' env aa ab af ag n1 K r hm hX
   obtain ⟨ae, aj, bP⟩ := hX
   subst bP
   refine Fn.enter Tryz.func198 Tryz.call198 rfl fun F => ?_
   rw [Jbr.eq_2] at hm
   refine qar ?_
   intro b2
   refine fa rfl (ro (ld r0 rfl rfl (ro (qal rfl ?_))))
   obtain ⟨bA, hm⟩ := qax hm
   obtain ⟨s0, aX, hm⟩ := bnd hm
   refine qjd eN 3 1 ?_
   refine lD (σ := ((List Int) × Int × Int) × Option Addr × Nat) (rg 6 7 ++ rg 19 22) [1, 2] (fun i0 => [(19, .int .i64 (i0 : Int))]) (fun (t0, aV, aW) => [(6, .slice aV t0.1.length aW), (7, .int .i64 t0.2.1), (8, .int .i64 t0.2.2)]) (fun (t0, aV, aW) => [OwnL eN aV 3 1 aW t0.1]) (fun (t0, aV, aW) => (0 < t0.1.length → Has aV) ∧ True) (fun i0 (t0, aV, aW) => Jaq (Jbr n) env (n'.Aa.drop i0) i0 t0.1 t0.2.1 t0.2.2 = some s0) (fun (t0, aV, aW) => t0 = s0) (fun i0 => n'.Aa.length - i0) 0 ((_, _, _), _, _) aX (And.intro qe (And.intro ?_ ?_))
   clear aX
   rintro i0 ⟨⟨ac, bD, bM⟩, bw, bo⟩ ⟨bm, _⟩ aX j0
   dsimp only at aX ⊢
   refine qac rfl ?_
   refine qaf ?_ ?_ <;> intro w0
   obtain ⟨e0, aZ, bI⟩ := ltx w0
   rw [bI, Jaq.eq_2] at aX
   refine qam rfl ?_
   refine RStep.ofN (qae rfl rfl (qda ae.rd aZ) (nn _) (qbp aZ) ?_)
   obtain ⟨bF, bL, bg, bc, bb⟩ := LiR.get ae.rd aZ
   obtain ⟨bt, bn, rfl, bC⟩ := Ja.out bb
   refine ro (qao i0 _ bg rfl bc rfl ?_)
   refine qai rfl fun bS => ?_
   refine qaa r0 rfl ⟨rfl, rfl, (nl rfl), ?_⟩
   refine ro (qab r0 rfl (nl rfl) ?_)
   refine cb aX fun bu bO aX => cgx (ih bO :) ?_
   refine bsO (len := 1) (enc := eN) (l := [bu.1]) (cl := [.int .i64 bu.1]) qm9 rfl rfl (fun _ _ => rfl) rfl rfl rfl ?_ fun bY => ?_
   · conv => whnf
     refine cT ?_
     first | done | rfl
   obtain ⟨bG, aX⟩ := qax aX
   refine apE rfl r2 qm9 (qaz rfl r0 rfl (fun _ => rfl) (fun _ => rfl)) bG ?_
   intro bU bT bX
   refine qag (cs rfl rfl aX ?_ ?_) <;> intro cn aX
   obtain ⟨bh, aX⟩ := qax aX
   refine qan bh (qan (qbu aZ bA) ?_)
   exact eR aX (_, (_, _, _), _, _)
   obtain ⟨bh, aX⟩ := qax aX
   refine qan bh (qan (qbu aZ bA) ?_)
   exact eR aX (_, (_, _, _), _, _)
   rw [lty w0, Jaq.eq_1] at aX
   refine cT ?_
   exact eM aX (_, _, _)
   rintro ⟨t0, aV, aW⟩ ⟨bz, _⟩ rfl j0
   refine qak rfl rfl ?_
   refine qar ?_
   intro bW
   refine fa rfl (ro (ld r2 rfl rfl ?_))
   refine qam rfl ?_
   refine qag (cs rfl rfl hm ?_ ?_) <;> intro cm hm
   exact eE hm
   refine qag (cs rfl rfl hm ?_ ?_) <;> intro cj hm
   exact eE hm
   refine qag (cs rfl rfl hm ?_ ?_) <;> intro bV hm
   exact eE hm
   refine qag (cs rfl rfl hm ?_ ?_) <;> intro bZ hm
   refine fa rfl (ro (ld r2 rfl rfl ?_))
   refine cb hm fun bQ bH hm => cgx (JcL bH :) ?_
   exact eE hm
   refine qag (cs rfl rfl hm ?_ ?_) <;> intro cd hm
   refine ro (qab r2 rfl (nl rfl) ?_)
   refine cb hm fun aC bN hm => ck0 (Fn.lend Tryz.call228 (fun bv a6 aY => (JcF (c := (⟨0, none⟩ : Jn)) (n' := n') bN ⟨(LiC.mono Ja.R_ok a6 ae), aY, rfl⟩)) (by exact fun _ _ _ _ h => h)) ?_
   rintro _ _ _ ⟨_, rfl, rfl, rfl⟩
   refine qag (cs rfl rfl hm ?_ ?_) <;> intro bR hm
   refine ci hm fun hm => ?_
   refine ci hm fun hm => ?_
   exact eE hm
   refine ci hm fun hm => ?_
   exact eE hm
   refine qag (cs rfl rfl hm ?_ ?_) <;> intro bB hm
   refine qac rfl (ct bB (fa rfl (ro (ld r2 rfl rfl (qag ?_)))))
   refine cs rfl rfl hm ?_ ?_ <;> intro bJ hm
   refine ci hm fun hm => ?_
   refine ci hm fun hm => ?_
   obtain ⟨bj, hm⟩ := qax hm
   refine qan bj (ro (qcl ?_))
   refine ci hm fun hm => ?_
   exact eE hm
   refine ci hm fun hm => ?_
   obtain ⟨bf, hm⟩ := qax hm
   refine qan bf (ro (qcl ?_))
   refine ci hm fun hm => ?_
   exact eE hm
   refine qag (cs rfl rfl hm ?_ ?_) <;> intro bB hm
   refine fa rfl (ro (ld r2 rfl rfl (qag ?_)))
   refine cs rfl rfl hm ?_ ?_ <;> intro bJ hm
   refine ci hm fun hm => ?_
   refine ci hm fun hm => ?_
   obtain ⟨bj, hm⟩ := qax hm
   refine qan bj (ro (qcl ?_))
   refine ci hm fun hm => ?_
   exact eE hm
   refine ci hm fun hm => ?_
   obtain ⟨bf, hm⟩ := qax hm
   refine qan bf (ro (qcl ?_))
   refine ci hm fun hm => ?_
   exact eE hm
   refine ro (qab r2 rfl (nl rfl) ?_)
   refine cb hm fun ce bK hm => ck0 (Fn.lend Tryz.call229 (fun bp a8 ba => (Jc3 (n' := n') bK ⟨(LiC.mono Ja.R_ok a8 ae), ba, rfl⟩)) (by exact fun _ _ _ _ h => h)) ?_
   rintro _ _ _ ⟨_, rfl, rfl, rfl⟩
   refine qag (cs rfl rfl hm ?_ ?_) <;> intro ca hm
   refine ci hm fun hm => ?_
   refine ci hm fun hm => ?_
   exact eE hm
   refine ci hm fun hm => ?_
   exact eE hm

def Jaa (n : Nat) (rec_ : ((List Ja) → (List Jl) → Option (Int))) : List Ja → Nat → (List Jl) → Int → Option ((List Jl) × Int)
  | [], _, ac, aV => some (ac, aV)
  | e0 :: aY, i0, ac, aV =>
    (chk (InI (aV + 1))).bind fun _ =>
    if decide ((e0.Aa.length : Int) = 0) then
    Jaa n rec_ aY (i0 + 1) ac (aV + 1)
    else
    (ix e0.Aa 0).bind fun a8 =>
    (Jbr n a8 ac).bind fun aW =>
    (chk (InI ((aV + 1) + aW.2))).bind fun _ =>
    if decide (e0.Ab = 3) then
    (Jap ac e0.Ac aW.1).bind fun bc =>
    Jaa n rec_ aY (i0 + 1) bc ((aV + 1) + aW.2)
    else
    if decide (e0.Ab = 2) then
    (ix e0.Aa 1).bind fun ba =>
    (JaN ba).bind fun bb =>
    (rec_ bb ac).bind fun aX =>
    if decide ((e0.Aa.length : Int) > 2) then
    (chk (InI (aX + 1))).bind fun _ =>
    (ix e0.Aa 2).bind fun bf =>
    (JaN bf).bind fun a6 =>
    (rec_ a6 ac).bind fun aZ =>
    (chk (InI (((aV + 1) + aW.2) + (max (aX + 1) aZ)))).bind fun _ =>
    Jaa n rec_ aY (i0 + 1) ac (((aV + 1) + aW.2) + (max (aX + 1) aZ))
    else
    (chk (InI (((aV + 1) + aW.2) + aX))).bind fun _ =>
    Jaa n rec_ aY (i0 + 1) ac (((aV + 1) + aW.2) + aX)
    else
    Jaa n rec_ aY (i0 + 1) ac ((aV + 1) + aW.2)
def Ja9 : Nat → (List Ja) → (List Jl) → Option (Int)
  | 0, _, _ => none
  | n + 1, list, env =>
    (chk (list.length ≤ qa1)).bind fun _ =>
    (Jaa n (Ja9 n) list 0 env 0).bind fun t0 =>
    some t0.2
theorem Jed : ∀ {n : Nat} {list : (List Ja)} {env : (List Jl)} {aa : Option Addr} {ab : Nat} {n0 : Nat} {af : Option Addr} {ag : Nat} {n1 : Nat} {K : Hp} {r : Int}
    (hm : Ja9 n list env = some r) (hX : LiC Ja.R K aa ab 4 list ∧ n0 = list.length ∧ RdC Jl.enc K af ag 2 env ∧ n1 = env.length),
    Fn Tryz.prog 144 [.slice aa n0 ab, .slice af n1 ag] K [] (fun v K' H' => v = .int .i64 r ∧ H' = []) := by
 intro n
 induction n with
 | zero =>
   intro list env aa ab n0 af ag n1 K r hm hX
   rw [Ja9.eq_1] at hm; cases hm
 | succ n ih =>
   intro list env aa ab n0 af ag n1 K r hm hX
   obtain ⟨ae, cy, aj, cO⟩ := hX
   subst cy
   subst cO
   refine Fn.enter Tryz.func144 Tryz.call144 rfl fun F => ?_
   rw [Ja9.eq_2] at hm
   refine ro (qal rfl ?_)
   obtain ⟨a6, hm⟩ := qax hm
   obtain ⟨s0, aV, hm⟩ := bnd hm
   refine lC (σ := ((List Jl) × Int) × Option Addr × Nat) ([1,5,7,8,9,10] ++ rg 13 58) [0] (fun i0 => [(13, .int .i64 (i0 : Int))]) (fun (t0, aW, aY) => [(1, .slice aW t0.1.length aY), (5, .int .i64 t0.2)]) (fun _ => []) (fun zz K1 => match zz with | (t0, aW, aY) => RdC Jl.enc K1 aW aY 2 t0.1 ∧ True) (fun i0 (t0, aW, aY) => Jaa n (Ja9 n) (list.drop i0) i0 t0.1 t0.2 = some s0) (fun (t0, aW, aY) => t0 = s0) (fun i0 => list.length - i0) 0 ((_, _), _, _) aV (And.intro qe (And.intro ?_ ?_))
   clear aV
   rintro i0 ⟨⟨ac, cp⟩, bJ, bH⟩ cV cd ⟨bz, _⟩ aV j0
   dsimp only at aV ⊢
   refine qac rfl ?_
   refine qaf ?_ ?_ <;> intro w0
   obtain ⟨e0, aZ, cA⟩ := ltx w0
   rw [cA, Jaa.eq_2] at aV
   refine qam rfl ?_
   refine RStep.ofN (qae rfl rfl (qda (LiC.mono Ja.R_ok cd ae).rd aZ) (nn _) (qbp aZ) ?_)
   obtain ⟨cJ, cw, bu, bc, bj⟩ := LiR.get (LiC.mono Ja.R_ok cd ae).rd aZ
   obtain ⟨bU, bD, rfl, aX⟩ := Ja.out bj
   refine ro (qao i0 _ bu rfl bc rfl ?_)
   refine qai rfl fun b7 => ?_
   refine qaa r0 rfl ⟨rfl, rfl, (nl rfl), ?_⟩
   obtain ⟨cB, aV⟩ := qax aV
   refine qan cB (fa rfl (ro (ld r0 rfl rfl (ro (qal rfl (qag ?_))))))
   refine cs rfl rfl aV ?_ ?_ <;> intro cZ aV
   refine cT (qan (qbu aZ a6) ?_)
   exact eR aV (_, (_, _), _, _)
   refine fa rfl (ro (ld r0 rfl rfl ?_))
   obtain ⟨cW, bP, bf, aV⟩ := ixb aV
   refine RStep.ofN (qae rfl rfl (qda aX.rd bf) bP (qaw rfl bP bf) ?_)
   obtain ⟨cr, cG, bh, bo, bm⟩ := LiR.get aX.rd bf
   obtain ⟨bK, bM, rfl, bX⟩ := Ja.out bm
   refine ro (qao ((0 : Int).toNat) _ bh rfl bo rfl ?_)
   refine cb aV fun cX cK aV => cgx (Jec cK :) ?_
   obtain ⟨cz, aV⟩ := qax aV
   refine qan cz (fa rfl (ro (ld r0 rfl rfl ?_)))
   refine qam rfl ?_
   refine qag (cs rfl rfl aV ?_ ?_) <;> intro c9 aV
   refine fa rfl (ro (ld r0 rfl rfl ?_))
   refine cb aV fun da cL aV => ckx (JbD cL :) ?_
   rintro _ _ _ ⟨ce, bT, rfl, bF, rfl⟩
   refine qan (qbu aZ a6) ?_
   refine fRo r0 fun cj bB ca => ?_
   exact eR aV (_, (_, _), _, _)
   refine qag (cs rfl rfl aV ?_ ?_) <;> intro de aV
   refine fa rfl (ro (ld r0 rfl rfl ?_))
   obtain ⟨df, bI, bg, aV⟩ := ixb aV
   refine RStep.ofN (qae rfl rfl (qda aX.rd bg) bI (qaw rfl bI bg) ?_)
   obtain ⟨cq, cC, a8, bn, bv⟩ := LiR.get aX.rd bg
   obtain ⟨cn, bW, rfl, bG⟩ := Ja.out bv
   refine ro (qao ((1 : Int).toNat) _ a8 rfl bn rfl ?_)
   refine cb aV fun cY cD aV => cfx (Jch cD :) ?_
   rintro _ db _ cm ⟨bY, bN, rfl, bS, rfl⟩
   refine cb aV fun c5 cP aV => cgx (ih cP :) ?_
   refine fa rfl (ro (ld r0 rfl rfl (ro (qal rfl ?_))))
   refine cs rfl rfl aV ?_ ?_ <;> intro cQ aV
   obtain ⟨cN, aV⟩ := qax aV
   refine qan cN (fa rfl (ro (ld r0 rfl rfl ?_)))
   obtain ⟨c6, bO, bb, aV⟩ := ixb aV
   refine RStep.ofN (qae rfl rfl (qda (LiC.mono Ja.R_ok cm aX).rd bb) bO (qaw rfl bO bb) ?_)
   obtain ⟨cM, cu, ba, bp, bt⟩ := LiR.get (LiC.mono Ja.R_ok cm aX).rd bb
   obtain ⟨bC, bV, rfl, bZ⟩ := Ja.out bt
   refine ro (qao ((2 : Int).toNat) _ ba rfl bp rfl ?_)
   refine cb aV fun cR cI aV => cfx (Jch cI :) ?_
   rintro _ dg _ dc ⟨bQ, bA, rfl, bL, rfl⟩
   refine cb aV fun c8 cH aV => cgx (ih cH :) ?_
   refine ro (qcl ?_)
   obtain ⟨bw, aV⟩ := qax aV
   refine qan bw (qan (qbu aZ a6) ?_)
   exact eR aV (_, (_, _), _, _)
   obtain ⟨bw, aV⟩ := qax aV
   refine qan bw (qan (qbu aZ a6) ?_)
   exact eR aV (_, (_, _), _, _)
   refine qan (qbu aZ a6) ?_
   exact eR aV (_, (_, _), _, _)
   rw [lty w0, Jaa.eq_1] at aV
   refine cT ?_
   exact eM aV (_, _, _)
   rintro ⟨t0, aW, aY⟩ c4 cU ⟨bR, _⟩ rfl j0
   exact eE hm

def Jba (n : Nat) (program : Ja) : Option (Int × Err) :=
  (Jbp n program).bind fun x8 =>
  if x8.2.isSome then
  some (0, x8.2)
  else
  (Ja9 n program.Aa []).bind fun aV =>
  (chk (InI (aV + 1))).bind fun _ =>
  some ((aV + 1), none)
theorem Jdw {n : Nat} {program : Ja} {aa : Option Addr} {ab : Nat} {K : Hp} {r : Int × Err}
    (hm : Jba n program = some r) (hX : LiC Ja.R K aa ab 4 program.Aa ∧ GG K) :
    Fn Tryz.prog 91 [.agg #[.int .i64 program.Ab, str program.Ac, .slice aa program.Aa.length ab, .int .i64 program.Ad]] K [] (fun v K' H' => v = .tuple #[.int .i64 r.1, qc3 48 r.2] ∧ H' = []) := by
 obtain ⟨ae, hG⟩ := hX
 refine Fn.enter Tryz.func91 Tryz.call91 rfl fun F => ?_
 unfold Jba at hm
 refine qar ?_
 intro b1
 refine ro (qab r0 rfl (nl rfl) ?_)
 refine cb hm fun x8 q8 hm => cgx (Jcp q8 :) ?_
 refine qa7 rfl ?_
 refine cs rfl rfl hm ?_ ?_ <;> intro aX hm
 exact eE hm
 refine fa rfl (ro (ld r0 rfl rfl ?_))
 refine cb hm fun aW aV hm => cgx (Jed aV :) ?_
 refine ci hm fun hm => ?_
 exact eE hm

def qb0 (n : Nat) (text : Str) : Option ((List Jg) × Err) :=
  (JbU n text).bind fun aV =>
  if aV.2.2.isSome then
  some ([], aV.2.2)
  else
  (Jbp n aV.1).bind fun aY =>
  if aY.2.isSome then
  some ([], aY.2)
  else
  (JaT n aV.1).bind fun aW =>
  if aW.2.isSome then
  some ([], aW.2)
  else
  (Jba n aV.1).bind fun aX =>
  if aX.2.isSome then
  some ([], aX.2)
  else
  if decide (aX.1 > 10000) then
  some ([], (some 5))
  else
  some (aW.1, none)
theorem qgm {n : Nat} {text : Str} {K : Hp} {r : (List Jg) × Err}
    (hm : qb0 n text = some r) (hG : GG K) :
    Fn Tryz.prog 67 [str text] K [] (fun v K' H' => ∃ ar_0 : Option Addr, ∃ cr_0 : Nat, v = .tuple #[.slice ar_0 r.1.length cr_0, qc3 48 r.2] ∧ (0 < r.1.length → Has ar_0) ∧ H' = [OwnL Jg.enc ar_0 135 3 cr_0 r.1]) := by
 refine Fn.enter Tryz.func67 Tryz.call67 rfl fun F => ?_
 unfold qb0 at hm
 refine cb hm fun bf a8 hm => cfx (Jdu a8 :) ?_
 rintro _ bj _ bh ⟨aV, aZ, rfl, aW, rfl⟩
 refine qai rfl fun b4 => ?_
 refine qaa r0 rfl ⟨rfl, rfl, (nl rfl), ?_⟩
 refine qa7 rfl ?_
 refine cs rfl rfl hm ?_ ?_ <;> intro bg hm
 refine qcp Jg.enc 135 3 ?_
 exact eE hm
 refine ro (qab r0 rfl (nl rfl) ?_)
 refine cb hm fun bp ba hm => cgx (Jcp ba :) ?_
 refine qa7 rfl ?_
 refine cs rfl rfl hm ?_ ?_ <;> intro bn hm
 refine qcp Jg.enc 135 3 ?_
 exact eE hm
 refine ro (qab r0 rfl (nl rfl) ?_)
 refine cb hm fun bv bb hm => ckx (Jde bb :) ?_
 rintro _ _ _ ⟨aX, aY, rfl, a6, rfl⟩
 refine qa7 rfl ?_
 refine cs rfl rfl hm ?_ ?_ <;> intro bo hm
 refine qcp Jg.enc 135 3 ?_
 exact eE hm
 refine ro (qab r1 rfl (nl rfl) ?_)
 refine cb hm fun bt bc hm => cgx (Jdw bc :) ?_
 refine qa7 rfl ?_
 refine cs rfl rfl hm ?_ ?_ <;> intro bu hm
 refine qcp Jg.enc 135 3 ?_
 exact eE hm
 refine cs rfl rfl hm ?_ ?_ <;> intro bm hm
 refine qas rfl ?_
 refine qcp Jg.enc 135 3 ?_
 exact eE hm
 exact eE hm

def qbf (n : Nat) (d : JJ) (s : Jt) : Option (Err × JJ) :=
  (Jcj s.An).bind fun aW =>
  if ((aW.2.isSome || decide (aW.1 ≠ s.An)) || (mget d.sites s.An).isSome) then
  some ((some 8), d)
  else
  if (decide (s.Tenant < 0) || decide (s.Tenant ≥ 16)) then
  some ((some 1), d)
  else
  (qb0 n s.Program).bind fun aV =>
  if aV.2.isSome then
  some (aV.2, d)
  else
  some (none, (⟨(mset d.sites s.An (⟨s.Tenant, aV.1⟩ : JH))⟩ : JJ))
theorem qd0 {n : Nat} {d : JJ} {s : Jt} {b0 : Nat} {az : Nat} {aE : List (Str × EnD JH)} {K : Hp} {r : Err × JJ}
    (hm : qbf n d s = some r) (hX : MR JH.R K aE d.sites ∧ GG K) :
    Fn Tryz.prog 35 [.pointer (some ⟨b0, 0, none⟩), .agg #[str s.An, .int .i64 s.Tenant, str s.Program]] K [Cells b0 78 [.map (some az)], qhl strK vAg az aE] (fun v K' H' => ∃ mr_0 : Nat, ∃ wr_0 : List (Str × EnD JH), v = qc3 48 r.1 ∧ MR JH.R K' wr_0 r.2.sites ∧ H' = [Cells b0 78 [.map (some mr_0)], qhl strK vAg mr_0 wr_0]) := by
 obtain ⟨aJ, hG⟩ := hX
 refine Fn.enter Tryz.func35 Tryz.call35 rfl fun F => ?_
 unfold qbf at hm
 refine qar ?_
 intro b3
 refine fa rfl (ro (ld r0 rfl rfl ?_))
 refine cb hm fun bf bt hm => cgx (Jdb bt :) ?_
 refine qf5 ⟨⟨[], false⟩, _, [(_, _), (_, _)], []⟩ 13 rfl (by kernel_rfl) ⟨Hp.Le.refl _, (sc [1,0] rfl), ci0⟩ ?_
 refine qah (fa rfl (qap m0 rfl rfl (fa rfl (qap m1 rfl rfl ?_))))
 refine qjl (kenc := strK) (R := JH.R) (zs := [.int .i64 0, .slice none 0 0]) (z := (⟨0, []⟩ : JH)) r2 rfl rfl (qmb rfl) aJ (⟨none, 0, rfl, RdC.nil⟩) fun bw bc => ?_
 obtain ⟨bg, bm, rfl, bh⟩ := bc
 refine qnj rfl ?_
 intro b7
 intro bz
 refine qaa r0 rfl ⟨rfl, rfl, (nl rfl), ?_⟩
 refine ⟨⟨lr, (sc [2,1] rfl), ci0⟩, ?_⟩
 refine ⟨_, .cons r5 .nil, ⟨lr, (sc [2,1] rfl), ci0⟩, ?_⟩
 refine jR (σ := Unit) (rg 26 11) (fun _ => [(36, .bool ((bf.2.isSome || decide (bf.1 ≠ s.An)) || (mget d.sites s.An).isSome))]) (fun bn => True) ?_ ?_
 refine qaj rfl ?_
 refine qa7 rfl ?_
 refine qaf ?_ ?_ <;> intro aW
 refine ct aW (ct aW (ct aW (ct aW (cT (cT ?_)))))
 exact eMt () ⟨bq (((qco (qco aW))).symm), trivial⟩
 refine cf aW (fa rfl (cf aW (ro (ld r1 rfl rfl (cf aW (qbq (cf aW ?_)))))))
 refine qaf ?_ ?_ <;> intro a6
 refine ct a6 ?_
 exact eMt () ⟨bq (((qco (qi2 aW a6))).symm), trivial⟩
 refine cf a6 ?_
 exact eMt () ⟨bq (qid (b := (mget d.sites s.An).isSome) (qf1 aW a6)), trivial⟩
 rintro _ _ bv
 refine cs rfl rfl hm ?_ ?_ <;> intro bA hm
 refine qas rfl ?_
 exact eE hm
 refine jR (σ := Unit) (rg 38 8) (fun _ => [(45, .bool (decide (s.Tenant < 0) || decide (s.Tenant ≥ 16)))]) (fun bu => True) ?_ ?_
 refine qaj rfl ?_
 refine fa rfl (ro (ld r1 rfl rfl ?_))
 refine qaf ?_ ?_ <;> intro aY
 refine ct aY (ct aY (ct aY ?_))
 exact eMt () ⟨bq (((qco aY)).symm), trivial⟩
 refine fa rfl (cf aY (ro (ld r1 rfl rfl (cf aY (cf aY ?_)))))
 exact eMt () ⟨bq (qid (b := decide (s.Tenant ≥ 16)) aY), trivial⟩
 rintro _ _ bp
 refine cs rfl rfl hm ?_ ?_ <;> intro bC hm
 refine qas rfl ?_
 exact eE hm
 refine fa rfl (ro (ld r1 rfl rfl ?_))
 refine cb hm fun bb bo hm => ckx (qgm bo :) ?_
 rintro _ _ _ ⟨a8, ba, rfl, bj, rfl⟩
 refine qa7 rfl ?_
 refine cs rfl rfl hm ?_ ?_ <;> intro bB hm
 exact eE hm
 refine qba ⟨⟨[], false⟩, _, [(_, _), (_, _)], []⟩ (by kernel_rfl) ⟨Hp.Le.refl _, (sc [3,2] rfl), ci0⟩ ?_
 refine qah (fa rfl (qap m0 rfl rfl (fa rfl (qap m1 rfl rfl (fa rfl (qap m1 rfl rfl (qak rfl rfl ?_)))))))
 refine cT (cT ?_)
 refine fW r0 fun aZ aV aX => ?_
 refine qmd (kenc := strK) (venc := vAg) ([.int .i64 s.Tenant, .slice a8 bb.1.length ba], (⟨s.Tenant, bb.1⟩ : JH)) rfl r3 rfl (qmb rfl) ?_
 refine qk (sc [3,2] rfl) ?_
 cases hm
 exact en aV ⟨az, (mset aE s.An ([.int .i64 s.Tenant, .slice a8 bb.1.length ba], (⟨s.Tenant, bb.1⟩ : JH))), rfl, (MR.set (R := JH.R) (MR.mono JH.R_ok aJ aV) s.An (⟨a8, ba, rfl, aX⟩)), rfl⟩ (sc [3,0,2] rfl)

def tenant_New_L0 (n : Nat) : List Jt → Nat → JJ → Option (Fl (Option JJ × Int × Err) (JJ))
  | [], _, ac => some (Fl.go ac)
  | e0 :: aV, i0, ac =>
    (qbf n ac e0).bind fun am =>
    if am.1.isSome then
    some (Fl.ret (none, (i0 : Int), am.1))
    else
    tenant_New_L0 n aV (i0 + 1) am.2
def tenant_New (n : Nat) (sites : (List Jt)) : Option (Option JJ × Int × Err) :=
  (chk (sites.length ≤ qa1)).bind fun _ =>
  (tenant_New_L0 n sites 0 (⟨[]⟩ : JJ)).bind fun s0 => s0.el some fun t0 =>
  some ((some t0), 0, none)
theorem qfn {n : Nat} {sites : (List Jt)} {aa : Option Addr} {ab : Nat} {n0 : Nat} {K : Hp} {r : Option JJ × Int × Err}
    (hm : tenant_New n sites = some r) (hX : RdC Jt.enc K aa ab 3 sites ∧ n0 = sites.length ∧ GG K) :
    Fn Tryz.prog 12 [.slice aa n0 ab] K [] (fun v K' H' => match r.1 with | none => (v = .tuple #[.pointer none, .int .i64 r.2.1, qc3 48 r.2.2] ∧ H' = []) | some ro => (∃ br_0 : Nat, ∃ mr_1 : Nat, ∃ wr_1 : List (Str × EnD JH), v = .tuple #[.pointer (some ⟨br_0, 0, none⟩), .int .i64 r.2.1, qc3 48 r.2.2] ∧ MR JH.R K' wr_1 ro.sites ∧ H' = [Cells br_0 78 [.map (some mr_1)], qhl strK vAg mr_1 wr_1])) := by
 obtain ⟨ae, bn, hG⟩ := hX
 subst bn
 refine Fn.enter Tryz.func12 Tryz.call12 rfl fun F => ?_
 unfold tenant_New at hm
 refine qk2 strK (venc := (vAg : EnD JH → Value)) fun b9 => ?_
 refine qak rfl rfl (cT ?_)
 refine qar ?_
 intro bh
 refine ro (qal rfl ?_)
 obtain ⟨bj, hm⟩ := qax hm
 obtain ⟨s0, aX, hm⟩ := bnd hm
 refine lC (σ := (JJ) × Nat × List (Str × EnD JH)) ([2,3,4,6,7,8] ++ rg 14 13) [2] (fun i0 => [(14, .int .i64 (i0 : Int))]) (fun _ => []) (fun (t0, aV, aW) => [Cells bh 78 [.map (some aV)], qhl strK vAg aV aW]) (fun zz K1 => match zz with | (t0, aV, aW) => MR JH.R K1 aW t0.sites ∧ True) (fun i0 (t0, aV, aW) => tenant_New_L0 n (sites.drop i0) i0 t0 = some s0) (fun (t0, aV, aW) => s0 = Fl.go t0) (fun i0 => sites.length - i0) 0 ((⟨[]⟩ : JJ), b9, ([] : List (Str × EnD JH))) aX (And.intro ⟨⟨MR.nil, trivial⟩, ⟨rfl, trivial⟩, _, (sp rfl)⟩ (And.intro ?_ ?_))
 clear aX
 rintro i0 ⟨ac, aY, aZ⟩ bv bg ⟨a8, _⟩ aX j0
 conv at aX => whnf
 refine qac rfl ?_
 refine qaf ?_ ?_ <;> intro w0
 obtain ⟨e0, ba, bo⟩ := ltx w0
 rw [bo, tenant_New_L0.eq_2] at aX
 refine qam rfl ?_
 refine RStep.ofN (qae rfl rfl (qea (ae.mono bg).rd ba) (nn _) (qbp ba) (ro (qao i0 _ (ae.mono bg).rd rfl (mp ba) rfl ?_)))
 refine qai rfl fun b7 => ?_
 refine qaa r0 rfl ⟨rfl, rfl, (nl rfl), ?_⟩
 refine ro (qab r0 rfl (nl rfl) ?_)
 refine cb aX fun am bm aX => cfx (qd0 bm :) ?_
 rintro _ bz _ bw ⟨bf, bc, rfl, bb, rfl⟩
 refine qa7 rfl ?_
 refine cs rfl rfl aX ?_ ?_ <;> intro bu aX
 exact eE (er aX hm)
 refine qan (qbu ba bj) ?_
 exact eR aX (_, _, _, _)
 rw [lty w0, tenant_New_L0.eq_1] at aX
 refine cT ?_
 exact eM aX (_, _, _)
 rintro ⟨t0, aV, aW⟩ bt bp ⟨a6, _⟩ rfl j0
 replace hm := elg hm
 exact eE hm

def Jcc : Nat → Nat → Str → Option (Str)
  | 0, _, ac => some ac
  | aW + 1, i0, ac =>
    (ix ac (i0 : Int)).bind fun aV =>
    if (decide ((aV.toNat : Int) ≥ 65) && decide ((aV.toNat : Int) ≤ 90)) then
    (ix ac (i0 : Int)).bind fun aX =>
    Jcc aW (i0 + 1) (ac.set (((i0 : Int)).toNat) (aV + (32 : UInt8)))
    else
    Jcc aW (i0 + 1) ac
def JbK (s : Str) : Option (Str) :=
  (chk (s.length ≤ lim)).bind fun _ =>
  (chk (InI (s.length : Int))).bind fun _ =>
  (Jcc (s.length : Int).toNat 0 s).bind fun t0 =>
  some t0
theorem Jbs {s : Str} {K : Hp} {r : Str}
    (hm : JbK s = some r)  :
    Fn Tryz.prog 51 [str s] K [] (fun v K' H' => v = str r ∧ H' = []) := by
 refine Fn.enter Tryz.func51 Tryz.call51 rfl fun F => ?_
 unfold JbK at hm
 obtain ⟨h7, hm⟩ := qax hm
 refine qhm rfl rfl rfl h7 ?_
 intro a7 c7 o7
 refine ro (qal rfl ?_)
 obtain ⟨ba, hm⟩ := qax hm
 obtain ⟨s0, aW, hm⟩ := bnd hm
 refine lD (σ := (Str)) ([4,5] ++ rg 10 17) [1] (fun i0 => [(10, .int .i64 (i0 : Int))]) (fun _ => []) (fun t0 => [OwnL eU a7 5 1 c7 t0]) (fun t0 => (0 < t0.length → Has a7) ∧ s.length = t0.length) (fun i0 t0 => Jcc ((s.length : Int).toNat - i0) i0 t0 = some s0) (fun t0 => t0 = s0) (fun i0 => (s.length : Int).toNat - i0) 0 _ aW (And.intro qe (And.intro ?_ ?_))
 clear aW
 rintro i0 ac ⟨aX, aY⟩ aW j0
 conv at aW => whnf
 refine qac rfl ?_
 refine qaf ?_ ?_ <;> intro w0
 rw [ltn w0, Jcc.eq_2] at aW
 refine qam rfl ?_
 obtain ⟨a8, bf, bb, aW⟩ := ixb aW
 refine RStep.ofN (qae rfl rfl (qcz aX bb) bf (qaw aY bf bb) (ro (qb2 (i := ((i0 : Int)).toNat) (o := 0) r0 rfl bb rfl rfl ?_)))
 refine qaj rfl ?_
 refine qaf ?_ ?_ <;> intro aV
 refine ct aV (ct aV (qac rfl ?_))
 refine qaf ?_ ?_ <;> intro bh
 replace aW := ift (qc1 aV bh) aW
 refine qj6 (x := a8) (y := (32 : UInt8)) rfl rfl ?_
 obtain ⟨bj, bg, a6, aW⟩ := ixb aW
 refine RStep.ofN (qae rfl rfl (qcz aX a6) bg (qaw aY bg a6) ?_)
 refine qe8 (o := 0) (y := (a8 + (32 : UInt8))) bj r0 rfl a6 rfl (by (conv => whnf); exact ⟨rfl, rfl, (nl rfl), rfl, rfl, rfl⟩) ?_
 refine qan (qk5 w0 ba) ?_
 exact rd (i0 + 1, (ac.set (((i0 : Int)).toNat) (a8 + (32 : UInt8)))) ⟨rfl, trivial⟩ rfl (pf rfl) lr (qup w0) ⟨⟨(by first | simpa using aX | exact fun _ => ⟨_, _, rfl⟩), ((aY).trans List.length_set.symm)⟩, aW⟩
 replace aW := qbd (qc2 aV bh) aW
 refine qan (qk5 w0 ba) ?_
 exact eR aW (_, _)
 refine cf aV (cf aV (qac rfl (cF ?_)))
 replace aW := qbd (qbh aV) aW
 refine qan (qk5 w0 ba) ?_
 exact eR aW (_, _)
 rw [lto w0, Jcc.eq_1] at aW
 refine cT ?_
 exact eM aW _
 rintro t0 ⟨bc, aZ⟩ rfl j0
 refine ro (qfi aZ r0 rfl rfl rfl ?_)
 exact eE hm

def JcG (x9 : Str) : List Jc → Nat → (List Str) → Option ((List Str))
  | [], _, ac => some ac
  | e0 :: aV, i0, ac =>
    (JbK e0.Name).bind fun aW =>
    if decide (aW = x9) then
    (chk (ac.length + [e0.Value].length ≤ lim)).bind fun _ =>
    JcG x9 aV (i0 + 1) (ac ++ [e0.Value])
    else
    JcG x9 aV (i0 + 1) ac
def Jdx (f : (List Jc)) (name : Str) : Option ((List Str)) :=
  (JbK name).bind fun x9 =>
  (chk (f.length ≤ qa1)).bind fun _ =>
  (JcG x9 f 0 []).bind fun t0 =>
  some t0
theorem JcX {f : (List Jc)} {name : Str} {aa : Option Addr} {ab : Nat} {n0 : Nat} {K : Hp} {r : (List Str)}
    (hm : Jdx f name = some r) (hX : RdC Jc.enc K aa ab 2 f ∧ n0 = f.length) :
    Fn Tryz.prog 24 [.slice aa n0 ab, str name] K [] (fun v K' H' => ∃ ar_0 : Option Addr, ∃ cr_0 : Nat, v = .slice ar_0 r.length cr_0 ∧ (0 < r.length → Has ar_0) ∧ H' = [OwnL eS ar_0 9 1 cr_0 r]) := by
 obtain ⟨ae, bg⟩ := hX
 subst bg
 refine Fn.enter Tryz.func24 Tryz.call24 rfl fun F => ?_
 unfold Jdx at hm
 refine cb hm fun x9 q9 hm => cg0 (Jbs q9 :) ?_
 refine ro (qal rfl ?_)
 obtain ⟨a8, hm⟩ := qax hm
 obtain ⟨s0, aX, hm⟩ := bnd hm
 refine qjd eS 9 1 ?_
 refine lD (σ := ((List Str)) × Option Addr × Nat) ([5,7] ++ rg 12 15) [1] (fun i0 => [(12, .int .i64 (i0 : Int))]) (fun (t0, aV, aW) => [(5, .slice aV t0.length aW)]) (fun (t0, aV, aW) => [OwnL eS aV 9 1 aW t0]) (fun (t0, aV, aW) => (0 < t0.length → Has aV) ∧ True) (fun i0 (t0, aV, aW) => JcG x9 (f.drop i0) i0 t0 = some s0) (fun (t0, aV, aW) => t0 = s0) (fun i0 => f.length - i0) 0 (_, _, _) aX (And.intro qe (And.intro ?_ ?_))
 clear aX
 rintro i0 ⟨ac, bb, ba⟩ ⟨aZ, _⟩ aX j0
 conv at aX => whnf
 refine qac rfl ?_
 refine qaf ?_ ?_ <;> intro w0
 obtain ⟨e0, aY, bh⟩ := ltx w0
 rw [bh, JcG.eq_2] at aX
 refine qam rfl ?_
 refine RStep.ofN (qae rfl rfl (qea ae.rd aY) (nn _) (qbp aY) (ro (qao i0 _ ae.rd rfl (mp aY) rfl ?_)))
 refine qai rfl fun b7 => ?_
 refine qaa r0 rfl ⟨rfl, rfl, (nl rfl), ?_⟩
 refine fa rfl (ro (ld r0 rfl rfl ?_))
 refine cb aX fun bp bf aX => cg0 (Jbs bf :) ?_
 refine qaq (cs rfl rfl aX ?_ ?_) <;> intro bo aX
 refine fa rfl (ro (ld r0 rfl rfl ?_))
 refine bsO (len := 1) (enc := eS) (l := [e0.Value]) (cl := [str e0.Value]) qca rfl rfl (fun _ _ => rfl) rfl rfl rfl ?_ fun bj => ?_
 · conv => whnf
   refine cT ?_
   first | done | rfl
 obtain ⟨bc, aX⟩ := qax aX
 refine apE rfl r2 qca (qaz rfl r0 rfl (fun _ => rfl) (fun _ => rfl)) bc ?_
 intro bt bn bm
 refine qan (qbu aY a8) ?_
 exact eR aX (_, _, _, _)
 refine qan (qbu aY a8) ?_
 exact eR aX (_, _, _, _)
 rw [lty w0, JcG.eq_1] at aX
 refine cT ?_
 exact eM aX (_, _, _)
 rintro ⟨t0, aV, aW⟩ ⟨a6, _⟩ rfl j0
 exact eE hm

def tenant_lower_L0 : Nat → Nat → Str → Option (Str)
  | 0, _, ac => some ac
  | aW + 1, i0, ac =>
    (ix ac (i0 : Int)).bind fun aV =>
    if (decide ((aV.toNat : Int) ≥ 65) && decide ((aV.toNat : Int) ≤ 90)) then
    (ix ac (i0 : Int)).bind fun aX =>
    tenant_lower_L0 aW (i0 + 1) (ac.set (((i0 : Int)).toNat) (aV + (32 : UInt8)))
    else
    tenant_lower_L0 aW (i0 + 1) ac
def qdh (s : Str) : Option (Str) :=
  (chk (s.length ≤ lim)).bind fun _ =>
  (chk (InI (s.length : Int))).bind fun _ =>
  (tenant_lower_L0 (s.length : Int).toNat 0 s).bind fun t0 =>
  some t0
theorem qeb {s : Str} {K : Hp} {r : Str}
    (hm : qdh s = some r)  :
    Fn Tryz.prog 36 [str s] K [] (fun v K' H' => v = str r ∧ H' = []) := by
 refine Fn.enter Tryz.func36 Tryz.call36 rfl fun F => ?_
 unfold qdh at hm
 obtain ⟨h7, hm⟩ := qax hm
 refine qhm rfl rfl rfl h7 ?_
 intro a7 c7 o7
 refine ro (qal rfl ?_)
 obtain ⟨ba, hm⟩ := qax hm
 obtain ⟨s0, aW, hm⟩ := bnd hm
 refine lD (σ := (Str)) ([4,5] ++ rg 10 17) [1] (fun i0 => [(10, .int .i64 (i0 : Int))]) (fun _ => []) (fun t0 => [OwnL eU a7 5 1 c7 t0]) (fun t0 => (0 < t0.length → Has a7) ∧ s.length = t0.length) (fun i0 t0 => tenant_lower_L0 ((s.length : Int).toNat - i0) i0 t0 = some s0) (fun t0 => t0 = s0) (fun i0 => (s.length : Int).toNat - i0) 0 _ aW (And.intro qe (And.intro ?_ ?_))
 clear aW
 rintro i0 ac ⟨aX, aY⟩ aW j0
 conv at aW => whnf
 refine qac rfl ?_
 refine qaf ?_ ?_ <;> intro w0
 rw [ltn w0, tenant_lower_L0.eq_2] at aW
 refine qam rfl ?_
 obtain ⟨a8, bf, bb, aW⟩ := ixb aW
 refine RStep.ofN (qae rfl rfl (qcz aX bb) bf (qaw aY bf bb) (ro (qb2 (i := ((i0 : Int)).toNat) (o := 0) r0 rfl bb rfl rfl ?_)))
 refine qaj rfl ?_
 refine qaf ?_ ?_ <;> intro aV
 refine ct aV (ct aV (qac rfl ?_))
 refine qaf ?_ ?_ <;> intro bh
 replace aW := ift (qc1 aV bh) aW
 refine qj6 (x := a8) (y := (32 : UInt8)) rfl rfl ?_
 obtain ⟨bj, bg, a6, aW⟩ := ixb aW
 refine RStep.ofN (qae rfl rfl (qcz aX a6) bg (qaw aY bg a6) ?_)
 refine qe8 (o := 0) (y := (a8 + (32 : UInt8))) bj r0 rfl a6 rfl (by (conv => whnf); exact ⟨rfl, rfl, (nl rfl), rfl, rfl, rfl⟩) ?_
 refine qan (qk5 w0 ba) ?_
 exact rd (i0 + 1, (ac.set (((i0 : Int)).toNat) (a8 + (32 : UInt8)))) ⟨rfl, trivial⟩ rfl (pf rfl) lr (qup w0) ⟨⟨(by first | simpa using aX | exact fun _ => ⟨_, _, rfl⟩), ((aY).trans List.length_set.symm)⟩, aW⟩
 replace aW := qbd (qc2 aV bh) aW
 refine qan (qk5 w0 ba) ?_
 exact eR aW (_, _)
 refine cf aV (cf aV (qac rfl (cF ?_)))
 replace aW := qbd (qbh aV) aW
 refine qan (qk5 w0 ba) ?_
 exact eR aW (_, _)
 rw [lto w0, tenant_lower_L0.eq_1] at aW
 refine cT ?_
 exact eM aW _
 rintro t0 ⟨bc, aZ⟩ rfl j0
 refine ro (qfi aZ r0 rfl rfl rfl ?_)
 exact eE hm

def Jci (c : UInt8) : Option (Bool) :=
  (Jb2 c).bind fun x4 =>
  some ((((x4 || decide ((c.toNat : Int) = 45)) || decide ((c.toNat : Int) = 46)) || decide ((c.toNat : Int) = 95)) || decide ((c.toNat : Int) = 126))
theorem JcY {c : UInt8} {K : Hp} {r : Bool}
    (hm : Jci c = some r)  :
    Fn Tryz.prog 79 [.int .u8 (c.toNat : Int)] K [] (fun v K' H' => v = .bool r ∧ H' = []) := by
 refine Fn.enter Tryz.func79 Tryz.call79 rfl fun F => ?_
 unfold Jci at hm
 refine qaj rfl ?_
 refine cb hm fun x4 q4 hm => cg0 (JdF q4 :) ?_
 refine qaf ?_ ?_ <;> intro aX
 refine ct aX (ct aX (cT (cT (cT (cT (cT (cT ?_)))))))
 refine cT (cT (cT ?_))
 exact bE (((qco (qco (qco (qco aX))))).symm) (eE hm)
 refine cf aX (qag (cf aX ?_))
 refine qaf ?_ ?_ <;> intro aY
 refine ct aY (ct aY (cT (cT (cT (cT (cT (cT ?_)))))))
 exact bE (((qco (qco (qco (qi2 aX aY))))).symm) (eE hm)
 refine cf aY (qag (cf aY ?_))
 refine qaf ?_ ?_ <;> intro aV
 refine ct aV (ct aV (cT (cT (cT ?_))))
 exact bE (((qco (qco (qi2 (qf1 aX aY) aV)))).symm) (eE hm)
 refine cf aV (qag (cf aV ?_))
 refine qaf ?_ ?_ <;> intro aW
 refine ct aW (ct aW ?_)
 exact bE (((qco (qi2 (qf1 (qf1 aX aY) aV) aW))).symm) (eE hm)
 refine cf aW (qag (cf aW ?_))
 exact bE (qid (b := decide ((c.toNat : Int) = 126)) (qf1 (qf1 (qf1 aX aY) aV) aW)) (eE hm)

def Jb7 (c : UInt8) : Option (Int) :=
  if (decide ((c.toNat : Int) ≥ 48) && decide ((c.toNat : Int) ≤ 57)) then
  some ((c - (48 : UInt8)).toNat : Int)
  else
  if (decide ((c.toNat : Int) ≥ 97) && decide ((c.toNat : Int) ≤ 102)) then
  (chk (InI (((c - (97 : UInt8)).toNat : Int) + 10))).bind fun _ =>
  some (((c - (97 : UInt8)).toNat : Int) + 10)
  else
  if (decide ((c.toNat : Int) ≥ 65) && decide ((c.toNat : Int) ≤ 70)) then
  (chk (InI (((c - (65 : UInt8)).toNat : Int) + 10))).bind fun _ =>
  some (((c - (65 : UInt8)).toNat : Int) + 10)
  else
  some (-1)
theorem JcA {c : UInt8} {K : Hp} {r : Int}
    (hm : Jb7 c = some r)  :
    Fn Tryz.prog 81 [.int .u8 (c.toNat : Int)] K [] (fun v K' H' => v = .int .i64 r ∧ H' = []) := by
 refine Fn.enter Tryz.func81 Tryz.call81 rfl fun F => ?_
 unfold Jb7 at hm
 refine qam rfl ?_
 refine jR (σ := Unit) (rg 3 7) (fun _ => [(3, .bool (decide ((c.toNat : Int) ≥ 48) && decide ((c.toNat : Int) ≤ 57)))]) (fun a8 => True) ?_ ?_
 refine qaj rfl ?_
 refine qaf ?_ ?_ <;> intro aX
 refine ct aX (ct aX ?_)
 exact eMt () ⟨bq (qc8 (b := decide ((c.toNat : Int) ≤ 57)) aX), trivial⟩
 refine cf aX (cf aX ?_)
 exact eMt () ⟨bq (((qbh aX)).symm), trivial⟩
 rintro _ _ ba
 refine cs rfl rfl hm ?_ ?_ <;> intro w3 hm
 refine qj7 (x := c) (y := (48 : UInt8)) rfl rfl (qhk rfl rfl (qv5 (c - (48 : UInt8))) ?_)
 exact eE hm
 refine jR (σ := Unit) (rg 13 7) (fun _ => [(13, .bool (decide ((c.toNat : Int) ≥ 97) && decide ((c.toNat : Int) ≤ 102)))]) (fun a6 => True) ?_ ?_
 refine qaj rfl ?_
 refine qaf ?_ ?_ <;> intro aW
 refine ct aW (ct aW ?_)
 exact eMt () ⟨bq (qc8 (b := decide ((c.toNat : Int) ≤ 102)) aW), trivial⟩
 refine cf aW (cf aW ?_)
 exact eMt () ⟨bq (((qbh aW)).symm), trivial⟩
 rintro _ _ aZ
 refine cs rfl rfl hm ?_ ?_ <;> intro bb hm
 refine qj7 (x := c) (y := (97 : UInt8)) rfl rfl (qhk rfl rfl (qv5 (c - (97 : UInt8))) ?_)
 refine ci hm fun hm => ?_
 exact eE hm
 refine qaj rfl ?_
 refine qaf ?_ ?_ <;> intro aV
 refine ct aV (ct aV (qac rfl ?_))
 refine qaf ?_ ?_ <;> intro aY
 replace hm := ift (qc1 aV aY) hm
 refine qj7 (x := c) (y := (65 : UInt8)) rfl rfl (qhk rfl rfl (qv5 (c - (65 : UInt8))) ?_)
 refine ci hm fun hm => ?_
 exact eE hm
 replace hm := qbd (qc2 aV aY) hm
 exact eE hm
 refine cf aV (cf aV (qac rfl (cF ?_)))
 replace hm := qbd (qbh aV) hm
 exact eE hm

def JaZ (s : Str) (others : Str) : Nat → Str → Int → Option (Fl (Str × Bool) (Str × Int))
  | 0, _, _ => none
  | aZ + 1, ac, aV =>
    if decide (aV < (s.length : Int)) then
    (ix s aV).bind fun aY =>
    if decide ((aY.toNat : Int) ≠ 37) then
    (Jci aY).bind fun am =>
    (if (!am) then (qil others aY).bind fun bo =>
    some (decide (bo < 0)) else some false).bind fun bt =>
    if bt then
    some (Fl.ret (([] : Str), false))
    else
    (chk (ac.length + ([aY] : Str).length ≤ lim)).bind fun _ =>
    (chk (InI (aV + 1))).bind fun _ =>
    JaZ s others aZ (ac ++ ([aY] : Str)) (aV + 1)
    else
    (((chk (InI (aV + 2))).bind fun _ =>
    (if decide ((aV + 2) ≥ (s.length : Int)) then some true else (chk (InI (aV + 1))).bind fun _ =>
    (ix s (aV + 1)).bind fun bb =>
    (Jb7 bb).bind fun bm =>
    some (decide (bm < 0))).bind fun bj =>
    (if bj then some true else (chk (InI (aV + 2))).bind fun _ =>
    (ix s (aV + 2)).bind fun bh =>
    (Jb7 bh).bind fun bf =>
    some (decide (bf < 0))).bind fun bp =>
    some bp) : Option (Bool)).bind fun a6 =>
    if a6 then
    some (Fl.ret (([] : Str), false))
    else
    (chk (InI (aV + 1))).bind fun _ =>
    (ix s (aV + 1)).bind fun bn =>
    (Jb7 bn).bind fun aW =>
    (chk (InI (16 * aW))).bind fun _ =>
    (chk (InI (aV + 2))).bind fun _ =>
    (ix s (aV + 2)).bind fun bc =>
    (Jb7 bc).bind fun aX =>
    (chk (InI ((16 * aW) + aX))).bind fun _ =>
    (chk (InI (aV + 2))).bind fun _ =>
    if (decide (((qj5 ((16 * aW) + aX)).toNat : Int) < 32) || decide (((qj5 ((16 * aW) + aX)).toNat : Int) = 127)) then
    some (Fl.ret (([] : Str), false))
    else
    (Jci (qj5 ((16 * aW) + aX))).bind fun bg =>
    if bg then
    (chk (ac.length + ([(qj5 ((16 * aW) + aX))] : Str).length ≤ lim)).bind fun _ =>
    (chk (InI ((aV + 2) + 1))).bind fun _ =>
    JaZ s others aZ (ac ++ ([(qj5 ((16 * aW) + aX))] : Str)) ((aV + 2) + 1)
    else
    (ix ([48, 49, 50, 51, 52, 53, 54, 55, 56, 57, 65, 66, 67, 68, 69, 70] : Str) (((qj5 ((16 * aW) + aX)) / 16).toNat : Int)).bind fun ba =>
    (ix ([48, 49, 50, 51, 52, 53, 54, 55, 56, 57, 65, 66, 67, 68, 69, 70] : Str) (((qj5 ((16 * aW) + aX)) &&& (15 : UInt8)).toNat : Int)).bind fun a8 =>
    (chk (ac.length + ([(37 : UInt8), ba, a8] : Str).length ≤ lim)).bind fun _ =>
    (chk (InI ((aV + 2) + 1))).bind fun _ =>
    JaZ s others aZ (ac ++ ([(37 : UInt8), ba, a8] : Str)) ((aV + 2) + 1)
    else
    some (Fl.go (ac, aV))
def Jcq (n : Nat) (s : Str) (others : Str) : Option (Str × Bool) :=
  (JaZ s others n [] 0).bind fun s0 => s0.el some fun t0 =>
  some (t0.1, true)
theorem Jc5 {n : Nat} {s : Str} {others : Str} {K : Hp} {r : Str × Bool}
    (hm : Jcq n s others = some r)  :
    Fn Tryz.prog 46 [str s, str others] K [] (fun v K' H' => v = .tuple #[str r.1, .bool r.2] ∧ H' = []) := by
 refine Fn.enter Tryz.func46 Tryz.call46 rfl fun F => ?_
 unfold Jcq at hm
 obtain ⟨s0, aV, hm⟩ := bnd hm
 refine qjd eU 5 1 ?_
 refine lD (σ := (Str × Int) × Option Addr × Nat) (rg 4 86) [1] (fun _ => []) (fun (t0, a8, ba) => [(6, .slice a8 t0.1.length ba), (7, .int .i64 t0.2)]) (fun (t0, a8, ba) => [OwnL eU a8 5 1 ba t0.1]) (fun (t0, a8, ba) => (0 < t0.1.length → Has a8) ∧ True) (fun i0 (t0, a8, ba) => JaZ s others i0 t0.1 t0.2 = some s0) (fun (t0, a8, ba) => s0 = Fl.go t0) (fun i0 => i0) n ((_, _), _, _) aV (And.intro qe (And.intro ?_ ?_))
 clear aV
 rintro i0 ⟨⟨ac, bB⟩, bu, bt⟩ ⟨bp, _⟩ aV j0
 dsimp only at aV ⊢
 cases i0 with
 | zero => rw [JaZ.eq_1] at aV; cases aV
 | succ i0 =>
  rw [JaZ.eq_2] at aV
  refine ro (qa4 rfl ?_)
  refine cs rfl rfl aV ?_ ?_ <;> intro cW aV
  refine qam rfl ?_
  obtain ⟨bm, bN, cm, aV⟩ := ixb aV
  refine qa0 rfl bN cm (qbb ?_)
  refine cs rfl rfl aV ?_ ?_ <;> intro cX aV
  refine qaj rfl ?_
  refine cb aV fun am bL aV => cg0 (JcY bL :) ?_
  refine qav ?_
  obtain ⟨cJ, bg, aV⟩ := bnd aV
  refine cS bg (fun aZ bg => ?_) fun aZ bg => ?_
  refine ct aZ (ct aZ ?_)
  refine cb bg fun cG cj bg => cg0 (qly cj) ?_
  refine ct aZ (ct aZ (qac rfl ?_))
  refine qaf ?_ ?_ <;> intro bw
  replace aV := ift ((si bg).symm.trans bw) aV
  exact eE (er aV hm)
  replace aV := qbd ((si bg).symm.trans bw) aV
  refine bsO (len := 1) (enc := eU) (l := ([bm] : Str)) (cl := [.int .u8 (bm.toNat : Int)]) qcr rfl rfl (fun _ _ => rfl) rfl rfl rfl ?_ fun ca => ?_
  · conv => whnf
    refine cT ?_
    first | done | rfl
  obtain ⟨bo, aV⟩ := qax aV
  refine apE rfl r1 qcr (qaz rfl r0 rfl (fun _ => rfl) (fun _ => rfl)) bo ?_
  intro bY bW bT
  refine cT ?_
  refine ci aV fun aV => ?_
  exact eR aV (_, (_, _), _, _)
  refine cf aZ (cf aZ (cf aZ (cf aZ (qac rfl (cF ?_)))))
  replace aV := qbd (si bg).symm aV
  refine bsO (len := 1) (enc := eU) (l := ([bm] : Str)) (cl := [.int .u8 (bm.toNat : Int)]) qcr rfl rfl (fun _ _ => rfl) rfl rfl rfl ?_ fun ca => ?_
  · conv => whnf
    refine cT ?_
    first | done | rfl
  obtain ⟨bo, aV⟩ := qax aV
  refine apE rfl r1 qcr (qaz rfl r0 rfl (fun _ => rfl) (fun _ => rfl)) bo ?_
  intro bY bW bT
  refine cT ?_
  refine ci aV fun aV => ?_
  exact eR aV (_, (_, _), _, _)
  obtain ⟨bn, aY, aV⟩ := bnd aV
  refine jR (σ := Bool) (rg 33 21) (fun bf => [(53, .bool bf)]) (fun bf => bf = bn) ?_ ?_
  refine qaj rfl ?_
  obtain ⟨bP, aY⟩ := qax aY
  refine qan bP (ro (qa4 rfl ?_))
  obtain ⟨cO, bc, aY⟩ := bnd aY
  refine cS bc (fun aX bc => ?_) fun aX bc => ?_
  refine ct aX (ct aX (ct aX (ct aX (ct aX (ct aX ?_)))))
  obtain ⟨bH, bb, aY⟩ := bnd aY
  replace bb := ift (si bc).symm bb
  refine cT (cT (cT (cT (cT (cT (cT ?_))))))
  exact eMq aY _ ⟨bq (si bb), trivial⟩
  refine cf aX (cf aX ?_)
  obtain ⟨cq, bc⟩ := qax bc
  refine qan cq (cf aX ?_)
  obtain ⟨cy, cw, bK, bc⟩ := ixb bc
  refine qa0 rfl cw bK (cf aX ?_)
  refine cb bc fun cV cd bc => cg0 (JcA cd :) ?_
  refine cf aX (cf aX ?_)
  obtain ⟨bH, bb, aY⟩ := bnd aY
  refine qaf ?_ ?_ <;> intro aW
  replace bb := ift ((si bc).symm.trans aW) bb
  refine ct aW (ct aW (ct aW (ct aW (ct aW (ct aW ?_)))))
  exact eMq aY _ ⟨bq (si bb), trivial⟩
  replace bb := qbd ((si bc).symm.trans aW) bb
  refine cf aW (cf aW ?_)
  obtain ⟨bQ, bb⟩ := qax bb
  refine qan bQ (cf aW ?_)
  obtain ⟨cK, cu, bX, bb⟩ := ixb bb
  refine qa0 rfl cu bX (cf aW ?_)
  refine cb bb fun cA cr bb => cg0 (JcA cr :) ?_
  refine cf aW (cf aW ?_)
  exact eMq aY _ ⟨bq (si bb), trivial⟩
  rintro bf rfl bM
  refine cs rfl rfl aV ?_ ?_ <;> intro cP aV
  exact eE (er aV hm)
  refine qba ⟨⟨[], false⟩, _, [], []⟩ (by kernel_rfl) ⟨Hp.Le.refl _, (pf rfl), ci0⟩ ?_
  refine ci aV fun aV => ?_
  obtain ⟨cD, ce, bF, aV⟩ := ixb aV
  refine qa0 rfl ce bF ?_
  refine cb aV fun bh bG aV => cg0 (JcA bG :) ?_
  refine qk (pf rfl) ?_
  refine ci aV fun aV => ?_
  refine ci aV fun aV => ?_
  obtain ⟨cz, cp, bI, aV⟩ := ixb aV
  refine qa0 rfl cp bI ?_
  refine cb aV fun bj bV aV => cg0 (JcA bV :) ?_
  refine qk (pf rfl) ?_
  refine ci aV fun aV => ?_
  refine qto rfl rfl ?_
  refine ci aV fun aV => ?_
  refine jR (σ := Unit) (rg 69 6) (fun _ => [(74, .bool (decide (((qj5 ((16 * bh) + bj)).toNat : Int) < 32) || decide (((qj5 ((16 * bh) + bj)).toNat : Int) = 127)))]) (fun bU => True) ?_ ?_
  refine qaj rfl ?_
  refine qaf ?_ ?_ <;> intro a6
  refine ct a6 (ct a6 ?_)
  exact eMt () ⟨bq (((qco a6)).symm), trivial⟩
  refine cf a6 (qag (cf a6 ?_))
  exact eMt () ⟨bq (qid (b := decide (((qj5 ((16 * bh) + bj)).toNat : Int) = 127)) a6), trivial⟩
  rintro _ _ bO
  refine cs rfl rfl aV ?_ ?_ <;> intro cN aV
  exact eE (er aV hm)
  refine cb aV fun cQ bR aV => cg0 (JcY bR :) ?_
  refine cs rfl rfl aV ?_ ?_ <;> intro cM aV
  refine bsO (len := 1) (enc := eU) (l := ([(qj5 ((16 * bh) + bj))] : Str)) (cl := [.int .u8 ((qj5 ((16 * bh) + bj)).toNat : Int)]) qcr rfl rfl (fun _ _ => rfl) rfl rfl rfl ?_ fun cB => ?_
  · conv => whnf
    refine cT ?_
    first | done | rfl
  obtain ⟨bC, aV⟩ := qax aV
  refine apE rfl r1 qcr (qaz rfl r0 rfl (fun _ => rfl) (fun _ => rfl)) bC ?_
  intro cH cR cL
  refine cT ?_
  refine ci aV fun aV => ?_
  exact eR aV (_, (_, _), _, _)
  refine qba ⟨⟨[], false⟩, _, [], []⟩ (by kernel_rfl) ⟨Hp.Le.refl _, (pf rfl), ci0⟩ ?_
  refine qvc (x := (qj5 ((16 * bh) + bj))) 16 rfl (by decide) (by decide) ?_
  obtain ⟨bv, bZ, bS, aV⟩ := ixb aV
  refine qa0 rfl bZ bS ?_
  refine qvd (x := (qj5 ((16 * bh) + bj))) (y := (15 : UInt8)) rfl rfl ?_
  obtain ⟨bA, cn, bD, aV⟩ := ixb aV
  refine qa0 rfl cn bD ?_
  refine bsO (len := 3) (enc := eU) (l := ([(37 : UInt8), bv, bA] : Str)) (cl := [.int .u8 37, .int .u8 (bv.toNat : Int), .int .u8 (bA.toNat : Int)]) qcr rfl rfl (fun _ _ => rfl) rfl rfl rfl ?_ fun cC => ?_
  · conv => whnf
    refine cT (cT (cT ?_))
    first | done | rfl
  refine qk (pf rfl) ?_
  obtain ⟨bJ, aV⟩ := qax aV
  refine apE rfl r1 qcr (qaz rfl r0 rfl (fun _ => rfl) (fun _ => rfl)) bJ ?_
  intro cU cI cY
  refine qk (pf rfl) ?_
  refine ci aV fun aV => ?_
  exact eR aV (_, (_, _), _, _)
  refine cT ?_
  exact eM aV (_, _, _)
 rintro ⟨t0, a8, ba⟩ ⟨bz, _⟩ rfl j0
 replace hm := elg hm
 refine ro (qfi rfl r0 rfl rfl rfl ?_)
 exact eE hm

def Jdj (a : Ju) : Option (Str) :=
  if a.HasQuery then
  (chk (a.An.length + a.Ae.length ≤ lim)).bind fun _ =>
  (chk ((a.An ++ a.Ae).length + ([63] : Str).length ≤ lim)).bind fun _ =>
  (chk (((a.An ++ a.Ae) ++ ([63] : Str)).length + a.Af.length ≤ lim)).bind fun _ =>
  some (((a.An ++ a.Ae) ++ ([63] : Str)) ++ a.Af)
  else
  (chk (a.An.length + a.Ae.length ≤ lim)).bind fun _ =>
  some (a.An ++ a.Ae)
theorem JdN {a : Ju} {K : Hp} {r : Str}
    (hm : Jdj a = some r)  :
    Fn Tryz.prog 49 [.agg #[str a.An, str a.Ae, str a.Af, .bool a.HasQuery]] K [] (fun v K' H' => v = str r ∧ H' = []) := by
 refine Fn.enter Tryz.func49 Tryz.call49 rfl fun F => ?_
 unfold Jdj at hm
 refine qar ?_
 intro b1
 refine fa rfl (ro (ld r0 rfl rfl ?_))
 refine cs rfl rfl hm ?_ ?_ <;> intro w4 hm
 refine fa rfl (ro (ld r0 rfl rfl (fa rfl (ro (ld r0 rfl rfl ?_)))))
 obtain ⟨h9, hm⟩ := qax hm
 refine qby h9 ?_
 obtain ⟨aW, hm⟩ := qax hm
 refine qby aW ?_
 refine fa rfl (ro (ld r0 rfl rfl ?_))
 obtain ⟨aV, hm⟩ := qax hm
 refine qby aV ?_
 exact eE hm
 refine fa rfl (ro (ld r0 rfl rfl (fa rfl (ro (ld r0 rfl rfl ?_)))))
 obtain ⟨aX, hm⟩ := qax hm
 refine qby aX ?_
 exact eE hm

def Jah (aC : (List Str)) : List Str → Nat → (List Str) → Option (Fl (Ju × Err) ((List Str)))
  | [], _, ac => some (Fl.go ac)
  | e0 :: aV, i0, ac =>
    if decide (e0 = ([46] : Str)) then
    if decide (e0 = ([46, 46] : Str)) then
    if decide ((ac.length : Int) = 0) then
    some (Fl.ret ((⟨([] : Str), ([] : Str), ([] : Str), false⟩ : Ju), (some 27)))
    else
    (chk (InI ((ac.length : Int) - 1))).bind fun _ =>
    (chk (0 ≤ (0 : Int) ∧ (0 : Int) ≤ ((ac.length : Int) - 1) ∧ ((ac.length : Int) - 1) ≤ (ac.length : Int))).bind fun _ =>
    (chk (InI ((aC.length : Int) - 1))).bind fun _ =>
    if decide ((i0 : Int) = ((aC.length : Int) - 1)) then
    (chk ((subL ac (0 : Int) ((ac.length : Int) - 1)).length + ([([] : Str)]).length ≤ lim)).bind fun _ =>
    Jah aC aV (i0 + 1) ((subL ac (0 : Int) ((ac.length : Int) - 1)) ++ [([] : Str)])
    else
    Jah aC aV (i0 + 1) (subL ac (0 : Int) ((ac.length : Int) - 1))
    else
    (chk (InI ((aC.length : Int) - 1))).bind fun _ =>
    if decide ((i0 : Int) = ((aC.length : Int) - 1)) then
    (chk (ac.length + ([([] : Str)]).length ≤ lim)).bind fun _ =>
    Jah aC aV (i0 + 1) (ac ++ [([] : Str)])
    else
    Jah aC aV (i0 + 1) ac
    else
    if decide (e0 = ([46, 46] : Str)) then
    if decide (e0 = ([46, 46] : Str)) then
    if decide ((ac.length : Int) = 0) then
    some (Fl.ret ((⟨([] : Str), ([] : Str), ([] : Str), false⟩ : Ju), (some 27)))
    else
    (chk (InI ((ac.length : Int) - 1))).bind fun _ =>
    (chk (0 ≤ (0 : Int) ∧ (0 : Int) ≤ ((ac.length : Int) - 1) ∧ ((ac.length : Int) - 1) ≤ (ac.length : Int))).bind fun _ =>
    (chk (InI ((aC.length : Int) - 1))).bind fun _ =>
    if decide ((i0 : Int) = ((aC.length : Int) - 1)) then
    (chk ((subL ac (0 : Int) ((ac.length : Int) - 1)).length + ([([] : Str)]).length ≤ lim)).bind fun _ =>
    Jah aC aV (i0 + 1) ((subL ac (0 : Int) ((ac.length : Int) - 1)) ++ [([] : Str)])
    else
    Jah aC aV (i0 + 1) (subL ac (0 : Int) ((ac.length : Int) - 1))
    else
    (chk (InI ((aC.length : Int) - 1))).bind fun _ =>
    if decide ((i0 : Int) = ((aC.length : Int) - 1)) then
    (chk (ac.length + ([([] : Str)]).length ≤ lim)).bind fun _ =>
    Jah aC aV (i0 + 1) (ac ++ [([] : Str)])
    else
    Jah aC aV (i0 + 1) ac
    else
    (chk (ac.length + [e0].length ≤ lim)).bind fun _ =>
    Jah aC aV (i0 + 1) (ac ++ [e0])
def Jcr (n : Nat) (host : Str) (target : Str) : Option (Ju × Err) :=
  (Jcj host).bind fun aY =>
  if aY.2.isSome then
  some ((⟨([] : Str), ([] : Str), ([] : Str), false⟩ : Ju), aY.2)
  else
  (quq target ([63] : Str)).bind fun aX =>
  (if decide (aX.1 = ([] : Str)) then some true else (ix aX.1 0).bind fun ba =>
  some (decide ((ba.toNat : Int) ≠ 47))).bind fun a8 =>
  if a8 then
  some ((⟨([] : Str), ([] : Str), ([] : Str), false⟩ : Ju), (some 27))
  else
  (Jcq n aX.1 ([33, 36, 38, 39, 40, 41, 42, 43, 44, 59, 61, 58, 64, 47] : Str)).bind fun aW =>
  (Jcq n aX.2.1 ([33, 36, 38, 39, 40, 41, 42, 43, 44, 59, 61, 58, 64, 47, 63] : Str)).bind fun a6 =>
  if ((!aW.2) || (!a6.2)) then
  some ((⟨([] : Str), ([] : Str), ([] : Str), false⟩ : Ju), (some 27))
  else
  (chk (0 ≤ (1 : Int) ∧ (1 : Int) ≤ (aW.1.length : Int) ∧ (aW.1.length : Int) ≤ (aW.1.length : Int))).bind fun _ =>
  (qem (subL aW.1 (1 : Int) (aW.1.length : Int)) ([47] : Str)).bind fun aC =>
  (chk (aC.length ≤ qa1)).bind fun _ =>
  (Jah aC aC 0 []).bind fun s0 => s0.el some fun t0 =>
  (qog t0 ([47] : Str)).bind fun aV =>
  (chk (([47] : Str).length + aV.length ≤ lim)).bind fun _ =>
  (Jdj (⟨aY.1, (([47] : Str) ++ aV), a6.1, aX.2.2⟩ : Ju)).bind fun aZ =>
  if decide ((aZ.length : Int) > 1024) then
  some ((⟨([] : Str), ([] : Str), ([] : Str), false⟩ : Ju), (some 5))
  else
  some ((⟨aY.1, (([47] : Str) ++ aV), a6.1, aX.2.2⟩ : Ju), none)
theorem JcB {n : Nat} {host : Str} {target : Str} {K : Hp} {r : Ju × Err}
    (hm : Jcr n host target = some r) (hG : GG K) :
    Fn Tryz.prog 14 [str host, str target] K [] (fun v K' H' => v = .tuple #[.agg #[str r.1.An, str r.1.Ae, str r.1.Af, .bool r.1.HasQuery], qc3 48 r.2] ∧ H' = []) := by
 refine Fn.enter Tryz.func14 Tryz.call14 rfl fun F => ?_
 unfold Jcr at hm
 refine qai rfl fun b4 => ?_
 refine cb hm fun cy bP hm => cgx (Jdb bP :) ?_
 refine qa7 rfl ?_
 refine cs rfl rfl hm ?_ ?_ <;> intro cp hm
 refine qak rfl rfl ?_
 refine qaa r0 rfl ⟨rfl, rfl, (nl rfl), ?_⟩
 exact ro (qab r0 rfl (nl rfl) (eE hm))
 refine cb hm fun cr bZ hm => cg0 (qqx bZ (gg0 hG)) ?_
 obtain ⟨bG, a6, hm⟩ := bnd hm
 refine jR (σ := Bool) (rg 33 7) (fun bb => [(39, .bool bb)]) (fun bb => bb = bG) ?_ ?_
 replace a6 := bsm a6
 refine qaj rfl ?_
 refine qaq ?_
 obtain ⟨cw, bm, a6⟩ := bnd a6
 refine cS bm (fun aX bm => ?_) fun aX bm => ?_
 refine ct aX (ct aX (ct aX ?_))
 exact eMq a6 _ ⟨bq (si bm), trivial⟩
 refine cf aX ?_
 obtain ⟨cC, bY, bW, bm⟩ := ixb bm
 refine qa0 rfl bY bW (cf aX (qbb (cf aX ?_)))
 exact eMq a6 _ ⟨bq (si bm), trivial⟩
 rintro bb rfl bR
 refine cs rfl rfl hm ?_ ?_ <;> intro cq hm
 refine qak rfl rfl ?_
 refine qas rfl ?_
 refine qaa r0 rfl ⟨rfl, rfl, (nl rfl), ?_⟩
 exact ro (qab r0 rfl (nl rfl) (eE hm))
 refine cb hm fun cm bQ hm => cg0 (Jc5 bQ :) ?_
 refine cb hm fun bL bO hm => cg0 (Jc5 bO :) ?_
 refine jR (σ := Unit) (rg 52 6) (fun _ => [(57, .bool ((!cm.2) || (!bL.2)))]) (fun cj => True) ?_ ?_
 refine qaj rfl ?_
 refine qav ?_
 refine qaf ?_ ?_ <;> intro aZ
 refine ct aZ (ct aZ ?_)
 exact eMt () ⟨bq (((qco (qgu (qob aZ)))).symm), trivial⟩
 refine cf aZ (qav (cf aZ ?_))
 exact eMt () ⟨bq (qid (b := (!bL.2)) (qdx (qkr aZ))), trivial⟩
 rintro _ _ bS
 refine cs rfl rfl hm ?_ ?_ <;> intro cz hm
 refine qak rfl rfl ?_
 refine qas rfl ?_
 refine qaa r0 rfl ⟨rfl, rfl, (nl rfl), ?_⟩
 exact ro (qab r0 rfl (nl rfl) (eE hm))
 obtain ⟨bX, hm⟩ := qax hm
 refine RStep.ofN (qek (lo := (some 1)) (hi := none) rfl bX ?_)
 refine cb hm fun aC ce hm => ck0 (qe1 ce (gg0 hG)) ?_
 rintro _ _ _ ⟨bH, bK, rfl, bp, rfl⟩
 refine ro (qal rfl ?_)
 obtain ⟨ba, hm⟩ := qax hm
 obtain ⟨s0, aV, hm⟩ := bnd hm
 refine qjd eS 9 1 ?_
 refine lD (σ := ((List Str)) × Option Addr × Nat) ([5,13,15,16] ++ rg 65 34) [1, 2, 3] (fun i0 => [(65, .int .i64 (i0 : Int))]) (fun (t0, aW, aY) => [(13, .slice aW t0.length aY)]) (fun (t0, aW, aY) => [OwnL eS aW 9 1 aY t0]) (fun (t0, aW, aY) => (0 < t0.length → Has aW) ∧ True) (fun i0 (t0, aW, aY) => Jah aC (aC.drop i0) i0 t0 = some s0) (fun (t0, aW, aY) => s0 = Fl.go t0) (fun i0 => aC.length - i0) 0 (_, _, _) aV (And.intro qe (And.intro ?_ ?_))
 clear aV
 rintro i0 ⟨ac, bg, bf⟩ ⟨bc, _⟩ aV j0
 conv at aV => whnf
 refine qac rfl ?_
 refine qaf ?_ ?_ <;> intro w0
 obtain ⟨e0, a8, bU⟩ := ltx w0
 rw [bU, Jah.eq_2] at aV
 refine qam rfl ?_
 refine RStep.ofN (qae rfl rfl (qcz bp a8) (nn _) (qfh rfl a8) (ro (qb2 (i := i0) (o := 0) r1 rfl a8 rfl rfl ?_)))
 refine qam rfl ?_
 refine qaq (cs rfl rfl aV ?_ ?_) <;> intro bJ aV
 refine qac rfl (ct bJ (qaq ?_))
 refine cs rfl rfl aV ?_ ?_ <;> intro bM aV
 refine ro (qal rfl (qag ?_))
 refine cs rfl rfl aV ?_ ?_ <;> intro bT aV
 refine qak rfl rfl ?_
 refine qas rfl ?_
 refine qaa r2 rfl ⟨rfl, rfl, (nl rfl), ?_⟩
 exact ro (qab r0 rfl (nl rfl) (eE (er aV hm)))
 refine ro (qal rfl ?_)
 refine ci aV fun aV => ?_
 obtain ⟨bo, aV⟩ := qax aV
 refine qrc (l := ac) (hi := (some ((ac.length : Int) - 1))) rfl r0 (by simp) rfl rfl bo ?_
 refine ro (qal rfl ?_)
 obtain ⟨bj, aV⟩ := qax aV
 refine qan bj (qag ?_)
 refine cs rfl rfl aV ?_ ?_ <;> intro bC aV
 refine bsO (len := 1) (enc := eS) (l := [([] : Str)]) (cl := [str ([] : Str)]) qca rfl rfl (fun _ _ => rfl) rfl rfl rfl ?_ fun bF => ?_
 · conv => whnf
   refine cT ?_
   first | done | rfl
 obtain ⟨bh, aV⟩ := qax aV
 refine tkW ((ac.length : Int) - 1) r1 ?_
 refine apE rfl r0 qca (qaz rfl r0 rfl (fun _ => rfl) (fun _ => rfl)) bh ?_
 intro bD bz bv
 refine qan (qbu a8 ba) ?_
 exact eR aV (_, _, _, _)
 refine qan (qbu a8 ba) ?_
 refine qxf ((ac.length : Int) - 1) r0 ?_
 exact rd (i0 + 1, (subL ac (0 : Int) ((ac.length : Int) - 1)), bg, bf) ⟨rfl, rfl, trivial⟩ rfl (pf rfl) lr (ltm a8) ⟨⟨(fun h => bc (qic bo h)), trivial⟩, aV⟩
 refine ro (qal rfl ?_)
 obtain ⟨bj, aV⟩ := qax aV
 refine qan bj (qag ?_)
 refine cs rfl rfl aV ?_ ?_ <;> intro bC aV
 refine bsO (len := 1) (enc := eS) (l := [([] : Str)]) (cl := [str ([] : Str)]) qca rfl rfl (fun _ _ => rfl) rfl rfl rfl ?_ fun bF => ?_
 · conv => whnf
   refine cT ?_
   first | done | rfl
 obtain ⟨bh, aV⟩ := qax aV
 refine apE rfl r1 qca (qaz rfl r0 rfl (fun _ => rfl) (fun _ => rfl)) bh ?_
 intro bD bz bv
 refine qan (qbu a8 ba) ?_
 exact eR aV (_, _, _, _)
 refine qan (qbu a8 ba) ?_
 exact eR aV (_, _, _, _)
 refine qaq (cs rfl rfl aV ?_ ?_) <;> intro bJ aV
 refine qaq (cs rfl rfl aV ?_ ?_) <;> intro bM aV
 refine ro (qal rfl (qag ?_))
 refine cs rfl rfl aV ?_ ?_ <;> intro bT aV
 refine qak rfl rfl ?_
 refine qas rfl ?_
 refine qaa r2 rfl ⟨rfl, rfl, (nl rfl), ?_⟩
 exact ro (qab r0 rfl (nl rfl) (eE (er aV hm)))
 refine ro (qal rfl ?_)
 refine ci aV fun aV => ?_
 obtain ⟨bo, aV⟩ := qax aV
 refine qrc (l := ac) (hi := (some ((ac.length : Int) - 1))) rfl r0 (by simp) rfl rfl bo ?_
 refine ro (qal rfl ?_)
 obtain ⟨bj, aV⟩ := qax aV
 refine qan bj (qag ?_)
 refine cs rfl rfl aV ?_ ?_ <;> intro bC aV
 refine bsO (len := 1) (enc := eS) (l := [([] : Str)]) (cl := [str ([] : Str)]) qca rfl rfl (fun _ _ => rfl) rfl rfl rfl ?_ fun bF => ?_
 · conv => whnf
   refine cT ?_
   first | done | rfl
 obtain ⟨bh, aV⟩ := qax aV
 refine tkW ((ac.length : Int) - 1) r1 ?_
 refine apE rfl r0 qca (qaz rfl r0 rfl (fun _ => rfl) (fun _ => rfl)) bh ?_
 intro bD bz bv
 refine qan (qbu a8 ba) ?_
 exact eR aV (_, _, _, _)
 refine qan (qbu a8 ba) ?_
 refine qxf ((ac.length : Int) - 1) r0 ?_
 exact rd (i0 + 1, (subL ac (0 : Int) ((ac.length : Int) - 1)), bg, bf) ⟨rfl, rfl, trivial⟩ rfl (pf rfl) lr (ltm a8) ⟨⟨(fun h => bc (qic bo h)), trivial⟩, aV⟩
 refine ro (qal rfl ?_)
 obtain ⟨bj, aV⟩ := qax aV
 refine qan bj (qag ?_)
 refine cs rfl rfl aV ?_ ?_ <;> intro bC aV
 refine bsO (len := 1) (enc := eS) (l := [([] : Str)]) (cl := [str ([] : Str)]) qca rfl rfl (fun _ _ => rfl) rfl rfl rfl ?_ fun bF => ?_
 · conv => whnf
   refine cT ?_
   first | done | rfl
 obtain ⟨bh, aV⟩ := qax aV
 refine apE rfl r1 qca (qaz rfl r0 rfl (fun _ => rfl) (fun _ => rfl)) bh ?_
 intro bD bz bv
 refine qan (qbu a8 ba) ?_
 exact eR aV (_, _, _, _)
 refine qan (qbu a8 ba) ?_
 exact eR aV (_, _, _, _)
 refine bsO (len := 1) (enc := eS) (l := [e0]) (cl := [str e0]) qca rfl rfl (fun _ _ => rfl) rfl rfl rfl ?_ fun cA => ?_
 · conv => whnf
   refine cT ?_
   first | done | rfl
 obtain ⟨bN, aV⟩ := qax aV
 refine apE rfl r1 qca (qaz rfl r0 rfl (fun _ => rfl) (fun _ => rfl)) bN ?_
 intro cu cn cB
 refine qan (qbu a8 ba) ?_
 exact eR aV (_, _, _, _)
 rw [lty w0, Jah.eq_1] at aV
 refine cT ?_
 exact eM aV (_, _, _)
 rintro ⟨t0, aW, aY⟩ ⟨bI, _⟩ rfl j0
 replace hm := elg hm
 refine cb hm fun bV bu hm => ck0 (Fn.lend Tryz.call48 (fun bw bB bn => (qqv bu bn rfl)) (by exact fun _ _ _ _ h => h)) ?_
 rintro _ _ _ ⟨_, rfl, rfl, rfl⟩
 obtain ⟨bA, hm⟩ := qax hm
 refine qby bA ?_
 refine qak rfl rfl (cT (cT (cT (cT ?_))))
 refine qai rfl fun cD => ?_
 refine qaa r0 rfl ⟨rfl, rfl, (nl rfl), ?_⟩
 refine ro (qab r0 rfl (nl rfl) ?_)
 refine cb hm fun cd bt hm => cg0 (JdN bt :) ?_
 refine ro (qa4 rfl ?_)
 refine cs rfl rfl hm ?_ ?_ <;> intro ca hm
 refine qak rfl rfl ?_
 refine qas rfl ?_
 refine qaa r3 rfl ⟨rfl, rfl, (nl rfl), ?_⟩
 exact ro (qab r0 rfl (nl rfl) (eE hm))
 refine ro (qab r0 rfl (nl rfl) ?_)
 refine qaa r3 rfl ⟨rfl, rfl, (nl rfl), ?_⟩
 exact ro (qab r0 rfl (nl rfl) (eE hm))

def JbQ (s : Str) : Option (Bool) :=
  (Jco s).bind fun x7 =>
  some x7.2.isNone
theorem Jcl {s : Str} {K : Hp} {r : Bool}
    (hm : JbQ s = some r)  :
    Fn Tryz.prog 213 [str s] K [] (fun v K' H' => v = .bool r ∧ H' = []) := by
 refine Fn.enter Tryz.func213 Tryz.call213 rfl fun F => ?_
 unfold JbQ at hm
 refine cb hm fun x7 q7 hm => cg0 (JdH q7 :) ?_
 refine qe7 rfl ?_
 exact eE hm

def Jbv (s : Str) (prefixZ : Str) : Option (Str × Bool) :=
  (Jas s prefixZ).bind fun x8 =>
  if (!x8) then
  some (s, false)
  else
  (chk (0 ≤ (prefixZ.length : Int) ∧ (prefixZ.length : Int) ≤ (s.length : Int) ∧ (s.length : Int) ≤ (s.length : Int))).bind fun _ =>
  some ((subL s (prefixZ.length : Int) (s.length : Int)), true)
theorem JcM {s : Str} {prefixZ : Str} {K : Hp} {r : Str × Bool}
    (hm : Jbv s prefixZ = some r)  :
    Fn Tryz.prog 255 [str s, str prefixZ] K [] (fun v K' H' => v = .tuple #[str r.1, .bool r.2] ∧ H' = []) := by
 refine Fn.enter Tryz.func255 Tryz.call255 rfl fun F => ?_
 unfold Jbv at hm
 refine cb hm fun x8 q8 hm => cg0 (JbO q8 :) ?_
 refine qav ?_
 refine cs rfl rfl hm ?_ ?_ <;> intro w9 hm
 exact eE hm
 refine ro (qa4 rfl ?_)
 obtain ⟨aV, hm⟩ := qax hm
 refine RStep.ofN (qek (lo := (some (prefixZ.length : Int))) (hi := none) rfl aV ?_)
 exact eE hm

def Jcs (s : Str) (prefixZ : Str) : Option (Str × Bool) :=
  (Jbv s prefixZ).bind fun x8 =>
  some (x8.1, x8.2)
theorem Jc6 {s : Str} {prefixZ : Str} {K : Hp} {r : Str × Bool}
    (hm : Jcs s prefixZ = some r)  :
    Fn Tryz.prog 239 [str s, str prefixZ] K [] (fun v K' H' => v = .tuple #[str r.1, .bool r.2] ∧ H' = []) := by
 refine Fn.enter Tryz.func239 Tryz.call239 rfl fun F => ?_
 unfold Jcs at hm
 refine cb hm fun x8 q8 hm => cg0 (JcM q8 :) ?_
 exact eE hm

def JdO (s : Str) : Option (Int × Bool) :=
  if decide (s = ([112, 97, 116, 104] : Str)) then
  some (1, true)
  else
  if decide (s = ([113, 117, 101, 114, 121] : Str)) then
  some (1, true)
  else
  if decide (s = ([116, 97, 103] : Str)) then
  some (1, true)
  else
  if decide (s = ([116, 116, 108] : Str)) then
  some (1, true)
  else
  if decide (s = ([100, 101, 110, 121] : Str)) then
  some (1, true)
  else
  if decide (s = ([112, 97, 115, 115] : Str)) then
  some (0, true)
  else
  if decide (s = ([116, 111, 107, 101, 110] : Str)) then
  some (0, true)
  else
  (Jcs s ([104, 101, 97, 100, 101, 114, 58] : Str)).bind fun aV =>
  if aV.2 then
  (JbQ aV.1).bind fun aX =>
  some (1, aX)
  else
  (Jcs s ([118, 97, 114, 121, 58] : Str)).bind fun aW =>
  (if aW.2 then (JbQ aW.1).bind fun aY =>
  some aY else some false).bind fun aZ =>
  some (0, aZ)
theorem Jes {s : Str} {K : Hp} {r : Int × Bool}
    (hm : JdO s = some r)  :
    Fn Tryz.prog 214 [str s] K [] (fun v K' H' => v = .tuple #[.int .i64 r.1, .bool r.2] ∧ H' = []) := by
 refine Fn.enter Tryz.func214 Tryz.call214 rfl fun F => ?_
 unfold JdO at hm
 refine qam rfl ?_
 refine qaq (cs rfl rfl hm ?_ ?_) <;> intro w9 hm
 refine qac rfl (ct w9 ?_)
 exact eE hm
 refine qaq (cs rfl rfl hm ?_ ?_) <;> intro w9 hm
 refine qac rfl (ct w9 ?_)
 exact eE hm
 refine qaq (cs rfl rfl hm ?_ ?_) <;> intro w9 hm
 refine qac rfl (ct w9 ?_)
 exact eE hm
 refine qaq (cs rfl rfl hm ?_ ?_) <;> intro w9 hm
 refine qac rfl (ct w9 ?_)
 exact eE hm
 refine qaq (cs rfl rfl hm ?_ ?_) <;> intro w9 hm
 exact eE hm
 refine qaq (cs rfl rfl hm ?_ ?_) <;> intro aX hm
 refine qac rfl (ct aX ?_)
 exact eE hm
 refine qaq (cs rfl rfl hm ?_ ?_) <;> intro aX hm
 exact eE hm
 refine cb hm fun ba aY hm => cg0 (Jc6 aY :) ?_
 refine cs rfl rfl hm ?_ ?_ <;> intro bb hm
 refine cb hm fun bc aZ hm => cg0 (Jcl aZ :) ?_
 exact eE hm
 refine cb hm fun bh a6 hm => cg0 (Jc6 a6 :) ?_
 refine qaj rfl ?_
 obtain ⟨bg, aW, hm⟩ := bnd hm
 refine cS aW (fun aV aW => ?_) fun aV aW => ?_
 refine ct aV ?_
 refine cb aW fun bf a8 aW => cg0 (Jcl a8 :) ?_
 refine ct aV ?_
 cases hm
 exact en lr ⟨(by rw [← (si aW)] <;> rfl), rfl⟩ (pf rfl)
 refine cf aV (cf aV ?_)
 cases hm
 exact en lr ⟨(by rw [← ((si aW).symm).symm] <;> rfl), rfl⟩ (pf rfl)

def Jdn (x : Jg) : Option (Int × Int × Bool) :=
  if decide (x.Op = 1) then
  some (0, 1, ((decide (x.S = ([] : Str)) && decide (x.N ≥ 0)) && decide (x.N ≤ 999999999)))
  else
  if decide (x.Op = 2) then
  (if decide (x.N = 0) then (JbQ x.S).bind fun aX =>
  some aX else some false).bind fun aY =>
  some (0, 1, aY)
  else
  if decide (x.Op = 3) then
  some (0, 1, ((decide (x.S = ([] : Str)) && decide (x.N ≥ 0)) && decide (x.N ≤ 511)))
  else
  if decide (x.Op = 4) then
  some (1, 0, ((decide (x.S = ([] : Str)) && decide (x.N ≥ 0)) && decide (x.N ≤ 511)))
  else
  if decide (x.Op = 5) then
  (if decide (x.N = 0) then (JQ Jao x.S).bind fun a8 =>
  some a8 else some false).bind fun aC =>
  some (0, 1, aC)
  else
  if decide (x.Op = 6) then
  (if decide (x.N = 0) then (JQ JaV x.S).bind fun ba =>
  some ba else some false).bind fun a6 =>
  some (1, 1, a6)
  else
  if decide (x.Op = 7) then
  (if decide (x.N = 0) then (JQ Jai x.S).bind fun aZ =>
  some aZ else some false).bind fun aW =>
  some (2, 1, aW)
  else
  if decide (x.Op = 8) then
  some (1, 1, (decide (x.N = 0) && decide (x.S = ([] : Str))))
  else
  if decide (x.Op = 9) then
  some (0, 0, decide (x.S = ([] : Str)))
  else
  if decide (x.Op = 10) then
  some (1, 0, decide (x.S = ([] : Str)))
  else
  if decide (x.Op = 11) then
  (JdO x.S).bind fun aV =>
  some (aV.1, 0, (decide (x.N = 0) && aV.2))
  else
  if decide (x.Op = 12) then
  some (0, 0, (decide (x.N = 0) && decide (x.S = ([] : Str))))
  else
  some (0, 0, false)
theorem Jee {x : Jg} {K : Hp} {r : Int × Int × Bool}
    (hm : Jdn x = some r) (hG : GG K) :
    Fn Tryz.prog 153 [.agg #[.int .i64 x.Op, .int .i64 x.N, str x.S]] K [] (fun v K' H' => v = .tuple #[.int .i64 r.1, .int .i64 r.2.1, .bool r.2.2] ∧ H' = []) := by
 obtain ⟨cd, cm, bM, gn_, bn, bF⟩ := gg1 hG
 subst gn_
 obtain ⟨cq, bV, bU, gn_, bu, cj⟩ := gg2 hG
 subst gn_
 obtain ⟨cp, bT, bG, gn_, bA, bZ⟩ := gg3 hG
 subst gn_
 refine Fn.enter Tryz.func153 Tryz.call153 rfl fun F => ?_
 unfold Jdn at hm
 refine qar ?_
 intro b1
 refine fa rfl (ro (ld r0 rfl rfl (qag (fa rfl (ro (ld r0 rfl rfl (qaq ?_)))))))
 refine jR (σ := Unit) ([7] ++ rg 14 11) (fun _ => [(7, .bool ((decide (x.S = ([] : Str)) && decide (x.N ≥ 0)) && decide (x.N ≤ 511)))]) (fun bv => True) ?_ ?_
 refine qaj rfl ?_
 refine qaf ?_ ?_ <;> intro aZ
 refine fa rfl (ct aZ (ro (ld r0 rfl rfl (ct aZ (ct aZ ?_)))))
 refine qaf ?_ ?_ <;> intro a6
 refine fa rfl (ct a6 (ro (ld r0 rfl rfl (ct a6 (ct a6 ?_)))))
 exact eMt () ⟨bq (qc8 (b := decide (x.N ≤ 511)) (qc1 aZ a6)), trivial⟩
 refine cf a6 (cf a6 (cf a6 ?_))
 exact eMt () ⟨bq (((qbh (qc2 aZ a6))).symm), trivial⟩
 refine cf aZ (cf aZ (cf aZ (cF (cF (cF (cF ?_))))))
 exact eMt () ⟨bq (((qbh (qbh aZ))).symm), trivial⟩
 rintro _ _ bD
 refine fa rfl (ro (ld r0 rfl rfl ?_))
 refine qam rfl ?_
 refine qag (cs rfl rfl hm ?_ ?_) <;> intro bL hm
 refine qba ⟨⟨[], false⟩, _, [(_, _)], []⟩ (by kernel_rfl) ⟨Hp.Le.refl _, (pf rfl), ci0⟩ ?_
 refine qaf ?_ ?_ <;> intro aY
 refine fa rfl (ct aY (qap m0 rfl rfl (ct aY (ct aY ?_))))
 refine qaf ?_ ?_ <;> intro a8
 refine fa rfl (ct a8 (qap m0 rfl rfl (ct a8 (ct a8 ?_))))
 cases hm
 exact en lr ⟨(by rw [← (qc8 (b := decide (x.N ≤ 999999999)) (qc1 aY a8))] <;> rfl), rfl⟩ (sc [1] rfl)
 refine cf a8 (cf a8 (cf a8 ?_))
 cases hm
 exact en lr ⟨(by rw [← ((qbh (qc2 aY a8))).symm] <;> rfl), rfl⟩ (sc [1] rfl)
 refine cf aY (cf aY (cf aY (cF (cF (cF (cF ?_))))))
 cases hm
 exact en lr ⟨(by rw [← ((qbh (qbh aY))).symm] <;> rfl), rfl⟩ (sc [1] rfl)
 refine qag (cs rfl rfl hm ?_ ?_) <;> intro bR hm
 refine qaj rfl ?_
 obtain ⟨bP, bh, hm⟩ := bnd hm
 refine cS bh (fun bc bh => ?_) fun bc bh => ?_
 refine fa rfl (ct bc (ro (ld r0 rfl rfl (ct bc ?_))))
 refine cb bh fun bK bp bh => cg0 (Jcl bp :) ?_
 refine ct bc ?_
 cases hm
 exact en lr ⟨(by rw [← (si bh)] <;> rfl), rfl⟩ (sc [1] rfl)
 refine cf bc (cf bc (cf bc ?_))
 cases hm
 exact en lr ⟨(by rw [← ((si bh).symm).symm] <;> rfl), rfl⟩ (sc [1] rfl)
 refine qag (cs rfl rfl hm ?_ ?_) <;> intro bI hm
 exact eE hm
 refine qag (cs rfl rfl hm ?_ ?_) <;> intro cr hm
 exact eE hm
 refine qag (cs rfl rfl hm ?_ ?_) <;> intro bW hm
 refine qaj rfl ?_
 obtain ⟨aC, bm, hm⟩ := bnd hm
 refine cS bm (fun aW bm => ?_) fun aW bm => ?_
 refine ro (qnk bn rfl (ct aW (fa rfl (ct aW (ro (ld r0 rfl rfl (ct aW ?_)))))))
 refine cb bm fun bS bB bm => cgx (JY bB :) ?_
 refine ct aW ?_
 cases hm
 exact en lr ⟨(by rw [← (si bm)] <;> rfl), rfl⟩ (sc [1] rfl)
 refine cf aW (cf aW (cf aW (cf aW ?_)))
 cases hm
 exact en lr ⟨(by rw [← ((si bm).symm).symm] <;> rfl), rfl⟩ (sc [1] rfl)
 refine qag (cs rfl rfl hm ?_ ?_) <;> intro cn hm
 refine qaj rfl ?_
 obtain ⟨bN, bj, hm⟩ := bnd hm
 refine cS bj (fun aV bj => ?_) fun aV bj => ?_
 refine ro (qnk bu rfl (ct aV (fa rfl (ct aV (ro (ld r0 rfl rfl (ct aV ?_)))))))
 refine cb bj fun bO bt bj => cgx (JY bt :) ?_
 refine ct aV ?_
 cases hm
 exact en lr ⟨(by rw [← (si bj)] <;> rfl), rfl⟩ (sc [1] rfl)
 refine cf aV (cf aV (cf aV (cf aV ?_)))
 cases hm
 exact en lr ⟨(by rw [← ((si bj).symm).symm] <;> rfl), rfl⟩ (sc [1] rfl)
 refine qag (cs rfl rfl hm ?_ ?_) <;> intro bX hm
 refine qaj rfl ?_
 obtain ⟨ce, bg, hm⟩ := bnd hm
 refine cS bg (fun aX bg => ?_) fun aX bg => ?_
 refine ro (qnk bA rfl (ct aX (fa rfl (ct aX (ro (ld r0 rfl rfl (ct aX ?_)))))))
 refine cb bg fun bQ bC bg => cgx (JY bC :) ?_
 refine ct aX ?_
 cases hm
 exact en lr ⟨(by rw [← (si bg)] <;> rfl), rfl⟩ (sc [1] rfl)
 refine cf aX (cf aX (cf aX (cf aX ?_)))
 cases hm
 exact en lr ⟨(by rw [← ((si bg).symm).symm] <;> rfl), rfl⟩ (sc [1] rfl)
 refine qag (cs rfl rfl hm ?_ ?_) <;> intro bH hm
 refine qaj rfl ?_
 refine qaf ?_ ?_ <;> intro bf
 refine ct bf ?_
 cases hm
 exact en lr ⟨(by rw [← (qc8 (b := decide (x.S = ([] : Str))) bf)] <;> rfl), rfl⟩ (sc [1] rfl)
 refine cf bf ?_
 cases hm
 exact en lr ⟨(by rw [← ((qbh bf)).symm] <;> rfl), rfl⟩ (sc [1] rfl)
 refine qag (cs rfl rfl hm ?_ ?_) <;> intro bY hm
 exact eE hm
 refine qag (cs rfl rfl hm ?_ ?_) <;> intro bJ hm
 exact eE hm
 refine qag (cs rfl rfl hm ?_ ?_) <;> intro ca hm
 refine fa rfl (ro (ld r0 rfl rfl ?_))
 refine cb hm fun bo bw hm => cg0 (Jes bw :) ?_
 refine qaj rfl ?_
 refine qaf ?_ ?_ <;> intro ba
 refine ct ba ?_
 cases hm
 exact en lr ⟨(by rw [← (qc8 (b := bo.2) ba)] <;> rfl), rfl⟩ (sc [1] rfl)
 refine cf ba ?_
 cases hm
 exact en lr ⟨(by rw [← ((qbh ba)).symm] <;> rfl), rfl⟩ (sc [1] rfl)
 refine qag (cs rfl rfl hm ?_ ?_) <;> intro bz hm
 refine qaj rfl ?_
 refine qaf ?_ ?_ <;> intro bb
 refine ct bb ?_
 cases hm
 exact en lr ⟨(by rw [← (qc8 (b := decide (x.S = ([] : Str))) bb)] <;> rfl), rfl⟩ (sc [1] rfl)
 refine cf bb ?_
 cases hm
 exact en lr ⟨(by rw [← ((qbh bb)).symm] <;> rfl), rfl⟩ (sc [1] rfl)
 exact eE hm

def JcN (s : Jp) (slot : Int) : Option (Bool) :=
  (chk ((64 : Int) ≠ 0 ∧ InI (Int.tdiv slot 64))).bind fun _ =>
  (chk (0 ≤ (Int.tdiv slot 64) ∧ (Int.tdiv slot 64) < 8)).bind fun _ =>
  (chk (0 ≤ (Int.tmod slot 64))).bind fun _ =>
  some (decide ((u64and (qsq (List.getD [s.Au.f0, s.Au.f1, s.Au.f2, s.Au.f3, s.Au.f4, s.Au.f5, s.Au.f6, s.Au.f7] (Int.toNat (Int.tdiv slot 64)) 0) (Int.tmod slot 64)) 1) = 1))
theorem JdP {s : Jp} {slot : Int} {K : Hp} {r : Bool}
    (hm : JcN s slot = some r)  :
    Fn Tryz.prog 154 [.agg #[.bool s.Av, .int .i64 s.depth, .int .u64 s.Au.f0, .int .u64 s.Au.f1, .int .u64 s.Au.f2, .int .u64 s.Au.f3, .int .u64 s.Au.f4, .int .u64 s.Au.f5, .int .u64 s.Au.f6, .int .u64 s.Au.f7], .int .i64 slot] K [] (fun v K' H' => v = .bool r ∧ H' = []) := by
 refine Fn.enter Tryz.func154 Tryz.call154 rfl fun F => ?_
 unfold JcN at hm
 refine qar ?_
 intro b2
 obtain ⟨h6, hm⟩ := qax hm
 refine qpc h6.1 h6.2 (fa rfl ?_)
 obtain ⟨h8, hm⟩ := qax hm
 refine RStep.ofN (qbz (sz := 1) rfl rfl h8.1 h8.2 (ro (qss (L := [s.Au.f0, s.Au.f1, s.Au.f2, s.Au.f3, s.Au.f4, s.Au.f5, s.Au.f6, s.Au.f7]) (pre := [.bool s.Av, .int .i64 s.depth]) (post := []) r0 rfl (by simp) rfl h8.1 h8.2 (qtm (by decide) ?_))))
 obtain ⟨aV, hm⟩ := qax hm
 refine qt0 aV ?_
 refine qmn ?_
 refine qag ?_
 exact eE hm

def Jbn (t : Jp) : Nat → Nat → Int → Int → Int → Int → Int → Int → Int → Int → Option (Int × Int × Int × Int × Int × Int × Int × Int)
  | 0, _, ac, aZ, aY, a6, aW, ba, aX, a8 => some (ac, aZ, aY, a6, aW, ba, aX, a8)
  | bb + 1, i0, ac, aZ, aY, a6, aW, ba, aX, a8 =>
    (chk (0 ≤ (i0 : Int) ∧ (i0 : Int) < 8)).bind fun _ =>
    (chk (0 ≤ (i0 : Int) ∧ (i0 : Int) < 8)).bind fun _ =>
    (chk (0 ≤ (i0 : Int) ∧ (i0 : Int) < 8)).bind fun _ =>
    (some (List.set [ac, aZ, aY, a6, aW, ba, aX, a8] (Int.toNat (i0 : Int)) (u64and (List.getD [ac, aZ, aY, a6, aW, ba, aX, a8] (Int.toNat (i0 : Int)) 0) (List.getD [t.Au.f0, t.Au.f1, t.Au.f2, t.Au.f3, t.Au.f4, t.Au.f5, t.Au.f6, t.Au.f7] (Int.toNat (i0 : Int)) 0)))).bind fun aV =>
    Jbn t bb (i0 + 1) (List.getD aV 0 0) (List.getD aV 1 0) (List.getD aV 2 0) (List.getD aV 3 0) (List.getD aV 4 0) (List.getD aV 5 0) (List.getD aV 6 0) (List.getD aV 7 0)
def Jdf (s : Jp) (t : Jp) : Option (Bool × Jp) :=
  if (!s.Av) then
  some (true, t)
  else
  (chk (InI (8 : Int))).bind fun _ =>
  (Jbn t (8 : Int).toNat 0 s.Au.f0 s.Au.f1 s.Au.f2 s.Au.f3 s.Au.f4 s.Au.f5 s.Au.f6 s.Au.f7).bind fun t0 =>
  some (decide (s.depth = t.depth), (⟨s.Av, s.depth, (⟨t0.1, t0.2.1, t0.2.2.1, t0.2.2.2.1, t0.2.2.2.2.1, t0.2.2.2.2.2.1, t0.2.2.2.2.2.2.1, t0.2.2.2.2.2.2.2⟩ : Jbb)⟩ : Jp))
theorem JeG {s : Jp} {t : Jp} {b0 : Nat} {K : Hp} {r : Bool × Jp}
    (hm : Jdf s t = some r)  :
    Fn Tryz.prog 155 [.pointer (some ⟨b0, 0, none⟩), .agg #[.bool t.Av, .int .i64 t.depth, .int .u64 t.Au.f0, .int .u64 t.Au.f1, .int .u64 t.Au.f2, .int .u64 t.Au.f3, .int .u64 t.Au.f4, .int .u64 t.Au.f5, .int .u64 t.Au.f6, .int .u64 t.Au.f7]] K [Cells b0 228 [.bool s.Av, .int .i64 s.depth, .int .u64 s.Au.f0, .int .u64 s.Au.f1, .int .u64 s.Au.f2, .int .u64 s.Au.f3, .int .u64 s.Au.f4, .int .u64 s.Au.f5, .int .u64 s.Au.f6, .int .u64 s.Au.f7]] (fun v K' H' => v = .bool r.1 ∧ H' = [Cells b0 228 [.bool r.2.Av, .int .i64 r.2.depth, .int .u64 r.2.Au.f0, .int .u64 r.2.Au.f1, .int .u64 r.2.Au.f2, .int .u64 r.2.Au.f3, .int .u64 r.2.Au.f4, .int .u64 r.2.Au.f5, .int .u64 r.2.Au.f6, .int .u64 r.2.Au.f7]]) := by
 refine Fn.enter Tryz.func155 Tryz.call155 rfl fun F => ?_
 unfold Jdf at hm
 refine qar ?_
 intro b3
 refine qah (fa rfl (ro (ld r1 rfl rfl (qav ?_))))
 refine cs rfl rfl hm ?_ ?_ <;> intro bn hm
 refine ro (qab r0 rfl (nl rfl) (qah ?_))
 refine qaa r1 rfl ⟨rfl, rfl, (nl rfl), ?_⟩
 exact eE hm
 obtain ⟨bm, hm⟩ := qax hm
 obtain ⟨s0, aW, hm⟩ := bnd hm
 refine lD (σ := (Int × Int × Int × Int × Int × Int × Int × Int)) ([5] ++ rg 14 18) [0, 2] (fun i0 => [(14, .int .i64 (i0 : Int))]) (fun _ => []) (fun t0 => [Cells b0 228 [.bool s.Av, .int .i64 s.depth, .int .u64 t0.1, .int .u64 t0.2.1, .int .u64 t0.2.2.1, .int .u64 t0.2.2.2.1, .int .u64 t0.2.2.2.2.1, .int .u64 t0.2.2.2.2.2.1, .int .u64 t0.2.2.2.2.2.2.1, .int .u64 t0.2.2.2.2.2.2.2]]) (fun _ => True) (fun i0 t0 => Jbn t ((8 : Int).toNat - i0) i0 t0.1 t0.2.1 t0.2.2.1 t0.2.2.2.1 t0.2.2.2.2.1 t0.2.2.2.2.2.1 t0.2.2.2.2.2.2.1 t0.2.2.2.2.2.2.2 = some s0) (fun t0 => t0 = s0) (fun i0 => (8 : Int).toNat - i0) 0 (_, _, _, _, _, _, _, _) aW (And.intro qe (And.intro ?_ ?_))
 clear aW
 rintro i0 ⟨ac, a8, bf, ba, aZ, bc, a6, bb⟩ _ aW j0
 dsimp only at aW ⊢
 refine qac rfl ?_
 refine qaf ?_ ?_ <;> intro w0
 rw [ltn (n := (8 : Int)) w0, Jbn.eq_2] at aW
 refine qam rfl ?_
 refine qa6 ⟨⟨[], false⟩, _, [(_, _), (_, _)], []⟩ 13 rfl (by kernel_rfl) ⟨Hp.Le.refl _, (pf rfl), ci0⟩ ?_
 refine qah (fa rfl ?_)
 obtain ⟨bg, aW⟩ := qax aW
 refine qbz (sz := 1) rfl rfl bg.1 bg.2 ?_
 refine qhn (L := [ac, a8, bf, ba, aZ, bc, a6, bb]) (pre := [.bool s.Av, .int .i64 s.depth]) (post := []) m0 rfl (by simp) rfl bg.1 bg.2 ?_
 refine fa rfl ?_
 obtain ⟨bh, aW⟩ := qax aW
 refine qbz (sz := 1) rfl rfl bh.1 bh.2 ?_
 refine qhn (L := [t.Au.f0, t.Au.f1, t.Au.f2, t.Au.f3, t.Au.f4, t.Au.f5, t.Au.f6, t.Au.f7]) (pre := [.bool t.Av, .int .i64 t.depth]) (post := []) m1 rfl (by simp) rfl bh.1 bh.2 ?_
 refine qmn ?_
 refine qah (fa rfl ?_)
 obtain ⟨bj, aW⟩ := qax aW
 refine qbz (sz := 1) rfl rfl bj.1 bj.2 ?_
 obtain ⟨aV, aX, aW⟩ := bnd aW
 replace aX := Option.some.inj aX
 have aY : aV.length = 8 := by rw [← aX]; simp
 refine qpq (L := [ac, a8, bf, ba, aZ, bc, a6, bb]) (pre := [.bool s.Av, .int .i64 s.depth]) (post := []) (cs' := [.bool s.Av, .int .i64 s.depth, .int .u64 (List.getD aV 0 0), .int .u64 (List.getD aV 1 0), .int .u64 (List.getD aV 2 0), .int .u64 (List.getD aV 3 0), .int .u64 (List.getD aV 4 0), .int .u64 (List.getD aV 5 0), .int .u64 (List.getD aV 6 0), .int .u64 (List.getD aV 7 0)]) r0 rfl (by simp) rfl bj.1 bj.2 aX (by rw [qv7 aY]; rfl) ?_
 refine ⟨⟨Hp.emp_le _, (pf rfl), ci0⟩, ?_⟩
 refine qan (qk5 w0 bm) ?_
 exact eR aW (_, (_, _, _, _, _, _, _, _))
 rw [lto (n := (8 : Int)) w0, Jbn.eq_1] at aW
 refine cT ?_
 exact eM aW _
 rintro t0 _ rfl j0
 refine qba ⟨⟨[], false⟩, _, [(_, _), (_, _)], []⟩ (by kernel_rfl) ⟨Hp.Le.refl _, (pf rfl), ci0⟩ ?_
 refine qah (fa rfl (qap m0 rfl rfl (fa rfl (qap m1 rfl rfl (qag ?_)))))
 exact eE hm

def Ja4 (s_i : Nat) (t : Jp) : Nat → Nat → (List Jp) → Option ((List Jp))
  | 0, _, ac => some ac
  | aX + 1, i0, ac =>
    (chk (0 ≤ (i0 : Int) ∧ (i0 : Int) < 8)).bind fun _ =>
    (ac[s_i]?).bind fun aV =>
    (chk (0 ≤ (i0 : Int) ∧ (i0 : Int) < 8)).bind fun _ =>
    (chk (0 ≤ (i0 : Int) ∧ (i0 : Int) < 8)).bind fun _ =>
    (some (List.set [aV.Au.f0, aV.Au.f1, aV.Au.f2, aV.Au.f3, aV.Au.f4, aV.Au.f5, aV.Au.f6, aV.Au.f7] (Int.toNat (i0 : Int)) (u64and (List.getD [aV.Au.f0, aV.Au.f1, aV.Au.f2, aV.Au.f3, aV.Au.f4, aV.Au.f5, aV.Au.f6, aV.Au.f7] (Int.toNat (i0 : Int)) 0) (List.getD [t.Au.f0, t.Au.f1, t.Au.f2, t.Au.f3, t.Au.f4, t.Au.f5, t.Au.f6, t.Au.f7] (Int.toNat (i0 : Int)) 0)))).bind fun aW =>
    Ja4 s_i t aX (i0 + 1) (ac.set s_i (⟨aV.Av, aV.depth, (⟨(List.getD aW 0 0), (List.getD aW 1 0), (List.getD aW 2 0), (List.getD aW 3 0), (List.getD aW 4 0), (List.getD aW 5 0), (List.getD aW 6 0), (List.getD aW 7 0)⟩ : Jbb)⟩ : Jp))
def JbL (s : (List Jp)) (s_i : Nat) (t : Jp) : Option (Bool × (List Jp)) :=
  (s[s_i]?).bind fun aW =>
  if (!aW.Av) then
  some (true, (s.set s_i t))
  else
  (chk (InI (8 : Int))).bind fun _ =>
  (Ja4 s_i t (8 : Int).toNat 0 s).bind fun t0 =>
  (t0[s_i]?).bind fun aV =>
  some (decide (aV.depth = t.depth), t0)
theorem Jbt {s : (List Jp)} {s_i : Nat} {t : Jp} {aR : Option Addr} {aU : Nat} {K : Hp} {r : Bool × (List Jp)}
    (hm : JbL s s_i t = some r) (aK : 0 < s.length → Has aR) :
    Fn Tryz.prog 155 [(eptr aR (s_i * 10)), .agg #[.bool t.Av, .int .i64 t.depth, .int .u64 t.Au.f0, .int .u64 t.Au.f1, .int .u64 t.Au.f2, .int .u64 t.Au.f3, .int .u64 t.Au.f4, .int .u64 t.Au.f5, .int .u64 t.Au.f6, .int .u64 t.Au.f7]] K [OwnL Jp.enc aR 228 10 aU s] (fun v K' H' => v = .bool r.1 ∧ (0 < r.2.length → Has aR) ∧ s.length = r.2.length ∧ H' = [OwnL Jp.enc aR 228 10 aU r.2]) := by
 refine Fn.enter Tryz.func155 Tryz.call155 rfl fun F => ?_
 unfold JbL at hm
 obtain ⟨bm, aY, hm⟩ := bnd hm
 refine qar ?_
 intro b3
 refine qdy (qcz aK aY) (qa8 rfl (qcz aK aY) (ro (qb2 (i := s_i) (o := 0) r1 rfl aY rfl rfl (qav ?_))))
 refine cs rfl rfl hm ?_ ?_ <;> intro bt hm
 refine ro (qab r0 rfl (nl rfl) (qdy (qcz aK aY) ?_))
 refine qe8 (o := 0) (y := t) bm r1 rfl aY rfl (by (conv => whnf); exact ⟨rfl, rfl, (nl rfl), rfl, rfl, rfl⟩) ?_
 cases hm
 exact en lr ⟨rfl, (by first | simpa using aK | exact fun _ => ⟨_, _, rfl⟩), ((rfl).trans List.length_set.symm), rfl⟩ (sc [0,1] rfl)
 obtain ⟨bn, hm⟩ := qax hm
 obtain ⟨s0, aW, hm⟩ := bnd hm
 refine lD (σ := ((List Jp))) ([5] ++ rg 14 18) [0, 2] (fun i0 => [(14, .int .i64 (i0 : Int))]) (fun _ => []) (fun t0 => [OwnL Jp.enc aR 228 10 aU t0]) (fun t0 => (0 < t0.length → Has aR) ∧ s.length = t0.length) (fun i0 t0 => Ja4 s_i t ((8 : Int).toNat - i0) i0 t0 = some s0) (fun t0 => t0 = s0) (fun i0 => (8 : Int).toNat - i0) 0 _ aW (And.intro qe (And.intro ?_ ?_))
 clear aW
 rintro i0 ac ⟨a6, ba⟩ aW j0
 conv at aW => whnf
 refine qac rfl ?_
 refine qaf ?_ ?_ <;> intro w0
 rw [ltn (n := (8 : Int)) w0, Ja4.eq_2] at aW
 refine qam rfl ?_
 refine qba ⟨⟨[], true⟩, _, [], []⟩ (by kernel_rfl) ⟨Hp.Le.refl _, (pf rfl), ci0⟩ ?_
 refine qdy (qcz aK aY) (qa8 rfl (qcz aK aY) ?_)
 obtain ⟨bb, aW⟩ := qax aW
 refine qlb (sz := 1) rfl rfl (qcz aK aY) bb.1 bb.2 ?_
 obtain ⟨aV, bh, aW⟩ := bnd aW
 refine qb2 (i := s_i) (o := 2 + (Int.toNat (i0 : Int))) r0 rfl bh (qmo (L := [aV.Au.f0, aV.Au.f1, aV.Au.f2, aV.Au.f3, aV.Au.f4, aV.Au.f5, aV.Au.f6, aV.Au.f7]) (pre := [.bool aV.Av, .int .i64 aV.depth]) (post := []) rfl bb.1 bb.2) (by omega) ?_
 refine fa rfl ?_
 obtain ⟨bc, aW⟩ := qax aW
 refine qbz (sz := 1) rfl rfl bc.1 bc.2 ?_
 refine qss (L := [t.Au.f0, t.Au.f1, t.Au.f2, t.Au.f3, t.Au.f4, t.Au.f5, t.Au.f6, t.Au.f7]) (pre := [.bool t.Av, .int .i64 t.depth]) (post := []) r1 rfl (by simp) rfl bc.1 bc.2 ?_
 refine qmn ?_
 refine qdy (qcz aK aY) (qa8 rfl (qcz aK aY) ?_)
 obtain ⟨bf, aW⟩ := qax aW
 refine qlb (sz := 1) rfl rfl (qcz aK aY) bf.1 bf.2 ?_
 obtain ⟨aX, aZ, aW⟩ := bnd aW
 replace aZ := Option.some.inj aZ
 have a8 : aX.length = 8 := by rw [← aZ]; simp
 refine qe8 (n := 1) (o := 2 + (Int.toNat (i0 : Int))) (y := (⟨aV.Av, aV.depth, (⟨(List.getD aX 0 0), (List.getD aX 1 0), (List.getD aX 2 0), (List.getD aX 3 0), (List.getD aX 4 0), (List.getD aX 5 0), (List.getD aX 6 0), (List.getD aX 7 0)⟩ : Jbb)⟩ : Jp)) aV r0 rfl bh (by omega) (by rw [qbm]; exact ⟨rfl, rfl, by omega, (qjj (L := [aV.Au.f0, aV.Au.f1, aV.Au.f2, aV.Au.f3, aV.Au.f4, aV.Au.f5, aV.Au.f6, aV.Au.f7]) (pre := [.bool aV.Av, .int .i64 aV.depth]) (post := []) bf.1 bf.2).trans (by rw [aZ, qv7 a8]; rfl), rfl, rfl⟩) ?_
 refine qk (pf rfl) ?_
 refine qan (qk5 w0 bn) ?_
 exact rd (i0 + 1, (ac.set s_i (⟨aV.Av, aV.depth, (⟨(List.getD aX 0 0), (List.getD aX 1 0), (List.getD aX 2 0), (List.getD aX 3 0), (List.getD aX 4 0), (List.getD aX 5 0), (List.getD aX 6 0), (List.getD aX 7 0)⟩ : Jbb)⟩ : Jp))) ⟨rfl, trivial⟩ rfl (pf rfl) lr (qup w0) ⟨⟨(by first | simpa using a6 | exact fun _ => ⟨_, _, rfl⟩), ((ba).trans List.length_set.symm)⟩, aW⟩
 rw [lto (n := (8 : Int)) w0, Ja4.eq_1] at aW
 refine cT ?_
 exact eM aW _
 rintro t0 ⟨bg, bj⟩ rfl j0
 refine qba ⟨⟨[], true⟩, _, [], []⟩ (by kernel_rfl) ⟨Hp.Le.refl _, (pf rfl), ci0⟩ ?_
 refine qdy (qcz aK aY) (qa8 rfl (qcz aK aY) ?_)
 obtain ⟨bp, bo, hm⟩ := bnd hm
 refine qb2 (i := s_i) (o := 1) r0 rfl bo rfl rfl ?_
 refine fa rfl ?_
 refine ld r1 rfl rfl ?_
 refine qag ?_
 exact eE hm
