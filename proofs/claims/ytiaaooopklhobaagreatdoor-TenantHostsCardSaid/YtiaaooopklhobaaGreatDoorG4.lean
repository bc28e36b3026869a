/- Functions of the program: mirrors, and that a call returns what the mirror says. Printed by gen.py. -/
import Derived.Test.YtiaaooopklhobaaGreatDoorG3
set_option linter.unusedVariables false
set_option linter.unusedSimpArgs false
open Go Go.SL Go.Proofs
noncomputable section
set_option maxRecDepth 1000000
set_option maxHeartbeats 8000000
def Ja0 (av : (Jd → (List Ja) → Option (Jd))) (n : Nat) (c : Jd) (n' : Ja) : Option (Jd) :=
  if decide (n'.Ab = 2) then
  (Jat av n c n').bind fun x9 =>
  some x9
  else
  if decide ((n'.Aa.length : Int) > 0) then
  (ix n'.Aa 0).bind fun ba =>
  (JB n c ba).bind fun aT =>
  if decide (n'.Ab = 3) then
  (Jj aT 4 aT.Ap ([] : Str)).bind fun aS =>
  (chk (aS.2.names.length + [(⟨n'.Ac, aS.2.Ap⟩ : Jr)].length ≤ lim)).bind fun _ =>
  (chk (InI (aS.2.Ap + 1))).bind fun _ =>
  some (⟨aS.2.code, (aS.2.names ++ [(⟨n'.Ac, aS.2.Ap⟩ : Jr)]), (aS.2.Ap + 1)⟩ : Jd)
  else
  if decide (n'.Ab = 4) then
  (Jj aT 11 0 n'.Ac).bind fun aV =>
  some aV.2
  else
  if decide (n'.Ab = 5) then
  (chk (([104, 101, 97, 100, 101, 114, 58] : Str).length + n'.Ac.length ≤ lim)).bind fun _ =>
  (Jj aT 11 0 (([104, 101, 97, 100, 101, 114, 58] : Str) ++ n'.Ac)).bind fun aU =>
  some aU.2
  else
  if decide (n'.Ab = 6) then
  (chk (([118, 97, 114, 121, 58] : Str).length + n'.Ac.length ≤ lim)).bind fun _ =>
  (Jj aT 11 0 (([118, 97, 114, 121, 58] : Str) ++ n'.Ac)).bind fun aY =>
  some aY.2
  else
  if decide (n'.Ab = 7) then
  (Jj aT 11 0 ([116, 97, 103] : Str)).bind fun aX =>
  some aX.2
  else
  if decide (n'.Ab = 8) then
  (Jj aT 11 0 ([116, 116, 108] : Str)).bind fun aW =>
  some aW.2
  else
  if decide (n'.Ab = 9) then
  (Jj aT 11 0 ([100, 101, 110, 121] : Str)).bind fun a8 =>
  some a8.2
  else
  if decide (n'.Ab = 10) then
  (Jj aT 11 0 ([112, 97, 115, 115] : Str)).bind fun a6 =>
  some a6.2
  else
  if decide (n'.Ab = 11) then
  (Jj aT 11 0 ([116, 111, 107, 101, 110] : Str)).bind fun aZ =>
  some aZ.2
  else
  some aT
  else
  if decide (n'.Ab = 3) then
  (Jj c 4 c.Ap ([] : Str)).bind fun aS =>
  (chk (aS.2.names.length + [(⟨n'.Ac, aS.2.Ap⟩ : Jr)].length ≤ lim)).bind fun _ =>
  (chk (InI (aS.2.Ap + 1))).bind fun _ =>
  some (⟨aS.2.code, (aS.2.names ++ [(⟨n'.Ac, aS.2.Ap⟩ : Jr)]), (aS.2.Ap + 1)⟩ : Jd)
  else
  if decide (n'.Ab = 4) then
  (Jj c 11 0 n'.Ac).bind fun aV =>
  some aV.2
  else
  if decide (n'.Ab = 5) then
  (chk (([104, 101, 97, 100, 101, 114, 58] : Str).length + n'.Ac.length ≤ lim)).bind fun _ =>
  (Jj c 11 0 (([104, 101, 97, 100, 101, 114, 58] : Str) ++ n'.Ac)).bind fun aU =>
  some aU.2
  else
  if decide (n'.Ab = 6) then
  (chk (([118, 97, 114, 121, 58] : Str).length + n'.Ac.length ≤ lim)).bind fun _ =>
  (Jj c 11 0 (([118, 97, 114, 121, 58] : Str) ++ n'.Ac)).bind fun aY =>
  some aY.2
  else
  if decide (n'.Ab = 7) then
  (Jj c 11 0 ([116, 97, 103] : Str)).bind fun aX =>
  some aX.2
  else
  if decide (n'.Ab = 8) then
  (Jj c 11 0 ([116, 116, 108] : Str)).bind fun aW =>
  some aW.2
  else
  if decide (n'.Ab = 9) then
  (Jj c 11 0 ([100, 101, 110, 121] : Str)).bind fun a8 =>
  some a8.2
  else
  if decide (n'.Ab = 10) then
  (Jj c 11 0 ([112, 97, 115, 115] : Str)).bind fun a6 =>
  some a6.2
  else
  if decide (n'.Ab = 11) then
  (Jj c 11 0 ([116, 111, 107, 101, 110] : Str)).bind fun aZ =>
  some aZ.2
  else
  some c
theorem JcI {av : (Jd → (List Ja) → Option (Jd))} (ihrec4_0 : ∀ {c : Jd} {list : (List Ja)} {b0 : Nat} {aa : Option Addr} {ab : Nat} {ah : Option Addr} {ak : Nat} {af : Option Addr} {ag : Nat} {n1 : Nat} {K : Hp} {r : Jd} (hm : av c list = some r) (hX : (0 < c.code.length → Has aa) ∧ (0 < c.names.length → Has ah) ∧ LiC Ja.R K af ag 4 list ∧ n1 = list.length), Fn Tryz.prog 142 [.pointer (some ⟨b0, 0, none⟩), .slice af n1 ag] K [Cells b0 209 [.slice aa c.code.length ab, .slice ah c.names.length ak, .int .i64 c.Ap], qat Jf.enc aa 135 3 ab c.code, qat Jr.enc ah 290 2 ak c.names] (fun v K' H' => ∃ ar_0 : Option Addr, ∃ cr_0 : Nat, ∃ ar_1 : Option Addr, ∃ cr_1 : Nat, v = .tuple #[] ∧ (0 < r.code.length → Has ar_0) ∧ (0 < r.names.length → Has ar_1) ∧ H' = [Cells b0 209 [.slice ar_0 r.code.length cr_0, .slice ar_1 r.names.length cr_1, .int .i64 r.Ap], qat Jf.enc ar_0 135 3 cr_0 r.code, qat Jr.enc ar_1 290 2 cr_1 r.names])) {n : Nat} {c : Jd} {n' : Ja} {b0 : Nat} {aa : Option Addr} {ab : Nat} {ah : Option Addr} {ak : Nat} {af : Option Addr} {ag : Nat} {K : Hp} {r : Jd}
    (hm : Ja0 av n c n' = some r) (hX : (0 < c.code.length → Has aa) ∧ (0 < c.names.length → Has ah) ∧ LiC Ja.R K af ag 4 n'.Aa) :
    Fn Tryz.prog 197 [.pointer (some ⟨b0, 0, none⟩), .agg #[.int .i64 n'.Ab, str n'.Ac, .slice af n'.Aa.length ag, .int .i64 n'.Ad]] K [Cells b0 209 [.slice aa c.code.length ab, .slice ah c.names.length ak, .int .i64 c.Ap], qat Jf.enc aa 135 3 ab c.code, qat Jr.enc ah 290 2 ak c.names] (fun v K' H' => ∃ ar_0 : Option Addr, ∃ cr_0 : Nat, ∃ ar_1 : Option Addr, ∃ cr_1 : Nat, v = .tuple #[] ∧ (0 < r.code.length → Has ar_0) ∧ (0 < r.names.length → Has ar_1) ∧ H' = [Cells b0 209 [.slice ar_0 r.code.length cr_0, .slice ar_1 r.names.length cr_1, .int .i64 r.Ap], qat Jf.enc ar_0 135 3 cr_0 r.code, qat Jr.enc ar_1 290 2 cr_1 r.names]) := by
 obtain ⟨ae, cL, ai⟩ := hX
 refine Fn.enter Tryz.func197 Tryz.call197 rfl fun F => ?_
 unfold Ja0 at hm
 refine qaq ?_
 intro b3
 refine fa rfl (ro (ld r0 rfl rfl (qag ?_)))
 refine cs rfl rfl hm ?_ ?_ <;> intro w6 hm
 refine ro (qab r0 rfl (nl rfl) ?_)
 refine cb hm fun x9 q9 hm => ckx (Jc2 ihrec4_0 q9 :) ?_
 rintro _ _ _ ⟨c5, dn, cW, cV, rfl, df, c6, rfl⟩
 exact eE hm
 refine fa rfl (ro (ld r0 rfl rfl (ro (qak rfl ?_))))
 refine cs rfl rfl hm ?_ ?_ <;> intro dx hm
 refine fa rfl (ro (ld r0 rfl rfl ?_))
 obtain ⟨dy, cI, cy, hm⟩ := ixb hm
 refine RStep.ofN (qad rfl rfl (qc2 ai.rd cy) cI (qaw rfl cI cy) ?_)
 obtain ⟨db, dm, cd, cq, cu⟩ := LiR.get ai.rd cy
 obtain ⟨cM, cP, rfl, cO⟩ := Ja.out cu
 refine ro (qan ((0 : Int).toNat) _ cd rfl cq rfl ?_)
 refine cb hm fun dz c4 hm => ckx (Jca c4 :) ?_
 rintro _ _ _ ⟨cN, cK, cH, cR, rfl, cQ, cJ, rfl⟩
 refine fa rfl (ro (ld r3 rfl rfl ?_))
 refine qal rfl ?_
 refine qag (cs rfl rfl hm ?_ ?_) <;> intro dg hm
 refine qaj (fa rfl (ro (ld r0 rfl rfl ?_)))
 refine cb hm fun bm cw hm => ckx (Jg cw :) ?_
 rintro _ _ _ ⟨a8, bn, bB, aS, rfl, bA, aV, rfl⟩
 refine qa1 ⟨⟨[], false⟩, _, [(_, _), (_, _)], []⟩ 14 rfl (by kernel_rfl) ⟨Hp.Le.refl _, (sc [0,2] rfl), ci0⟩ ?_
 refine qaj (fa rfl (qao m0 rfl rfl (fa rfl (qao m1 rfl rfl (qaj (fa rfl (qao m0 rfl rfl ?_)))))))
 refine qaf rfl rfl (cT (cT ?_))
 refine bsO (len := 1) (enc := Jr.enc) (l := [(⟨n'.Ac, bm.2.Ap⟩ : Jr)]) (cl := [str n'.Ac, .int .i64 bm.2.Ap]) qjk rfl rfl (fun _ _ => rfl) rfl rfl rfl ?_ fun dc => ?_
 · conv => whnf
   refine cT ?_
   first | done | rfl
 refine qk (sc [1,3] rfl) ?_
 obtain ⟨cm, hm⟩ := qay hm
 refine apE rfl r3 qjk (qax rfl r0 rfl (fun _ => rfl) (fun _ => rfl)) cm ?_
 intro c9 de dl
 refine qk (sc [2,3] rfl) ?_
 refine qaj (fa rfl ?_)
 refine qaa r2 rfl ⟨rfl, rfl, (nl rfl), ?_⟩
 refine ⟨⟨Hp.emp_le _, (pf rfl), ci0⟩, ?_⟩
 refine qaj (fa rfl (ro (ld r0 rfl rfl ?_)))
 obtain ⟨cC, hm⟩ := qay hm
 refine qam cC (qaj (fa rfl ?_))
 refine qaa r0 rfl ⟨rfl, rfl, (nl rfl), ?_⟩
 exact eE hm
 refine qag (cs rfl rfl hm ?_ ?_) <;> intro dk hm
 refine fa rfl (ro (ld r3 rfl rfl ?_))
 refine cb hm fun cU cj hm => ckx (Jg cj :) ?_
 rintro _ _ _ ⟨bb, bN, aT, bt, rfl, aY, aZ, rfl⟩
 exact eE hm
 refine qag (cs rfl rfl hm ?_ ?_) <;> intro dt hm
 refine fa rfl (ro (ld r3 rfl rfl ?_))
 obtain ⟨cE, hm⟩ := qay hm
 refine qbv cE ?_
 refine cb hm fun dp cp hm => ckx (Jg cp :) ?_
 rintro _ _ _ ⟨a6, bL, bh, bW, rfl, aU, bf, rfl⟩
 exact eE hm
 refine qag (cs rfl rfl hm ?_ ?_) <;> intro c8 hm
 refine fa rfl (ro (ld r3 rfl rfl ?_))
 obtain ⟨cz, hm⟩ := qay hm
 refine qbv cz ?_
 refine cb hm fun dh co hm => ckx (Jg co :) ?_
 rintro _ _ _ ⟨bw, bu, bK, bp, rfl, ba, bR, rfl⟩
 exact eE hm
 refine qag (cs rfl rfl hm ?_ ?_) <;> intro du hm
 refine cb hm fun dq cD hm => ckx (Jg cD :) ?_
 rintro _ _ _ ⟨bQ, bl, bH, bX, rfl, bd, bD, rfl⟩
 exact eE hm
 refine qag (cs rfl rfl hm ?_ ?_) <;> intro di hm
 refine cb hm fun da ce hm => ckx (Jg ce :) ?_
 rintro _ _ _ ⟨bZ, bY, bJ, bj, rfl, ca, bM, rfl⟩
 exact eE hm
 refine qag (cs rfl rfl hm ?_ ?_) <;> intro cY hm
 refine cb hm fun dj cn hm => ckx (Jg cn :) ?_
 rintro _ _ _ ⟨bS, bg, bP, bc, rfl, bT, br, rfl⟩
 exact eE hm
 refine qag (cs rfl rfl hm ?_ ?_) <;> intro cZ hm
 refine cb hm fun dw cr hm => ckx (Jg cr :) ?_
 rintro _ _ _ ⟨bC, bF, bO, aW, rfl, bv, aX, rfl⟩
 exact eE hm
 refine qag (cs rfl rfl hm ?_ ?_) <;> intro c3 hm
 refine cb hm fun dv cG hm => ckx (Jg cG :) ?_
 rintro _ _ _ ⟨bU, bI, bo, bG, rfl, bV, bz, rfl⟩
 exact eE hm
 exact eE hm
 refine fa rfl (ro (ld r0 rfl rfl ?_))
 refine qal rfl ?_
 refine qag (cs rfl rfl hm ?_ ?_) <;> intro dg hm
 refine qaj (fa rfl (ro (ld r1 rfl rfl ?_)))
 refine cb hm fun bm cw hm => ckx (Jg cw :) ?_
 rintro _ _ _ ⟨a8, bn, bB, aS, rfl, bA, aV, rfl⟩
 refine qa1 ⟨⟨[], false⟩, _, [(_, _), (_, _)], []⟩ 14 rfl (by kernel_rfl) ⟨Hp.Le.refl _, (sc [0,2] rfl), ci0⟩ ?_
 refine qaj (fa rfl (qao m0 rfl rfl (fa rfl (qao m1 rfl rfl (qaj (fa rfl (qao m0 rfl rfl ?_)))))))
 refine qaf rfl rfl (cT (cT ?_))
 refine bsO (len := 1) (enc := Jr.enc) (l := [(⟨n'.Ac, bm.2.Ap⟩ : Jr)]) (cl := [str n'.Ac, .int .i64 bm.2.Ap]) qjk rfl rfl (fun _ _ => rfl) rfl rfl rfl ?_ fun dc => ?_
 · conv => whnf
   refine cT ?_
   first | done | rfl
 refine qk (sc [1,3] rfl) ?_
 obtain ⟨cm, hm⟩ := qay hm
 refine apE rfl r3 qjk (qax rfl r0 rfl (fun _ => rfl) (fun _ => rfl)) cm ?_
 intro c9 de dl
 refine qk (sc [2,3] rfl) ?_
 refine qaj (fa rfl ?_)
 refine qaa r2 rfl ⟨rfl, rfl, (nl rfl), ?_⟩
 refine ⟨⟨Hp.emp_le _, (pf rfl), ci0⟩, ?_⟩
 refine qaj (fa rfl (ro (ld r0 rfl rfl ?_)))
 obtain ⟨cC, hm⟩ := qay hm
 refine qam cC (qaj (fa rfl ?_))
 refine qaa r0 rfl ⟨rfl, rfl, (nl rfl), ?_⟩
 exact eE hm
 refine qag (cs rfl rfl hm ?_ ?_) <;> intro dk hm
 refine fa rfl (ro (ld r0 rfl rfl ?_))
 refine cb hm fun cU cj hm => ckx (Jg cj :) ?_
 rintro _ _ _ ⟨bb, bN, aT, bt, rfl, aY, aZ, rfl⟩
 exact eE hm
 refine qag (cs rfl rfl hm ?_ ?_) <;> intro dt hm
 refine fa rfl (ro (ld r0 rfl rfl ?_))
 obtain ⟨cE, hm⟩ := qay hm
 refine qbv cE ?_
 refine cb hm fun dp cp hm => ckx (Jg cp :) ?_
 rintro _ _ _ ⟨a6, bL, bh, bW, rfl, aU, bf, rfl⟩
 exact eE hm
 refine qag (cs rfl rfl hm ?_ ?_) <;> intro c8 hm
 refine fa rfl (ro (ld r0 rfl rfl ?_))
 obtain ⟨cz, hm⟩ := qay hm
 refine qbv cz ?_
 refine cb hm fun dh co hm => ckx (Jg co :) ?_
 rintro _ _ _ ⟨bw, bu, bK, bp, rfl, ba, bR, rfl⟩
 exact eE hm
 refine qag (cs rfl rfl hm ?_ ?_) <;> intro du hm
 refine cb hm fun dq cD hm => ckx (Jg cD :) ?_
 rintro _ _ _ ⟨bQ, bl, bH, bX, rfl, bd, bD, rfl⟩
 exact eE hm
 refine qag (cs rfl rfl hm ?_ ?_) <;> intro di hm
 refine cb hm fun da ce hm => ckx (Jg ce :) ?_
 rintro _ _ _ ⟨bZ, bY, bJ, bj, rfl, ca, bM, rfl⟩
 exact eE hm
 refine qag (cs rfl rfl hm ?_ ?_) <;> intro cY hm
 refine cb hm fun dj cn hm => ckx (Jg cn :) ?_
 rintro _ _ _ ⟨bS, bg, bP, bc, rfl, bT, br, rfl⟩
 exact eE hm
 refine qag (cs rfl rfl hm ?_ ?_) <;> intro cZ hm
 refine cb hm fun dw cr hm => ckx (Jg cr :) ?_
 rintro _ _ _ ⟨bC, bF, bO, aW, rfl, bv, aX, rfl⟩
 exact eE hm
 refine qag (cs rfl rfl hm ?_ ?_) <;> intro c3 hm
 refine cb hm fun dv cG hm => ckx (Jg cG :) ?_
 rintro _ _ _ ⟨bU, bI, bo, bG, rfl, bV, bz, rfl⟩
 exact eE hm
 exact eE hm

def Jai (rec_ : (Jd → (List Ja) → Option (Jd))) (n : Nat) : List Ja → Nat → Jd → Option (Jd)
  | [], _, ac => some ac
  | e0 :: aT, i0, ac =>
    (Ja0 rec_ n ac e0).bind fun aS =>
    Jai rec_ n aT (i0 + 1) aS
def Jag : Nat → Jd → (List Ja) → Option (Jd)
  | 0, _, _ => none
  | n + 1, c, list =>
    (chk (list.length ≤ qbd)).bind fun _ =>
    (Jai (Jag n) n list 0 c).bind fun t0 =>
    (chk (0 ≤ (0 : Int) ∧ (0 : Int) ≤ (c.names.length : Int) ∧ (c.names.length : Int) ≤ (t0.names.length : Int))).bind fun _ =>
    some (⟨t0.code, (subL t0.names (0 : Int) (c.names.length : Int)), t0.Ap⟩ : Jd)
theorem Jc6 : ∀ {n : Nat} {c : Jd} {list : (List Ja)} {b0 : Nat} {aa : Option Addr} {ab : Nat} {ah : Option Addr} {ak : Nat} {af : Option Addr} {ag : Nat} {n1 : Nat} {K : Hp} {r : Jd}
    (hm : Jag n c list = some r) (hX : (0 < c.code.length → Has aa) ∧ (0 < c.names.length → Has ah) ∧ LiC Ja.R K af ag 4 list ∧ n1 = list.length),
    Fn Tryz.prog 142 [.pointer (some ⟨b0, 0, none⟩), .slice af n1 ag] K [Cells b0 209 [.slice aa c.code.length ab, .slice ah c.names.length ak, .int .i64 c.Ap], qat Jf.enc aa 135 3 ab c.code, qat Jr.enc ah 290 2 ak c.names] (fun v K' H' => ∃ ar_0 : Option Addr, ∃ cr_0 : Nat, ∃ ar_1 : Option Addr, ∃ cr_1 : Nat, v = .tuple #[] ∧ (0 < r.code.length → Has ar_0) ∧ (0 < r.names.length → Has ar_1) ∧ H' = [Cells b0 209 [.slice ar_0 r.code.length cr_0, .slice ar_1 r.names.length cr_1, .int .i64 r.Ap], qat Jf.enc ar_0 135 3 cr_0 r.code, qat Jr.enc ar_1 290 2 cr_1 r.names]) := by
 intro n
 induction n with
 | zero =>
   intro c list b0 aa ab ah ak af ag n1 K r hm hX
   rw [Jag.eq_1] at hm; cases hm
 | succ n ih =>
   intro c list b0 aa ab ah ak af ag n1 K r hm hX
   obtain ⟨ae, bv, ai, bF⟩ := hX
   subst bF
   refine Fn.enter Tryz.func142 Tryz.call142 rfl fun F => ?_
   rw [Jag.eq_2] at hm
   refine qaj (fa rfl (ro (ld r0 rfl rfl (ro (qak rfl (ro (qak rfl ?_)))))))
   obtain ⟨bA, hm⟩ := qay hm
   obtain ⟨s0, aW, hm⟩ := bnd hm
   refine lD (σ := (Jd) × Option Addr × Nat × Option Addr × Nat) ([6] ++ rg 14 8) [3] (fun i0 => [(14, .int .i64 (i0 : Int))]) (fun _ => []) (fun (t0, aT, aU, aS, aV) => [Cells b0 209 [.slice aT t0.code.length aU, .slice aS t0.names.length aV, .int .i64 t0.Ap], qat Jf.enc aT 135 3 aU t0.code, qat Jr.enc aS 290 2 aV t0.names]) (fun (t0, aT, aU, aS, aV) => (0 < t0.code.length → Has aT) ∧ (0 < t0.names.length → Has aS)) (fun i0 (t0, aT, aU, aS, aV) => Jai (Jag n) n (list.drop i0) i0 t0 = some s0) (fun (t0, aT, aU, aS, aV) => t0 = s0) (fun i0 => list.length - i0) 0 (_, _, _, _, _) aW (And.intro qe (And.intro ?_ ?_))
   clear aW
   rintro i0 ⟨ac, ba, a8, bd, bb⟩ ⟨aZ, a6⟩ aW j0
   conv at aW => whnf
   refine qac rfl ?_
   refine qae ?_ ?_ <;> intro w0
   obtain ⟨e0, bc, bD⟩ := ltx w0
   rw [bD, Jai.eq_2] at aW
   refine qal rfl ?_
   refine RStep.ofN (qad rfl rfl (qc2 ai.rd bc) (nn _) (qbm bc) ?_)
   obtain ⟨bC, bB, bh, bg, bf⟩ := LiR.get ai.rd bc
   obtain ⟨bp, bu, rfl, br⟩ := Ja.out bf
   refine ro (qan i0 _ bh rfl bg rfl ?_)
   refine qah rfl fun b6 => ?_
   refine qaa r0 rfl ⟨rfl, rfl, (nl rfl), ?_⟩
   refine ro (qab r0 rfl (nl rfl) ?_)
   refine cb aW fun bG bz aW => ckx (JcI ih bz :) ?_
   rintro _ _ _ ⟨bj, bo, bw, bn, rfl, bt, bl, rfl⟩
   refine qam (qbs bc bA) ?_
   exact eR aW (_, _, _, _, _, _)
   rw [lty w0, Jai.eq_1] at aW
   refine cT ?_
   exact eM aW (_, _, _, _, _)
   rintro ⟨t0, aT, aU, aS, aV⟩ ⟨aY, aX⟩ rfl j0
   refine qaj (fa rfl (ro (ld r0 rfl rfl ?_)))
   obtain ⟨bm, hm⟩ := qay hm
   refine ql0 (l := t0.names) (hi := (some (c.names.length : Int))) rfl r2 (by simp) rfl rfl bm ?_
   refine qaj (fa rfl ?_)
   refine tkW (c.names.length : Int) r2 ?_
   refine qaa r1 rfl ⟨rfl, rfl, (nl rfl), ?_⟩
   cases hm
   exact en lr ⟨aT, aU, aS, aV, rfl, aY, (fun h => aX (qgk bm h)), rfl⟩ (sc [0,1,0,0] rfl)

def JcO (n : Nat) (program : Ja) : Option ((List Jf) × Err) :=
  (Jb9 n program).bind fun x9 =>
  if x9.2.isSome then
  some ([], x9.2)
  else
  (Jag n (⟨[], [], 0⟩ : Jd) program.Aa).bind fun aT =>
  (Jj aT 12 0 ([] : Str)).bind fun aS =>
  if decide ((aS.2.code.length : Int) > 2048) then
  some ([], (some 5))
  else
  some (aS.2.code, none)
theorem JdT {n : Nat} {program : Ja} {aa : Option Addr} {ab : Nat} {K : Hp} {r : (List Jf) × Err}
    (hm : JcO n program = some r) (hX : LiC Ja.R K aa ab 4 program.Aa ∧ GG K) :
    Fn Tryz.prog 90 [.agg #[.int .i64 program.Ab, str program.Ac, .slice aa program.Aa.length ab, .int .i64 program.Ad]] K [] (fun v K' H' => ∃ ar_0 : Option Addr, ∃ cr_0 : Nat, v = .tuple #[.slice ar_0 r.1.length cr_0, qcr 48 r.2] ∧ (0 < r.1.length → Has ar_0) ∧ H' = [qat Jf.enc ar_0 135 3 cr_0 r.1]) := by
 obtain ⟨ae, hG⟩ := hX
 refine Fn.enter Tryz.func90 Tryz.call90 rfl fun F => ?_
 unfold JcO at hm
 refine qaq ?_
 intro b1
 refine ro (qab r0 rfl (nl rfl) ?_)
 refine cb hm fun x9 q9 hm => cgx (JcE q9 :) ?_
 refine qa7 rfl ?_
 refine cs rfl rfl hm ?_ ?_ <;> intro bh hm
 refine qch Jf.enc 135 3 ?_
 exact eE hm
 refine qaf rfl rfl ?_
 refine qaq ?_
 intro bf
 refine fa rfl (ro (ld r1 rfl rfl ?_))
 refine qpr Tryz.call142 Jf.enc 135 3 ?_
 refine qpr Tryz.call142 Jr.enc 290 2 ?_
 refine cb hm fun bj bc hm => ckx (Jc6 bc :) ?_
 rintro _ _ _ ⟨aT, aS, bb, a6, rfl, aY, aV, rfl⟩
 refine cb hm fun bg bd hm => ckx (Jg bd :) ?_
 rintro _ _ _ ⟨aW, ba, aZ, aU, rfl, aX, a8, rfl⟩
 refine qaj (fa rfl (ro (ld r0 rfl rfl (ro (qak rfl ?_)))))
 refine cs rfl rfl hm ?_ ?_ <;> intro bl hm
 refine qar rfl ?_
 refine qch Jf.enc 135 3 ?_
 exact eE hm
 refine qaj (fa rfl (ro (ld r0 rfl rfl ?_)))
 exact eE hm

def JaX (rec_ : (Ja → (List Jk) → Option (Int × Int))) (env : (List Jk)) : List Ja → Nat → (List Int) → Int → Int → Option ((List Int) × Int × Int)
  | [], _, ac, aU, aS => some (ac, aU, aS)
  | e0 :: aV, i0, ac, aU, aS =>
    (rec_ e0 env).bind fun aT =>
    (chk (ac.length + [aT.1].length ≤ lim)).bind fun _ =>
    if decide ((i0 : Int) = 0) then
    (chk (InI (aS + aT.2))).bind fun _ =>
    JaX rec_ env aV (i0 + 1) (ac ++ [aT.1]) aT.2 (aS + aT.2)
    else
    (chk (InI (aS + aT.2))).bind fun _ =>
    JaX rec_ env aV (i0 + 1) (ac ++ [aT.1]) aU (aS + aT.2)
def JbF : Nat → Ja → (List Jk) → Option (Int × Int)
  | 0, _, _ => none
  | n + 1, n', env =>
    (chk (n'.Aa.length ≤ qbd)).bind fun _ =>
    (JaX (JbF n) env n'.Aa 0 [] 0 0).bind fun t0 =>
    if decide (n'.Ab = 20) then
    some (2, 1)
    else
    if decide (n'.Ab = 21) then
    some (1, 1)
    else
    if decide (n'.Ab = 22) then
    some (3, 3)
    else
    if decide (n'.Ab = 23) then
    (JbS n n'.Ac env).bind fun aT =>
    some (aT, 1)
    else
    if decide (n'.Ab = 24) then
    (Ja9 (⟨0, none⟩ : Jm) n' t0.1).bind fun aA =>
    if decide (aA.1 = 1) then
    (chk (InI (t0.2.2 + 32))).bind fun _ =>
    (chk (InI ((t0.2.2 + 32) + 1))).bind fun _ =>
    some (aA.1, ((t0.2.2 + 32) + 1))
    else
    (chk (InI (t0.2.2 + 1))).bind fun _ =>
    some (aA.1, (t0.2.2 + 1))
    else
    if decide (n'.Ab = 14) then
    if decide (n'.Ab = 14) then
    (chk (InI (t0.2.1 + 1))).bind fun _ =>
    (chk (InI (t0.2.2 - t0.2.1))).bind fun _ =>
    (chk (InI ((t0.2.2 - t0.2.1) + 1))).bind fun _ =>
    (chk (InI ((t0.2.1 + 1) + (max 3 ((t0.2.2 - t0.2.1) + 1))))).bind fun _ =>
    some (3, ((t0.2.1 + 1) + (max 3 ((t0.2.2 - t0.2.1) + 1))))
    else
    (chk (InI (t0.2.1 + 1))).bind fun _ =>
    (chk (InI (t0.2.2 - t0.2.1))).bind fun _ =>
    (chk (InI ((t0.2.1 + 1) + (max 4 (t0.2.2 - t0.2.1))))).bind fun _ =>
    some (3, ((t0.2.1 + 1) + (max 4 (t0.2.2 - t0.2.1))))
    else
    if decide (n'.Ab = 13) then
    if decide (n'.Ab = 14) then
    (chk (InI (t0.2.1 + 1))).bind fun _ =>
    (chk (InI (t0.2.2 - t0.2.1))).bind fun _ =>
    (chk (InI ((t0.2.2 - t0.2.1) + 1))).bind fun _ =>
    (chk (InI ((t0.2.1 + 1) + (max 3 ((t0.2.2 - t0.2.1) + 1))))).bind fun _ =>
    some (3, ((t0.2.1 + 1) + (max 3 ((t0.2.2 - t0.2.1) + 1))))
    else
    (chk (InI (t0.2.1 + 1))).bind fun _ =>
    (chk (InI (t0.2.2 - t0.2.1))).bind fun _ =>
    (chk (InI ((t0.2.1 + 1) + (max 4 (t0.2.2 - t0.2.1))))).bind fun _ =>
    some (3, ((t0.2.1 + 1) + (max 4 (t0.2.2 - t0.2.1))))
    else
    (JbY n' t0.1).bind fun aS =>
    if decide (aS = 1) then
    (chk (InI (t0.2.2 + 32))).bind fun _ =>
    (chk (InI ((t0.2.2 + 32) + 1))).bind fun _ =>
    some (aS, ((t0.2.2 + 32) + 1))
    else
    (chk (InI (t0.2.2 + 1))).bind fun _ =>
    some (aS, (t0.2.2 + 1))
theorem Jea : ∀ {n : Nat} {n' : Ja} {env : (List Jk)} {aa : Option Addr} {ab : Nat} {af : Option Addr} {ag : Nat} {n1 : Nat} {K : Hp} {r : Int × Int}
    (hm : JbF n n' env = some r) (hX : LiC Ja.R K aa ab 4 n'.Aa ∧ RdC Jk.enc K af ag 2 env ∧ n1 = env.length),
    Fn Tryz.prog 198 [.agg #[.int .i64 n'.Ab, str n'.Ac, .slice aa n'.Aa.length ab, .int .i64 n'.Ad], .slice af n1 ag] K [] (fun v K' H' => v = .tuple #[.int .i64 r.1, .int .i64 r.2] ∧ H' = []) := by
 intro n
 induction n with
 | zero =>
   intro n' env aa ab af ag n1 K r hm hX
   rw [JbF.eq_1] at hm; cases hm
 | succ n ih =>
   intro n' env aa ab af ag n1 K r hm hX
   obtain ⟨ae, ai, bJ⟩ := hX
   subst bJ
   refine Fn.enter Tryz.func198 Tryz.call198 rfl fun F => ?_
   rw [JbF.eq_2] at hm
   refine qaq ?_
   intro b2
   refine fa rfl (ro (ld r0 rfl rfl (ro (qak rfl ?_))))
   obtain ⟨br, hm⟩ := qay hm
   obtain ⟨s0, aU, hm⟩ := bnd hm
   refine qgv eN 3 1 ?_
   refine lD (σ := ((List Int) × Int × Int) × Option Addr × Nat) (rg 6 7 ++ rg 19 22) [1, 2] (fun i0 => [(19, .int .i64 (i0 : Int))]) (fun (t0, aS, aT) => [(6, .slice aS t0.1.length aT), (7, .int .i64 t0.2.1), (8, .int .i64 t0.2.2)]) (fun (t0, aS, aT) => [qat eN aS 3 1 aT t0.1]) (fun (t0, aS, aT) => (0 < t0.1.length → Has aS) ∧ True) (fun i0 (t0, aS, aT) => JaX (JbF n) env (n'.Aa.drop i0) i0 t0.1 t0.2.1 t0.2.2 = some s0) (fun (t0, aS, aT) => t0 = s0) (fun i0 => n'.Aa.length - i0) 0 ((_, _, _), _, _) aU (And.intro qe (And.intro ?_ ?_))
   clear aU
   rintro i0 ⟨⟨ac, bv, bG⟩, bo, bh⟩ ⟨bf, _⟩ aU j0
   dsimp only at aU ⊢
   refine qac rfl ?_
   refine qae ?_ ?_ <;> intro w0
   obtain ⟨e0, aW, bB⟩ := ltx w0
   rw [bB, JaX.eq_2] at aU
   refine qal rfl ?_
   refine RStep.ofN (qad rfl rfl (qc2 ae.rd aW) (nn _) (qbm aW) ?_)
   obtain ⟨bw, bF, bb, a8, a6⟩ := LiR.get ae.rd aW
   obtain ⟨bl, bg, rfl, bu⟩ := Ja.out a6
   refine ro (qan i0 _ bb rfl a8 rfl ?_)
   refine qah rfl fun bM => ?_
   refine qaa r0 rfl ⟨rfl, rfl, (nl rfl), ?_⟩
   refine ro (qab r0 rfl (nl rfl) ?_)
   refine cb aU fun bm bI aU => cgx (ih bI :) ?_
   refine bsO (len := 1) (enc := eN) (l := [bm.1]) (cl := [.int .i64 bm.1]) qji rfl rfl (fun _ _ => rfl) rfl rfl rfl ?_ fun bT => ?_
   · conv => whnf
     refine cT ?_
     first | done | rfl
   obtain ⟨bz, aU⟩ := qay aU
   refine apE rfl r2 qji (qax rfl r0 rfl (fun _ => rfl) (fun _ => rfl)) bz ?_
   intro bO bN bR
   refine qag (cs rfl rfl aU ?_ ?_) <;> intro bS aU
   obtain ⟨bc, aU⟩ := qay aU
   refine qam bc (qam (qbs aW br) ?_)
   exact eR aU (_, (_, _, _), _, _)
   obtain ⟨bc, aU⟩ := qay aU
   refine qam bc (qam (qbs aW br) ?_)
   exact eR aU (_, (_, _, _), _, _)
   rw [lty w0, JaX.eq_1] at aU
   refine cT ?_
   exact eM aU (_, _, _)
   rintro ⟨t0, aS, aT⟩ ⟨bp, _⟩ rfl j0
   refine qaf rfl rfl ?_
   refine qaq ?_
   intro bQ
   refine fa rfl (ro (ld r2 rfl rfl ?_))
   refine qal rfl ?_
   refine qag (cs rfl rfl hm ?_ ?_) <;> intro bZ hm
   exact eE hm
   refine qag (cs rfl rfl hm ?_ ?_) <;> intro bY hm
   exact eE hm
   refine qag (cs rfl rfl hm ?_ ?_) <;> intro bP hm
   exact eE hm
   refine qag (cs rfl rfl hm ?_ ?_) <;> intro bU hm
   refine fa rfl (ro (ld r2 rfl rfl ?_))
   refine cb hm fun bK bA hm => cgx (Jcq bA :) ?_
   exact eE hm
   refine qag (cs rfl rfl hm ?_ ?_) <;> intro bW hm
   refine ro (qab r2 rfl (nl rfl) ?_)
   refine cb hm fun aA bH hm => ck0 (Fn.lend Tryz.call228 (fun bn aX aV => (Jck (c := (⟨0, none⟩ : Jm)) (n' := n') bH ⟨(LiC.mono Ja.R_ok aX ae), aV, rfl⟩)) (by exact fun _ _ _ _ h => h)) ?_
   rintro _ _ _ ⟨_, rfl, rfl, rfl⟩
   refine qag (cs rfl rfl hm ?_ ?_) <;> intro bL hm
   refine ci hm fun hm => ?_
   refine ci hm fun hm => ?_
   exact eE hm
   refine ci hm fun hm => ?_
   exact eE hm
   refine qag (cs rfl rfl hm ?_ ?_) <;> intro bt hm
   refine qac rfl (ct bt (fa rfl (ro (ld r2 rfl rfl (qag ?_)))))
   refine cs rfl rfl hm ?_ ?_ <;> intro bC hm
   refine ci hm fun hm => ?_
   refine ci hm fun hm => ?_
   obtain ⟨bd, hm⟩ := qay hm
   refine qam bd (ro (qcj ?_))
   refine ci hm fun hm => ?_
   exact eE hm
   refine ci hm fun hm => ?_
   obtain ⟨ba, hm⟩ := qay hm
   refine qam ba (ro (qcj ?_))
   refine ci hm fun hm => ?_
   exact eE hm
   refine qag (cs rfl rfl hm ?_ ?_) <;> intro bt hm
   refine fa rfl (ro (ld r2 rfl rfl (qag ?_)))
   refine cs rfl rfl hm ?_ ?_ <;> intro bC hm
   refine ci hm fun hm => ?_
   refine ci hm fun hm => ?_
   obtain ⟨bd, hm⟩ := qay hm
   refine qam bd (ro (qcj ?_))
   refine ci hm fun hm => ?_
   exact eE hm
   refine ci hm fun hm => ?_
   obtain ⟨ba, hm⟩ := qay hm
   refine qam ba (ro (qcj ?_))
   refine ci hm fun hm => ?_
   exact eE hm
   refine ro (qab r2 rfl (nl rfl) ?_)
   refine cb hm fun bX bD hm => ck0 (Fn.lend Tryz.call229 (fun bj aY aZ => (JcQ (n' := n') bD ⟨(LiC.mono Ja.R_ok aY ae), aZ, rfl⟩)) (by exact fun _ _ _ _ h => h)) ?_
   rintro _ _ _ ⟨_, rfl, rfl, rfl⟩
   refine qag (cs rfl rfl hm ?_ ?_) <;> intro bV hm
   refine ci hm fun hm => ?_
   refine ci hm fun hm => ?_
   exact eE hm
   refine ci hm fun hm => ?_
   exact eE hm

def Jah (n : Nat) (rec_ : ((List Ja) → (List Jk) → Option (Int))) : List Ja → Nat → (List Jk) → Int → Option ((List Jk) × Int)
  | [], _, ac, aS => some (ac, aS)
  | e0 :: aV, i0, ac, aS =>
    (chk (InI (aS + 1))).bind fun _ =>
    if decide ((e0.Aa.length : Int) = 0) then
    Jah n rec_ aV (i0 + 1) ac (aS + 1)
    else
    (ix e0.Aa 0).bind fun aY =>
    (JbF n aY ac).bind fun aT =>
    (chk (InI ((aS + 1) + aT.2))).bind fun _ =>
    if decide (e0.Ab = 3) then
    (JaH ac e0.Ac aT.1).bind fun a8 =>
    Jah n rec_ aV (i0 + 1) a8 ((aS + 1) + aT.2)
    else
    if decide (e0.Ab = 2) then
    (ix e0.Aa 1).bind fun aZ =>
    (JbT aZ).bind fun a6 =>
    (rec_ a6 ac).bind fun aU =>
    if decide ((e0.Aa.length : Int) > 2) then
    (chk (InI (aU + 1))).bind fun _ =>
    (ix e0.Aa 2).bind fun ba =>
    (JbT ba).bind fun aX =>
    (rec_ aX ac).bind fun aW =>
    (chk (InI (((aS + 1) + aT.2) + (max (aU + 1) aW)))).bind fun _ =>
    Jah n rec_ aV (i0 + 1) ac (((aS + 1) + aT.2) + (max (aU + 1) aW))
    else
    (chk (InI (((aS + 1) + aT.2) + aU))).bind fun _ =>
    Jah n rec_ aV (i0 + 1) ac (((aS + 1) + aT.2) + aU)
    else
    Jah n rec_ aV (i0 + 1) ac ((aS + 1) + aT.2)
def JbG : Nat → (List Ja) → (List Jk) → Option (Int)
  | 0, _, _ => none
  | n + 1, list, env =>
    (chk (list.length ≤ qbd)).bind fun _ =>
    (Jah n (JbG n) list 0 env 0).bind fun t0 =>
    some t0.2
theorem Jeb : ∀ {n : Nat} {list : (List Ja)} {env : (List Jk)} {aa : Option Addr} {ab : Nat} {n0 : Nat} {af : Option Addr} {ag : Nat} {n1 : Nat} {K : Hp} {r : Int}
    (hm : JbG n list env = some r) (hX : LiC Ja.R K aa ab 4 list ∧ n0 = list.length ∧ RdC Jk.enc K af ag 2 env ∧ n1 = env.length),
    Fn Tryz.prog 144 [.slice aa n0 ab, .slice af n1 ag] K [] (fun v K' H' => v = .int .i64 r ∧ H' = []) := by
 intro n
 induction n with
 | zero =>
   intro list env aa ab n0 af ag n1 K r hm hX
   rw [JbG.eq_1] at hm; cases hm
 | succ n ih =>
   intro list env aa ab n0 af ag n1 K r hm hX
   obtain ⟨ae, cn, ai, cI⟩ := hX
   subst cn
   subst cI
   refine Fn.enter Tryz.func144 Tryz.call144 rfl fun F => ?_
   rw [JbG.eq_2] at hm
   refine ro (qak rfl ?_)
   obtain ⟨aX, hm⟩ := qay hm
   obtain ⟨s0, aS, hm⟩ := bnd hm
   refine lC (σ := ((List Jk) × Int) × Option Addr × Nat) ([1,5,7,8,9,10] ++ rg 13 58) [0] (fun i0 => [(13, .int .i64 (i0 : Int))]) (fun (t0, aT, aV) => [(1, .slice aT t0.1.length aV), (5, .int .i64 t0.2)]) (fun _ => []) (fun zz K1 => match zz with | (t0, aT, aV) => RdC Jk.enc K1 aT aV 2 t0.1 ∧ True) (fun i0 (t0, aT, aV) => Jah n (JbG n) (list.drop i0) i0 t0.1 t0.2 = some s0) (fun (t0, aT, aV) => t0 = s0) (fun i0 => list.length - i0) 0 ((_, _), _, _) aS (And.intro qe (And.intro ?_ ?_))
   clear aS
   rintro i0 ⟨⟨ac, ca⟩, bC, bA⟩ cN bV ⟨bp, _⟩ aS j0
   dsimp only at aS ⊢
   refine qac rfl ?_
   refine qae ?_ ?_ <;> intro w0
   obtain ⟨e0, aW, cp⟩ := ltx w0
   rw [cp, Jah.eq_2] at aS
   refine qal rfl ?_
   refine RStep.ofN (qad rfl rfl (qc2 (LiC.mono Ja.R_ok bV ae).rd aW) (nn _) (qbm aW) ?_)
   obtain ⟨cC, cm, bm, a8, bd⟩ := LiR.get (LiC.mono Ja.R_ok bV ae).rd aW
   obtain ⟨bO, bv, rfl, aU⟩ := Ja.out bd
   refine ro (qan i0 _ bm rfl a8 rfl ?_)
   refine qah rfl fun b7 => ?_
   refine qaa r0 rfl ⟨rfl, rfl, (nl rfl), ?_⟩
   obtain ⟨cq, aS⟩ := qay aS
   refine qam cq (fa rfl (ro (ld r0 rfl rfl (ro (qak rfl (qag ?_))))))
   refine cs rfl rfl aS ?_ ?_ <;> intro cR aS
   refine cT (qam (qbs aW aX) ?_)
   exact eR aS (_, (_, _), _, _)
   refine fa rfl (ro (ld r0 rfl rfl ?_))
   obtain ⟨cO, bI, ba, aS⟩ := ixb aS
   refine RStep.ofN (qad rfl rfl (qc2 aU.rd ba) bI (qaw rfl bI ba) ?_)
   obtain ⟨ce, cw, bc, bh, bf⟩ := LiR.get aU.rd ba
   obtain ⟨bD, bG, rfl, bR⟩ := Ja.out bf
   refine ro (qan ((0 : Int).toNat) _ bc rfl bh rfl ?_)
   refine cb aS fun cP cD aS => cgx (Jea cD :) ?_
   obtain ⟨co, aS⟩ := qay aS
   refine qam co (fa rfl (ro (ld r0 rfl rfl ?_)))
   refine qal rfl ?_
   refine qag (cs rfl rfl aS ?_ ?_) <;> intro cZ aS
   refine fa rfl (ro (ld r0 rfl rfl ?_))
   refine cb aS fun c3 cE aS => ckx (JaT cE :) ?_
   rintro _ _ _ ⟨bW, bN, rfl, bw, rfl⟩
   refine qam (qbs aW aX) ?_
   refine fRo r0 fun bX bt bU => ?_
   exact eR aS (_, (_, _), _, _)
   refine qag (cs rfl rfl aS ?_ ?_) <;> intro c6 aS
   refine fa rfl (ro (ld r0 rfl rfl ?_))
   obtain ⟨c8, bB, bb, aS⟩ := ixb aS
   refine RStep.ofN (qad rfl rfl (qc2 aU.rd bb) bB (qaw rfl bB bb) ?_)
   obtain ⟨cd, cr, aY, bg, bn⟩ := LiR.get aU.rd bb
   obtain ⟨bZ, bQ, rfl, bz⟩ := Ja.out bn
   refine ro (qan ((1 : Int).toNat) _ aY rfl bg rfl ?_)
   refine cb aS fun cQ cu aS => cfx (JbM cu :) ?_
   rintro _ c4 _ bY ⟨bS, bH, rfl, bM, rfl⟩
   refine cb aS fun cV cJ aS => cgx (ih cJ :) ?_
   refine fa rfl (ro (ld r0 rfl rfl (ro (qak rfl ?_))))
   refine cs rfl rfl aS ?_ ?_ <;> intro cK aS
   obtain ⟨cH, aS⟩ := qay aS
   refine qam cH (fa rfl (ro (ld r0 rfl rfl ?_)))
   obtain ⟨cW, bJ, a6, aS⟩ := ixb aS
   refine RStep.ofN (qad rfl rfl (qc2 (LiC.mono Ja.R_ok bY aU).rd a6) bJ (qaw rfl bJ a6) ?_)
   obtain ⟨cG, cj, aZ, bj, bl⟩ := LiR.get (LiC.mono Ja.R_ok bY aU).rd a6
   obtain ⟨bu, bP, rfl, bT⟩ := Ja.out bl
   refine ro (qan ((2 : Int).toNat) _ aZ rfl bj rfl ?_)
   refine cb aS fun cL cz aS => cfx (JbM cz :) ?_
   rintro _ c9 _ c5 ⟨bK, br, rfl, bF, rfl⟩
   refine cb aS fun cY cy aS => cgx (ih cy :) ?_
   refine ro (qcj ?_)
   obtain ⟨bo, aS⟩ := qay aS
   refine qam bo (qam (qbs aW aX) ?_)
   exact eR aS (_, (_, _), _, _)
   obtain ⟨bo, aS⟩ := qay aS
   refine qam bo (qam (qbs aW aX) ?_)
   exact eR aS (_, (_, _), _, _)
   refine qam (qbs aW aX) ?_
   exact eR aS (_, (_, _), _, _)
   rw [lty w0, Jah.eq_1] at aS
   refine cT ?_
   exact eM aS (_, _, _)
   rintro ⟨t0, aT, aV⟩ cU cM ⟨bL, _⟩ rfl j0
   exact eE hm

def Jdg (n : Nat) (program : Ja) : Option (Int × Err) :=
  (Jb9 n program).bind fun x8 =>
  if x8.2.isSome then
  some (0, x8.2)
  else
  (JbG n program.Aa []).bind fun aS =>
  (chk (InI (aS + 1))).bind fun _ =>
  some ((aS + 1), none)
theorem Jec {n : Nat} {program : Ja} {aa : Option Addr} {ab : Nat} {K : Hp} {r : Int × Err}
    (hm : Jdg n program = some r) (hX : LiC Ja.R K aa ab 4 program.Aa ∧ GG K) :
    Fn Tryz.prog 91 [.agg #[.int .i64 program.Ab, str program.Ac, .slice aa program.Aa.length ab, .int .i64 program.Ad]] K [] (fun v K' H' => v = .tuple #[.int .i64 r.1, qcr 48 r.2] ∧ H' = []) := by
 obtain ⟨ae, hG⟩ := hX
 refine Fn.enter Tryz.func91 Tryz.call91 rfl fun F => ?_
 unfold Jdg at hm
 refine qaq ?_
 intro b1
 refine ro (qab r0 rfl (nl rfl) ?_)
 refine cb hm fun x8 q8 hm => cgx (JcE q8 :) ?_
 refine qa7 rfl ?_
 refine cs rfl rfl hm ?_ ?_ <;> intro aU hm
 exact eE hm
 refine fa rfl (ro (ld r0 rfl rfl ?_))
 refine cb hm fun aT aS hm => cgx (Jeb aS :) ?_
 refine ci hm fun hm => ?_
 exact eE hm

def qda (n : Nat) (text : Str) : Option ((List Jf) × Err) :=
  (Jdb n text).bind fun aS =>
  if aS.2.2.isSome then
  some ([], aS.2.2)
  else
  (Jb9 n aS.1).bind fun aV =>
  if aV.2.isSome then
  some ([], aV.2)
  else
  (JcO n aS.1).bind fun aT =>
  if aT.2.isSome then
  some ([], aT.2)
  else
  (Jdg n aS.1).bind fun aU =>
  if aU.2.isSome then
  some ([], aU.2)
  else
  if decide (aU.1 > 10000) then
  some ([], (some 5))
  else
  some (aT.1, none)
theorem qe8 {n : Nat} {text : Str} {K : Hp} {r : (List Jf) × Err}
    (hm : qda n text = some r) (hG : GG K) :
    Fn Tryz.prog 67 [str text] K [] (fun v K' H' => ∃ ar_0 : Option Addr, ∃ cr_0 : Nat, v = .tuple #[.slice ar_0 r.1.length cr_0, qcr 48 r.2] ∧ (0 < r.1.length → Has ar_0) ∧ H' = [qat Jf.enc ar_0 135 3 cr_0 r.1]) := by
 refine Fn.enter Tryz.func67 Tryz.call67 rfl fun F => ?_
 unfold qda at hm
 refine cb hm fun ba aY hm => cfx (Jd6 aY :) ?_
 rintro _ bd _ bc ⟨aS, aW, rfl, aT, rfl⟩
 refine qah rfl fun b4 => ?_
 refine qaa r0 rfl ⟨rfl, rfl, (nl rfl), ?_⟩
 refine qa7 rfl ?_
 refine cs rfl rfl hm ?_ ?_ <;> intro bb hm
 refine qch Jf.enc 135 3 ?_
 exact eE hm
 refine ro (qab r0 rfl (nl rfl) ?_)
 refine cb hm fun bj aZ hm => cgx (JcE aZ :) ?_
 refine qa7 rfl ?_
 refine cs rfl rfl hm ?_ ?_ <;> intro bg hm
 refine qch Jf.enc 135 3 ?_
 exact eE hm
 refine ro (qab r0 rfl (nl rfl) ?_)
 refine cb hm fun bn a6 hm => ckx (JdT a6 :) ?_
 rintro _ _ _ ⟨aU, aV, rfl, aX, rfl⟩
 refine qa7 rfl ?_
 refine cs rfl rfl hm ?_ ?_ <;> intro bh hm
 refine qch Jf.enc 135 3 ?_
 exact eE hm
 refine ro (qab r1 rfl (nl rfl) ?_)
 refine cb hm fun bl a8 hm => cgx (Jec a8 :) ?_
 refine qa7 rfl ?_
 refine cs rfl rfl hm ?_ ?_ <;> intro bm hm
 refine qch Jf.enc 135 3 ?_
 exact eE hm
 refine cs rfl rfl hm ?_ ?_ <;> intro bf hm
 refine qar rfl ?_
 refine qch Jf.enc 135 3 ?_
 exact eE hm
 exact eE hm

def qb9 (n : Nat) (d : JE) (s : JT) : Option (Err × JE) :=
  (Jc7 s.An).bind fun aT =>
  if ((aT.2.isSome || decide (aT.1 ≠ s.An)) || (mget d.sites s.An).isSome) then
  some ((some 8), d)
  else
  if (decide (s.Tenant < 0) || decide (s.Tenant ≥ 16)) then
  some ((some 1), d)
  else
  (qda n s.Program).bind fun aS =>
  if aS.2.isSome then
  some (aS.2, d)
  else
  some (none, (⟨(mset d.sites s.An (⟨s.Tenant, aS.1⟩ : Jx))⟩ : JE))
theorem qdl {n : Nat} {d : JE} {s : JT} {b0 : Nat} {aE : Nat} {aG : List (Str × EnD Jx)} {K : Hp} {r : Err × JE}
    (hm : qb9 n d s = some r) (hX : MR Jx.R K aG d.sites ∧ GG K) :
    Fn Tryz.prog 35 [.pointer (some ⟨b0, 0, none⟩), .agg #[str s.An, .int .i64 s.Tenant, str s.Program]] K [Cells b0 78 [.map (some aE)], qj3 qj2 vAg aE aG] (fun v K' H' => ∃ mr_0 : Nat, ∃ wr_0 : List (Str × EnD Jx), v = qcr 48 r.1 ∧ MR Jx.R K' wr_0 r.2.sites ∧ H' = [Cells b0 78 [.map (some mr_0)], qj3 qj2 vAg mr_0 wr_0]) := by
 obtain ⟨a6, hG⟩ := hX
 refine Fn.enter Tryz.func35 Tryz.call35 rfl fun F => ?_
 unfold qb9 at hm
 refine qaq ?_
 intro b3
 refine fa rfl (ro (ld r0 rfl rfl ?_))
 refine cb hm fun bb bm hm => cgx (JdF bm :) ?_
 refine qe4 ⟨⟨[], false⟩, _, [(_, _), (_, _)], []⟩ 13 rfl (by kernel_rfl) ⟨Hp.Le.refl _, (sc [1,0] rfl), ci0⟩ ?_
 refine qaj (fa rfl (qao m0 rfl rfl (fa rfl (qao m1 rfl rfl ?_))))
 refine qhi (kenc := qj2) (R := Jx.R) (zs := [.int .i64 0, .slice none 0 0]) (z := (⟨0, []⟩ : Jx)) r2 rfl rfl (qiy rfl) a6 (⟨none, 0, rfl, RdC.nil⟩) fun bp ba => ?_
 obtain ⟨bc, bg, rfl, bd⟩ := ba
 refine qjr rfl ?_
 intro b7
 intro br
 refine qaa r0 rfl ⟨rfl, rfl, (nl rfl), ?_⟩
 refine ⟨⟨lr, (sc [2,1] rfl), ci0⟩, ?_⟩
 refine ⟨_, .cons r5 .nil, ⟨lr, (sc [2,1] rfl), ci0⟩, ?_⟩
 refine jR (σ := Unit) (rg 26 11) (fun _ => [(36, .bool ((bb.2.isSome || decide (bb.1 ≠ s.An)) || (mget d.sites s.An).isSome))]) (fun bh => True) ?_ ?_
 refine qai rfl ?_
 refine qa7 rfl ?_
 refine qae ?_ ?_ <;> intro aT
 refine ct aT (ct aT (ct aT (ct aT (cT (cT ?_)))))
 exact eMt () ⟨bq (((qbt (qbt aT))).symm), trivial⟩
 refine cf aT (fa rfl (cf aT (ro (ld r1 rfl rfl (cf aT (qbl (cf aT ?_)))))))
 refine qae ?_ ?_ <;> intro aX
 refine ct aX ?_
 exact eMt () ⟨bq (((qbt (qfg aT aX))).symm), trivial⟩
 refine cf aX ?_
 exact eMt () ⟨bq (qgz (b := (mget d.sites s.An).isSome) (qcy aT aX)), trivial⟩
 rintro _ _ bo
 refine cs rfl rfl hm ?_ ?_ <;> intro bt hm
 refine qar rfl ?_
 exact eE hm
 refine jR (σ := Unit) (rg 38 8) (fun _ => [(45, .bool (decide (s.Tenant < 0) || decide (s.Tenant ≥ 16)))]) (fun bn => True) ?_ ?_
 refine qai rfl ?_
 refine fa rfl (ro (ld r1 rfl rfl ?_))
 refine qae ?_ ?_ <;> intro aV
 refine ct aV (ct aV (ct aV ?_))
 exact eMt () ⟨bq (((qbt aV)).symm), trivial⟩
 refine fa rfl (cf aV (ro (ld r1 rfl rfl (cf aV (cf aV ?_)))))
 exact eMt () ⟨bq (qgz (b := decide (s.Tenant ≥ 16)) aV), trivial⟩
 rintro _ _ bl
 refine cs rfl rfl hm ?_ ?_ <;> intro bv hm
 refine qar rfl ?_
 exact eE hm
 refine fa rfl (ro (ld r1 rfl rfl ?_))
 refine cb hm fun a8 bj hm => ckx (qe8 bj :) ?_
 rintro _ _ _ ⟨aY, aZ, rfl, bf, rfl⟩
 refine qa7 rfl ?_
 refine cs rfl rfl hm ?_ ?_ <;> intro bu hm
 exact eE hm
 refine qa4 ⟨⟨[], false⟩, _, [(_, _), (_, _)], []⟩ (by kernel_rfl) ⟨Hp.Le.refl _, (sc [3,2] rfl), ci0⟩ ?_
 refine qaj (fa rfl (qao m0 rfl rfl (fa rfl (qao m1 rfl rfl (fa rfl (qao m1 rfl rfl (qaf rfl rfl ?_)))))))
 refine cT (cT ?_)
 refine fW r0 fun aW aS aU => ?_
 refine qi0 (kenc := qj2) (venc := vAg) ([.int .i64 s.Tenant, .slice aY a8.1.length aZ], (⟨s.Tenant, a8.1⟩ : Jx)) rfl r3 rfl (qiy rfl) ?_
 refine qk (sc [3,2] rfl) ?_
 cases hm
 exact en aS ⟨aE, (mset aG s.An ([.int .i64 s.Tenant, .slice aY a8.1.length aZ], (⟨s.Tenant, a8.1⟩ : Jx))), rfl, (MR.set (R := Jx.R) (MR.mono Jx.R_ok a6 aS) s.An (⟨aY, aZ, rfl, aU⟩)), rfl⟩ (sc [3,0,2] rfl)

def tenant_New_L0 (n : Nat) : List JT → Nat → JE → Option (Fl (Option JE × Int × Err) (JE))
  | [], _, ac => some (Fl.go ac)
  | e0 :: aT, i0, ac =>
    (qb9 n ac e0).bind fun aS =>
    if aS.1.isSome then
    some (Fl.ret (none, (i0 : Int), aS.1))
    else
    tenant_New_L0 n aT (i0 + 1) aS.2
def qdf (n : Nat) (sites : (List JT)) : Option (Option JE × Int × Err) :=
  (chk (sites.length ≤ qbd)).bind fun _ =>
  (tenant_New_L0 n sites 0 (⟨[]⟩ : JE)).bind fun s0 => s0.el some fun t0 =>
  some ((some t0), 0, none)
theorem qem {n : Nat} {sites : (List JT)} {aa : Option Addr} {ab : Nat} {n0 : Nat} {K : Hp} {r : Option JE × Int × Err}
    (hm : qdf n sites = some r) (hX : RdC JT.enc K aa ab 3 sites ∧ n0 = sites.length ∧ GG K) :
    Fn Tryz.prog 12 [.slice aa n0 ab] K [] (fun v K' H' => match r.1 with | none => (v = .tuple #[.pointer none, .int .i64 r.2.1, qcr 48 r.2.2] ∧ H' = []) | some ro => (∃ br_0 : Nat, ∃ mr_1 : Nat, ∃ wr_1 : List (Str × EnD Jx), v = .tuple #[.pointer (some ⟨br_0, 0, none⟩), .int .i64 r.2.1, qcr 48 r.2.2] ∧ MR Jx.R K' wr_1 ro.sites ∧ H' = [Cells br_0 78 [.map (some mr_1)], qj3 qj2 vAg mr_1 wr_1])) := by
 obtain ⟨ae, bg, hG⟩ := hX
 subst bg
 refine Fn.enter Tryz.func12 Tryz.call12 rfl fun F => ?_
 unfold qdf at hm
 refine qib qj2 (venc := (vAg : EnD Jx → Value)) fun b9 => ?_
 refine qaf rfl rfl (cT ?_)
 refine qaq ?_
 intro bc
 refine ro (qak rfl ?_)
 obtain ⟨bd, hm⟩ := qay hm
 obtain ⟨s0, aU, hm⟩ := bnd hm
 refine lC (σ := (JE) × Nat × List (Str × EnD Jx)) ([2,3,4,6,7,8] ++ rg 14 13) [2] (fun i0 => [(14, .int .i64 (i0 : Int))]) (fun _ => []) (fun (t0, aS, aT) => [Cells bc 78 [.map (some aS)], qj3 qj2 vAg aS aT]) (fun zz K1 => match zz with | (t0, aS, aT) => MR Jx.R K1 aT t0.sites ∧ True) (fun i0 (t0, aS, aT) => tenant_New_L0 n (sites.drop i0) i0 t0 = some s0) (fun (t0, aS, aT) => s0 = Fl.go t0) (fun i0 => sites.length - i0) 0 ((⟨[]⟩ : JE), b9, ([] : List (Str × EnD Jx))) aU (And.intro ⟨⟨MR.nil, trivial⟩, ⟨rfl, trivial⟩, _, (sp rfl)⟩ (And.intro ?_ ?_))
 clear aU
 rintro i0 ⟨ac, aV, aW⟩ bn bb ⟨aY, _⟩ aU j0
 conv at aU => whnf
 refine qac rfl ?_
 refine qae ?_ ?_ <;> intro w0
 obtain ⟨e0, aZ, bh⟩ := ltx w0
 rw [bh, tenant_New_L0.eq_2] at aU
 refine qal rfl ?_
 refine RStep.ofN (qad rfl rfl (qdr (ae.mono bb).rd aZ) (nn _) (qbm aZ) (ro (qan i0 _ (ae.mono bb).rd rfl (mp aZ) rfl ?_)))
 refine qah rfl fun b7 => ?_
 refine qaa r0 rfl ⟨rfl, rfl, (nl rfl), ?_⟩
 refine ro (qab r0 rfl (nl rfl) ?_)
 refine cb aU fun bo bf aU => cfx (qdl bf :) ?_
 rintro _ br _ bp ⟨ba, a8, rfl, a6, rfl⟩
 refine qa7 rfl ?_
 refine cs rfl rfl aU ?_ ?_ <;> intro bm aU
 exact eE (er aU hm)
 refine qam (qbs aZ bd) ?_
 exact eR aU (_, _, _, _)
 rw [lty w0, tenant_New_L0.eq_1] at aU
 refine cT ?_
 exact eM aU (_, _, _)
 rintro ⟨t0, aS, aT⟩ bl bj ⟨aX, _⟩ rfl j0
 replace hm := elg hm
 exact eE hm

def JbH : Nat → Nat → Str → Option (Str)
  | 0, _, ac => some ac
  | aT + 1, i0, ac =>
    (ix ac (i0 : Int)).bind fun aS =>
    if (decide ((aS.toNat : Int) ≥ 65) && decide ((aS.toNat : Int) ≤ 90)) then
    (ix ac (i0 : Int)).bind fun aU =>
    JbH aT (i0 + 1) (ac.set (((i0 : Int)).toNat) (aS + (32 : UInt8)))
    else
    JbH aT (i0 + 1) ac
def JaR (s : Str) : Option (Str) :=
  (chk (s.length ≤ lim)).bind fun _ =>
  (chk (InI (s.length : Int))).bind fun _ =>
  (JbH (s.length : Int).toNat 0 s).bind fun t0 =>
  some t0
theorem JaJ {s : Str} {K : Hp} {r : Str}
    (hm : JaR s = some r)  :
    Fn Tryz.prog 51 [str s] K [] (fun v K' H' => v = str r ∧ H' = []) := by
 refine Fn.enter Tryz.func51 Tryz.call51 rfl fun F => ?_
 unfold JaR at hm
 obtain ⟨h7, hm⟩ := qay hm
 refine qfz rfl rfl rfl h7 ?_
 intro a7 c7 o7
 refine ro (qak rfl ?_)
 obtain ⟨aZ, hm⟩ := qay hm
 obtain ⟨s0, aT, hm⟩ := bnd hm
 refine lD (σ := (Str)) ([4,5] ++ rg 10 17) [1] (fun i0 => [(10, .int .i64 (i0 : Int))]) (fun _ => []) (fun t0 => [qat eU a7 5 1 c7 t0]) (fun t0 => (0 < t0.length → Has a7) ∧ s.length = t0.length) (fun i0 t0 => JbH ((s.length : Int).toNat - i0) i0 t0 = some s0) (fun t0 => t0 = s0) (fun i0 => (s.length : Int).toNat - i0) 0 _ aT (And.intro qe (And.intro ?_ ?_))
 clear aT
 rintro i0 ac ⟨aU, aV⟩ aT j0
 conv at aT => whnf
 refine qac rfl ?_
 refine qae ?_ ?_ <;> intro w0
 rw [ltn w0, JbH.eq_2] at aT
 refine qal rfl ?_
 obtain ⟨aY, ba, a6, aT⟩ := ixb aT
 refine RStep.ofN (qad rfl rfl (qcv aU a6) ba (qaw aV ba a6) (ro (qb7 (i := ((i0 : Int)).toNat) (o := 0) r0 rfl a6 rfl rfl ?_)))
 refine qai rfl ?_
 refine qae ?_ ?_ <;> intro aS
 refine ct aS (ct aS (qac rfl ?_))
 refine qae ?_ ?_ <;> intro bc
 replace aT := ift (qct aS bc) aT
 refine qhr (x := aY) (y := (32 : UInt8)) rfl rfl ?_
 obtain ⟨bd, bb, aX, aT⟩ := ixb aT
 refine RStep.ofN (qad rfl rfl (qcv aU aX) bb (qaw aV bb aX) ?_)
 refine qe0 (o := 0) (y := (aY + (32 : UInt8))) bd r0 rfl aX rfl (by (conv => whnf); exact ⟨rfl, rfl, (nl rfl), rfl, rfl, rfl⟩) ?_
 refine qam (qio w0 aZ) ?_
 exact rd (i0 + 1, (ac.set (((i0 : Int)).toNat) (aY + (32 : UInt8)))) ⟨rfl, trivial⟩ rfl (pf rfl) lr (qn4 w0) ⟨⟨(by first | simpa using aU | exact fun _ => ⟨_, _, rfl⟩), ((aV).trans List.length_set.symm)⟩, aT⟩
 replace aT := qa9 (qcu aS bc) aT
 refine qam (qio w0 aZ) ?_
 exact eR aT (_, _)
 refine cf aS (cf aS (qac rfl (cF ?_)))
 replace aT := qa9 (qbc aS) aT
 refine qam (qio w0 aZ) ?_
 exact eR aT (_, _)
 rw [lto w0, JbH.eq_1] at aT
 refine cT ?_
 exact eM aT _
 rintro t0 ⟨a8, aW⟩ rfl j0
 refine ro (qek aW r0 rfl rfl rfl ?_)
 exact eE hm

def Jba (x9 : Str) : List Jc → Nat → (List Str) → Option ((List Str))
  | [], _, ac => some ac
  | e0 :: aS, i0, ac =>
    (JaR e0.Name).bind fun aT =>
    if decide (aT = x9) then
    (chk (ac.length + [e0.Value].length ≤ lim)).bind fun _ =>
    Jba x9 aS (i0 + 1) (ac ++ [e0.Value])
    else
    Jba x9 aS (i0 + 1) ac
def JbU (f : (List Jc)) (name : Str) : Option ((List Str)) :=
  (JaR name).bind fun x9 =>
  (chk (f.length ≤ qbd)).bind fun _ =>
  (Jba x9 f 0 []).bind fun t0 =>
  some t0
theorem JcJ {f : (List Jc)} {name : Str} {aa : Option Addr} {ab : Nat} {n0 : Nat} {K : Hp} {r : (List Str)}
    (hm : JbU f name = some r) (hX : RdC Jc.enc K aa ab 2 f ∧ n0 = f.length) :
    Fn Tryz.prog 24 [.slice aa n0 ab, str name] K [] (fun v K' H' => ∃ ar_0 : Option Addr, ∃ cr_0 : Nat, v = .slice ar_0 r.length cr_0 ∧ (0 < r.length → Has ar_0) ∧ H' = [qat eS ar_0 9 1 cr_0 r]) := by
 obtain ⟨ae, bb⟩ := hX
 subst bb
 refine Fn.enter Tryz.func24 Tryz.call24 rfl fun F => ?_
 unfold JbU at hm
 refine cb hm fun x9 q9 hm => cg0 (JaJ q9 :) ?_
 refine ro (qak rfl ?_)
 obtain ⟨aY, hm⟩ := qay hm
 obtain ⟨s0, aU, hm⟩ := bnd hm
 refine qgv eS 9 1 ?_
 refine lD (σ := ((List Str)) × Option Addr × Nat) ([5,7] ++ rg 12 15) [1] (fun i0 => [(12, .int .i64 (i0 : Int))]) (fun (t0, aS, aT) => [(5, .slice aS t0.length aT)]) (fun (t0, aS, aT) => [qat eS aS 9 1 aT t0]) (fun (t0, aS, aT) => (0 < t0.length → Has aS) ∧ True) (fun i0 (t0, aS, aT) => Jba x9 (f.drop i0) i0 t0 = some s0) (fun (t0, aS, aT) => t0 = s0) (fun i0 => f.length - i0) 0 (_, _, _) aU (And.intro qe (And.intro ?_ ?_))
 clear aU
 rintro i0 ⟨ac, a6, aZ⟩ ⟨aW, _⟩ aU j0
 conv at aU => whnf
 refine qac rfl ?_
 refine qae ?_ ?_ <;> intro w0
 obtain ⟨e0, aV, bc⟩ := ltx w0
 rw [bc, Jba.eq_2] at aU
 refine qal rfl ?_
 refine RStep.ofN (qad rfl rfl (qdr ae.rd aV) (nn _) (qbm aV) (ro (qan i0 _ ae.rd rfl (mp aV) rfl ?_)))
 refine qah rfl fun b7 => ?_
 refine qaa r0 rfl ⟨rfl, rfl, (nl rfl), ?_⟩
 refine fa rfl (ro (ld r0 rfl rfl ?_))
 refine cb aU fun bj ba aU => cg0 (JaJ ba :) ?_
 refine qap (cs rfl rfl aU ?_ ?_) <;> intro bh aU
 refine fa rfl (ro (ld r0 rfl rfl ?_))
 refine bsO (len := 1) (enc := eS) (l := [e0.Value]) (cl := [str e0.Value]) qb8 rfl rfl (fun _ _ => rfl) rfl rfl rfl ?_ fun bd => ?_
 · conv => whnf
   refine cT ?_
   first | done | rfl
 obtain ⟨a8, aU⟩ := qay aU
 refine apE rfl r2 qb8 (qax rfl r0 rfl (fun _ => rfl) (fun _ => rfl)) a8 ?_
 intro bl bg bf
 refine qam (qbs aV aY) ?_
 exact eR aU (_, _, _, _)
 refine qam (qbs aV aY) ?_
 exact eR aU (_, _, _, _)
 rw [lty w0, Jba.eq_1] at aU
 refine cT ?_
 exact eM aU (_, _, _)
 rintro ⟨t0, aS, aT⟩ ⟨aX, _⟩ rfl j0
 exact eE hm

def tenant_lower_L0 : Nat → Nat → Str → Option (Str)
  | 0, _, ac => some ac
  | aT + 1, i0, ac =>
    (ix ac (i0 : Int)).bind fun aS =>
    if (decide ((aS.toNat : Int) ≥ 65) && decide ((aS.toNat : Int) ≤ 90)) then
    (ix ac (i0 : Int)).bind fun aU =>
    tenant_lower_L0 aT (i0 + 1) (ac.set (((i0 : Int)).toNat) (aS + (32 : UInt8)))
    else
    tenant_lower_L0 aT (i0 + 1) ac
def qbo (s : Str) : Option (Str) :=
  (chk (s.length ≤ lim)).bind fun _ =>
  (chk (InI (s.length : Int))).bind fun _ =>
  (tenant_lower_L0 (s.length : Int).toNat 0 s).bind fun t0 =>
  some t0
theorem qds {s : Str} {K : Hp} {r : Str}
    (hm : qbo s = some r)  :
    Fn Tryz.prog 36 [str s] K [] (fun v K' H' => v = str r ∧ H' = []) := by
 refine Fn.enter Tryz.func36 Tryz.call36 rfl fun F => ?_
 unfold qbo at hm
 obtain ⟨h7, hm⟩ := qay hm
 refine qfz rfl rfl rfl h7 ?_
 intro a7 c7 o7
 refine ro (qak rfl ?_)
 obtain ⟨aZ, hm⟩ := qay hm
 obtain ⟨s0, aT, hm⟩ := bnd hm
 refine lD (σ := (Str)) ([4,5] ++ rg 10 17) [1] (fun i0 => [(10, .int .i64 (i0 : Int))]) (fun _ => []) (fun t0 => [qat eU a7 5 1 c7 t0]) (fun t0 => (0 < t0.length → Has a7) ∧ s.length = t0.length) (fun i0 t0 => tenant_lower_L0 ((s.length : Int).toNat - i0) i0 t0 = some s0) (fun t0 => t0 = s0) (fun i0 => (s.length : Int).toNat - i0) 0 _ aT (And.intro qe (And.intro ?_ ?_))
 clear aT
 rintro i0 ac ⟨aU, aV⟩ aT j0
 conv at aT => whnf
 refine qac rfl ?_
 refine qae ?_ ?_ <;> intro w0
 rw [ltn w0, tenant_lower_L0.eq_2] at aT
 refine qal rfl ?_
 obtain ⟨aY, ba, a6, aT⟩ := ixb aT
 refine RStep.ofN (qad rfl rfl (qcv aU a6) ba (qaw aV ba a6) (ro (qb7 (i := ((i0 : Int)).toNat) (o := 0) r0 rfl a6 rfl rfl ?_)))
 refine qai rfl ?_
 refine qae ?_ ?_ <;> intro aS
 refine ct aS (ct aS (qac rfl ?_))
 refine qae ?_ ?_ <;> intro bc
 replace aT := ift (qct aS bc) aT
 refine qhr (x := aY) (y := (32 : UInt8)) rfl rfl ?_
 obtain ⟨bd, bb, aX, aT⟩ := ixb aT
 refine RStep.ofN (qad rfl rfl (qcv aU aX) bb (qaw aV bb aX) ?_)
 refine qe0 (o := 0) (y := (aY + (32 : UInt8))) bd r0 rfl aX rfl (by (conv => whnf); exact ⟨rfl, rfl, (nl rfl), rfl, rfl, rfl⟩) ?_
 refine qam (qio w0 aZ) ?_
 exact rd (i0 + 1, (ac.set (((i0 : Int)).toNat) (aY + (32 : UInt8)))) ⟨rfl, trivial⟩ rfl (pf rfl) lr (qn4 w0) ⟨⟨(by first | simpa using aU | exact fun _ => ⟨_, _, rfl⟩), ((aV).trans List.length_set.symm)⟩, aT⟩
 replace aT := qa9 (qcu aS bc) aT
 refine qam (qio w0 aZ) ?_
 exact eR aT (_, _)
 refine cf aS (cf aS (qac rfl (cF ?_)))
 replace aT := qa9 (qbc aS) aT
 refine qam (qio w0 aZ) ?_
 exact eR aT (_, _)
 rw [lto w0, tenant_lower_L0.eq_1] at aT
 refine cT ?_
 exact eM aT _
 rintro t0 ⟨a8, aW⟩ rfl j0
 refine ro (qek aW r0 rfl rfl rfl ?_)
 exact eE hm

def JbN (c : UInt8) : Option (Bool) :=
  (JcU c).bind fun x4 =>
  some ((((x4 || decide ((c.toNat : Int) = 45)) || decide ((c.toNat : Int) = 46)) || decide ((c.toNat : Int) = 95)) || decide ((c.toNat : Int) = 126))
theorem JcK {c : UInt8} {K : Hp} {r : Bool}
    (hm : JbN c = some r)  :
    Fn Tryz.prog 79 [.int .u8 (c.toNat : Int)] K [] (fun v K' H' => v = .bool r ∧ H' = []) := by
 refine Fn.enter Tryz.func79 Tryz.call79 rfl fun F => ?_
 unfold JbN at hm
 refine qai rfl ?_
 refine cb hm fun x4 q4 hm => cg0 (Jdx q4 :) ?_
 refine qae ?_ ?_ <;> intro aU
 refine ct aU (ct aU (cT (cT (cT (cT (cT (cT ?_)))))))
 refine cT (cT (cT ?_))
 exact bE (((qbt (qbt (qbt (qbt aU))))).symm) (eE hm)
 refine cf aU (qag (cf aU ?_))
 refine qae ?_ ?_ <;> intro aV
 refine ct aV (ct aV (cT (cT (cT (cT (cT (cT ?_)))))))
 exact bE (((qbt (qbt (qbt (qfg aU aV))))).symm) (eE hm)
 refine cf aV (qag (cf aV ?_))
 refine qae ?_ ?_ <;> intro aS
 refine ct aS (ct aS (cT (cT (cT ?_))))
 exact bE (((qbt (qbt (qfg (qcy aU aV) aS)))).symm) (eE hm)
 refine cf aS (qag (cf aS ?_))
 refine qae ?_ ?_ <;> intro aT
 refine ct aT (ct aT ?_)
 exact bE (((qbt (qfg (qcy (qcy aU aV) aS) aT))).symm) (eE hm)
 refine cf aT (qag (cf aT ?_))
 exact bE (qgz (b := decide ((c.toNat : Int) = 126)) (qcy (qcy (qcy aU aV) aS) aT)) (eE hm)

def Jb0 (c : UInt8) : Option (Int) :=
  if (decide ((c.toNat : Int) ≥ 48) && decide ((c.toNat : Int) ≤ 57)) then
  some ((c - (48 : UInt8)).toNat : Int)
  else
  if (decide ((c.toNat : Int) ≥ 97) && decide ((c.toNat : Int) ≤ 102)) then
  (chk (InI (((c - (97 : UInt8)).toNat : Int) + 10))).bind fun _ =>
  some (((c - (97 : UInt8)).toNat : Int) + 10)
  else
  if (decide ((c.toNat : Int) ≥ 65) && decide ((c.toNat : Int) ≤ 70)) then
  (chk (InI (((c - (65 : UInt8)).toNat : Int) + 10))).bind fun _ =>
  some (((c - (65 : UInt8)).toNat : Int) + 10)
  else
  some (-1)
theorem Jce {c : UInt8} {K : Hp} {r : Int}
    (hm : Jb0 c = some r)  :
    Fn Tryz.prog 81 [.int .u8 (c.toNat : Int)] K [] (fun v K' H' => v = .int .i64 r ∧ H' = []) := by
 refine Fn.enter Tryz.func81 Tryz.call81 rfl fun F => ?_
 unfold Jb0 at hm
 refine qal rfl ?_
 refine jR (σ := Unit) (rg 3 7) (fun _ => [(3, .bool (decide ((c.toNat : Int) ≥ 48) && decide ((c.toNat : Int) ≤ 57)))]) (fun aY => True) ?_ ?_
 refine qai rfl ?_
 refine qae ?_ ?_ <;> intro aU
 refine ct aU (ct aU ?_)
 exact eMt () ⟨bq (qcw (b := decide ((c.toNat : Int) ≤ 57)) aU), trivial⟩
 refine cf aU (cf aU ?_)
 exact eMt () ⟨bq (((qbc aU)).symm), trivial⟩
 rintro _ _ aZ
 refine cs rfl rfl hm ?_ ?_ <;> intro w3 hm
 refine qhs (x := c) (y := (48 : UInt8)) rfl rfl (qfy rfl rfl (qo1 (c - (48 : UInt8))) ?_)
 exact eE hm
 refine jR (σ := Unit) (rg 13 7) (fun _ => [(13, .bool (decide ((c.toNat : Int) ≥ 97) && decide ((c.toNat : Int) ≤ 102)))]) (fun aX => True) ?_ ?_
 refine qai rfl ?_
 refine qae ?_ ?_ <;> intro aT
 refine ct aT (ct aT ?_)
 exact eMt () ⟨bq (qcw (b := decide ((c.toNat : Int) ≤ 102)) aT), trivial⟩
 refine cf aT (cf aT ?_)
 exact eMt () ⟨bq (((qbc aT)).symm), trivial⟩
 rintro _ _ aW
 refine cs rfl rfl hm ?_ ?_ <;> intro a6 hm
 refine qhs (x := c) (y := (97 : UInt8)) rfl rfl (qfy rfl rfl (qo1 (c - (97 : UInt8))) ?_)
 refine ci hm fun hm => ?_
 exact eE hm
 refine qai rfl ?_
 refine qae ?_ ?_ <;> intro aS
 refine ct aS (ct aS (qac rfl ?_))
 refine qae ?_ ?_ <;> intro aV
 replace hm := ift (qct aS aV) hm
 refine qhs (x := c) (y := (65 : UInt8)) rfl rfl (qfy rfl rfl (qo1 (c - (65 : UInt8))) ?_)
 refine ci hm fun hm => ?_
 exact eE hm
 replace hm := qa9 (qcu aS aV) hm
 exact eE hm
 refine cf aS (cf aS (qac rfl (cF ?_)))
 replace hm := qa9 (qbc aS) hm
 exact eE hm

def Jaj (s : Str) (others : Str) : Nat → Str → Int → Option (Fl (Str × Bool) (Str × Int))
  | 0, _, _ => none
  | aW + 1, ac, aS =>
    if decide (aS < (s.length : Int)) then
    (ix s aS).bind fun aV =>
    if decide ((aV.toNat : Int) ≠ 37) then
    (JbN aV).bind fun ba =>
    (if (!ba) then (qgs others aV).bind fun bj =>
    some (decide (bj < 0)) else some false).bind fun bm =>
    if bm then
    some (Fl.ret (([] : Str), false))
    else
    (chk (ac.length + ([aV] : Str).length ≤ lim)).bind fun _ =>
    (chk (InI (aS + 1))).bind fun _ =>
    Jaj s others aW (ac ++ ([aV] : Str)) (aS + 1)
    else
    (((chk (InI (aS + 2))).bind fun _ =>
    (if decide ((aS + 2) ≥ (s.length : Int)) then some true else (chk (InI (aS + 1))).bind fun _ =>
    (ix s (aS + 1)).bind fun a8 =>
    (Jb0 a8).bind fun bg =>
    some (decide (bg < 0))).bind fun bf =>
    (if bf then some true else (chk (InI (aS + 2))).bind fun _ =>
    (ix s (aS + 2)).bind fun bd =>
    (Jb0 bd).bind fun bb =>
    some (decide (bb < 0))).bind fun bl =>
    some bl) : Option (Bool)).bind fun aX =>
    if aX then
    some (Fl.ret (([] : Str), false))
    else
    (chk (InI (aS + 1))).bind fun _ =>
    (ix s (aS + 1)).bind fun bh =>
    (Jb0 bh).bind fun aT =>
    (chk (InI (16 * aT))).bind fun _ =>
    (chk (InI (aS + 2))).bind fun _ =>
    (ix s (aS + 2)).bind fun a6 =>
    (Jb0 a6).bind fun aU =>
    (chk (InI ((16 * aT) + aU))).bind fun _ =>
    (chk (InI (aS + 2))).bind fun _ =>
    if (decide (((qhz ((16 * aT) + aU)).toNat : Int) < 32) || decide (((qhz ((16 * aT) + aU)).toNat : Int) = 127)) then
    some (Fl.ret (([] : Str), false))
    else
    (JbN (qhz ((16 * aT) + aU))).bind fun bc =>
    if bc then
    (chk (ac.length + ([(qhz ((16 * aT) + aU))] : Str).length ≤ lim)).bind fun _ =>
    (chk (InI ((aS + 2) + 1))).bind fun _ =>
    Jaj s others aW (ac ++ ([(qhz ((16 * aT) + aU))] : Str)) ((aS + 2) + 1)
    else
    (ix ([48, 49, 50, 51, 52, 53, 54, 55, 56, 57, 65, 66, 67, 68, 69, 70] : Str) (((qhz ((16 * aT) + aU)) / 16).toNat : Int)).bind fun aZ =>
    (ix ([48, 49, 50, 51, 52, 53, 54, 55, 56, 57, 65, 66, 67, 68, 69, 70] : Str) (((qhz ((16 * aT) + aU)) &&& (15 : UInt8)).toNat : Int)).bind fun aY =>
    (chk (ac.length + ([(37 : UInt8), aZ, aY] : Str).length ≤ lim)).bind fun _ =>
    (chk (InI ((aS + 2) + 1))).bind fun _ =>
    Jaj s others aW (ac ++ ([(37 : UInt8), aZ, aY] : Str)) ((aS + 2) + 1)
    else
    some (Fl.go (ac, aS))
def Jb1 (n : Nat) (s : Str) (others : Str) : Option (Str × Bool) :=
  (Jaj s others n [] 0).bind fun s0 => s0.el some fun t0 =>
  some (t0.1, true)
theorem JcS {n : Nat} {s : Str} {others : Str} {K : Hp} {r : Str × Bool}
    (hm : Jb1 n s others = some r)  :
    Fn Tryz.prog 46 [str s, str others] K [] (fun v K' H' => v = .tuple #[str r.1, .bool r.2] ∧ H' = []) := by
 refine Fn.enter Tryz.func46 Tryz.call46 rfl fun F => ?_
 unfold Jb1 at hm
 obtain ⟨s0, aS, hm⟩ := bnd hm
 refine qgv eU 5 1 ?_
 refine lD (σ := (Str × Int) × Option Addr × Nat) (rg 4 86) [1] (fun _ => []) (fun (t0, aY, aZ) => [(6, .slice aY t0.1.length aZ), (7, .int .i64 t0.2)]) (fun (t0, aY, aZ) => [qat eU aY 5 1 aZ t0.1]) (fun (t0, aY, aZ) => (0 < t0.1.length → Has aY) ∧ True) (fun i0 (t0, aY, aZ) => Jaj s others i0 t0.1 t0.2 = some s0) (fun (t0, aY, aZ) => s0 = Fl.go t0) (fun i0 => i0) n ((_, _), _, _) aS (And.intro qe (And.intro ?_ ?_))
 clear aS
 rintro i0 ⟨⟨ac, bt⟩, bm, bl⟩ ⟨bj, _⟩ aS j0
 dsimp only at aS ⊢
 cases i0 with
 | zero => rw [Jaj.eq_1] at aS; cases aS
 | succ i0 =>
  rw [Jaj.eq_2] at aS
  refine ro (qa2 rfl ?_)
  refine cs rfl rfl aS ?_ ?_ <;> intro cP aS
  refine qal rfl ?_
  obtain ⟨bf, bH, bY, aS⟩ := ixb aS
  refine qaz rfl bH bY (qa3 ?_)
  refine cs rfl rfl aS ?_ ?_ <;> intro cQ aS
  refine qai rfl ?_
  refine cb aS fun cD bF aS => cg0 (JcK bF :) ?_
  refine qav ?_
  obtain ⟨cC, bb, aS⟩ := bnd aS
  refine cS bb (fun aW bb => ?_) fun aW bb => ?_
  refine ct aW (ct aW ?_)
  refine cb bb fun cw bX bb => cg0 (qim bX) ?_
  refine ct aW (ct aW (qac rfl ?_))
  refine qae ?_ ?_ <;> intro bo
  replace aS := ift ((si bb).symm.trans bo) aS
  exact eE (er aS hm)
  replace aS := qa9 ((si bb).symm.trans bo) aS
  refine bsO (len := 1) (enc := eU) (l := ([bf] : Str)) (cl := [.int .u8 (bf.toNat : Int)]) qcl rfl rfl (fun _ _ => rfl) rfl rfl rfl ?_ fun bU => ?_
  · conv => whnf
    refine cT ?_
    first | done | rfl
  obtain ⟨bh, aS⟩ := qay aS
  refine apE rfl r1 qcl (qax rfl r0 rfl (fun _ => rfl) (fun _ => rfl)) bh ?_
  intro bS bQ bN
  refine cT ?_
  refine ci aS fun aS => ?_
  exact eR aS (_, (_, _), _, _)
  refine cf aW (cf aW (cf aW (cf aW (qac rfl (cF ?_)))))
  replace aS := qa9 (si bb).symm aS
  refine bsO (len := 1) (enc := eU) (l := ([bf] : Str)) (cl := [.int .u8 (bf.toNat : Int)]) qcl rfl rfl (fun _ _ => rfl) rfl rfl rfl ?_ fun bU => ?_
  · conv => whnf
    refine cT ?_
    first | done | rfl
  obtain ⟨bh, aS⟩ := qay aS
  refine apE rfl r1 qcl (qax rfl r0 rfl (fun _ => rfl) (fun _ => rfl)) bh ?_
  intro bS bQ bN
  refine cT ?_
  refine ci aS fun aS => ?_
  exact eR aS (_, (_, _), _, _)
  obtain ⟨bg, aV, aS⟩ := bnd aS
  refine jR (σ := Bool) (rg 33 21) (fun ba => [(53, .bool ba)]) (fun ba => ba = bg) ?_ ?_
  refine qai rfl ?_
  obtain ⟨bJ, aV⟩ := qay aV
  refine qam bJ (ro (qa2 rfl ?_))
  obtain ⟨cJ, a8, aV⟩ := bnd aV
  refine cS a8 (fun aU a8 => ?_) fun aU a8 => ?_
  refine ct aU (ct aU (ct aU (ct aU (ct aU (ct aU ?_)))))
  obtain ⟨bA, a6, aV⟩ := bnd aV
  replace a6 := ift (si a8).symm a6
  refine cT (cT (cT (cT (cT (cT (cT ?_))))))
  exact eMq aV _ ⟨bq (si a6), trivial⟩
  refine cf aU (cf aU ?_)
  obtain ⟨cd, a8⟩ := qay a8
  refine qam cd (cf aU ?_)
  obtain ⟨co, cm, bD, a8⟩ := ixb a8
  refine qaz rfl cm bD (cf aU ?_)
  refine cb a8 fun cO bV a8 => cg0 (Jce bV :) ?_
  refine cf aU (cf aU ?_)
  obtain ⟨bA, a6, aV⟩ := bnd aV
  refine qae ?_ ?_ <;> intro aT
  replace a6 := ift ((si a8).symm.trans aT) a6
  refine ct aT (ct aT (ct aT (ct aT (ct aT (ct aT ?_)))))
  exact eMq aV _ ⟨bq (si a6), trivial⟩
  replace a6 := qa9 ((si a8).symm.trans aT) a6
  refine cf aT (cf aT ?_)
  obtain ⟨bK, a6⟩ := qay a6
  refine qam bK (cf aT ?_)
  obtain ⟨cE, cj, bR, a6⟩ := ixb a6
  refine qaz rfl cj bR (cf aT ?_)
  refine cb a6 fun cp ce a6 => cg0 (Jce ce :) ?_
  refine cf aT (cf aT ?_)
  exact eMq aV _ ⟨bq (si a6), trivial⟩
  rintro ba rfl bG
  refine cs rfl rfl aS ?_ ?_ <;> intro cK aS
  exact eE (er aS hm)
  refine qa4 ⟨⟨[], false⟩, _, [], []⟩ (by kernel_rfl) ⟨Hp.Le.refl _, (pf rfl), ci0⟩ ?_
  refine ci aS fun aS => ?_
  obtain ⟨cu, bW, bw, aS⟩ := ixb aS
  refine qaz rfl bW bw ?_
  refine cb aS fun bc bz aS => cg0 (Jce bz :) ?_
  refine qk (pf rfl) ?_
  refine ci aS fun aS => ?_
  refine ci aS fun aS => ?_
  obtain ⟨cn, ca, bB, aS⟩ := ixb aS
  refine qaz rfl ca bB ?_
  refine cb aS fun bd bP aS => cg0 (Jce bP :) ?_
  refine qk (pf rfl) ?_
  refine ci aS fun aS => ?_
  refine qnk rfl rfl ?_
  refine ci aS fun aS => ?_
  refine jR (σ := Unit) (rg 69 6) (fun _ => [(74, .bool (decide (((qhz ((16 * bc) + bd)).toNat : Int) < 32) || decide (((qhz ((16 * bc) + bd)).toNat : Int) = 127)))]) (fun bO => True) ?_ ?_
  refine qai rfl ?_
  refine qae ?_ ?_ <;> intro aX
  refine ct aX (ct aX ?_)
  exact eMt () ⟨bq (((qbt aX)).symm), trivial⟩
  refine cf aX (qag (cf aX ?_))
  exact eMt () ⟨bq (qgz (b := decide (((qhz ((16 * bc) + bd)).toNat : Int) = 127)) aX), trivial⟩
  rintro _ _ bI
  refine cs rfl rfl aS ?_ ?_ <;> intro cI aS
  exact eE (er aS hm)
  refine cb aS fun cL bL aS => cg0 (JcK bL :) ?_
  refine cs rfl rfl aS ?_ ?_ <;> intro cH aS
  refine bsO (len := 1) (enc := eU) (l := ([(qhz ((16 * bc) + bd))] : Str)) (cl := [.int .u8 ((qhz ((16 * bc) + bd)).toNat : Int)]) qcl rfl rfl (fun _ _ => rfl) rfl rfl rfl ?_ fun cq => ?_
  · conv => whnf
    refine cT ?_
    first | done | rfl
  obtain ⟨bu, aS⟩ := qay aS
  refine apE rfl r1 qcl (qax rfl r0 rfl (fun _ => rfl) (fun _ => rfl)) bu ?_
  intro cy cM cG
  refine cT ?_
  refine ci aS fun aS => ?_
  exact eR aS (_, (_, _), _, _)
  refine qa4 ⟨⟨[], false⟩, _, [], []⟩ (by kernel_rfl) ⟨Hp.Le.refl _, (pf rfl), ci0⟩ ?_
  refine qot (x := (qhz ((16 * bc) + bd))) 16 rfl (by decide) (by decide) ?_
  obtain ⟨bn, bT, bM, aS⟩ := ixb aS
  refine qaz rfl bT bM ?_
  refine qou (x := (qhz ((16 * bc) + bd))) (y := (15 : UInt8)) rfl rfl ?_
  obtain ⟨br, bZ, bv, aS⟩ := ixb aS
  refine qaz rfl bZ bv ?_
  refine bsO (len := 3) (enc := eU) (l := ([(37 : UInt8), bn, br] : Str)) (cl := [.int .u8 37, .int .u8 (bn.toNat : Int), .int .u8 (br.toNat : Int)]) qcl rfl rfl (fun _ _ => rfl) rfl rfl rfl ?_ fun cr => ?_
  · conv => whnf
    refine cT (cT (cT ?_))
    first | done | rfl
  refine qk (pf rfl) ?_
  obtain ⟨bC, aS⟩ := qay aS
  refine apE rfl r1 qcl (qax rfl r0 rfl (fun _ => rfl) (fun _ => rfl)) bC ?_
  intro cN cz cR
  refine qk (pf rfl) ?_
  refine ci aS fun aS => ?_
  exact eR aS (_, (_, _), _, _)
  refine cT ?_
  exact eM aS (_, _, _)
 rintro ⟨t0, aY, aZ⟩ ⟨bp, _⟩ rfl j0
 replace hm := elg hm
 refine ro (qek rfl r0 rfl rfl rfl ?_)
 exact eE hm

def Jc8 (a : Jq) : Option (Str) :=
  if a.HasQuery then
  (chk (a.An.length + a.Ae.length ≤ lim)).bind fun _ =>
  (chk ((a.An ++ a.Ae).length + ([63] : Str).length ≤ lim)).bind fun _ =>
  (chk (((a.An ++ a.Ae) ++ ([63] : Str)).length + a.Af.length ≤ lim)).bind fun _ =>
  some (((a.An ++ a.Ae) ++ ([63] : Str)) ++ a.Af)
  else
  (chk (a.An.length + a.Ae.length ≤ lim)).bind fun _ =>
  some (a.An ++ a.Ae)
theorem JdG {a : Jq} {K : Hp} {r : Str}
    (hm : Jc8 a = some r)  :
    Fn Tryz.prog 49 [.agg #[str a.An, str a.Ae, str a.Af, .bool a.HasQuery]] K [] (fun v K' H' => v = str r ∧ H' = []) := by
 refine Fn.enter Tryz.func49 Tryz.call49 rfl fun F => ?_
 unfold Jc8 at hm
 refine qaq ?_
 intro b1
 refine fa rfl (ro (ld r0 rfl rfl ?_))
 refine cs rfl rfl hm ?_ ?_ <;> intro w4 hm
 refine fa rfl (ro (ld r0 rfl rfl (fa rfl (ro (ld r0 rfl rfl ?_)))))
 obtain ⟨h9, hm⟩ := qay hm
 refine qbv h9 ?_
 obtain ⟨aT, hm⟩ := qay hm
 refine qbv aT ?_
 refine fa rfl (ro (ld r0 rfl rfl ?_))
 obtain ⟨aS, hm⟩ := qay hm
 refine qbv aS ?_
 exact eE hm
 refine fa rfl (ro (ld r0 rfl rfl (fa rfl (ro (ld r0 rfl rfl ?_)))))
 obtain ⟨aU, hm⟩ := qay hm
 refine qbv aU ?_
 exact eE hm

def JV (aA : (List Str)) : List Str → Nat → (List Str) → Option (Fl (Jq × Err) ((List Str)))
  | [], _, ac => some (Fl.go ac)
  | e0 :: aS, i0, ac =>
    if decide (e0 = ([46] : Str)) then
    if decide (e0 = ([46, 46] : Str)) then
    if decide ((ac.length : Int) = 0) then
    some (Fl.ret ((⟨([] : Str), ([] : Str), ([] : Str), false⟩ : Jq), (some 27)))
    else
    (chk (InI ((ac.length : Int) - 1))).bind fun _ =>
    (chk (0 ≤ (0 : Int) ∧ (0 : Int) ≤ ((ac.length : Int) - 1) ∧ ((ac.length : Int) - 1) ≤ (ac.length : Int))).bind fun _ =>
    (chk (InI ((aA.length : Int) - 1))).bind fun _ =>
    if decide ((i0 : Int) = ((aA.length : Int) - 1)) then
    (chk ((subL ac (0 : Int) ((ac.length : Int) - 1)).length + ([([] : Str)]).length ≤ lim)).bind fun _ =>
    JV aA aS (i0 + 1) ((subL ac (0 : Int) ((ac.length : Int) - 1)) ++ [([] : Str)])
    else
    JV aA aS (i0 + 1) (subL ac (0 : Int) ((ac.length : Int) - 1))
    else
    (chk (InI ((aA.length : Int) - 1))).bind fun _ =>
    if decide ((i0 : Int) = ((aA.length : Int) - 1)) then
    (chk (ac.length + ([([] : Str)]).length ≤ lim)).bind fun _ =>
    JV aA aS (i0 + 1) (ac ++ [([] : Str)])
    else
    JV aA aS (i0 + 1) ac
    else
    if decide (e0 = ([46, 46] : Str)) then
    if decide (e0 = ([46, 46] : Str)) then
    if decide ((ac.length : Int) = 0) then
    some (Fl.ret ((⟨([] : Str), ([] : Str), ([] : Str), false⟩ : Jq), (some 27)))
    else
    (chk (InI ((ac.length : Int) - 1))).bind fun _ =>
    (chk (0 ≤ (0 : Int) ∧ (0 : Int) ≤ ((ac.length : Int) - 1) ∧ ((ac.length : Int) - 1) ≤ (ac.length : Int))).bind fun _ =>
    (chk (InI ((aA.length : Int) - 1))).bind fun _ =>
    if decide ((i0 : Int) = ((aA.length : Int) - 1)) then
    (chk ((subL ac (0 : Int) ((ac.length : Int) - 1)).length + ([([] : Str)]).length ≤ lim)).bind fun _ =>
    JV aA aS (i0 + 1) ((subL ac (0 : Int) ((ac.length : Int) - 1)) ++ [([] : Str)])
    else
    JV aA aS (i0 + 1) (subL ac (0 : Int) ((ac.length : Int) - 1))
    else
    (chk (InI ((aA.length : Int) - 1))).bind fun _ =>
    if decide ((i0 : Int) = ((aA.length : Int) - 1)) then
    (chk (ac.length + ([([] : Str)]).length ≤ lim)).bind fun _ =>
    JV aA aS (i0 + 1) (ac ++ [([] : Str)])
    else
    JV aA aS (i0 + 1) ac
    else
    (chk (ac.length + [e0].length ≤ lim)).bind fun _ =>
    JV aA aS (i0 + 1) (ac ++ [e0])
def Jb2 (n : Nat) (host : Str) (target : Str) : Option (Jq × Err) :=
  (Jc7 host).bind fun aV =>
  if aV.2.isSome then
  some ((⟨([] : Str), ([] : Str), ([] : Str), false⟩ : Jq), aV.2)
  else
  (qn5 target ([63] : Str)).bind fun aU =>
  (if decide (aU.1 = ([] : Str)) then some true else (ix aU.1 0).bind fun aZ =>
  some (decide ((aZ.toNat : Int) ≠ 47))).bind fun aY =>
  if aY then
  some ((⟨([] : Str), ([] : Str), ([] : Str), false⟩ : Jq), (some 27))
  else
  (Jb1 n aU.1 ([33, 36, 38, 39, 40, 41, 42, 43, 44, 59, 61, 58, 64, 47] : Str)).bind fun aT =>
  (Jb1 n aU.2.1 ([33, 36, 38, 39, 40, 41, 42, 43, 44, 59, 61, 58, 64, 47, 63] : Str)).bind fun aX =>
  if ((!aT.2) || (!aX.2)) then
  some ((⟨([] : Str), ([] : Str), ([] : Str), false⟩ : Jq), (some 27))
  else
  (chk (0 ≤ (1 : Int) ∧ (1 : Int) ≤ (aT.1.length : Int) ∧ (aT.1.length : Int) ≤ (aT.1.length : Int))).bind fun _ =>
  (qgt (subL aT.1 (1 : Int) (aT.1.length : Int)) ([47] : Str)).bind fun aA =>
  (chk (aA.length ≤ qbd)).bind fun _ =>
  (JV aA aA 0 []).bind fun s0 => s0.el some fun t0 =>
  (qj8 t0 ([47] : Str)).bind fun aS =>
  (chk (([47] : Str).length + aS.length ≤ lim)).bind fun _ =>
  (Jc8 (⟨aV.1, (([47] : Str) ++ aS), aX.1, aU.2.2⟩ : Jq)).bind fun aW =>
  if decide ((aW.length : Int) > 1024) then
  some ((⟨([] : Str), ([] : Str), ([] : Str), false⟩ : Jq), (some 5))
  else
  some ((⟨aV.1, (([47] : Str) ++ aS), aX.1, aU.2.2⟩ : Jq), none)
theorem Jcf {n : Nat} {host : Str} {target : Str} {K : Hp} {r : Jq × Err}
    (hm : Jb2 n host target = some r) (hG : GG K) :
    Fn Tryz.prog 14 [str host, str target] K [] (fun v K' H' => v = .tuple #[.agg #[str r.1.An, str r.1.Ae, str r.1.Af, .bool r.1.HasQuery], qcr 48 r.2] ∧ H' = []) := by
 refine Fn.enter Tryz.func14 Tryz.call14 rfl fun F => ?_
 unfold Jb2 at hm
 refine qah rfl fun b4 => ?_
 refine cb hm fun cn bJ hm => cgx (JdF bJ :) ?_
 refine qa7 rfl ?_
 refine cs rfl rfl hm ?_ ?_ <;> intro ca hm
 refine qaf rfl rfl ?_
 refine qaa r0 rfl ⟨rfl, rfl, (nl rfl), ?_⟩
 exact ro (qab r0 rfl (nl rfl) (eE hm))
 refine cb hm fun ce bT hm => cg0 (qll bT (gg0 hG)) ?_
 obtain ⟨bz, aX, hm⟩ := bnd hm
 refine jR (σ := Bool) (rg 33 7) (fun a6 => [(39, .bool a6)]) (fun a6 => a6 = bz) ?_ ?_
 replace aX := bsm aX
 refine qai rfl ?_
 refine qap ?_
 obtain ⟨cm, bf, aX⟩ := bnd aX
 refine cS bf (fun aU bf => ?_) fun aU bf => ?_
 refine ct aU (ct aU (ct aU ?_))
 exact eMq aX _ ⟨bq (si bf), trivial⟩
 refine cf aU ?_
 obtain ⟨cr, bS, bQ, bf⟩ := ixb bf
 refine qaz rfl bS bQ (cf aU (qa3 (cf aU ?_)))
 exact eMq aX _ ⟨bq (si bf), trivial⟩
 rintro a6 rfl bL
 refine cs rfl rfl hm ?_ ?_ <;> intro cd hm
 refine qaf rfl rfl ?_
 refine qar rfl ?_
 refine qaa r0 rfl ⟨rfl, rfl, (nl rfl), ?_⟩
 exact ro (qab r0 rfl (nl rfl) (eE hm))
 refine cb hm fun bY bK hm => cg0 (JcS bK :) ?_
 refine cb hm fun bF bI hm => cg0 (JcS bI :) ?_
 refine jR (σ := Unit) (rg 52 6) (fun _ => [(57, .bool ((!bY.2) || (!bF.2)))]) (fun bX => True) ?_ ?_
 refine qai rfl ?_
 refine qav ?_
 refine qae ?_ ?_ <;> intro aW
 refine ct aW (ct aW ?_)
 exact eMt () ⟨bq (((qbt (qfh (qj4 aW)))).symm), trivial⟩
 refine cf aW (qav (cf aW ?_))
 exact eMt () ⟨bq (qgz (b := (!bF.2)) (qdj (qh0 aW))), trivial⟩
 rintro _ _ bM
 refine cs rfl rfl hm ?_ ?_ <;> intro co hm
 refine qaf rfl rfl ?_
 refine qar rfl ?_
 refine qaa r0 rfl ⟨rfl, rfl, (nl rfl), ?_⟩
 exact ro (qab r0 rfl (nl rfl) (eE hm))
 obtain ⟨bR, hm⟩ := qay hm
 refine RStep.ofN (qd1 (lo := (some 1)) (hi := none) rfl bR ?_)
 refine cb hm fun aA bW hm => ck0 (qf2 bW (gg0 hG)) ?_
 rintro _ _ _ ⟨bA, bD, rfl, bj, rfl⟩
 refine ro (qak rfl ?_)
 obtain ⟨aZ, hm⟩ := qay hm
 obtain ⟨s0, aS, hm⟩ := bnd hm
 refine qgv eS 9 1 ?_
 refine lD (σ := ((List Str)) × Option Addr × Nat) ([5,13,15,16] ++ rg 65 34) [1, 2, 3] (fun i0 => [(65, .int .i64 (i0 : Int))]) (fun (t0, aT, aV) => [(13, .slice aT t0.length aV)]) (fun (t0, aT, aV) => [qat eS aT 9 1 aV t0]) (fun (t0, aT, aV) => (0 < t0.length → Has aT) ∧ True) (fun i0 (t0, aT, aV) => JV aA (aA.drop i0) i0 t0 = some s0) (fun (t0, aT, aV) => s0 = Fl.go t0) (fun i0 => aA.length - i0) 0 (_, _, _) aS (And.intro qe (And.intro ?_ ?_))
 clear aS
 rintro i0 ⟨ac, bb, ba⟩ ⟨a8, _⟩ aS j0
 conv at aS => whnf
 refine qac rfl ?_
 refine qae ?_ ?_ <;> intro w0
 obtain ⟨e0, aY, bO⟩ := ltx w0
 rw [bO, JV.eq_2] at aS
 refine qal rfl ?_
 refine RStep.ofN (qad rfl rfl (qcv bj aY) (nn _) (qfi rfl aY) (ro (qb7 (i := i0) (o := 0) r1 rfl aY rfl rfl ?_)))
 refine qal rfl ?_
 refine qap (cs rfl rfl aS ?_ ?_) <;> intro bC aS
 refine qac rfl (ct bC (qap ?_))
 refine cs rfl rfl aS ?_ ?_ <;> intro bG aS
 refine ro (qak rfl (qag ?_))
 refine cs rfl rfl aS ?_ ?_ <;> intro bN aS
 refine qaf rfl rfl ?_
 refine qar rfl ?_
 refine qaa r2 rfl ⟨rfl, rfl, (nl rfl), ?_⟩
 exact ro (qab r0 rfl (nl rfl) (eE (er aS hm)))
 refine ro (qak rfl ?_)
 refine ci aS fun aS => ?_
 obtain ⟨bh, aS⟩ := qay aS
 refine ql0 (l := ac) (hi := (some ((ac.length : Int) - 1))) rfl r0 (by simp) rfl rfl bh ?_
 refine ro (qak rfl ?_)
 obtain ⟨bd, aS⟩ := qay aS
 refine qam bd (qag ?_)
 refine cs rfl rfl aS ?_ ?_ <;> intro bu aS
 refine bsO (len := 1) (enc := eS) (l := [([] : Str)]) (cl := [str ([] : Str)]) qb8 rfl rfl (fun _ _ => rfl) rfl rfl rfl ?_ fun bw => ?_
 · conv => whnf
   refine cT ?_
   first | done | rfl
 obtain ⟨bc, aS⟩ := qay aS
 refine tkW ((ac.length : Int) - 1) r1 ?_
 refine apE rfl r0 qb8 (qax rfl r0 rfl (fun _ => rfl) (fun _ => rfl)) bc ?_
 intro bv bp bn
 refine qam (qbs aY aZ) ?_
 exact eR aS (_, _, _, _)
 refine qam (qbs aY aZ) ?_
 refine qpw ((ac.length : Int) - 1) r0 ?_
 exact rd (i0 + 1, (subL ac (0 : Int) ((ac.length : Int) - 1)), bb, ba) ⟨rfl, rfl, trivial⟩ rfl (pf rfl) lr (ltm aY) ⟨⟨(fun h => a8 (qgk bh h)), trivial⟩, aS⟩
 refine ro (qak rfl ?_)
 obtain ⟨bd, aS⟩ := qay aS
 refine qam bd (qag ?_)
 refine cs rfl rfl aS ?_ ?_ <;> intro bu aS
 refine bsO (len := 1) (enc := eS) (l := [([] : Str)]) (cl := [str ([] : Str)]) qb8 rfl rfl (fun _ _ => rfl) rfl rfl rfl ?_ fun bw => ?_
 · conv => whnf
   refine cT ?_
   first | done | rfl
 obtain ⟨bc, aS⟩ := qay aS
 refine apE rfl r1 qb8 (qax rfl r0 rfl (fun _ => rfl) (fun _ => rfl)) bc ?_
 intro bv bp bn
 refine qam (qbs aY aZ) ?_
 exact eR aS (_, _, _, _)
 refine qam (qbs aY aZ) ?_
 exact eR aS (_, _, _, _)
 refine qap (cs rfl rfl aS ?_ ?_) <;> intro bC aS
 refine qap (cs rfl rfl aS ?_ ?_) <;> intro bG aS
 refine ro (qak rfl (qag ?_))
 refine cs rfl rfl aS ?_ ?_ <;> intro bN aS
 refine qaf rfl rfl ?_
 refine qar rfl ?_
 refine qaa r2 rfl ⟨rfl, rfl, (nl rfl), ?_⟩
 exact ro (qab r0 rfl (nl rfl) (eE (er aS hm)))
 refine ro (qak rfl ?_)
 refine ci aS fun aS => ?_
 obtain ⟨bh, aS⟩ := qay aS
 refine ql0 (l := ac) (hi := (some ((ac.length : Int) - 1))) rfl r0 (by simp) rfl rfl bh ?_
 refine ro (qak rfl ?_)
 obtain ⟨bd, aS⟩ := qay aS
 refine qam bd (qag ?_)
 refine cs rfl rfl aS ?_ ?_ <;> intro bu aS
 refine bsO (len := 1) (enc := eS) (l := [([] : Str)]) (cl := [str ([] : Str)]) qb8 rfl rfl (fun _ _ => rfl) rfl rfl rfl ?_ fun bw => ?_
 · conv => whnf
   refine cT ?_
   first | done | rfl
 obtain ⟨bc, aS⟩ := qay aS
 refine tkW ((ac.length : Int) - 1) r1 ?_
 refine apE rfl r0 qb8 (qax rfl r0 rfl (fun _ => rfl) (fun _ => rfl)) bc ?_
 intro bv bp bn
 refine qam (qbs aY aZ) ?_
 exact eR aS (_, _, _, _)
 refine qam (qbs aY aZ) ?_
 refine qpw ((ac.length : Int) - 1) r0 ?_
 exact rd (i0 + 1, (subL ac (0 : Int) ((ac.length : Int) - 1)), bb, ba) ⟨rfl, rfl, trivial⟩ rfl (pf rfl) lr (ltm aY) ⟨⟨(fun h => a8 (qgk bh h)), trivial⟩, aS⟩
 refine ro (qak rfl ?_)
 obtain ⟨bd, aS⟩ := qay aS
 refine qam bd (qag ?_)
 refine cs rfl rfl aS ?_ ?_ <;> intro bu aS
 refine bsO (len := 1) (enc := eS) (l := [([] : Str)]) (cl := [str ([] : Str)]) qb8 rfl rfl (fun _ _ => rfl) rfl rfl rfl ?_ fun bw => ?_
 · conv => whnf
   refine cT ?_
   first | done | rfl
 obtain ⟨bc, aS⟩ := qay aS
 refine apE rfl r1 qb8 (qax rfl r0 rfl (fun _ => rfl) (fun _ => rfl)) bc ?_
 intro bv bp bn
 refine qam (qbs aY aZ) ?_
 exact eR aS (_, _, _, _)
 refine qam (qbs aY aZ) ?_
 exact eR aS (_, _, _, _)
 refine bsO (len := 1) (enc := eS) (l := [e0]) (cl := [str e0]) qb8 rfl rfl (fun _ _ => rfl) rfl rfl rfl ?_ fun cp => ?_
 · conv => whnf
   refine cT ?_
   first | done | rfl
 obtain ⟨bH, aS⟩ := qay aS
 refine apE rfl r1 qb8 (qax rfl r0 rfl (fun _ => rfl) (fun _ => rfl)) bH ?_
 intro cj bZ cq
 refine qam (qbs aY aZ) ?_
 exact eR aS (_, _, _, _)
 rw [lty w0, JV.eq_1] at aS
 refine cT ?_
 exact eM aS (_, _, _)
 rintro ⟨t0, aT, aV⟩ ⟨bB, _⟩ rfl j0
 replace hm := elg hm
 refine cb hm fun bP bm hm => ck0 (Fn.lend Tryz.call48 (fun bo bt bg => (qlj bm bg rfl)) (by exact fun _ _ _ _ h => h)) ?_
 rintro _ _ _ ⟨_, rfl, rfl, rfl⟩
 obtain ⟨br, hm⟩ := qay hm
 refine qbv br ?_
 refine qaf rfl rfl (cT (cT (cT (cT ?_))))
 refine qah rfl fun cu => ?_
 refine qaa r0 rfl ⟨rfl, rfl, (nl rfl), ?_⟩
 refine ro (qab r0 rfl (nl rfl) ?_)
 refine cb hm fun bV bl hm => cg0 (JdG bl :) ?_
 refine ro (qa2 rfl ?_)
 refine cs rfl rfl hm ?_ ?_ <;> intro bU hm
 refine qaf rfl rfl ?_
 refine qar rfl ?_
 refine qaa r3 rfl ⟨rfl, rfl, (nl rfl), ?_⟩
 exact ro (qab r0 rfl (nl rfl) (eE hm))
 refine ro (qab r0 rfl (nl rfl) ?_)
 refine qaa r3 rfl ⟨rfl, rfl, (nl rfl), ?_⟩
 exact ro (qab r0 rfl (nl rfl) (eE hm))

def Jbb (s : Str) : Option (Bool) :=
  (JcY s).bind fun x7 =>
  some x7.2.isNone
theorem JbV {s : Str} {K : Hp} {r : Bool}
    (hm : Jbb s = some r)  :
    Fn Tryz.prog 213 [str s] K [] (fun v K' H' => v = .bool r ∧ H' = []) := by
 refine Fn.enter Tryz.func213 Tryz.call213 rfl fun F => ?_
 unfold Jbb at hm
 refine cb hm fun x7 q7 hm => cg0 (Jdz q7 :) ?_
 refine qc7 rfl ?_
 exact eE hm

def JaN (s : Str) (prefixZ : Str) : Option (Str × Bool) :=
  (Jak s prefixZ).bind fun x8 =>
  if (!x8) then
  some (s, false)
  else
  (chk (0 ≤ (prefixZ.length : Int) ∧ (prefixZ.length : Int) ≤ (s.length : Int) ∧ (s.length : Int) ≤ (s.length : Int))).bind fun _ =>
  some ((subL s (prefixZ.length : Int) (s.length : Int)), true)
theorem Jcr {s : Str} {prefixZ : Str} {K : Hp} {r : Str × Bool}
    (hm : JaN s prefixZ = some r)  :
    Fn Tryz.prog 255 [str s, str prefixZ] K [] (fun v K' H' => v = .tuple #[str r.1, .bool r.2] ∧ H' = []) := by
 refine Fn.enter Tryz.func255 Tryz.call255 rfl fun F => ?_
 unfold JaN at hm
 refine cb hm fun x8 q8 hm => cg0 (Ja5 q8 :) ?_
 refine qav ?_
 refine cs rfl rfl hm ?_ ?_ <;> intro w9 hm
 exact eE hm
 refine ro (qa2 rfl ?_)
 obtain ⟨aS, hm⟩ := qay hm
 refine RStep.ofN (qd1 (lo := (some (prefixZ.length : Int))) (hi := none) rfl aS ?_)
 exact eE hm

def Jb3 (s : Str) (prefixZ : Str) : Option (Str × Bool) :=
  (JaN s prefixZ).bind fun x8 =>
  some (x8.1, x8.2)
theorem JcT {s : Str} {prefixZ : Str} {K : Hp} {r : Str × Bool}
    (hm : Jb3 s prefixZ = some r)  :
    Fn Tryz.prog 239 [str s, str prefixZ] K [] (fun v K' H' => v = .tuple #[str r.1, .bool r.2] ∧ H' = []) := by
 refine Fn.enter Tryz.func239 Tryz.call239 rfl fun F => ?_
 unfold Jb3 at hm
 refine cb hm fun x8 q8 hm => cg0 (Jcr q8 :) ?_
 exact eE hm

def JdH (s : Str) : Option (Int × Bool) :=
  if decide (s = ([112, 97, 116, 104] : Str)) then
  some (1, true)
  else
  if decide (s = ([113, 117, 101, 114, 121] : Str)) then
  some (1, true)
  else
  if decide (s = ([116, 97, 103] : Str)) then
  some (1, true)
  else
  if decide (s = ([116, 116, 108] : Str)) then
  some (1, true)
  else
  if decide (s = ([100, 101, 110, 121] : Str)) then
  some (1, true)
  else
  if decide (s = ([112, 97, 115, 115] : Str)) then
  some (0, true)
  else
  if decide (s = ([116, 111, 107, 101, 110] : Str)) then
  some (0, true)
  else
  (Jb3 s ([104, 101, 97, 100, 101, 114, 58] : Str)).bind fun aS =>
  if aS.2 then
  (Jbb aS.1).bind fun aU =>
  some (1, aU)
  else
  (Jb3 s ([118, 97, 114, 121, 58] : Str)).bind fun aT =>
  (if aT.2 then (Jbb aT.1).bind fun aV =>
  some aV else some false).bind fun aW =>
  some (0, aW)
theorem Jet {s : Str} {K : Hp} {r : Int × Bool}
    (hm : JdH s = some r)  :
    Fn Tryz.prog 214 [str s] K [] (fun v K' H' => v = .tuple #[.int .i64 r.1, .bool r.2] ∧ H' = []) := by
 refine Fn.enter Tryz.func214 Tryz.call214 rfl fun F => ?_
 unfold JdH at hm
 refine qal rfl ?_
 refine qap (cs rfl rfl hm ?_ ?_) <;> intro w9 hm
 refine qac rfl (ct w9 ?_)
 exact eE hm
 refine qap (cs rfl rfl hm ?_ ?_) <;> intro w9 hm
 refine qac rfl (ct w9 ?_)
 exact eE hm
 refine qap (cs rfl rfl hm ?_ ?_) <;> intro w9 hm
 refine qac rfl (ct w9 ?_)
 exact eE hm
 refine qap (cs rfl rfl hm ?_ ?_) <;> intro w9 hm
 refine qac rfl (ct w9 ?_)
 exact eE hm
 refine qap (cs rfl rfl hm ?_ ?_) <;> intro w9 hm
 exact eE hm
 refine qap (cs rfl rfl hm ?_ ?_) <;> intro aU hm
 refine qac rfl (ct aU ?_)
 exact eE hm
 refine qap (cs rfl rfl hm ?_ ?_) <;> intro aU hm
 exact eE hm
 refine cb hm fun aZ aV hm => cg0 (JcT aV :) ?_
 refine cs rfl rfl hm ?_ ?_ <;> intro a6 hm
 refine cb hm fun a8 aW hm => cg0 (JbV aW :) ?_
 exact eE hm
 refine cb hm fun bc aX hm => cg0 (JcT aX :) ?_
 refine qai rfl ?_
 obtain ⟨bb, aT, hm⟩ := bnd hm
 refine cS aT (fun aS aT => ?_) fun aS aT => ?_
 refine ct aS ?_
 refine cb aT fun ba aY aT => cg0 (JbV aY :) ?_
 refine ct aS ?_
 cases hm
 exact en lr ⟨(by rw [← (si aT)] <;> rfl), rfl⟩ (pf rfl)
 refine cf aS (cf aS ?_)
 cases hm
 exact en lr ⟨(by rw [← ((si aT).symm).symm] <;> rfl), rfl⟩ (pf rfl)

def Jdh (x : Jf) : Option (Int × Int × Bool) :=
  if decide (x.Op = 1) then
  some (0, 1, ((decide (x.S = ([] : Str)) && decide (x.N ≥ 0)) && decide (x.N ≤ 999999999)))
  else
  if decide (x.Op = 2) then
  (if decide (x.N = 0) then (Jbb x.S).bind fun aU =>
  some aU else some false).bind fun aV =>
  some (0, 1, aV)
  else
  if decide (x.Op = 3) then
  some (0, 1, ((decide (x.S = ([] : Str)) && decide (x.N ≥ 0)) && decide (x.N ≤ 511)))
  else
  if decide (x.Op = 4) then
  some (1, 0, ((decide (x.S = ([] : Str)) && decide (x.N ≥ 0)) && decide (x.N ≤ 511)))
  else
  if decide (x.Op = 5) then
  (if decide (x.N = 0) then (JK Jau x.S).bind fun aY =>
  some aY else some false).bind fun aA =>
  some (0, 1, aA)
  else
  if decide (x.Op = 6) then
  (if decide (x.N = 0) then (JK JaU x.S).bind fun aZ =>
  some aZ else some false).bind fun aX =>
  some (1, 1, aX)
  else
  if decide (x.Op = 7) then
  (if decide (x.N = 0) then (JK JaV x.S).bind fun aW =>
  some aW else some false).bind fun aT =>
  some (2, 1, aT)
  else
  if decide (x.Op = 8) then
  some (1, 1, (decide (x.N = 0) && decide (x.S = ([] : Str))))
  else
  if decide (x.Op = 9) then
  some (0, 0, decide (x.S = ([] : Str)))
  else
  if decide (x.Op = 10) then
  some (1, 0, decide (x.S = ([] : Str)))
  else
  if decide (x.Op = 11) then
  (JdH x.S).bind fun aS =>
  some (aS.1, 0, (decide (x.N = 0) && aS.2))
  else
  if decide (x.Op = 12) then
  some (0, 0, (decide (x.N = 0) && decide (x.S = ([] : Str))))
  else
  some (0, 0, false)
theorem Jed {x : Jf} {K : Hp} {r : Int × Int × Bool}
    (hm : Jdh x = some r) (hG : GG K) :
    Fn Tryz.prog 153 [.agg #[.int .i64 x.Op, .int .i64 x.N, str x.S]] K [] (fun v K' H' => v = .tuple #[.int .i64 r.1, .int .i64 r.2.1, .bool r.2.2] ∧ H' = []) := by
 obtain ⟨bV, bY, bG, gn_, bg, bw⟩ := gg1 hG
 subst gn_
 obtain ⟨cd, bP, bO, gn_, bm, bX⟩ := gg2 hG
 subst gn_
 obtain ⟨ca, bN, bz, gn_, br, bT⟩ := gg3 hG
 subst gn_
 refine Fn.enter Tryz.func153 Tryz.call153 rfl fun F => ?_
 unfold Jdh at hm
 refine qaq ?_
 intro b1
 refine fa rfl (ro (ld r0 rfl rfl (qag (fa rfl (ro (ld r0 rfl rfl (qap ?_)))))))
 refine jR (σ := Unit) ([7] ++ rg 14 11) (fun _ => [(7, .bool ((decide (x.S = ([] : Str)) && decide (x.N ≥ 0)) && decide (x.N ≤ 511)))]) (fun bn => True) ?_ ?_
 refine qai rfl ?_
 refine qae ?_ ?_ <;> intro aW
 refine fa rfl (ct aW (ro (ld r0 rfl rfl (ct aW (ct aW ?_)))))
 refine qae ?_ ?_ <;> intro aX
 refine fa rfl (ct aX (ro (ld r0 rfl rfl (ct aX (ct aX ?_)))))
 exact eMt () ⟨bq (qcw (b := decide (x.N ≤ 511)) (qct aW aX)), trivial⟩
 refine cf aX (cf aX (cf aX ?_))
 exact eMt () ⟨bq (((qbc (qcu aW aX))).symm), trivial⟩
 refine cf aW (cf aW (cf aW (cF (cF (cF (cF ?_))))))
 exact eMt () ⟨bq (((qbc (qbc aW))).symm), trivial⟩
 rintro _ _ bv
 refine fa rfl (ro (ld r0 rfl rfl ?_))
 refine qal rfl ?_
 refine qag (cs rfl rfl hm ?_ ?_) <;> intro bF hm
 refine qa4 ⟨⟨[], false⟩, _, [(_, _)], []⟩ (by kernel_rfl) ⟨Hp.Le.refl _, (pf rfl), ci0⟩ ?_
 refine qae ?_ ?_ <;> intro aV
 refine fa rfl (ct aV (qao m0 rfl rfl (ct aV (ct aV ?_))))
 refine qae ?_ ?_ <;> intro aY
 refine fa rfl (ct aY (qao m0 rfl rfl (ct aY (ct aY ?_))))
 cases hm
 exact en lr ⟨(by rw [← (qcw (b := decide (x.N ≤ 999999999)) (qct aV aY))] <;> rfl), rfl⟩ (sc [1] rfl)
 refine cf aY (cf aY (cf aY ?_))
 cases hm
 exact en lr ⟨(by rw [← ((qbc (qcu aV aY))).symm] <;> rfl), rfl⟩ (sc [1] rfl)
 refine cf aV (cf aV (cf aV (cF (cF (cF (cF ?_))))))
 cases hm
 exact en lr ⟨(by rw [← ((qbc (qbc aV))).symm] <;> rfl), rfl⟩ (sc [1] rfl)
 refine qag (cs rfl rfl hm ?_ ?_) <;> intro bL hm
 refine qai rfl ?_
 obtain ⟨bJ, bc, hm⟩ := bnd hm
 refine cS bc (fun a8 bc => ?_) fun a8 bc => ?_
 refine fa rfl (ct a8 (ro (ld r0 rfl rfl (ct a8 ?_))))
 refine cb bc fun bD bj bc => cg0 (JbV bj :) ?_
 refine ct a8 ?_
 cases hm
 exact en lr ⟨(by rw [← (si bc)] <;> rfl), rfl⟩ (sc [1] rfl)
 refine cf a8 (cf a8 (cf a8 ?_))
 cases hm
 exact en lr ⟨(by rw [← ((si bc).symm).symm] <;> rfl), rfl⟩ (sc [1] rfl)
 refine qag (cs rfl rfl hm ?_ ?_) <;> intro bB hm
 exact eE hm
 refine qag (cs rfl rfl hm ?_ ?_) <;> intro ce hm
 exact eE hm
 refine qag (cs rfl rfl hm ?_ ?_) <;> intro bQ hm
 refine qai rfl ?_
 obtain ⟨aA, bf, hm⟩ := bnd hm
 refine cS bf (fun aT bf => ?_) fun aT bf => ?_
 refine ro (qjs bg rfl (ct aT (fa rfl (ct aT (ro (ld r0 rfl rfl (ct aT ?_)))))))
 refine cb bf fun bM bt bf => cgx (JN bt :) ?_
 refine ct aT ?_
 cases hm
 exact en lr ⟨(by rw [← (si bf)] <;> rfl), rfl⟩ (sc [1] rfl)
 refine cf aT (cf aT (cf aT (cf aT ?_)))
 cases hm
 exact en lr ⟨(by rw [← ((si bf).symm).symm] <;> rfl), rfl⟩ (sc [1] rfl)
 refine qag (cs rfl rfl hm ?_ ?_) <;> intro bZ hm
 refine qai rfl ?_
 obtain ⟨bH, bd, hm⟩ := bnd hm
 refine cS bd (fun aS bd => ?_) fun aS bd => ?_
 refine ro (qjs bm rfl (ct aS (fa rfl (ct aS (ro (ld r0 rfl rfl (ct aS ?_)))))))
 refine cb bd fun bI bl bd => cgx (JN bl :) ?_
 refine ct aS ?_
 cases hm
 exact en lr ⟨(by rw [← (si bd)] <;> rfl), rfl⟩ (sc [1] rfl)
 refine cf aS (cf aS (cf aS (cf aS ?_)))
 cases hm
 exact en lr ⟨(by rw [← ((si bd).symm).symm] <;> rfl), rfl⟩ (sc [1] rfl)
 refine qag (cs rfl rfl hm ?_ ?_) <;> intro bR hm
 refine qai rfl ?_
 obtain ⟨bW, bb, hm⟩ := bnd hm
 refine cS bb (fun aU bb => ?_) fun aU bb => ?_
 refine ro (qjs br rfl (ct aU (fa rfl (ct aU (ro (ld r0 rfl rfl (ct aU ?_)))))))
 refine cb bb fun bK bu bb => cgx (JN bu :) ?_
 refine ct aU ?_
 cases hm
 exact en lr ⟨(by rw [← (si bb)] <;> rfl), rfl⟩ (sc [1] rfl)
 refine cf aU (cf aU (cf aU (cf aU ?_)))
 cases hm
 exact en lr ⟨(by rw [← ((si bb).symm).symm] <;> rfl), rfl⟩ (sc [1] rfl)
 refine qag (cs rfl rfl hm ?_ ?_) <;> intro bA hm
 refine qai rfl ?_
 refine qae ?_ ?_ <;> intro ba
 refine ct ba ?_
 cases hm
 exact en lr ⟨(by rw [← (qcw (b := decide (x.S = ([] : Str))) ba)] <;> rfl), rfl⟩ (sc [1] rfl)
 refine cf ba ?_
 cases hm
 exact en lr ⟨(by rw [← ((qbc ba)).symm] <;> rfl), rfl⟩ (sc [1] rfl)
 refine qag (cs rfl rfl hm ?_ ?_) <;> intro bS hm
 exact eE hm
 refine qag (cs rfl rfl hm ?_ ?_) <;> intro bC hm
 exact eE hm
 refine qag (cs rfl rfl hm ?_ ?_) <;> intro bU hm
 refine fa rfl (ro (ld r0 rfl rfl ?_))
 refine cb hm fun bh bo hm => cg0 (Jet bo :) ?_
 refine qai rfl ?_
 refine qae ?_ ?_ <;> intro aZ
 refine ct aZ ?_
 cases hm
 exact en lr ⟨(by rw [← (qcw (b := bh.2) aZ)] <;> rfl), rfl⟩ (sc [1] rfl)
 refine cf aZ ?_
 cases hm
 exact en lr ⟨(by rw [← ((qbc aZ)).symm] <;> rfl), rfl⟩ (sc [1] rfl)
 refine qag (cs rfl rfl hm ?_ ?_) <;> intro bp hm
 refine qai rfl ?_
 refine qae ?_ ?_ <;> intro a6
 refine ct a6 ?_
 cases hm
 exact en lr ⟨(by rw [← (qcw (b := decide (x.S = ([] : Str))) a6)] <;> rfl), rfl⟩ (sc [1] rfl)
 refine cf a6 ?_
 cases hm
 exact en lr ⟨(by rw [← ((qbc a6)).symm] <;> rfl), rfl⟩ (sc [1] rfl)
 exact eE hm

def Jcs (s : Jn) (slot : Int) : Option (Bool) :=
  (chk ((64 : Int) ≠ 0 ∧ InI (Int.tdiv slot 64))).bind fun _ =>
  (chk (0 ≤ (Int.tdiv slot 64) ∧ (Int.tdiv slot 64) < 8)).bind fun _ =>
  (chk (0 ≤ (Int.tmod slot 64))).bind fun _ =>
  some (decide ((u64and (qm0 (List.getD [s.At.f0, s.At.f1, s.At.f2, s.At.f3, s.At.f4, s.At.f5, s.At.f6, s.At.f7] (Int.toNat (Int.tdiv slot 64)) 0) (Int.tmod slot 64)) 1) = 1))
theorem JdI {s : Jn} {slot : Int} {K : Hp} {r : Bool}
    (hm : Jcs s slot = some r)  :
    Fn Tryz.prog 154 [.agg #[.bool s.Au, .int .i64 s.depth, .int .u64 s.At.f0, .int .u64 s.At.f1, .int .u64 s.At.f2, .int .u64 s.At.f3, .int .u64 s.At.f4, .int .u64 s.At.f5, .int .u64 s.At.f6, .int .u64 s.At.f7], .int .i64 slot] K [] (fun v K' H' => v = .bool r ∧ H' = []) := by
 refine Fn.enter Tryz.func154 Tryz.call154 rfl fun F => ?_
 unfold Jcs at hm
 refine qaq ?_
 intro b2
 obtain ⟨h6, hm⟩ := qay hm
 refine qkw h6.1 h6.2 (fa rfl ?_)
 obtain ⟨h8, hm⟩ := qay hm
 refine RStep.ofN (qby (sz := 1) rfl rfl h8.1 h8.2 (ro (qm2 (L := [s.At.f0, s.At.f1, s.At.f2, s.At.f3, s.At.f4, s.At.f5, s.At.f6, s.At.f7]) (pre := [.bool s.Au, .int .i64 s.depth]) (post := []) r0 rfl (by simp) rfl h8.1 h8.2 (qni (by decide) ?_))))
 obtain ⟨aS, hm⟩ := qay hm
 refine qnw aS ?_
 refine qja ?_
 refine qag ?_
 exact eE hm

def JaE (t : Jn) : Nat → Nat → Int → Int → Int → Int → Int → Int → Int → Int → Option (Int × Int × Int × Int × Int × Int × Int × Int)
  | 0, _, ac, aW, aV, aX, aT, aZ, aU, aY => some (ac, aW, aV, aX, aT, aZ, aU, aY)
  | a6 + 1, i0, ac, aW, aV, aX, aT, aZ, aU, aY =>
    (chk (0 ≤ (i0 : Int) ∧ (i0 : Int) < 8)).bind fun _ =>
    (chk (0 ≤ (i0 : Int) ∧ (i0 : Int) < 8)).bind fun _ =>
    (chk (0 ≤ (i0 : Int) ∧ (i0 : Int) < 8)).bind fun _ =>
    (some (List.set [ac, aW, aV, aX, aT, aZ, aU, aY] (Int.toNat (i0 : Int)) (u64and (List.getD [ac, aW, aV, aX, aT, aZ, aU, aY] (Int.toNat (i0 : Int)) 0) (List.getD [t.At.f0, t.At.f1, t.At.f2, t.At.f3, t.At.f4, t.At.f5, t.At.f6, t.At.f7] (Int.toNat (i0 : Int)) 0)))).bind fun aS =>
    JaE t a6 (i0 + 1) (List.getD aS 0 0) (List.getD aS 1 0) (List.getD aS 2 0) (List.getD aS 3 0) (List.getD aS 4 0) (List.getD aS 5 0) (List.getD aS 6 0) (List.getD aS 7 0)
def Jc3 (s : Jn) (t : Jn) : Option (Bool × Jn) :=
  if (!s.Au) then
  some (true, t)
  else
  (chk (InI (8 : Int))).bind fun _ =>
  (JaE t (8 : Int).toNat 0 s.At.f0 s.At.f1 s.At.f2 s.At.f3 s.At.f4 s.At.f5 s.At.f6 s.At.f7).bind fun t0 =>
  some (decide (s.depth = t.depth), (⟨s.Au, s.depth, (⟨t0.1, t0.2.1, t0.2.2.1, t0.2.2.2.1, t0.2.2.2.2.1, t0.2.2.2.2.2.1, t0.2.2.2.2.2.2.1, t0.2.2.2.2.2.2.2⟩ : JaF)⟩ : Jn))
theorem JeF {s : Jn} {t : Jn} {b0 : Nat} {K : Hp} {r : Bool × Jn}
    (hm : Jc3 s t = some r)  :
    Fn Tryz.prog 155 [.pointer (some ⟨b0, 0, none⟩), .agg #[.bool t.Au, .int .i64 t.depth, .int .u64 t.At.f0, .int .u64 t.At.f1, .int .u64 t.At.f2, .int .u64 t.At.f3, .int .u64 t.At.f4, .int .u64 t.At.f5, .int .u64 t.At.f6, .int .u64 t.At.f7]] K [Cells b0 228 [.bool s.Au, .int .i64 s.depth, .int .u64 s.At.f0, .int .u64 s.At.f1, .int .u64 s.At.f2, .int .u64 s.At.f3, .int .u64 s.At.f4, .int .u64 s.At.f5, .int .u64 s.At.f6, .int .u64 s.At.f7]] (fun v K' H' => v = .bool r.1 ∧ H' = [Cells b0 228 [.bool r.2.Au, .int .i64 r.2.depth, .int .u64 r.2.At.f0, .int .u64 r.2.At.f1, .int .u64 r.2.At.f2, .int .u64 r.2.At.f3, .int .u64 r.2.At.f4, .int .u64 r.2.At.f5, .int .u64 r.2.At.f6, .int .u64 r.2.At.f7]]) := by
 refine Fn.enter Tryz.func155 Tryz.call155 rfl fun F => ?_
 unfold Jc3 at hm
 refine qaq ?_
 intro b3
 refine qaj (fa rfl (ro (ld r1 rfl rfl (qav ?_))))
 refine cs rfl rfl hm ?_ ?_ <;> intro bg hm
 refine ro (qab r0 rfl (nl rfl) (qaj ?_))
 refine qaa r1 rfl ⟨rfl, rfl, (nl rfl), ?_⟩
 exact eE hm
 obtain ⟨bf, hm⟩ := qay hm
 obtain ⟨s0, aT, hm⟩ := bnd hm
 refine lD (σ := (Int × Int × Int × Int × Int × Int × Int × Int)) ([5] ++ rg 14 18) [0, 2] (fun i0 => [(14, .int .i64 (i0 : Int))]) (fun _ => []) (fun t0 => [Cells b0 228 [.bool s.Au, .int .i64 s.depth, .int .u64 t0.1, .int .u64 t0.2.1, .int .u64 t0.2.2.1, .int .u64 t0.2.2.2.1, .int .u64 t0.2.2.2.2.1, .int .u64 t0.2.2.2.2.2.1, .int .u64 t0.2.2.2.2.2.2.1, .int .u64 t0.2.2.2.2.2.2.2]]) (fun _ => True) (fun i0 t0 => JaE t ((8 : Int).toNat - i0) i0 t0.1 t0.2.1 t0.2.2.1 t0.2.2.2.1 t0.2.2.2.2.1 t0.2.2.2.2.2.1 t0.2.2.2.2.2.2.1 t0.2.2.2.2.2.2.2 = some s0) (fun t0 => t0 = s0) (fun i0 => (8 : Int).toNat - i0) 0 (_, _, _, _, _, _, _, _) aT (And.intro qe (And.intro ?_ ?_))
 clear aT
 rintro i0 ⟨ac, aY, ba, aZ, aW, a8, aX, a6⟩ _ aT j0
 dsimp only at aT ⊢
 refine qac rfl ?_
 refine qae ?_ ?_ <;> intro w0
 rw [ltn (n := (8 : Int)) w0, JaE.eq_2] at aT
 refine qal rfl ?_
 refine qa1 ⟨⟨[], false⟩, _, [(_, _), (_, _)], []⟩ 13 rfl (by kernel_rfl) ⟨Hp.Le.refl _, (pf rfl), ci0⟩ ?_
 refine qaj (fa rfl ?_)
 obtain ⟨bb, aT⟩ := qay aT
 refine qby (sz := 1) rfl rfl bb.1 bb.2 ?_
 refine qf0 (L := [ac, aY, ba, aZ, aW, a8, aX, a6]) (pre := [.bool s.Au, .int .i64 s.depth]) (post := []) m0 rfl (by simp) rfl bb.1 bb.2 ?_
 refine fa rfl ?_
 obtain ⟨bc, aT⟩ := qay aT
 refine qby (sz := 1) rfl rfl bc.1 bc.2 ?_
 refine qf0 (L := [t.At.f0, t.At.f1, t.At.f2, t.At.f3, t.At.f4, t.At.f5, t.At.f6, t.At.f7]) (pre := [.bool t.Au, .int .i64 t.depth]) (post := []) m1 rfl (by simp) rfl bc.1 bc.2 ?_
 refine qja ?_
 refine qaj (fa rfl ?_)
 obtain ⟨bd, aT⟩ := qay aT
 refine qby (sz := 1) rfl rfl bd.1 bd.2 ?_
 obtain ⟨aS, aU, aT⟩ := bnd aT
 replace aU := Option.some.inj aU
 have aV : aS.length = 8 := by rw [← aU]; simp
 refine qk9 (L := [ac, aY, ba, aZ, aW, a8, aX, a6]) (pre := [.bool s.Au, .int .i64 s.depth]) (post := []) (cs' := [.bool s.Au, .int .i64 s.depth, .int .u64 (List.getD aS 0 0), .int .u64 (List.getD aS 1 0), .int .u64 (List.getD aS 2 0), .int .u64 (List.getD aS 3 0), .int .u64 (List.getD aS 4 0), .int .u64 (List.getD aS 5 0), .int .u64 (List.getD aS 6 0), .int .u64 (List.getD aS 7 0)]) r0 rfl (by simp) rfl bd.1 bd.2 aU (by rw [qo3 aV]; rfl) ?_
 refine ⟨⟨Hp.emp_le _, (pf rfl), ci0⟩, ?_⟩
 refine qam (qio w0 bf) ?_
 exact eR aT (_, (_, _, _, _, _, _, _, _))
 rw [lto (n := (8 : Int)) w0, JaE.eq_1] at aT
 refine cT ?_
 exact eM aT _
 rintro t0 _ rfl j0
 refine qa4 ⟨⟨[], false⟩, _, [(_, _), (_, _)], []⟩ (by kernel_rfl) ⟨Hp.Le.refl _, (pf rfl), ci0⟩ ?_
 refine qaj (fa rfl (qao m0 rfl rfl (fa rfl (qao m1 rfl rfl (qag ?_)))))
 exact eE hm

def Jap (s_i : Nat) (t : Jn) : Nat → Nat → (List Jn) → Option ((List Jn))
  | 0, _, ac => some ac
  | aU + 1, i0, ac =>
    (chk (0 ≤ (i0 : Int) ∧ (i0 : Int) < 8)).bind fun _ =>
    (ac[s_i]?).bind fun aS =>
    (chk (0 ≤ (i0 : Int) ∧ (i0 : Int) < 8)).bind fun _ =>
    (chk (0 ≤ (i0 : Int) ∧ (i0 : Int) < 8)).bind fun _ =>
    (some (List.set [aS.At.f0, aS.At.f1, aS.At.f2, aS.At.f3, aS.At.f4, aS.At.f5, aS.At.f6, aS.At.f7] (Int.toNat (i0 : Int)) (u64and (List.getD [aS.At.f0, aS.At.f1, aS.At.f2, aS.At.f3, aS.At.f4, aS.At.f5, aS.At.f6, aS.At.f7] (Int.toNat (i0 : Int)) 0) (List.getD [t.At.f0, t.At.f1, t.At.f2, t.At.f3, t.At.f4, t.At.f5, t.At.f6, t.At.f7] (Int.toNat (i0 : Int)) 0)))).bind fun aT =>
    Jap s_i t aU (i0 + 1) (ac.set s_i (⟨aS.Au, aS.depth, (⟨(List.getD aT 0 0), (List.getD aT 1 0), (List.getD aT 2 0), (List.getD aT 3 0), (List.getD aT 4 0), (List.getD aT 5 0), (List.getD aT 6 0), (List.getD aT 7 0)⟩ : JaF)⟩ : Jn))
def Ja1 (s : (List Jn)) (s_i : Nat) (t : Jn) : Option (Bool × (List Jn)) :=
  (s[s_i]?).bind fun aT =>
  if (!aT.Au) then
  some (true, (s.set s_i t))
  else
  (chk (InI (8 : Int))).bind fun _ =>
  (Jap s_i t (8 : Int).toNat 0 s).bind fun t0 =>
  (t0[s_i]?).bind fun aS =>
  some (decide (aS.depth = t.depth), t0)
theorem JaK {s : (List Jn)} {s_i : Nat} {t : Jn} {aO : Option Addr} {aR : Nat} {K : Hp} {r : Bool × (List Jn)}
    (hm : Ja1 s s_i t = some r) (aL : 0 < s.length → Has aO) :
    Fn Tryz.prog 155 [(qia aO (s_i * 10)), .agg #[.bool t.Au, .int .i64 t.depth, .int .u64 t.At.f0, .int .u64 t.At.f1, .int .u64 t.At.f2, .int .u64 t.At.f3, .int .u64 t.At.f4, .int .u64 t.At.f5, .int .u64 t.At.f6, .int .u64 t.At.f7]] K [qat Jn.enc aO 228 10 aR s] (fun v K' H' => v = .bool r.1 ∧ (0 < r.2.length → Has aO) ∧ s.length = r.2.length ∧ H' = [qat Jn.enc aO 228 10 aR r.2]) := by
 refine Fn.enter Tryz.func155 Tryz.call155 rfl fun F => ?_
 unfold Ja1 at hm
 obtain ⟨bf, aV, hm⟩ := bnd hm
 refine qaq ?_
 intro b3
 refine qdk (qcv aL aV) (qba rfl (qcv aL aV) (ro (qb7 (i := s_i) (o := 0) r1 rfl aV rfl rfl (qav ?_))))
 refine cs rfl rfl hm ?_ ?_ <;> intro bl hm
 refine ro (qab r0 rfl (nl rfl) (qdk (qcv aL aV) ?_))
 refine qe0 (o := 0) (y := t) bf r1 rfl aV rfl (by (conv => whnf); exact ⟨rfl, rfl, (nl rfl), rfl, rfl, rfl⟩) ?_
 cases hm
 exact en lr ⟨rfl, (by first | simpa using aL | exact fun _ => ⟨_, _, rfl⟩), ((rfl).trans List.length_set.symm), rfl⟩ (sc [0,1] rfl)
 obtain ⟨bg, hm⟩ := qay hm
 obtain ⟨s0, aT, hm⟩ := bnd hm
 refine lD (σ := ((List Jn))) ([5] ++ rg 14 18) [0, 2] (fun i0 => [(14, .int .i64 (i0 : Int))]) (fun _ => []) (fun t0 => [qat Jn.enc aO 228 10 aR t0]) (fun t0 => (0 < t0.length → Has aO) ∧ s.length = t0.length) (fun i0 t0 => Jap s_i t ((8 : Int).toNat - i0) i0 t0 = some s0) (fun t0 => t0 = s0) (fun i0 => (8 : Int).toNat - i0) 0 _ aT (And.intro qe (And.intro ?_ ?_))
 clear aT
 rintro i0 ac ⟨aX, aZ⟩ aT j0
 conv at aT => whnf
 refine qac rfl ?_
 refine qae ?_ ?_ <;> intro w0
 rw [ltn (n := (8 : Int)) w0, Jap.eq_2] at aT
 refine qal rfl ?_
 refine qa4 ⟨⟨[], true⟩, _, [], []⟩ (by kernel_rfl) ⟨Hp.Le.refl _, (pf rfl), ci0⟩ ?_
 refine qdk (qcv aL aV) (qba rfl (qcv aL aV) ?_)
 obtain ⟨a6, aT⟩ := qay aT
 refine qii (sz := 1) rfl rfl (qcv aL aV) a6.1 a6.2 ?_
 obtain ⟨aS, bc, aT⟩ := bnd aT
 refine qb7 (i := s_i) (o := 2 + (Int.toNat (i0 : Int))) r0 rfl bc (qjb (L := [aS.At.f0, aS.At.f1, aS.At.f2, aS.At.f3, aS.At.f4, aS.At.f5, aS.At.f6, aS.At.f7]) (pre := [.bool aS.Au, .int .i64 aS.depth]) (post := []) rfl a6.1 a6.2) (by omega) ?_
 refine fa rfl ?_
 obtain ⟨a8, aT⟩ := qay aT
 refine qby (sz := 1) rfl rfl a8.1 a8.2 ?_
 refine qm2 (L := [t.At.f0, t.At.f1, t.At.f2, t.At.f3, t.At.f4, t.At.f5, t.At.f6, t.At.f7]) (pre := [.bool t.Au, .int .i64 t.depth]) (post := []) r1 rfl (by simp) rfl a8.1 a8.2 ?_
 refine qja ?_
 refine qdk (qcv aL aV) (qba rfl (qcv aL aV) ?_)
 obtain ⟨ba, aT⟩ := qay aT
 refine qii (sz := 1) rfl rfl (qcv aL aV) ba.1 ba.2 ?_
 obtain ⟨aU, aW, aT⟩ := bnd aT
 replace aW := Option.some.inj aW
 have aY : aU.length = 8 := by rw [← aW]; simp
 refine qe0 (n := 1) (o := 2 + (Int.toNat (i0 : Int))) (y := (⟨aS.Au, aS.depth, (⟨(List.getD aU 0 0), (List.getD aU 1 0), (List.getD aU 2 0), (List.getD aU 3 0), (List.getD aU 4 0), (List.getD aU 5 0), (List.getD aU 6 0), (List.getD aU 7 0)⟩ : JaF)⟩ : Jn)) aS r0 rfl bc (by omega) (by rw [qbx]; exact ⟨rfl, rfl, by omega, (qhg (L := [aS.At.f0, aS.At.f1, aS.At.f2, aS.At.f3, aS.At.f4, aS.At.f5, aS.At.f6, aS.At.f7]) (pre := [.bool aS.Au, .int .i64 aS.depth]) (post := []) ba.1 ba.2).trans (by rw [aW, qo3 aY]; rfl), rfl, rfl⟩) ?_
 refine qk (pf rfl) ?_
 refine qam (qio w0 bg) ?_
 exact rd (i0 + 1, (ac.set s_i (⟨aS.Au, aS.depth, (⟨(List.getD aU 0 0), (List.getD aU 1 0), (List.getD aU 2 0), (List.getD aU 3 0), (List.getD aU 4 0), (List.getD aU 5 0), (List.getD aU 6 0), (List.getD aU 7 0)⟩ : JaF)⟩ : Jn))) ⟨rfl, trivial⟩ rfl (pf rfl) lr (qn4 w0) ⟨⟨(by first | simpa using aX | exact fun _ => ⟨_, _, rfl⟩), ((aZ).trans List.length_set.symm)⟩, aT⟩
 rw [lto (n := (8 : Int)) w0, Jap.eq_1] at aT
 refine cT ?_
 exact eM aT _
 rintro t0 ⟨bb, bd⟩ rfl j0
 refine qa4 ⟨⟨[], true⟩, _, [], []⟩ (by kernel_rfl) ⟨Hp.Le.refl _, (pf rfl), ci0⟩ ?_
 refine qdk (qcv aL aV) (qba rfl (qcv aL aV) ?_)
 obtain ⟨bj, bh, hm⟩ := bnd hm
 refine qb7 (i := s_i) (o := 1) r0 rfl bh rfl rfl ?_
 refine fa rfl ?_
 refine ld r1 rfl rfl ?_
 refine qag ?_
 exact eE hm
