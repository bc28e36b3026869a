/- Functions of the program: mirrors, and that a call returns what the mirror says. Printed by gen.py. -/
import Derived.Test.YtiaaooopklhobaaGreatDoorG3
set_option linter.unusedVariables false
set_option linter.unusedSimpArgs false
open Go Go.SL Go.Proofs
noncomputable section
set_option maxRecDepth 1000000
set_option maxHeartbeats 8000000
def Ja0 (av : (Jd → (List Ja) → Option (Jd))) (n : Nat) (c : Jd) (n' : Ja) : Option (Jd) :=
  if decide (n'.Ab = 2) then
  (Jar av n c n').bind fun x9 =>
  some x9
  else
  if decide ((n'.Aa.length : Int) > 0) then
  (ix n'.Aa 0).bind fun ba =>
  (JB n c ba).bind fun aT =>
  if decide (n'.Ab = 3) then
  (Jj aT 4 aT.Ap ([] : Str)).bind fun aS =>
  (chk (aS.2.names.length + [(⟨n'.Ac, aS.2.Ap⟩ : Jr)].length ≤ lim)).bind fun _ =>
  (chk (InI (aS.2.Ap + 1))).bind fun _ =>
  some (⟨aS.2.code, (aS.2.names ++ [(⟨n'.Ac, aS.2.Ap⟩ : Jr)]), (aS.2.Ap + 1)⟩ : Jd)
  else
  if decide (n'.Ab = 4) then
  (Jj aT 11 0 n'.Ac).bind fun aV =>
  some aV.2
  else
  if decide (n'.Ab = 5) then
  (chk (([104, 101, 97, 100, 101, 114, 58] : Str).length + n'.Ac.length ≤ lim)).bind fun _ =>
  (Jj aT 11 0 (([104, 101, 97, 100, 101, 114, 58] : Str) ++ n'.Ac)).bind fun aU =>
  some aU.2
  else
  if decide (n'.Ab = 6) then
  (chk (([118, 97, 114, 121, 58] : Str).length + n'.Ac.length ≤ lim)).bind fun _ =>
  (Jj aT 11 0 (([118, 97, 114, 121, 58] : Str) ++ n'.Ac)).bind fun aY =>
  some aY.2
  else
  if decide (n'.Ab = 7) then
  (Jj aT 11 0 ([116, 97, 103] : Str)).bind fun aX =>
  some aX.2
  else
  if decide (n'.Ab = 8) then
  (Jj aT 11 0 ([116, 116, 108] : Str)).bind fun aW =>
  some aW.2
  else
  if decide (n'.Ab = 9) then
  (Jj aT 11 0 ([100, 101, 110, 121] : Str)).bind fun a8 =>
  some a8.2
  else
  if decide (n'.Ab = 10) then
  (Jj aT 11 0 ([112, 97, 115, 115] : Str)).bind fun a6 =>
  some a6.2
  else
  if decide (n'.Ab = 11) then
  (Jj aT 11 0 ([116, 111, 107, 101, 110] : Str)).bind fun aZ =>
  some aZ.2
  else
  some aT
  else
  if decide (n'.Ab = 3) then
  (Jj c 4 c.Ap ([] : Str)).bind fun aS =>
  (chk (aS.2.names.length + [(⟨n'.Ac, aS.2.Ap⟩ : Jr)].length ≤ lim)).bind fun _ =>
  (chk (InI (aS.2.Ap + 1))).bind fun _ =>
  some (⟨aS.2.code, (aS.2.names ++ [(⟨n'.Ac, aS.2.Ap⟩ : Jr)]), (aS.2.Ap + 1)⟩ : Jd)
  else
  if decide (n'.Ab = 4) then
  (Jj c 11 0 n'.Ac).bind fun aV =>
  some aV.2
  else
  if decide (n'.Ab = 5) then
  (chk (([104, 101, 97, 100, 101, 114, 58] : Str).length + n'.Ac.length ≤ lim)).bind fun _ =>
  (Jj c 11 0 (([104, 101, 97, 100, 101, 114, 58] : Str) ++ n'.Ac)).bind fun aU =>
  some aU.2
  else
  if decide (n'.Ab = 6) then
  (chk (([118, 97, 114, 121, 58] : Str).length + n'.Ac.length ≤ lim)).bind fun _ =>
  (Jj c 11 0 (([118, 97, 114, 121, 58] : Str) ++ n'.Ac)).bind fun aY =>
  some aY.2
  else
  if decide (n'.Ab = 7) then
  (Jj c 11 0 ([116, 97, 103] : Str)).bind fun aX =>
  some aX.2
  else
  if decide (n'.Ab = 8) then
  (Jj c 11 0 ([116, 116, 108] : Str)).bind fun aW =>
  some aW.2
  else
  if decide (n'.Ab = 9) then
  (Jj c 11 0 ([100, 101, 110, 121] : Str)).bind fun a8 =>
  some a8.2
  else
  if decide (n'.Ab = 10) then
  (Jj c 11 0 ([112, 97, 115, 115] : Str)).bind fun a6 =>
  some a6.2
  else
  if decide (n'.Ab = 11) then
  (Jj c 11 0 ([116, 111, 107, 101, 110] : Str)).bind fun aZ =>
  some aZ.2
  else
  some c
theorem JcH {av : (Jd → (List Ja) → Option (Jd))} (ihrec4_0 : ∀ {c : Jd} {list : (List Ja)} {b0 : Nat} {aa : Option Addr} {ab : Nat} {ah : Option Addr} {ak : Nat} {af : Option Addr} {ag : Nat} {n1 : Nat} {K : Hp} {r : Jd} (hm : av c list = some r) (hX : (0 < c.code.length → Has aa) ∧ (0 < c.names.length → Has ah) ∧ LiC Ja.R K af ag 4 list ∧ n1 = list.length), Fn Tryz.prog 142 [.pointer (some ⟨b0, 0, none⟩), .slice af n1 ag] K [Cells b0 209 [.slice aa c.code.length ab, .slice ah c.names.length ak, .int .i64 c.Ap], qas Jf.enc aa 135 3 ab c.code, qas Jr.enc ah 290 2 ak c.names] (fun v K' H' => ∃ ar_0 : Option Addr, ∃ cr_0 : Nat, ∃ ar_1 : Option Addr, ∃ cr_1 : Nat, v = .tuple #[] ∧ (0 < r.code.length → Has ar_0) ∧ (0 < r.names.length → Has ar_1) ∧ H' = [Cells b0 209 [.slice ar_0 r.code.length cr_0, .slice ar_1 r.names.length cr_1, .int .i64 r.Ap], qas Jf.enc ar_0 135 3 cr_0 r.code, qas Jr.enc ar_1 290 2 cr_1 r.names])) {n : Nat} {c : Jd} {n' : Ja} {b0 : Nat} {aa : Option Addr} {ab : Nat} {ah : Option Addr} {ak : Nat} {af : Option Addr} {ag : Nat} {K : Hp} {r : Jd}
    (hm : Ja0 av n c n' = some r) (hX : (0 < c.code.length → Has aa) ∧ (0 < c.names.length → Has ah) ∧ LiC Ja.R K af ag 4 n'.Aa) :
    Fn Tryz.prog 197 [.pointer (some ⟨b0, 0, none⟩), .agg #[.int .i64 n'.Ab, str n'.Ac, .slice af n'.Aa.length ag, .int .i64 n'.Ad]] K [Cells b0 209 [.slice aa c.code.length ab, .slice ah c.names.length ak, .int .i64 c.Ap], qas Jf.enc aa 135 3 ab c.code, qas Jr.enc ah 290 2 ak c.names] (fun v K' H' => ∃ ar_0 : Option Addr, ∃ cr_0 : Nat, ∃ ar_1 : Option Addr, ∃ cr_1 : Nat, v = .tuple #[] ∧ (0 < r.code.length → Has ar_0) ∧ (0 < r.names.length → Has ar_1) ∧ H' = [Cells b0 209 [.slice ar_0 r.code.length cr_0, .slice ar_1 r.names.length cr_1, .int .i64 r.Ap], qas Jf.enc ar_0 135 3 cr_0 r.code, qas Jr.enc ar_1 290 2 cr_1 r.names]) := by
 obtain ⟨ae, cM, ai⟩ := hX
 refine Fn.enter Tryz.func197 Tryz.call197 rfl fun F => ?_
 unfold Ja0 at hm
 refine qaq ?_
 intro b3
 refine fa rfl (ro (ld r0 rfl rfl (qaf ?_)))
 refine cs rfl rfl hm ?_ ?_ <;> intro w6 hm
 refine ro (qab r0 rfl (nl rfl) ?_)
 refine cb hm fun x9 q9 hm => ckx (Jc0 ihrec4_0 q9 :) ?_
 rintro _ _ _ ⟨c6, du, cX, cW, rfl, di, c8, rfl⟩
 exact eE hm
 refine fa rfl (ro (ld r0 rfl rfl (ro (qak rfl ?_))))
 refine cs rfl rfl hm ?_ ?_ <;> intro dB hm
 refine fa rfl (ro (ld r0 rfl rfl ?_))
 obtain ⟨dC, cJ, cB, hm⟩ := ixb hm
 refine RStep.ofN (qad rfl rfl (qc2 ai.rd cB) cJ (qax rfl cJ cB) ?_)
 obtain ⟨df, dt, ce, cw, cz⟩ := LiR.get ai.rd cB
 obtain ⟨cN, cQ, rfl, cP⟩ := Ja.out cz
 refine ro (qan ((0 : Int).toNat) _ ce rfl cw rfl ?_)
 refine cb hm fun dD c5 hm => ckx (Jb8 c5 :) ?_
 rintro _ _ _ ⟨cO, cL, cI, cU, rfl, cR, cK, rfl⟩
 refine fa rfl (ro (ld r3 rfl rfl ?_))
 refine qal rfl ?_
 refine qaf (cs rfl rfl hm ?_ ?_) <;> intro dj hm
 refine qah (fa rfl (ro (ld r0 rfl rfl ?_)))
 refine cb hm fun bm cA hm => ckx (Jg cA :) ?_
 rintro _ _ _ ⟨a8, bn, bB, aS, rfl, bA, aV, rfl⟩
 refine qa1 ⟨⟨[], false⟩, _, [(_, _), (_, _)], []⟩ 14 rfl (by kernel_rfl) ⟨Hp.Le.refl _, (sc [0,2] rfl), ci0⟩ ?_
 refine qah (fa rfl (qao m0 rfl rfl (fa rfl (qao m1 rfl rfl (qah (fa rfl (qao m0 rfl rfl ?_)))))))
 refine qag rfl rfl (cT (cT ?_))
 refine bsO (len := 1) (enc := Jr.enc) (l := [(⟨n'.Ac, bm.2.Ap⟩ : Jr)]) (cl := [str n'.Ac, .int .i64 bm.2.Ap]) qj2 rfl rfl (fun _ _ => rfl) rfl rfl rfl ?_ fun dg => ?_
 · conv => whnf
   refine cT ?_
   first | done | rfl
 refine qk (sc [1,3] rfl) ?_
 obtain ⟨cn, hm⟩ := qaw hm
 refine apE rfl r3 qj2 (qay rfl r0 rfl (fun _ => rfl) (fun _ => rfl)) cn ?_
 intro dc dh dq
 refine qk (sc [2,3] rfl) ?_
 refine qah (fa rfl ?_)
 refine qaa r2 rfl ⟨rfl, rfl, (nl rfl), ?_⟩
 refine ⟨⟨Hp.emp_le _, (pf rfl), ci0⟩, ?_⟩
 refine qah (fa rfl (ro (ld r0 rfl rfl ?_)))
 obtain ⟨cD, hm⟩ := qaw hm
 refine qam cD (qah (fa rfl ?_))
 refine qaa r0 rfl ⟨rfl, rfl, (nl rfl), ?_⟩
 exact eE hm
 refine qaf (cs rfl rfl hm ?_ ?_) <;> intro dp hm
 refine fa rfl (ro (ld r3 rfl rfl ?_))
 refine cb hm fun cV cm hm => ckx (Jg cm :) ?_
 rintro _ _ _ ⟨bb, bN, aT, bt, rfl, aY, aZ, rfl⟩
 exact eE hm
 refine qaf (cs rfl rfl hm ?_ ?_) <;> intro dx hm
 refine fa rfl (ro (ld r3 rfl rfl ?_))
 obtain ⟨cG, hm⟩ := qaw hm
 refine qbt cG ?_
 refine cb hm fun dv cu hm => ckx (Jg cu :) ?_
 rintro _ _ _ ⟨a6, bL, bh, bW, rfl, aU, bf, rfl⟩
 exact eE hm
 refine qaf (cs rfl rfl hm ?_ ?_) <;> intro c9 hm
 refine fa rfl (ro (ld r3 rfl rfl ?_))
 obtain ⟨cC, hm⟩ := qaw hm
 refine qbt cC ?_
 refine cb hm fun dk cr hm => ckx (Jg cr :) ?_
 rintro _ _ _ ⟨bw, bu, bK, bp, rfl, ba, bR, rfl⟩
 exact eE hm
 refine qaf (cs rfl rfl hm ?_ ?_) <;> intro dy hm
 refine cb hm fun dw cE hm => ckx (Jg cE :) ?_
 rintro _ _ _ ⟨bQ, bl, bH, bX, rfl, bd, bD, rfl⟩
 exact eE hm
 refine qaf (cs rfl rfl hm ?_ ?_) <;> intro dm hm
 refine cb hm fun de cj hm => ckx (Jg cj :) ?_
 rintro _ _ _ ⟨bZ, bY, bJ, bj, rfl, ca, bM, rfl⟩
 exact eE hm
 refine qaf (cs rfl rfl hm ?_ ?_) <;> intro cY hm
 refine cb hm fun dn co hm => ckx (Jg co :) ?_
 rintro _ _ _ ⟨bS, bg, bP, bc, rfl, bT, br, rfl⟩
 exact eE hm
 refine qaf (cs rfl rfl hm ?_ ?_) <;> intro cZ hm
 refine cb hm fun dA cy hm => ckx (Jg cy :) ?_
 rintro _ _ _ ⟨bC, bF, bO, aW, rfl, bv, aX, rfl⟩
 exact eE hm
 refine qaf (cs rfl rfl hm ?_ ?_) <;> intro c4 hm
 refine cb hm fun dz cH hm => ckx (Jg cH :) ?_
 rintro _ _ _ ⟨bU, bI, bo, bG, rfl, bV, bz, rfl⟩
 exact eE hm
 exact eE hm
 refine fa rfl (ro (ld r0 rfl rfl ?_))
 refine qal rfl ?_
 refine qaf (cs rfl rfl hm ?_ ?_) <;> intro dj hm
 refine qah (fa rfl (ro (ld r1 rfl rfl ?_)))
 refine cb hm fun bm cA hm => ckx (Jg cA :) ?_
 rintro _ _ _ ⟨a8, bn, bB, aS, rfl, bA, aV, rfl⟩
 refine qa1 ⟨⟨[], false⟩, _, [(_, _), (_, _)], []⟩ 14 rfl (by kernel_rfl) ⟨Hp.Le.refl _, (sc [0,2] rfl), ci0⟩ ?_
 refine qah (fa rfl (qao m0 rfl rfl (fa rfl (qao m1 rfl rfl (qah (fa rfl (qao m0 rfl rfl ?_)))))))
 refine qag rfl rfl (cT (cT ?_))
 refine bsO (len := 1) (enc := Jr.enc) (l := [(⟨n'.Ac, bm.2.Ap⟩ : Jr)]) (cl := [str n'.Ac, .int .i64 bm.2.Ap]) qj2 rfl rfl (fun _ _ => rfl) rfl rfl rfl ?_ fun dg => ?_
 · conv => whnf
   refine cT ?_
   first | done | rfl
 refine qk (sc [1,3] rfl) ?_
 obtain ⟨cn, hm⟩ := qaw hm
 refine apE rfl r3 qj2 (qay rfl r0 rfl (fun _ => rfl) (fun _ => rfl)) cn ?_
 intro dc dh dq
 refine qk (sc [2,3] rfl) ?_
 refine qah (fa rfl ?_)
 refine qaa r2 rfl ⟨rfl, rfl, (nl rfl), ?_⟩
 refine ⟨⟨Hp.emp_le _, (pf rfl), ci0⟩, ?_⟩
 refine qah (fa rfl (ro (ld r0 rfl rfl ?_)))
 obtain ⟨cD, hm⟩ := qaw hm
 refine qam cD (qah (fa rfl ?_))
 refine qaa r0 rfl ⟨rfl, rfl, (nl rfl), ?_⟩
 exact eE hm
 refine qaf (cs rfl rfl hm ?_ ?_) <;> intro dp hm
 refine fa rfl (ro (ld r0 rfl rfl ?_))
 refine cb hm fun cV cm hm => ckx (Jg cm :) ?_
 rintro _ _ _ ⟨bb, bN, aT, bt, rfl, aY, aZ, rfl⟩
 exact eE hm
 refine qaf (cs rfl rfl hm ?_ ?_) <;> intro dx hm
 refine fa rfl (ro (ld r0 rfl rfl ?_))
 obtain ⟨cG, hm⟩ := qaw hm
 refine qbt cG ?_
 refine cb hm fun dv cu hm => ckx (Jg cu :) ?_
 rintro _ _ _ ⟨a6, bL, bh, bW, rfl, aU, bf, rfl⟩
 exact eE hm
 refine qaf (cs rfl rfl hm ?_ ?_) <;> intro c9 hm
 refine fa rfl (ro (ld r0 rfl rfl ?_))
 obtain ⟨cC, hm⟩ := qaw hm
 refine qbt cC ?_
 refine cb hm fun dk cr hm => ckx (Jg cr :) ?_
 rintro _ _ _ ⟨bw, bu, bK, bp, rfl, ba, bR, rfl⟩
 exact eE hm
 refine qaf (cs rfl rfl hm ?_ ?_) <;> intro dy hm
 refine cb hm fun dw cE hm => ckx (Jg cE :) ?_
 rintro _ _ _ ⟨bQ, bl, bH, bX, rfl, bd, bD, rfl⟩
 exact eE hm
 refine qaf (cs rfl rfl hm ?_ ?_) <;> intro dm hm
 refine cb hm fun de cj hm => ckx (Jg cj :) ?_
 rintro _ _ _ ⟨bZ, bY, bJ, bj, rfl, ca, bM, rfl⟩
 exact eE hm
 refine qaf (cs rfl rfl hm ?_ ?_) <;> intro cY hm
 refine cb hm fun dn co hm => ckx (Jg co :) ?_
 rintro _ _ _ ⟨bS, bg, bP, bc, rfl, bT, br, rfl⟩
 exact eE hm
 refine qaf (cs rfl rfl hm ?_ ?_) <;> intro cZ hm
 refine cb hm fun dA cy hm => ckx (Jg cy :) ?_
 rintro _ _ _ ⟨bC, bF, bO, aW, rfl, bv, aX, rfl⟩
 exact eE hm
 refine qaf (cs rfl rfl hm ?_ ?_) <;> intro c4 hm
 refine cb hm fun dz cH hm => ckx (Jg cH :) ?_
 rintro _ _ _ ⟨bU, bI, bo, bG, rfl, bV, bz, rfl⟩
 exact eE hm
 exact eE hm

def Jah (rec_ : (Jd → (List Ja) → Option (Jd))) (n : Nat) : List Ja → Nat → Jd → Option (Jd)
  | [], _, ac => some ac
  | e0 :: aT, i0, ac =>
    (Ja0 rec_ n ac e0).bind fun aS =>
    Jah rec_ n aT (i0 + 1) aS
def Jaf : Nat → Jd → (List Ja) → Option (Jd)
  | 0, _, _ => none
  | n + 1, c, list =>
    (chk (list.length ≤ qbh)).bind fun _ =>
    (Jah (Jaf n) n list 0 c).bind fun t0 =>
    (chk (0 ≤ (0 : Int) ∧ (0 : Int) ≤ (c.names.length : Int) ∧ (c.names.length : Int) ≤ (t0.names.length : Int))).bind fun _ =>
    some (⟨t0.code, (subL t0.names (0 : Int) (c.names.length : Int)), t0.Ap⟩ : Jd)
theorem Jc4 : ∀ {n : Nat} {c : Jd} {list : (List Ja)} {b0 : Nat} {aa : Option Addr} {ab : Nat} {ah : Option Addr} {ak : Nat} {af : Option Addr} {ag : Nat} {n1 : Nat} {K : Hp} {r : Jd}
    (hm : Jaf n c list = some r) (hX : (0 < c.code.length → Has aa) ∧ (0 < c.names.length → Has ah) ∧ LiC Ja.R K af ag 4 list ∧ n1 = list.length),
    Fn Tryz.prog 142 [.pointer (some ⟨b0, 0, none⟩), .slice af n1 ag] K [Cells b0 209 [.slice aa c.code.length ab, .slice ah c.names.length ak, .int .i64 c.Ap], qas Jf.enc aa 135 3 ab c.code, qas Jr.enc ah 290 2 ak c.names] (fun v K' H' => ∃ ar_0 : Option Addr, ∃ cr_0 : Nat, ∃ ar_1 : Option Addr, ∃ cr_1 : Nat, v = .tuple #[] ∧ (0 < r.code.length → Has ar_0) ∧ (0 < r.names.length → Has ar_1) ∧ H' = [Cells b0 209 [.slice ar_0 r.code.length cr_0, .slice ar_1 r.names.length cr_1, .int .i64 r.Ap], qas Jf.enc ar_0 135 3 cr_0 r.code, qas Jr.enc ar_1 290 2 cr_1 r.names]) := by
 intro n
 induction n with
 | zero =>
   intro c list b0 aa ab ah ak af ag n1 K r hm hX
   rw [Jaf.eq_1] at hm; cases hm
 | succ n ih =>
   intro c list b0 aa ab ah ak af ag n1 K r hm hX
   obtain ⟨ae, bv, ai, bF⟩ := hX
   subst bF
   refine Fn.enter Tryz.func142 Tryz.call142 rfl fun F => ?_
   rw [Jaf.eq_2] at hm
   refine qah (fa rfl (ro (ld r0 rfl rfl (ro (qak rfl (ro (qak rfl ?_)))))))
   obtain ⟨bA, hm⟩ := qaw hm
   obtain ⟨s0, aW, hm⟩ := bnd hm
   refine lD (σ := (Jd) × Option Addr × Nat × Option Addr × Nat) ([6] ++ rg 14 8) [3] (fun i0 => [(14, .int .i64 (i0 : Int))]) (fun _ => []) (fun (t0, aT, aU, aS, aV) => [Cells b0 209 [.slice aT t0.code.length aU, .slice aS t0.names.length aV, .int .i64 t0.Ap], qas Jf.enc aT 135 3 aU t0.code, qas Jr.enc aS 290 2 aV t0.names]) (fun (t0, aT, aU, aS, aV) => (0 < t0.code.length → Has aT) ∧ (0 < t0.names.length → Has aS)) (fun i0 (t0, aT, aU, aS, aV) => Jah (Jaf n) n (list.drop i0) i0 t0 = some s0) (fun (t0, aT, aU, aS, aV) => t0 = s0) (fun i0 => list.length - i0) 0 (_, _, _, _, _) aW (And.intro qe (And.intro ?_ ?_))
   clear aW
   rintro i0 ⟨ac, ba, a8, bd, bb⟩ ⟨aZ, a6⟩ aW j0
   conv at aW => whnf
   refine qac rfl ?_
   refine qae ?_ ?_ <;> intro w0
   obtain ⟨e0, bc, bD⟩ := ltx w0
   rw [bD, Jah.eq_2] at aW
   refine qal rfl ?_
   refine RStep.ofN (qad rfl rfl (qc2 ai.rd bc) (nn _) (qbo bc) ?_)
   obtain ⟨bC, bB, bh, bg, bf⟩ := LiR.get ai.rd bc
   obtain ⟨bp, bu, rfl, br⟩ := Ja.out bf
   refine ro (qan i0 _ bh rfl bg rfl ?_)
   refine qai rfl fun b6 => ?_
   refine qaa r0 rfl ⟨rfl, rfl, (nl rfl), ?_⟩
   refine ro (qab r0 rfl (nl rfl) ?_)
   refine cb aW fun bG bz aW => ckx (JcH ih bz :) ?_
   rintro _ _ _ ⟨bj, bo, bw, bn, rfl, bt, bl, rfl⟩
   refine qam (qbu bc bA) ?_
   exact eR aW (_, _, _, _, _, _)
   rw [lty w0, Jah.eq_1] at aW
   refine cT ?_
   exact eM aW (_, _, _, _, _)
   rintro ⟨t0, aT, aU, aS, aV⟩ ⟨aY, aX⟩ rfl j0
   refine qah (fa rfl (ro (ld r0 rfl rfl ?_)))
   obtain ⟨bm, hm⟩ := qaw hm
   refine qmr (l := t0.names) (hi := (some (c.names.length : Int))) rfl r2 (by simp) rfl rfl bm ?_
   refine qah (fa rfl ?_)
   refine tkW (c.names.length : Int) r2 ?_
   refine qaa r1 rfl ⟨rfl, rfl, (nl rfl), ?_⟩
   cases hm
   exact en lr ⟨aT, aU, aS, aV, rfl, aY, (fun h => aX (qgk bm h)), rfl⟩ (sc [0,1,0,0] rfl)

def JcO (n : Nat) (program : Ja) : Option ((List Jf) × Err) :=
  (Jb7 n program).bind fun x9 =>
  if x9.2.isSome then
  some ([], x9.2)
  else
  (Jaf n (⟨[], [], 0⟩ : Jd) program.Aa).bind fun aT =>
  (Jj aT 12 0 ([] : Str)).bind fun aS =>
  if decide ((aS.2.code.length : Int) > 2048) then
  some ([], (some 5))
  else
  some (aS.2.code, none)
theorem JdQ {n : Nat} {program : Ja} {aa : Option Addr} {ab : Nat} {K : Hp} {r : (List Jf) × Err}
    (hm : JcO n program = some r) (hX : LiC Ja.R K aa ab 4 program.Aa ∧ GG K) :
    Fn Tryz.prog 90 [.agg #[.int .i64 program.Ab, str program.Ac, .slice aa program.Aa.length ab, .int .i64 program.Ad]] K [] (fun v K' H' => ∃ ar_0 : Option Addr, ∃ cr_0 : Nat, v = .tuple #[.slice ar_0 r.1.length cr_0, qcs 48 r.2] ∧ (0 < r.1.length → Has ar_0) ∧ H' = [qas Jf.enc ar_0 135 3 cr_0 r.1]) := by
 obtain ⟨ae, hG⟩ := hX
 refine Fn.enter Tryz.func90 Tryz.call90 rfl fun F => ?_
 unfold JcO at hm
 refine qaq ?_
 intro b1
 refine ro (qab r0 rfl (nl rfl) ?_)
 refine cb hm fun x9 q9 hm => cgx (JcE q9 :) ?_
 refine qa6 rfl ?_
 refine cs rfl rfl hm ?_ ?_ <;> intro bh hm
 refine qcj Jf.enc 135 3 ?_
 exact eE hm
 refine qag rfl rfl ?_
 refine qaq ?_
 intro bf
 refine fa rfl (ro (ld r1 rfl rfl ?_))
 refine qq6 Tryz.call142 Jf.enc 135 3 ?_
 refine qq6 Tryz.call142 Jr.enc 290 2 ?_
 refine cb hm fun bj bc hm => ckx (Jc4 bc :) ?_
 rintro _ _ _ ⟨aT, aS, bb, a6, rfl, aY, aV, rfl⟩
 refine cb hm fun bg bd hm => ckx (Jg bd :) ?_
 rintro _ _ _ ⟨aW, ba, aZ, aU, rfl, aX, a8, rfl⟩
 refine qah (fa rfl (ro (ld r0 rfl rfl (ro (qak rfl ?_)))))
 refine cs rfl rfl hm ?_ ?_ <;> intro bl hm
 refine qar rfl ?_
 refine qcj Jf.enc 135 3 ?_
 exact eE hm
 refine qah (fa rfl (ro (ld r0 rfl rfl ?_)))
 exact eE hm

def JaW (rec_ : (Ja → (List Jk) → Option (Int × Int))) (env : (List Jk)) : List Ja → Nat → (List Int) → Int → Int → Option ((List Int) × Int × Int)
  | [], _, ac, aU, aS => some (ac, aU, aS)
  | e0 :: aV, i0, ac, aU, aS =>
    (rec_ e0 env).bind fun aT =>
    (chk (ac.length + [aT.1].length ≤ lim)).bind fun _ =>
    if decide ((i0 : Int) = 0) then
    (chk (InI (aS + aT.2))).bind fun _ =>
    JaW rec_ env aV (i0 + 1) (ac ++ [aT.1]) aT.2 (aS + aT.2)
    else
    (chk (InI (aS + aT.2))).bind fun _ =>
    JaW rec_ env aV (i0 + 1) (ac ++ [aT.1]) aU (aS + aT.2)
def JbI : Nat → Ja → (List Jk) → Option (Int × Int)
  | 0, _, _ => none
  | n + 1, n', env =>
    (chk (n'.Aa.length ≤ qbh)).bind fun _ =>
    (JaW (JbI n) env n'.Aa 0 [] 0 0).bind fun t0 =>
    if decide (n'.Ab = 20) then
    some (2, 1)
    else
    if decide (n'.Ab = 21) then
    some (1, 1)
    else
    if decide (n'.Ab = 22) then
    some (3, 3)
    else
    if decide (n'.Ab = 23) then
    (JbU n n'.Ac env).bind fun aT =>
    some (aT, 1)
    else
    if decide (n'.Ab = 24) then
    (Jbb (⟨0, none⟩ : Jn) n' t0.1).bind fun ay =>
    if decide (ay.1 = 1) then
    (chk (InI (t0.2.2 + 32))).bind fun _ =>
    (chk (InI ((t0.2.2 + 32) + 1))).bind fun _ =>
    some (ay.1, ((t0.2.2 + 32) + 1))
    else
    (chk (InI (t0.2.2 + 1))).bind fun _ =>
    some (ay.1, (t0.2.2 + 1))
    else
    if decide (n'.Ab = 14) then
    if decide (n'.Ab = 14) then
    (chk (InI (t0.2.1 + 1))).bind fun _ =>
    (chk (InI (t0.2.2 - t0.2.1))).bind fun _ =>
    (chk (InI ((t0.2.2 - t0.2.1) + 1))).bind fun _ =>
    (chk (InI ((t0.2.1 + 1) + (max 3 ((t0.2.2 - t0.2.1) + 1))))).bind fun _ =>
    some (3, ((t0.2.1 + 1) + (max 3 ((t0.2.2 - t0.2.1) + 1))))
    else
    (chk (InI (t0.2.1 + 1))).bind fun _ =>
    (chk (InI (t0.2.2 - t0.2.1))).bind fun _ =>
    (chk (InI ((t0.2.1 + 1) + (max 4 (t0.2.2 - t0.2.1))))).bind fun _ =>
    some (3, ((t0.2.1 + 1) + (max 4 (t0.2.2 - t0.2.1))))
    else
    if decide (n'.Ab = 13) then
    if decide (n'.Ab = 14) then
    (chk (InI (t0.2.1 + 1))).bind fun _ =>
    (chk (InI (t0.2.2 - t0.2.1))).bind fun _ =>
    (chk (InI ((t0.2.2 - t0.2.1) + 1))).bind fun _ =>
    (chk (InI ((t0.2.1 + 1) + (max 3 ((t0.2.2 - t0.2.1) + 1))))).bind fun _ =>
    some (3, ((t0.2.1 + 1) + (max 3 ((t0.2.2 - t0.2.1) + 1))))
    else
    (chk (InI (t0.2.1 + 1))).bind fun _ =>
    (chk (InI (t0.2.2 - t0.2.1))).bind fun _ =>
    (chk (InI ((t0.2.1 + 1) + (max 4 (t0.2.2 - t0.2.1))))).bind fun _ =>
    some (3, ((t0.2.1 + 1) + (max 4 (t0.2.2 - t0.2.1))))
    else
    (JbZ n' t0.1).bind fun aS =>
    if decide (aS = 1) then
    (chk (InI (t0.2.2 + 32))).bind fun _ =>
    (chk (InI ((t0.2.2 + 32) + 1))).bind fun _ =>
    some (aS, ((t0.2.2 + 32) + 1))
    else
    (chk (InI (t0.2.2 + 1))).bind fun _ =>
    some (aS, (t0.2.2 + 1))
theorem Jd6 : ∀ {n : Nat} {n' : Ja} {env : (List Jk)} {aa : Option Addr} {ab : Nat} {af : Option Addr} {ag : Nat} {n1 : Nat} {K : Hp} {r : Int × Int}
    (hm : JbI n n' env = some r) (hX : LiC Ja.R K aa ab 4 n'.Aa ∧ RdC Jk.enc K af ag 2 env ∧ n1 = env.length),
    Fn Tryz.prog 198 [.agg #[.int .i64 n'.Ab, str n'.Ac, .slice aa n'.Aa.length ab, .int .i64 n'.Ad], .slice af n1 ag] K [] (fun v K' H' => v = .tuple #[.int .i64 r.1, .int .i64 r.2] ∧ H' = []) := by
 intro n
 induction n with
 | zero =>
   intro n' env aa ab af ag n1 K r hm hX
   rw [JbI.eq_1] at hm; cases hm
 | succ n ih =>
   intro n' env aa ab af ag n1 K r hm hX
   obtain ⟨ae, ai, bJ⟩ := hX
   subst bJ
   refine Fn.enter Tryz.func198 Tryz.call198 rfl fun F => ?_
   rw [JbI.eq_2] at hm
   refine qaq ?_
   intro b2
   refine fa rfl (ro (ld r0 rfl rfl (ro (qak rfl ?_))))
   obtain ⟨br, hm⟩ := qaw hm
   obtain ⟨s0, aU, hm⟩ := bnd hm
   refine qhd eN 3 1 ?_
   refine lD (σ := ((List Int) × Int × Int) × Option Addr × Nat) (rg 6 7 ++ rg 19 22) [1, 2] (fun i0 => [(19, .int .i64 (i0 : Int))]) (fun (t0, aS, aT) => [(6, .slice aS t0.1.length aT), (7, .int .i64 t0.2.1), (8, .int .i64 t0.2.2)]) (fun (t0, aS, aT) => [qas eN aS 3 1 aT t0.1]) (fun (t0, aS, aT) => (0 < t0.1.length → Has aS) ∧ True) (fun i0 (t0, aS, aT) => JaW (JbI n) env (n'.Aa.drop i0) i0 t0.1 t0.2.1 t0.2.2 = some s0) (fun (t0, aS, aT) => t0 = s0) (fun i0 => n'.Aa.length - i0) 0 ((_, _, _), _, _) aU (And.intro qe (And.intro ?_ ?_))
   clear aU
   rintro i0 ⟨⟨ac, bv, bG⟩, bo, bh⟩ ⟨bf, _⟩ aU j0
   dsimp only at aU ⊢
   refine qac rfl ?_
   refine qae ?_ ?_ <;> intro w0
   obtain ⟨e0, aW, bB⟩ := ltx w0
   rw [bB, JaW.eq_2] at aU
   refine qal rfl ?_
   refine RStep.ofN (qad rfl rfl (qc2 ae.rd aW) (nn _) (qbo aW) ?_)
   obtain ⟨bw, bF, bb, a8, a6⟩ := LiR.get ae.rd aW
   obtain ⟨bl, bg, rfl, bu⟩ := Ja.out a6
   refine ro (qan i0 _ bb rfl a8 rfl ?_)
   refine qai rfl fun bM => ?_
   refine qaa r0 rfl ⟨rfl, rfl, (nl rfl), ?_⟩
   refine ro (qab r0 rfl (nl rfl) ?_)
   refine cb aU fun bm bI aU => cgx (ih bI :) ?_
   refine bsO (len := 1) (enc := eN) (l := [bm.1]) (cl := [.int .i64 bm.1]) qj0 rfl rfl (fun _ _ => rfl) rfl rfl rfl ?_ fun bS => ?_
   · conv => whnf
     refine cT ?_
     first | done | rfl
   obtain ⟨bz, aU⟩ := qaw aU
   refine apE rfl r2 qj0 (qay rfl r0 rfl (fun _ => rfl) (fun _ => rfl)) bz ?_
   intro bO bN bR
   refine qaf (cs rfl rfl aU ?_ ?_) <;> intro bZ aU
   obtain ⟨bc, aU⟩ := qaw aU
   refine qam bc (qam (qbu aW br) ?_)
   exact eR aU (_, (_, _, _), _, _)
   obtain ⟨bc, aU⟩ := qaw aU
   refine qam bc (qam (qbu aW br) ?_)
   exact eR aU (_, (_, _, _), _, _)
   rw [lty w0, JaW.eq_1] at aU
   refine cT ?_
   exact eM aU (_, _, _)
   rintro ⟨t0, aS, aT⟩ ⟨bp, _⟩ rfl j0
   refine qag rfl rfl ?_
   refine qaq ?_
   intro bQ
   refine fa rfl (ro (ld r2 rfl rfl ?_))
   refine qal rfl ?_
   refine qaf (cs rfl rfl hm ?_ ?_) <;> intro bY hm
   exact eE hm
   refine qaf (cs rfl rfl hm ?_ ?_) <;> intro bX hm
   exact eE hm
   refine qaf (cs rfl rfl hm ?_ ?_) <;> intro bP hm
   exact eE hm
   refine qaf (cs rfl rfl hm ?_ ?_) <;> intro bT hm
   refine fa rfl (ro (ld r2 rfl rfl ?_))
   refine cb hm fun bK bA hm => cgx (Jcq bA :) ?_
   exact eE hm
   refine qaf (cs rfl rfl hm ?_ ?_) <;> intro bV hm
   refine ro (qab r2 rfl (nl rfl) ?_)
   refine cb hm fun ay bH hm => ck0 (Fn.lend Tryz.call228 (fun bn aX aV => (Jch (c := (⟨0, none⟩ : Jn)) (n' := n') bH ⟨(LiC.mono Ja.R_ok aX ae), aV, rfl⟩)) (by exact fun _ _ _ _ h => h)) ?_
   rintro _ _ _ ⟨_, rfl, rfl, rfl⟩
   refine qaf (cs rfl rfl hm ?_ ?_) <;> intro bL hm
   refine ci hm fun hm => ?_
   refine ci hm fun hm => ?_
   exact eE hm
   refine ci hm fun hm => ?_
   exact eE hm
   refine qaf (cs rfl rfl hm ?_ ?_) <;> intro bt hm
   refine qac rfl (ct bt (fa rfl (ro (ld r2 rfl rfl (qaf ?_)))))
   refine cs rfl rfl hm ?_ ?_ <;> intro bC hm
   refine ci hm fun hm => ?_
   refine ci hm fun hm => ?_
   obtain ⟨bd, hm⟩ := qaw hm
   refine qam bd (ro (qci ?_))
   refine ci hm fun hm => ?_
   exact eE hm
   refine ci hm fun hm => ?_
   obtain ⟨ba, hm⟩ := qaw hm
   refine qam ba (ro (qci ?_))
   refine ci hm fun hm => ?_
   exact eE hm
   refine qaf (cs rfl rfl hm ?_ ?_) <;> intro bt hm
   refine fa rfl (ro (ld r2 rfl rfl (qaf ?_)))
   refine cs rfl rfl hm ?_ ?_ <;> intro bC hm
   refine ci hm fun hm => ?_
   refine ci hm fun hm => ?_
   obtain ⟨bd, hm⟩ := qaw hm
   refine qam bd (ro (qci ?_))
   refine ci hm fun hm => ?_
   exact eE hm
   refine ci hm fun hm => ?_
   obtain ⟨ba, hm⟩ := qaw hm
   refine qam ba (ro (qci ?_))
   refine ci hm fun hm => ?_
   exact eE hm
   refine ro (qab r2 rfl (nl rfl) ?_)
   refine cb hm fun bW bD hm => ck0 (Fn.lend Tryz.call229 (fun bj aY aZ => (JcQ (n' := n') bD ⟨(LiC.mono Ja.R_ok aY ae), aZ, rfl⟩)) (by exact fun _ _ _ _ h => h)) ?_
   rintro _ _ _ ⟨_, rfl, rfl, rfl⟩
   refine qaf (cs rfl rfl hm ?_ ?_) <;> intro bU hm
   refine ci hm fun hm => ?_
   refine ci hm fun hm => ?_
   exact eE hm
   refine ci hm fun hm => ?_
   exact eE hm

def Jag (n : Nat) (rec_ : ((List Ja) → (List Jk) → Option (Int))) : List Ja → Nat → (List Jk) → Int → Option ((List Jk) × Int)
  | [], _, ac, aS => some (ac, aS)
  | e0 :: aV, i0, ac, aS =>
    (chk (InI (aS + 1))).bind fun _ =>
    if decide ((e0.Aa.length : Int) = 0) then
    Jag n rec_ aV (i0 + 1) ac (aS + 1)
    else
    (ix e0.Aa 0).bind fun aY =>
    (JbI n aY ac).bind fun aT =>
    (chk (InI ((aS + 1) + aT.2))).bind fun _ =>
    if decide (e0.Ab = 3) then
    (JaG ac e0.Ac aT.1).bind fun a8 =>
    Jag n rec_ aV (i0 + 1) a8 ((aS + 1) + aT.2)
    else
    if decide (e0.Ab = 2) then
    (ix e0.Aa 1).bind fun aZ =>
    (JbV aZ).bind fun a6 =>
    (rec_ a6 ac).bind fun aU =>
    if decide ((e0.Aa.length : Int) > 2) then
    (chk (InI (aU + 1))).bind fun _ =>
    (ix e0.Aa 2).bind fun ba =>
    (JbV ba).bind fun aX =>
    (rec_ aX ac).bind fun aW =>
    (chk (InI (((aS + 1) + aT.2) + (max (aU + 1) aW)))).bind fun _ =>
    Jag n rec_ aV (i0 + 1) ac (((aS + 1) + aT.2) + (max (aU + 1) aW))
    else
    (chk (InI (((aS + 1) + aT.2) + aU))).bind fun _ =>
    Jag n rec_ aV (i0 + 1) ac (((aS + 1) + aT.2) + aU)
    else
    Jag n rec_ aV (i0 + 1) ac ((aS + 1) + aT.2)
def JbJ : Nat → (List Ja) → (List Jk) → Option (Int)
  | 0, _, _ => none
  | n + 1, list, env =>
    (chk (list.length ≤ qbh)).bind fun _ =>
    (Jag n (JbJ n) list 0 env 0).bind fun t0 =>
    some t0.2
theorem Jd7 : ∀ {n : Nat} {list : (List Ja)} {env : (List Jk)} {aa : Option Addr} {ab : Nat} {n0 : Nat} {af : Option Addr} {ag : Nat} {n1 : Nat} {K : Hp} {r : Int}
    (hm : JbJ n list env = some r) (hX : LiC Ja.R K aa ab 4 list ∧ n0 = list.length ∧ RdC Jk.enc K af ag 2 env ∧ n1 = env.length),
    Fn Tryz.prog 144 [.slice aa n0 ab, .slice af n1 ag] K [] (fun v K' H' => v = .int .i64 r ∧ H' = []) := by
 intro n
 induction n with
 | zero =>
   intro list env aa ab n0 af ag n1 K r hm hX
   rw [JbJ.eq_1] at hm; cases hm
 | succ n ih =>
   intro list env aa ab n0 af ag n1 K r hm hX
   obtain ⟨ae, co, ai, cJ⟩ := hX
   subst co
   subst cJ
   refine Fn.enter Tryz.func144 Tryz.call144 rfl fun F => ?_
   rw [JbJ.eq_2] at hm
   refine ro (qak rfl ?_)
   obtain ⟨aX, hm⟩ := qaw hm
   obtain ⟨s0, aS, hm⟩ := bnd hm
   refine lC (σ := ((List Jk) × Int) × Option Addr × Nat) ([1,5,7,8,9,10] ++ rg 13 58) [0] (fun i0 => [(13, .int .i64 (i0 : Int))]) (fun (t0, aT, aV) => [(1, .slice aT t0.1.length aV), (5, .int .i64 t0.2)]) (fun _ => []) (fun zz K1 => match zz with | (t0, aT, aV) => RdC Jk.enc K1 aT aV 2 t0.1 ∧ True) (fun i0 (t0, aT, aV) => Jag n (JbJ n) (list.drop i0) i0 t0.1 t0.2 = some s0) (fun (t0, aT, aV) => t0 = s0) (fun i0 => list.length - i0) 0 ((_, _), _, _) aS (And.intro qe (And.intro ?_ ?_))
   clear aS
   rintro i0 ⟨⟨ac, ca⟩, bC, bA⟩ cO bV ⟨bp, _⟩ aS j0
   dsimp only at aS ⊢
   refine qac rfl ?_
   refine qae ?_ ?_ <;> intro w0
   obtain ⟨e0, aW, cu⟩ := ltx w0
   rw [cu, Jag.eq_2] at aS
   refine qal rfl ?_
   refine RStep.ofN (qad rfl rfl (qc2 (LiC.mono Ja.R_ok bV ae).rd aW) (nn _) (qbo aW) ?_)
   obtain ⟨cD, cn, bm, a8, bd⟩ := LiR.get (LiC.mono Ja.R_ok bV ae).rd aW
   obtain ⟨bO, bv, rfl, aU⟩ := Ja.out bd
   refine ro (qan i0 _ bm rfl a8 rfl ?_)
   refine qai rfl fun b7 => ?_
   refine qaa r0 rfl ⟨rfl, rfl, (nl rfl), ?_⟩
   obtain ⟨cw, aS⟩ := qaw aS
   refine qam cw (fa rfl (ro (ld r0 rfl rfl (ro (qak rfl (qaf ?_))))))
   refine cs rfl rfl aS ?_ ?_ <;> intro cU aS
   refine cT (qam (qbu aW aX) ?_)
   exact eR aS (_, (_, _), _, _)
   refine fa rfl (ro (ld r0 rfl rfl ?_))
   obtain ⟨cP, bI, ba, aS⟩ := ixb aS
   refine RStep.ofN (qad rfl rfl (qc2 aU.rd ba) bI (qax rfl bI ba) ?_)
   obtain ⟨cj, cA, bc, bh, bf⟩ := LiR.get aU.rd ba
   obtain ⟨bD, bG, rfl, bR⟩ := Ja.out bf
   refine ro (qan ((0 : Int).toNat) _ bc rfl bh rfl ?_)
   refine cb aS fun cQ cE aS => cgx (Jd6 cE :) ?_
   obtain ⟨cr, aS⟩ := qaw aS
   refine qam cr (fa rfl (ro (ld r0 rfl rfl ?_)))
   refine qal rfl ?_
   refine qaf (cs rfl rfl aS ?_ ?_) <;> intro cZ aS
   refine fa rfl (ro (ld r0 rfl rfl ?_))
   refine cb aS fun c4 cG aS => ckx (JaS cG :) ?_
   rintro _ _ _ ⟨bW, bN, rfl, bw, rfl⟩
   refine qam (qbu aW aX) ?_
   refine fRo r0 fun bX bt bU => ?_
   exact eR aS (_, (_, _), _, _)
   refine qaf (cs rfl rfl aS ?_ ?_) <;> intro c8 aS
   refine fa rfl (ro (ld r0 rfl rfl ?_))
   obtain ⟨c9, bB, bb, aS⟩ := ixb aS
   refine RStep.ofN (qad rfl rfl (qc2 aU.rd bb) bB (qax rfl bB bb) ?_)
   obtain ⟨ce, cy, aY, bg, bn⟩ := LiR.get aU.rd bb
   obtain ⟨bZ, bQ, rfl, bz⟩ := Ja.out bn
   refine ro (qan ((1 : Int).toNat) _ aY rfl bg rfl ?_)
   refine cb aS fun cR cz aS => cfx (JbP cz :) ?_
   rintro _ c5 _ bY ⟨bS, bH, rfl, bM, rfl⟩
   refine cb aS fun cW cK aS => cgx (ih cK :) ?_
   refine fa rfl (ro (ld r0 rfl rfl (ro (qak rfl ?_))))
   refine cs rfl rfl aS ?_ ?_ <;> intro cL aS
   obtain ⟨cI, aS⟩ := qaw aS
   refine qam cI (fa rfl (ro (ld r0 rfl rfl ?_)))
   obtain ⟨cX, bJ, a6, aS⟩ := ixb aS
   refine RStep.ofN (qad rfl rfl (qc2 (LiC.mono Ja.R_ok bY aU).rd a6) bJ (qax rfl bJ a6) ?_)
   obtain ⟨cH, cm, aZ, bj, bl⟩ := LiR.get (LiC.mono Ja.R_ok bY aU).rd a6
   obtain ⟨bu, bP, rfl, bT⟩ := Ja.out bl
   refine ro (qan ((2 : Int).toNat) _ aZ rfl bj rfl ?_)
   refine cb aS fun cM cC aS => cfx (JbP cC :) ?_
   rintro _ dc _ c6 ⟨bK, br, rfl, bF, rfl⟩
   refine cb aS fun cY cB aS => cgx (ih cB :) ?_
   refine ro (qci ?_)
   obtain ⟨bo, aS⟩ := qaw aS
   refine qam bo (qam (qbu aW aX) ?_)
   exact eR aS (_, (_, _), _, _)
   obtain ⟨bo, aS⟩ := qaw aS
   refine qam bo (qam (qbu aW aX) ?_)
   exact eR aS (_, (_, _), _, _)
   refine qam (qbu aW aX) ?_
   exact eR aS (_, (_, _), _, _)
   rw [lty w0, Jag.eq_1] at aS
   refine cT ?_
   exact eM aS (_, _, _)
   rintro ⟨t0, aT, aV⟩ cV cN ⟨bL, _⟩ rfl j0
   exact eE hm

def Jdc (n : Nat) (program : Ja) : Option (Int × Err) :=
  (Jb7 n program).bind fun x8 =>
  if x8.2.isSome then
  some (0, x8.2)
  else
  (JbJ n program.Aa []).bind fun aS =>
  (chk (InI (aS + 1))).bind fun _ =>
  some ((aS + 1), none)
theorem Jd8 {n : Nat} {program : Ja} {aa : Option Addr} {ab : Nat} {K : Hp} {r : Int × Err}
    (hm : Jdc n program = some r) (hX : LiC Ja.R K aa ab 4 program.Aa ∧ GG K) :
    Fn Tryz.prog 91 [.agg #[.int .i64 program.Ab, str program.Ac, .slice aa program.Aa.length ab, .int .i64 program.Ad]] K [] (fun v K' H' => v = .tuple #[.int .i64 r.1, qcs 48 r.2] ∧ H' = []) := by
 obtain ⟨ae, hG⟩ := hX
 refine Fn.enter Tryz.func91 Tryz.call91 rfl fun F => ?_
 unfold Jdc at hm
 refine qaq ?_
 intro b1
 refine ro (qab r0 rfl (nl rfl) ?_)
 refine cb hm fun x8 q8 hm => cgx (JcE q8 :) ?_
 refine qa6 rfl ?_
 refine cs rfl rfl hm ?_ ?_ <;> intro aU hm
 exact eE hm
 refine fa rfl (ro (ld r0 rfl rfl ?_))
 refine cb hm fun aT aS hm => cgx (Jd7 aS :) ?_
 refine ci hm fun hm => ?_
 exact eE hm

def qda (n : Nat) (text : Str) : Option ((List Jf) × Err) :=
  (Jc7 n text).bind fun aS =>
  if aS.2.2.isSome then
  some ([], aS.2.2)
  else
  (Jb7 n aS.1).bind fun aV =>
  if aV.2.isSome then
  some ([], aV.2)
  else
  (JcO n aS.1).bind fun aT =>
  if aT.2.isSome then
  some ([], aT.2)
  else
  (Jdc n aS.1).bind fun aU =>
  if aU.2.isSome then
  some ([], aU.2)
  else
  if decide (aU.1 > 10000) then
  some ([], (some 5))
  else
  some (aT.1, none)
theorem qe7 {n : Nat} {text : Str} {K : Hp} {r : (List Jf) × Err}
    (hm : qda n text = some r) (hG : GG K) :
    Fn Tryz.prog 67 [str text] K [] (fun v K' H' => ∃ ar_0 : Option Addr, ∃ cr_0 : Nat, v = .tuple #[.slice ar_0 r.1.length cr_0, qcs 48 r.2] ∧ (0 < r.1.length → Has ar_0) ∧ H' = [qas Jf.enc ar_0 135 3 cr_0 r.1]) := by
 refine Fn.enter Tryz.func67 Tryz.call67 rfl fun F => ?_
 unfold qda at hm
 refine cb hm fun ba aY hm => cfx (Jd2 aY :) ?_
 rintro _ bd _ bc ⟨aS, aW, rfl, aT, rfl⟩
 refine qai rfl fun b4 => ?_
 refine qaa r0 rfl ⟨rfl, rfl, (nl rfl), ?_⟩
 refine qa6 rfl ?_
 refine cs rfl rfl hm ?_ ?_ <;> intro bb hm
 refine qcj Jf.enc 135 3 ?_
 exact eE hm
 refine ro (qab r0 rfl (nl rfl) ?_)
 refine cb hm fun bj aZ hm => cgx (JcE aZ :) ?_
 refine qa6 rfl ?_
 refine cs rfl rfl hm ?_ ?_ <;> intro bg hm
 refine qcj Jf.enc 135 3 ?_
 exact eE hm
 refine ro (qab r0 rfl (nl rfl) ?_)
 refine cb hm fun bn a6 hm => ckx (JdQ a6 :) ?_
 rintro _ _ _ ⟨aU, aV, rfl, aX, rfl⟩
 refine qa6 rfl ?_
 refine cs rfl rfl hm ?_ ?_ <;> intro bh hm
 refine qcj Jf.enc 135 3 ?_
 exact eE hm
 refine ro (qab r1 rfl (nl rfl) ?_)
 refine cb hm fun bl a8 hm => cgx (Jd8 a8 :) ?_
 refine qa6 rfl ?_
 refine cs rfl rfl hm ?_ ?_ <;> intro bm hm
 refine qcj Jf.enc 135 3 ?_
 exact eE hm
 refine cs rfl rfl hm ?_ ?_ <;> intro bf hm
 refine qar rfl ?_
 refine qcj Jf.enc 135 3 ?_
 exact eE hm
 exact eE hm

def qb7 (n : Nat) (d : JE) (s : J3) : Option (Err × JE) :=
  (Jcg s.An).bind fun aT =>
  if ((aT.2.isSome || decide (aT.1 ≠ s.An)) || (mget d.sites s.An).isSome) then
  some ((some 8), d)
  else
  if (decide (s.Tenant < 0) || decide (s.Tenant ≥ 16)) then
  some ((some 1), d)
  else
  (qda n s.Program).bind fun aS =>
  if aS.2.isSome then
  some (aS.2, d)
  else
  some (none, (⟨(mset d.sites s.An (⟨s.Tenant, aS.1⟩ : Jx))⟩ : JE))
theorem qdl {n : Nat} {d : JE} {s : J3} {b0 : Nat} {aE : Nat} {aG : List (Str × EnD Jx)} {K : Hp} {r : Err × JE}
    (hm : qb7 n d s = some r) (hX : MR Jx.R K aG d.sites ∧ GG K) :
    Fn Tryz.prog 35 [.pointer (some ⟨b0, 0, none⟩), .agg #[str s.An, .int .i64 s.Tenant, str s.Program]] K [Cells b0 78 [.map (some aE)], qkr qkq vAg aE aG] (fun v K' H' => ∃ mr_0 : Nat, ∃ wr_0 : List (Str × EnD Jx), v = qcs 48 r.1 ∧ MR Jx.R K' wr_0 r.2.sites ∧ H' = [Cells b0 78 [.map (some mr_0)], qkr qkq vAg mr_0 wr_0]) := by
 obtain ⟨a6, hG⟩ := hX
 refine Fn.enter Tryz.func35 Tryz.call35 rfl fun F => ?_
 unfold qb7 at hm
 refine qaq ?_
 intro b3
 refine fa rfl (ro (ld r0 rfl rfl ?_))
 refine cb hm fun bb bm hm => cgx (JdB bm :) ?_
 refine qe1 ⟨⟨[], false⟩, _, [(_, _), (_, _)], []⟩ 13 rfl (by kernel_rfl) ⟨Hp.Le.refl _, (sc [1,0] rfl), ci0⟩ ?_
 refine qah (fa rfl (qao m0 rfl rfl (fa rfl (qao m1 rfl rfl ?_))))
 refine qhl (kenc := qkq) (R := Jx.R) (zs := [.int .i64 0, .slice none 0 0]) (z := (⟨0, []⟩ : Jx)) r2 rfl rfl (qi8 rfl) a6 (⟨none, 0, rfl, RdC.nil⟩) fun bp ba => ?_
 obtain ⟨bc, bg, rfl, bd⟩ := ba
 refine qj9 rfl ?_
 intro b7
 intro br
 refine qaa r0 rfl ⟨rfl, rfl, (nl rfl), ?_⟩
 refine ⟨⟨lr, (sc [2,1] rfl), ci0⟩, ?_⟩
 refine ⟨_, .cons r5 .nil, ⟨lr, (sc [2,1] rfl), ci0⟩, ?_⟩
 refine jR (σ := Unit) (rg 26 11) (fun _ => [(36, .bool ((bb.2.isSome || decide (bb.1 ≠ s.An)) || (mget d.sites s.An).isSome))]) (fun bh => True) ?_ ?_
 refine qaj rfl ?_
 refine qa6 rfl ?_
 refine qae ?_ ?_ <;> intro aT
 refine ct aT (ct aT (ct aT (ct aT (cT (cT ?_)))))
 exact eMt () ⟨bq (((qbq (qbq aT))).symm), trivial⟩
 refine cf aT (fa rfl (cf aT (ro (ld r1 rfl rfl (cf aT (qbn (cf aT ?_)))))))
 refine qae ?_ ?_ <;> intro aX
 refine ct aX ?_
 exact eMt () ⟨bq (((qbq (qfr aT aX))).symm), trivial⟩
 refine cf aX ?_
 exact eMt () ⟨bq (qgx (b := (mget d.sites s.An).isSome) (qc0 aT aX)), trivial⟩
 rintro _ _ bo
 refine cs rfl rfl hm ?_ ?_ <;> intro bt hm
 refine qar rfl ?_
 exact eE hm
 refine jR (σ := Unit) (rg 38 8) (fun _ => [(45, .bool (decide (s.Tenant < 0) || decide (s.Tenant ≥ 16)))]) (fun bn => True) ?_ ?_
 refine qaj rfl ?_
 refine fa rfl (ro (ld r1 rfl rfl ?_))
 refine qae ?_ ?_ <;> intro aV
 refine ct aV (ct aV (ct aV ?_))
 exact eMt () ⟨bq (((qbq aV)).symm), trivial⟩
 refine fa rfl (cf aV (ro (ld r1 rfl rfl (cf aV (cf aV ?_)))))
 exact eMt () ⟨bq (qgx (b := decide (s.Tenant ≥ 16)) aV), trivial⟩
 rintro _ _ bl
 refine cs rfl rfl hm ?_ ?_ <;> intro bv hm
 refine qar rfl ?_
 exact eE hm
 refine fa rfl (ro (ld r1 rfl rfl ?_))
 refine cb hm fun a8 bj hm => ckx (qe7 bj :) ?_
 rintro _ _ _ ⟨aY, aZ, rfl, bf, rfl⟩
 refine qa6 rfl ?_
 refine cs rfl rfl hm ?_ ?_ <;> intro bu hm
 exact eE hm
 refine qa4 ⟨⟨[], false⟩, _, [(_, _), (_, _)], []⟩ (by kernel_rfl) ⟨Hp.Le.refl _, (sc [3,2] rfl), ci0⟩ ?_
 refine qah (fa rfl (qao m0 rfl rfl (fa rfl (qao m1 rfl rfl (fa rfl (qao m1 rfl rfl (qag rfl rfl ?_)))))))
 refine cT (cT ?_)
 refine fW r0 fun aW aS aU => ?_
 refine qja (kenc := qkq) (venc := vAg) ([.int .i64 s.Tenant, .slice aY a8.1.length aZ], (⟨s.Tenant, a8.1⟩ : Jx)) rfl r3 rfl (qi8 rfl) ?_
 refine qk (sc [3,2] rfl) ?_
 cases hm
 exact en aS ⟨aE, (mset aG s.An ([.int .i64 s.Tenant, .slice aY a8.1.length aZ], (⟨s.Tenant, a8.1⟩ : Jx))), rfl, (MR.set (R := Jx.R) (MR.mono Jx.R_ok a6 aS) s.An (⟨aY, aZ, rfl, aU⟩)), rfl⟩ (sc [3,0,2] rfl)

def tenant_New_L0 (n : Nat) : List J3 → Nat → JE → Option (Fl (Option JE × Int × Err) (JE))
  | [], _, ac => some (Fl.go ac)
  | e0 :: aT, i0, ac =>
    (qb7 n ac e0).bind fun aS =>
    if aS.1.isSome then
    some (Fl.ret (none, (i0 : Int), aS.1))
    else
    tenant_New_L0 n aT (i0 + 1) aS.2
def qdf (n : Nat) (sites : (List J3)) : Option (Option JE × Int × Err) :=
  (chk (sites.length ≤ qbh)).bind fun _ =>
  (tenant_New_L0 n sites 0 (⟨[]⟩ : JE)).bind fun s0 => s0.el some fun t0 =>
  some ((some t0), 0, none)
theorem qei {n : Nat} {sites : (List J3)} {aa : Option Addr} {ab : Nat} {n0 : Nat} {K : Hp} {r : Option JE × Int × Err}
    (hm : qdf n sites = some r) (hX : RdC J3.enc K aa ab 3 sites ∧ n0 = sites.length ∧ GG K) :
    Fn Tryz.prog 12 [.slice aa n0 ab] K [] (fun v K' H' => match r.1 with | none => (v = .tuple #[.pointer none, .int .i64 r.2.1, qcs 48 r.2.2] ∧ H' = []) | some ro => (∃ br_0 : Nat, ∃ mr_1 : Nat, ∃ wr_1 : List (Str × EnD Jx), v = .tuple #[.pointer (some ⟨br_0, 0, none⟩), .int .i64 r.2.1, qcs 48 r.2.2] ∧ MR Jx.R K' wr_1 ro.sites ∧ H' = [Cells br_0 78 [.map (some mr_1)], qkr qkq vAg mr_1 wr_1])) := by
 obtain ⟨ae, bg, hG⟩ := hX
 subst bg
 refine Fn.enter Tryz.func12 Tryz.call12 rfl fun F => ?_
 unfold qdf at hm
 refine qii qkq (venc := (vAg : EnD Jx → Value)) fun b9 => ?_
 refine qag rfl rfl (cT ?_)
 refine qaq ?_
 intro bc
 refine ro (qak rfl ?_)
 obtain ⟨bd, hm⟩ := qaw hm
 obtain ⟨s0, aU, hm⟩ := bnd hm
 refine lC (σ := (JE) × Nat × List (Str × EnD Jx)) ([2,3,4,6,7,8] ++ rg 14 13) [2] (fun i0 => [(14, .int .i64 (i0 : Int))]) (fun _ => []) (fun (t0, aS, aT) => [Cells bc 78 [.map (some aS)], qkr qkq vAg aS aT]) (fun zz K1 => match zz with | (t0, aS, aT) => MR Jx.R K1 aT t0.sites ∧ True) (fun i0 (t0, aS, aT) => tenant_New_L0 n (sites.drop i0) i0 t0 = some s0) (fun (t0, aS, aT) => s0 = Fl.go t0) (fun i0 => sites.length - i0) 0 ((⟨[]⟩ : JE), b9, ([] : List (Str × EnD Jx))) aU (And.intro ⟨⟨MR.nil, trivial⟩, ⟨rfl, trivial⟩, _, (sp rfl)⟩ (And.intro ?_ ?_))
 clear aU
 rintro i0 ⟨ac, aV, aW⟩ bn bb ⟨aY, _⟩ aU j0
 conv at aU => whnf
 refine qac rfl ?_
 refine qae ?_ ?_ <;> intro w0
 obtain ⟨e0, aZ, bh⟩ := ltx w0
 rw [bh, tenant_New_L0.eq_2] at aU
 refine qal rfl ?_
 refine RStep.ofN (qad rfl rfl (qfs (ae.mono bb).rd aZ) (nn _) (qbo aZ) (ro (qan i0 _ (ae.mono bb).rd rfl (mp aZ) rfl ?_)))
 refine qai rfl fun b7 => ?_
 refine qaa r0 rfl ⟨rfl, rfl, (nl rfl), ?_⟩
 refine ro (qab r0 rfl (nl rfl) ?_)
 refine cb aU fun bo bf aU => cfx (qdl bf :) ?_
 rintro _ br _ bp ⟨ba, a8, rfl, a6, rfl⟩
 refine qa6 rfl ?_
 refine cs rfl rfl aU ?_ ?_ <;> intro bm aU
 exact eE (er aU hm)
 refine qam (qbu aZ bd) ?_
 exact eR aU (_, _, _, _)
 rw [lty w0, tenant_New_L0.eq_1] at aU
 refine cT ?_
 exact eM aU (_, _, _)
 rintro ⟨t0, aS, aT⟩ bl bj ⟨aX, _⟩ rfl j0
 replace hm := elg hm
 exact eE hm

def JbK : Nat → Nat → Str → Option (Str)
  | 0, _, ac => some ac
  | aT + 1, i0, ac =>
    (ix ac (i0 : Int)).bind fun aS =>
    if (decide ((aS.toNat : Int) ≥ 65) && decide ((aS.toNat : Int) ≤ 90)) then
    (ix ac (i0 : Int)).bind fun aU =>
    JbK aT (i0 + 1) (ac.set (((i0 : Int)).toNat) (aS + (32 : UInt8)))
    else
    JbK aT (i0 + 1) ac
def Ja1 (s : Str) : Option (Str) :=
  (chk (s.length ≤ lim)).bind fun _ =>
  (chk (InI (s.length : Int))).bind fun _ =>
  (JbK (s.length : Int).toNat 0 s).bind fun t0 =>
  some t0
theorem JaI {s : Str} {K : Hp} {r : Str}
    (hm : Ja1 s = some r)  :
    Fn Tryz.prog 51 [str s] K [] (fun v K' H' => v = str r ∧ H' = []) := by
 refine Fn.enter Tryz.func51 Tryz.call51 rfl fun F => ?_
 unfold Ja1 at hm
 obtain ⟨h7, hm⟩ := qaw hm
 refine qfy rfl rfl rfl h7 ?_
 intro a7 c7 o7
 refine ro (qak rfl ?_)
 obtain ⟨aZ, hm⟩ := qaw hm
 obtain ⟨s0, aT, hm⟩ := bnd hm
 refine lD (σ := (Str)) ([4,5] ++ rg 10 17) [1] (fun i0 => [(10, .int .i64 (i0 : Int))]) (fun _ => []) (fun t0 => [qas eU a7 5 1 c7 t0]) (fun t0 => (0 < t0.length → Has a7) ∧ s.length = t0.length) (fun i0 t0 => JbK ((s.length : Int).toNat - i0) i0 t0 = some s0) (fun t0 => t0 = s0) (fun i0 => (s.length : Int).toNat - i0) 0 _ aT (And.intro qe (And.intro ?_ ?_))
 clear aT
 rintro i0 ac ⟨aU, aV⟩ aT j0
 conv at aT => whnf
 refine qac rfl ?_
 refine qae ?_ ?_ <;> intro w0
 rw [ltn w0, JbK.eq_2] at aT
 refine qal rfl ?_
 obtain ⟨aY, ba, a6, aT⟩ := ixb aT
 refine RStep.ofN (qad rfl rfl (qcu aU a6) ba (qax aV ba a6) (ro (qbz (i := ((i0 : Int)).toNat) (o := 0) r0 rfl a6 rfl rfl ?_)))
 refine qaj rfl ?_
 refine qae ?_ ?_ <;> intro aS
 refine ct aS (ct aS (qac rfl ?_))
 refine qae ?_ ?_ <;> intro bc
 replace aT := ift (qa5 aS bc) aT
 refine qhw (x := aY) (y := (32 : UInt8)) rfl rfl ?_
 obtain ⟨bd, bb, aX, aT⟩ := ixb aT
 refine RStep.ofN (qad rfl rfl (qcu aU aX) bb (qax aV bb aX) ?_)
 refine qex (o := 0) (y := (aY + (32 : UInt8))) bd r0 rfl aX rfl (by (conv => whnf); exact ⟨rfl, rfl, (nl rfl), rfl, rfl, rfl⟩) ?_
 refine qam (qiy w0 aZ) ?_
 exact rd (i0 + 1, (ac.set (((i0 : Int)).toNat) (aY + (32 : UInt8)))) ⟨rfl, trivial⟩ rfl (pf rfl) lr (qo6 w0) ⟨⟨(by first | simpa using aU | exact fun _ => ⟨_, _, rfl⟩), ((aV).trans List.length_set.symm)⟩, aT⟩
 replace aT := qba (qbs aS bc) aT
 refine qam (qiy w0 aZ) ?_
 exact eR aT (_, _)
 refine cf aS (cf aS (qac rfl (cF ?_)))
 replace aT := qba (qav aS) aT
 refine qam (qiy w0 aZ) ?_
 exact eR aT (_, _)
 rw [lto w0, JbK.eq_1] at aT
 refine cT ?_
 exact eM aT _
 rintro t0 ⟨a8, aW⟩ rfl j0
 refine ro (qeg aW r0 rfl rfl rfl ?_)
 exact eE hm

def Jci (x9 : Str) : List Jc → Nat → (List Str) → Option ((List Str))
  | [], _, ac => some ac
  | e0 :: aS, i0, ac =>
    (Ja1 e0.Name).bind fun aT =>
    if decide (aT = x9) then
    (chk (ac.length + [e0.Value].length ≤ lim)).bind fun _ =>
    Jci x9 aS (i0 + 1) (ac ++ [e0.Value])
    else
    Jci x9 aS (i0 + 1) ac
def JcI (f : (List Jc)) (name : Str) : Option ((List Str)) :=
  (Ja1 name).bind fun x9 =>
  (chk (f.length ≤ qbh)).bind fun _ =>
  (Jci x9 f 0 []).bind fun t0 =>
  some t0
theorem JcJ {f : (List Jc)} {name : Str} {aa : Option Addr} {ab : Nat} {n0 : Nat} {K : Hp} {r : (List Str)}
    (hm : JcI f name = some r) (hX : RdC Jc.enc K aa ab 2 f ∧ n0 = f.length) :
    Fn Tryz.prog 24 [.slice aa n0 ab, str name] K [] (fun v K' H' => ∃ ar_0 : Option Addr, ∃ cr_0 : Nat, v = .slice ar_0 r.length cr_0 ∧ (0 < r.length → Has ar_0) ∧ H' = [qas eS ar_0 9 1 cr_0 r]) := by
 obtain ⟨ae, bb⟩ := hX
 subst bb
 refine Fn.enter Tryz.func24 Tryz.call24 rfl fun F => ?_
 unfold JcI at hm
 refine cb hm fun x9 q9 hm => cg0 (JaI q9 :) ?_
 refine ro (qak rfl ?_)
 obtain ⟨aY, hm⟩ := qaw hm
 obtain ⟨s0, aU, hm⟩ := bnd hm
 refine qhd eS 9 1 ?_
 refine lD (σ := ((List Str)) × Option Addr × Nat) ([5,7] ++ rg 12 15) [1] (fun i0 => [(12, .int .i64 (i0 : Int))]) (fun (t0, aS, aT) => [(5, .slice aS t0.length aT)]) (fun (t0, aS, aT) => [qas eS aS 9 1 aT t0]) (fun (t0, aS, aT) => (0 < t0.length → Has aS) ∧ True) (fun i0 (t0, aS, aT) => Jci x9 (f.drop i0) i0 t0 = some s0) (fun (t0, aS, aT) => t0 = s0) (fun i0 => f.length - i0) 0 (_, _, _) aU (And.intro qe (And.intro ?_ ?_))
 clear aU
 rintro i0 ⟨ac, a6, aZ⟩ ⟨aW, _⟩ aU j0
 conv at aU => whnf
 refine qac rfl ?_
 refine qae ?_ ?_ <;> intro w0
 obtain ⟨e0, aV, bc⟩ := ltx w0
 rw [bc, Jci.eq_2] at aU
 refine qal rfl ?_
 refine RStep.ofN (qad rfl rfl (qfs ae.rd aV) (nn _) (qbo aV) (ro (qan i0 _ ae.rd rfl (mp aV) rfl ?_)))
 refine qai rfl fun b7 => ?_
 refine qaa r0 rfl ⟨rfl, rfl, (nl rfl), ?_⟩
 refine fa rfl (ro (ld r0 rfl rfl ?_))
 refine cb aU fun bj ba aU => cg0 (JaI ba :) ?_
 refine qap (cs rfl rfl aU ?_ ?_) <;> intro bh aU
 refine fa rfl (ro (ld r0 rfl rfl ?_))
 refine bsO (len := 1) (enc := eS) (l := [e0.Value]) (cl := [str e0.Value]) qb1 rfl rfl (fun _ _ => rfl) rfl rfl rfl ?_ fun bd => ?_
 · conv => whnf
   refine cT ?_
   first | done | rfl
 obtain ⟨a8, aU⟩ := qaw aU
 refine apE rfl r2 qb1 (qay rfl r0 rfl (fun _ => rfl) (fun _ => rfl)) a8 ?_
 intro bl bg bf
 refine qam (qbu aV aY) ?_
 exact eR aU (_, _, _, _)
 refine qam (qbu aV aY) ?_
 exact eR aU (_, _, _, _)
 rw [lty w0, Jci.eq_1] at aU
 refine cT ?_
 exact eM aU (_, _, _)
 rintro ⟨t0, aS, aT⟩ ⟨aX, _⟩ rfl j0
 exact eE hm

def tenant_lower_L0 : Nat → Nat → Str → Option (Str)
  | 0, _, ac => some ac
  | aT + 1, i0, ac =>
    (ix ac (i0 : Int)).bind fun aS =>
    if (decide ((aS.toNat : Int) ≥ 65) && decide ((aS.toNat : Int) ≤ 90)) then
    (ix ac (i0 : Int)).bind fun aU =>
    tenant_lower_L0 aT (i0 + 1) (ac.set (((i0 : Int)).toNat) (aS + (32 : UInt8)))
    else
    tenant_lower_L0 aT (i0 + 1) ac
def qco (s : Str) : Option (Str) :=
  (chk (s.length ≤ lim)).bind fun _ =>
  (chk (InI (s.length : Int))).bind fun _ =>
  (tenant_lower_L0 (s.length : Int).toNat 0 s).bind fun t0 =>
  some t0
theorem qdr {s : Str} {K : Hp} {r : Str}
    (hm : qco s = some r)  :
    Fn Tryz.prog 36 [str s] K [] (fun v K' H' => v = str r ∧ H' = []) := by
 refine Fn.enter Tryz.func36 Tryz.call36 rfl fun F => ?_
 unfold qco at hm
 obtain ⟨h7, hm⟩ := qaw hm
 refine qfy rfl rfl rfl h7 ?_
 intro a7 c7 o7
 refine ro (qak rfl ?_)
 obtain ⟨aZ, hm⟩ := qaw hm
 obtain ⟨s0, aT, hm⟩ := bnd hm
 refine lD (σ := (Str)) ([4,5] ++ rg 10 17) [1] (fun i0 => [(10, .int .i64 (i0 : Int))]) (fun _ => []) (fun t0 => [qas eU a7 5 1 c7 t0]) (fun t0 => (0 < t0.length → Has a7) ∧ s.length = t0.length) (fun i0 t0 => tenant_lower_L0 ((s.length : Int).toNat - i0) i0 t0 = some s0) (fun t0 => t0 = s0) (fun i0 => (s.length : Int).toNat - i0) 0 _ aT (And.intro qe (And.intro ?_ ?_))
 clear aT
 rintro i0 ac ⟨aU, aV⟩ aT j0
 conv at aT => whnf
 refine qac rfl ?_
 refine qae ?_ ?_ <;> intro w0
 rw [ltn w0, tenant_lower_L0.eq_2] at aT
 refine qal rfl ?_
 obtain ⟨aY, ba, a6, aT⟩ := ixb aT
 refine RStep.ofN (qad rfl rfl (qcu aU a6) ba (qax aV ba a6) (ro (qbz (i := ((i0 : Int)).toNat) (o := 0) r0 rfl a6 rfl rfl ?_)))
 refine qaj rfl ?_
 refine qae ?_ ?_ <;> intro aS
 refine ct aS (ct aS (qac rfl ?_))
 refine qae ?_ ?_ <;> intro bc
 replace aT := ift (qa5 aS bc) aT
 refine qhw (x := aY) (y := (32 : UInt8)) rfl rfl ?_
 obtain ⟨bd, bb, aX, aT⟩ := ixb aT
 refine RStep.ofN (qad rfl rfl (qcu aU aX) bb (qax aV bb aX) ?_)
 refine qex (o := 0) (y := (aY + (32 : UInt8))) bd r0 rfl aX rfl (by (conv => whnf); exact ⟨rfl, rfl, (nl rfl), rfl, rfl, rfl⟩) ?_
 refine qam (qiy w0 aZ) ?_
 exact rd (i0 + 1, (ac.set (((i0 : Int)).toNat) (aY + (32 : UInt8)))) ⟨rfl, trivial⟩ rfl (pf rfl) lr (qo6 w0) ⟨⟨(by first | simpa using aU | exact fun _ => ⟨_, _, rfl⟩), ((aV).trans List.length_set.symm)⟩, aT⟩
 replace aT := qba (qbs aS bc) aT
 refine qam (qiy w0 aZ) ?_
 exact eR aT (_, _)
 refine cf aS (cf aS (qac rfl (cF ?_)))
 replace aT := qba (qav aS) aT
 refine qam (qiy w0 aZ) ?_
 exact eR aT (_, _)
 rw [lto w0, tenant_lower_L0.eq_1] at aT
 refine cT ?_
 exact eM aT _
 rintro t0 ⟨a8, aW⟩ rfl j0
 refine ro (qeg aW r0 rfl rfl rfl ?_)
 exact eE hm

def Jax (c : UInt8) : Option (Bool) :=
  (Jck c).bind fun x4 =>
  some ((((x4 || decide ((c.toNat : Int) = 45)) || decide ((c.toNat : Int) = 46)) || decide ((c.toNat : Int) = 95)) || decide ((c.toNat : Int) = 126))
theorem JcK {c : UInt8} {K : Hp} {r : Bool}
    (hm : Jax c = some r)  :
    Fn Tryz.prog 79 [.int .u8 (c.toNat : Int)] K [] (fun v K' H' => v = .bool r ∧ H' = []) := by
 refine Fn.enter Tryz.func79 Tryz.call79 rfl fun F => ?_
 unfold Jax at hm
 refine qaj rfl ?_
 refine cb hm fun x4 q4 hm => cg0 (Jdt q4 :) ?_
 refine qae ?_ ?_ <;> intro aU
 refine ct aU (ct aU (cT (cT (cT (cT (cT (cT ?_)))))))
 refine cT (cT (cT ?_))
 exact bE (((qbq (qbq (qbq (qbq aU))))).symm) (eE hm)
 refine cf aU (qaf (cf aU ?_))
 refine qae ?_ ?_ <;> intro aV
 refine ct aV (ct aV (cT (cT (cT (cT (cT (cT ?_)))))))
 exact bE (((qbq (qbq (qbq (qfr aU aV))))).symm) (eE hm)
 refine cf aV (qaf (cf aV ?_))
 refine qae ?_ ?_ <;> intro aS
 refine ct aS (ct aS (cT (cT (cT ?_))))
 exact bE (((qbq (qbq (qfr (qc0 aU aV) aS)))).symm) (eE hm)
 refine cf aS (qaf (cf aS ?_))
 refine qae ?_ ?_ <;> intro aT
 refine ct aT (ct aT ?_)
 exact bE (((qbq (qfr (qc0 (qc0 aU aV) aS) aT))).symm) (eE hm)
 refine cf aT (qaf (cf aT ?_))
 exact bE (qgx (b := decide ((c.toNat : Int) = 126)) (qc0 (qc0 (qc0 aU aV) aS) aT)) (eE hm)

def Jbc (c : UInt8) : Option (Int) :=
  if (decide ((c.toNat : Int) ≥ 48) && decide ((c.toNat : Int) ≤ 57)) then
  some ((c - (48 : UInt8)).toNat : Int)
  else
  if (decide ((c.toNat : Int) ≥ 97) && decide ((c.toNat : Int) ≤ 102)) then
  (chk (InI (((c - (97 : UInt8)).toNat : Int) + 10))).bind fun _ =>
  some (((c - (97 : UInt8)).toNat : Int) + 10)
  else
  if (decide ((c.toNat : Int) ≥ 65) && decide ((c.toNat : Int) ≤ 70)) then
  (chk (InI (((c - (65 : UInt8)).toNat : Int) + 10))).bind fun _ =>
  some (((c - (65 : UInt8)).toNat : Int) + 10)
  else
  some (-1)
theorem Jcc {c : UInt8} {K : Hp} {r : Int}
    (hm : Jbc c = some r)  :
    Fn Tryz.prog 81 [.int .u8 (c.toNat : Int)] K [] (fun v K' H' => v = .int .i64 r ∧ H' = []) := by
 refine Fn.enter Tryz.func81 Tryz.call81 rfl fun F => ?_
 unfold Jbc at hm
 refine qal rfl ?_
 refine jR (σ := Unit) (rg 3 7) (fun _ => [(3, .bool (decide ((c.toNat : Int) ≥ 48) && decide ((c.toNat : Int) ≤ 57)))]) (fun aY => True) ?_ ?_
 refine qaj rfl ?_
 refine qae ?_ ?_ <;> intro aU
 refine ct aU (ct aU ?_)
 exact eMt () ⟨bq (qcw (b := decide ((c.toNat : Int) ≤ 57)) aU), trivial⟩
 refine cf aU (cf aU ?_)
 exact eMt () ⟨bq (((qav aU)).symm), trivial⟩
 rintro _ _ aZ
 refine cs rfl rfl hm ?_ ?_ <;> intro w3 hm
 refine qhx (x := c) (y := (48 : UInt8)) rfl rfl (qes rfl rfl (qpc (c - (48 : UInt8))) ?_)
 exact eE hm
 refine jR (σ := Unit) (rg 13 7) (fun _ => [(13, .bool (decide ((c.toNat : Int) ≥ 97) && decide ((c.toNat : Int) ≤ 102)))]) (fun aX => True) ?_ ?_
 refine qaj rfl ?_
 refine qae ?_ ?_ <;> intro aT
 refine ct aT (ct aT ?_)
 exact eMt () ⟨bq (qcw (b := decide ((c.toNat : Int) ≤ 102)) aT), trivial⟩
 refine cf aT (cf aT ?_)
 exact eMt () ⟨bq (((qav aT)).symm), trivial⟩
 rintro _ _ aW
 refine cs rfl rfl hm ?_ ?_ <;> intro a6 hm
 refine qhx (x := c) (y := (97 : UInt8)) rfl rfl (qes rfl rfl (qpc (c - (97 : UInt8))) ?_)
 refine ci hm fun hm => ?_
 exact eE hm
 refine qaj rfl ?_
 refine qae ?_ ?_ <;> intro aS
 refine ct aS (ct aS (qac rfl ?_))
 refine qae ?_ ?_ <;> intro aV
 replace hm := ift (qa5 aS aV) hm
 refine qhx (x := c) (y := (65 : UInt8)) rfl rfl (qes rfl rfl (qpc (c - (65 : UInt8))) ?_)
 refine ci hm fun hm => ?_
 exact eE hm
 replace hm := qba (qbs aS aV) hm
 exact eE hm
 refine cf aS (cf aS (qac rfl (cF ?_)))
 replace hm := qba (qav aS) hm
 exact eE hm

def J1 (s : Str) (others : Str) : Nat → Str → Int → Option (Fl (Str × Bool) (Str × Int))
  | 0, _, _ => none
  | aW + 1, ac, aS =>
    if decide (aS < (s.length : Int)) then
    (ix s aS).bind fun aV =>
    if decide ((aV.toNat : Int) ≠ 37) then
    (Jax aV).bind fun ba =>
    (if (!ba) then (ixByteM others aV).bind fun bj =>
    some (decide (bj < 0)) else some false).bind fun bm =>
    if bm then
    some (Fl.ret (([] : Str), false))
    else
    (chk (ac.length + ([aV] : Str).length ≤ lim)).bind fun _ =>
    (chk (InI (aS + 1))).bind fun _ =>
    J1 s others aW (ac ++ ([aV] : Str)) (aS + 1)
    else
    (((chk (InI (aS + 2))).bind fun _ =>
    (if decide ((aS + 2) ≥ (s.length : Int)) then some true else (chk (InI (aS + 1))).bind fun _ =>
    (ix s (aS + 1)).bind fun a8 =>
    (Jbc a8).bind fun bg =>
    some (decide (bg < 0))).bind fun bf =>
    (if bf then some true else (chk (InI (aS + 2))).bind fun _ =>
    (ix s (aS + 2)).bind fun bd =>
    (Jbc bd).bind fun bb =>
    some (decide (bb < 0))).bind fun bl =>
    some bl) : Option (Bool)).bind fun aX =>
    if aX then
    some (Fl.ret (([] : Str), false))
    else
    (chk (InI (aS + 1))).bind fun _ =>
    (ix s (aS + 1)).bind fun bh =>
    (Jbc bh).bind fun aT =>
    (chk (InI (16 * aT))).bind fun _ =>
    (chk (InI (aS + 2))).bind fun _ =>
    (ix s (aS + 2)).bind fun a6 =>
    (Jbc a6).bind fun aU =>
    (chk (InI ((16 * aT) + aU))).bind fun _ =>
    (chk (InI (aS + 2))).bind fun _ =>
    if (decide (((qhb ((16 * aT) + aU)).toNat : Int) < 32) || decide (((qhb ((16 * aT) + aU)).toNat : Int) = 127)) then
    some (Fl.ret (([] : Str), false))
    else
    (Jax (qhb ((16 * aT) + aU))).bind fun bc =>
    if bc then
    (chk (ac.length + ([(qhb ((16 * aT) + aU))] : Str).length ≤ lim)).bind fun _ =>
    (chk (InI ((aS + 2) + 1))).bind fun _ =>
    J1 s others aW (ac ++ ([(qhb ((16 * aT) + aU))] : Str)) ((aS + 2) + 1)
    else
    (ix ([48, 49, 50, 51, 52, 53, 54, 55, 56, 57, 65, 66, 67, 68, 69, 70] : Str) (((qhb ((16 * aT) + aU)) / 16).toNat : Int)).bind fun aZ =>
    (ix ([48, 49, 50, 51, 52, 53, 54, 55, 56, 57, 65, 66, 67, 68, 69, 70] : Str) (((qhb ((16 * aT) + aU)) &&& (15 : UInt8)).toNat : Int)).bind fun aY =>
    (chk (ac.length + ([(37 : UInt8), aZ, aY] : Str).length ≤ lim)).bind fun _ =>
    (chk (InI ((aS + 2) + 1))).bind fun _ =>
    J1 s others aW (ac ++ ([(37 : UInt8), aZ, aY] : Str)) ((aS + 2) + 1)
    else
    some (Fl.go (ac, aS))
def JaX (n : Nat) (s : Str) (others : Str) : Option (Str × Bool) :=
  (J1 s others n [] 0).bind fun s0 => s0.el some fun t0 =>
  some (t0.1, true)
theorem JcS {n : Nat} {s : Str} {others : Str} {K : Hp} {r : Str × Bool}
    (hm : JaX n s others = some r)  :
    Fn Tryz.prog 46 [str s, str others] K [] (fun v K' H' => v = .tuple #[str r.1, .bool r.2] ∧ H' = []) := by
 refine Fn.enter Tryz.func46 Tryz.call46 rfl fun F => ?_
 unfold JaX at hm
 obtain ⟨s0, aS, hm⟩ := bnd hm
 refine qhd eU 5 1 ?_
 refine lD (σ := (Str × Int) × Option Addr × Nat) (rg 4 86) [1] (fun _ => []) (fun (t0, aY, aZ) => [(6, .slice aY t0.1.length aZ), (7, .int .i64 t0.2)]) (fun (t0, aY, aZ) => [qas eU aY 5 1 aZ t0.1]) (fun (t0, aY, aZ) => (0 < t0.1.length → Has aY) ∧ True) (fun i0 (t0, aY, aZ) => J1 s others i0 t0.1 t0.2 = some s0) (fun (t0, aY, aZ) => s0 = Fl.go t0) (fun i0 => i0) n ((_, _), _, _) aS (And.intro qe (And.intro ?_ ?_))
 clear aS
 rintro i0 ⟨⟨ac, bt⟩, bm, bl⟩ ⟨bj, _⟩ aS j0
 dsimp only at aS ⊢
 cases i0 with
 | zero => rw [J1.eq_1] at aS; cases aS
 | succ i0 =>
  rw [J1.eq_2] at aS
  refine ro (qa3 rfl ?_)
  refine cs rfl rfl aS ?_ ?_ <;> intro cQ aS
  refine qal rfl ?_
  obtain ⟨bf, bH, bY, aS⟩ := ixb aS
  refine qaz rfl bH bY (qa8 ?_)
  refine cs rfl rfl aS ?_ ?_ <;> intro cR aS
  refine qaj rfl ?_
  refine cb aS fun cE bF aS => cg0 (JcK bF :) ?_
  refine qau ?_
  obtain ⟨cD, bb, aS⟩ := bnd aS
  refine cS bb (fun aW bb => ?_) fun aW bb => ?_
  refine ct aW (ct aW ?_)
  refine cb bb fun cA bX bb => cg0 (qiw bX) ?_
  refine ct aW (ct aW (qac rfl ?_))
  refine qae ?_ ?_ <;> intro bo
  replace aS := ift ((si bb).symm.trans bo) aS
  exact eE (er aS hm)
  replace aS := qba ((si bb).symm.trans bo) aS
  refine bsO (len := 1) (enc := eU) (l := ([bf] : Str)) (cl := [.int .u8 (bf.toNat : Int)]) qcl rfl rfl (fun _ _ => rfl) rfl rfl rfl ?_ fun bU => ?_
  · conv => whnf
    refine cT ?_
    first | done | rfl
  obtain ⟨bh, aS⟩ := qaw aS
  refine apE rfl r1 qcl (qay rfl r0 rfl (fun _ => rfl) (fun _ => rfl)) bh ?_
  intro bS bQ bN
  refine cT ?_
  refine ci aS fun aS => ?_
  exact eR aS (_, (_, _), _, _)
  refine cf aW (cf aW (cf aW (cf aW (qac rfl (cF ?_)))))
  replace aS := qba (si bb).symm aS
  refine bsO (len := 1) (enc := eU) (l := ([bf] : Str)) (cl := [.int .u8 (bf.toNat : Int)]) qcl rfl rfl (fun _ _ => rfl) rfl rfl rfl ?_ fun bU => ?_
  · conv => whnf
    refine cT ?_
    first | done | rfl
  obtain ⟨bh, aS⟩ := qaw aS
  refine apE rfl r1 qcl (qay rfl r0 rfl (fun _ => rfl) (fun _ => rfl)) bh ?_
  intro bS bQ bN
  refine cT ?_
  refine ci aS fun aS => ?_
  exact eR aS (_, (_, _), _, _)
  obtain ⟨bg, aV, aS⟩ := bnd aS
  refine jR (σ := Bool) (rg 33 21) (fun ba => [(53, .bool ba)]) (fun ba => ba = bg) ?_ ?_
  refine qaj rfl ?_
  obtain ⟨bJ, aV⟩ := qaw aV
  refine qam bJ (ro (qa3 rfl ?_))
  obtain ⟨cK, a8, aV⟩ := bnd aV
  refine cS a8 (fun aU a8 => ?_) fun aU a8 => ?_
  refine ct aU (ct aU (ct aU (ct aU (ct aU (ct aU ?_)))))
  obtain ⟨bA, a6, aV⟩ := bnd aV
  replace a6 := ift (si a8).symm a6
  refine cT (cT (cT (cT (cT (cT (cT ?_))))))
  exact eMq aV _ ⟨bq (si a6), trivial⟩
  refine cf aU (cf aU ?_)
  obtain ⟨ce, a8⟩ := qaw a8
  refine qam ce (cf aU ?_)
  obtain ⟨cr, cn, bD, a8⟩ := ixb a8
  refine qaz rfl cn bD (cf aU ?_)
  refine cb a8 fun cP bV a8 => cg0 (Jcc bV :) ?_
  refine cf aU (cf aU ?_)
  obtain ⟨bA, a6, aV⟩ := bnd aV
  refine qae ?_ ?_ <;> intro aT
  replace a6 := ift ((si a8).symm.trans aT) a6
  refine ct aT (ct aT (ct aT (ct aT (ct aT (ct aT ?_)))))
  exact eMq aV _ ⟨bq (si a6), trivial⟩
  replace a6 := qba ((si a8).symm.trans aT) a6
  refine cf aT (cf aT ?_)
  obtain ⟨bK, a6⟩ := qaw a6
  refine qam bK (cf aT ?_)
  obtain ⟨cG, cm, bR, a6⟩ := ixb a6
  refine qaz rfl cm bR (cf aT ?_)
  refine cb a6 fun cu cj a6 => cg0 (Jcc cj :) ?_
  refine cf aT (cf aT ?_)
  exact eMq aV _ ⟨bq (si a6), trivial⟩
  rintro ba rfl bG
  refine cs rfl rfl aS ?_ ?_ <;> intro cL aS
  exact eE (er aS hm)
  refine qa4 ⟨⟨[], false⟩, _, [], []⟩ (by kernel_rfl) ⟨Hp.Le.refl _, (pf rfl), ci0⟩ ?_
  refine ci aS fun aS => ?_
  obtain ⟨cz, bW, bw, aS⟩ := ixb aS
  refine qaz rfl bW bw ?_
  refine cb aS fun bc bz aS => cg0 (Jcc bz :) ?_
  refine qk (pf rfl) ?_
  refine ci aS fun aS => ?_
  refine ci aS fun aS => ?_
  obtain ⟨co, ca, bB, aS⟩ := ixb aS
  refine qaz rfl ca bB ?_
  refine cb aS fun bd bP aS => cg0 (Jcc bP :) ?_
  refine qk (pf rfl) ?_
  refine ci aS fun aS => ?_
  refine qoi rfl rfl ?_
  refine ci aS fun aS => ?_
  refine jR (σ := Unit) (rg 69 6) (fun _ => [(74, .bool (decide (((qhb ((16 * bc) + bd)).toNat : Int) < 32) || decide (((qhb ((16 * bc) + bd)).toNat : Int) = 127)))]) (fun bO => True) ?_ ?_
  refine qaj rfl ?_
  refine qae ?_ ?_ <;> intro aX
  refine ct aX (ct aX ?_)
  exact eMt () ⟨bq (((qbq aX)).symm), trivial⟩
  refine cf aX (qaf (cf aX ?_))
  exact eMt () ⟨bq (qgx (b := decide (((qhb ((16 * bc) + bd)).toNat : Int) = 127)) aX), trivial⟩
  rintro _ _ bI
  refine cs rfl rfl aS ?_ ?_ <;> intro cJ aS
  exact eE (er aS hm)
  refine cb aS fun cM bL aS => cg0 (JcK bL :) ?_
  refine cs rfl rfl aS ?_ ?_ <;> intro cI aS
  refine bsO (len := 1) (enc := eU) (l := ([(qhb ((16 * bc) + bd))] : Str)) (cl := [.int .u8 ((qhb ((16 * bc) + bd)).toNat : Int)]) qcl rfl rfl (fun _ _ => rfl) rfl rfl rfl ?_ fun cw => ?_
  · conv => whnf
    refine cT ?_
    first | done | rfl
  obtain ⟨bu, aS⟩ := qaw aS
  refine apE rfl r1 qcl (qay rfl r0 rfl (fun _ => rfl) (fun _ => rfl)) bu ?_
  intro cB cN cH
  refine cT ?_
  refine ci aS fun aS => ?_
  exact eR aS (_, (_, _), _, _)
  refine qa4 ⟨⟨[], false⟩, _, [], []⟩ (by kernel_rfl) ⟨Hp.Le.refl _, (pf rfl), ci0⟩ ?_
  refine qpv (x := (qhb ((16 * bc) + bd))) 16 rfl (by decide) (by decide) ?_
  obtain ⟨bn, bT, bM, aS⟩ := ixb aS
  refine qaz rfl bT bM ?_
  refine qpw (x := (qhb ((16 * bc) + bd))) (y := (15 : UInt8)) rfl rfl ?_
  obtain ⟨br, bZ, bv, aS⟩ := ixb aS
  refine qaz rfl bZ bv ?_
  refine bsO (len := 3) (enc := eU) (l := ([(37 : UInt8), bn, br] : Str)) (cl := [.int .u8 37, .int .u8 (bn.toNat : Int), .int .u8 (br.toNat : Int)]) qcl rfl rfl (fun _ _ => rfl) rfl rfl rfl ?_ fun cy => ?_
  · conv => whnf
    refine cT (cT (cT ?_))
    first | done | rfl
  refine qk (pf rfl) ?_
  obtain ⟨bC, aS⟩ := qaw aS
  refine apE rfl r1 qcl (qay rfl r0 rfl (fun _ => rfl) (fun _ => rfl)) bC ?_
  intro cO cC cU
  refine qk (pf rfl) ?_
  refine ci aS fun aS => ?_
  exact eR aS (_, (_, _), _, _)
  refine cT ?_
  exact eM aS (_, _, _)
 rintro ⟨t0, aY, aZ⟩ ⟨bp, _⟩ rfl j0
 replace hm := elg hm
 refine ro (qeg rfl r0 rfl rfl rfl ?_)
 exact eE hm

def Jcj (a : Jl) : Option (Str) :=
  if a.HasQuery then
  (chk (a.An.length + a.Ae.length ≤ lim)).bind fun _ =>
  (chk ((a.An ++ a.Ae).length + ([63] : Str).length ≤ lim)).bind fun _ =>
  (chk (((a.An ++ a.Ae) ++ ([63] : Str)).length + a.Af.length ≤ lim)).bind fun _ =>
  some (((a.An ++ a.Ae) ++ ([63] : Str)) ++ a.Af)
  else
  (chk (a.An.length + a.Ae.length ≤ lim)).bind fun _ =>
  some (a.An ++ a.Ae)
theorem JdC {a : Jl} {K : Hp} {r : Str}
    (hm : Jcj a = some r)  :
    Fn Tryz.prog 49 [.agg #[str a.An, str a.Ae, str a.Af, .bool a.HasQuery]] K [] (fun v K' H' => v = str r ∧ H' = []) := by
 refine Fn.enter Tryz.func49 Tryz.call49 rfl fun F => ?_
 unfold Jcj at hm
 refine qaq ?_
 intro b1
 refine fa rfl (ro (ld r0 rfl rfl ?_))
 refine cs rfl rfl hm ?_ ?_ <;> intro w4 hm
 refine fa rfl (ro (ld r0 rfl rfl (fa rfl (ro (ld r0 rfl rfl ?_)))))
 obtain ⟨h9, hm⟩ := qaw hm
 refine qbt h9 ?_
 obtain ⟨aT, hm⟩ := qaw hm
 refine qbt aT ?_
 refine fa rfl (ro (ld r0 rfl rfl ?_))
 obtain ⟨aS, hm⟩ := qaw hm
 refine qbt aS ?_
 exact eE hm
 refine fa rfl (ro (ld r0 rfl rfl (fa rfl (ro (ld r0 rfl rfl ?_)))))
 obtain ⟨aU, hm⟩ := qaw hm
 refine qbt aU ?_
 exact eE hm

def JG (ay : (List Str)) : List Str → Nat → (List Str) → Option (Fl (Jl × Err) ((List Str)))
  | [], _, ac => some (Fl.go ac)
  | e0 :: aS, i0, ac =>
    if decide (e0 = ([46] : Str)) then
    if decide (e0 = ([46, 46] : Str)) then
    if decide ((ac.length : Int) = 0) then
    some (Fl.ret ((⟨([] : Str), ([] : Str), ([] : Str), false⟩ : Jl), (some 27)))
    else
    (chk (InI ((ac.length : Int) - 1))).bind fun _ =>
    (chk (0 ≤ (0 : Int) ∧ (0 : Int) ≤ ((ac.length : Int) - 1) ∧ ((ac.length : Int) - 1) ≤ (ac.length : Int))).bind fun _ =>
    (chk (InI ((ay.length : Int) - 1))).bind fun _ =>
    if decide ((i0 : Int) = ((ay.length : Int) - 1)) then
    (chk ((subL ac (0 : Int) ((ac.length : Int) - 1)).length + ([([] : Str)]).length ≤ lim)).bind fun _ =>
    JG ay aS (i0 + 1) ((subL ac (0 : Int) ((ac.length : Int) - 1)) ++ [([] : Str)])
    else
    JG ay aS (i0 + 1) (subL ac (0 : Int) ((ac.length : Int) - 1))
    else
    (chk (InI ((ay.length : Int) - 1))).bind fun _ =>
    if decide ((i0 : Int) = ((ay.length : Int) - 1)) then
    (chk (ac.length + ([([] : Str)]).length ≤ lim)).bind fun _ =>
    JG ay aS (i0 + 1) (ac ++ [([] : Str)])
    else
    JG ay aS (i0 + 1) ac
    else
    if decide (e0 = ([46, 46] : Str)) then
    if decide (e0 = ([46, 46] : Str)) then
    if decide ((ac.length : Int) = 0) then
    some (Fl.ret ((⟨([] : Str), ([] : Str), ([] : Str), false⟩ : Jl), (some 27)))
    else
    (chk (InI ((ac.length : Int) - 1))).bind fun _ =>
    (chk (0 ≤ (0 : Int) ∧ (0 : Int) ≤ ((ac.length : Int) - 1) ∧ ((ac.length : Int) - 1) ≤ (ac.length : Int))).bind fun _ =>
    (chk (InI ((ay.length : Int) - 1))).bind fun _ =>
    if decide ((i0 : Int) = ((ay.length : Int) - 1)) then
    (chk ((subL ac (0 : Int) ((ac.length : Int) - 1)).length + ([([] : Str)]).length ≤ lim)).bind fun _ =>
    JG ay aS (i0 + 1) ((subL ac (0 : Int) ((ac.length : Int) - 1)) ++ [([] : Str)])
    else
    JG ay aS (i0 + 1) (subL ac (0 : Int) ((ac.length : Int) - 1))
    else
    (chk (InI ((ay.length : Int) - 1))).bind fun _ =>
    if decide ((i0 : Int) = ((ay.length : Int) - 1)) then
    (chk (ac.length + ([([] : Str)]).length ≤ lim)).bind fun _ =>
    JG ay aS (i0 + 1) (ac ++ [([] : Str)])
    else
    JG ay aS (i0 + 1) ac
    else
    (chk (ac.length + [e0].length ≤ lim)).bind fun _ =>
    JG ay aS (i0 + 1) (ac ++ [e0])
def JaJ (n : Nat) (host : Str) (target : Str) : Option (Jl × Err) :=
  (Jcg host).bind fun aV =>
  if aV.2.isSome then
  some ((⟨([] : Str), ([] : Str), ([] : Str), false⟩ : Jl), aV.2)
  else
  (qny target ([63] : Str)).bind fun aU =>
  (if decide (aU.1 = ([] : Str)) then some true else (ix aU.1 0).bind fun aZ =>
  some (decide ((aZ.toNat : Int) ≠ 47))).bind fun aY =>
  if aY then
  some ((⟨([] : Str), ([] : Str), ([] : Str), false⟩ : Jl), (some 27))
  else
  (JaX n aU.1 ([33, 36, 38, 39, 40, 41, 42, 43, 44, 59, 61, 58, 64, 47] : Str)).bind fun aT =>
  (JaX n aU.2.1 ([33, 36, 38, 39, 40, 41, 42, 43, 44, 59, 61, 58, 64, 47, 63] : Str)).bind fun aX =>
  if ((!aT.2) || (!aX.2)) then
  some ((⟨([] : Str), ([] : Str), ([] : Str), false⟩ : Jl), (some 27))
  else
  (chk (0 ≤ (1 : Int) ∧ (1 : Int) ≤ (aT.1.length : Int) ∧ (aT.1.length : Int) ≤ (aT.1.length : Int))).bind fun _ =>
  (qe4 (subL aT.1 (1 : Int) (aT.1.length : Int)) ([47] : Str)).bind fun ay =>
  (chk (ay.length ≤ qbh)).bind fun _ =>
  (JG ay ay 0 []).bind fun s0 => s0.el some fun t0 =>
  (qip t0 ([47] : Str)).bind fun aS =>
  (chk (([47] : Str).length + aS.length ≤ lim)).bind fun _ =>
  (Jcj (⟨aV.1, (([47] : Str) ++ aS), aX.1, aU.2.2⟩ : Jl)).bind fun aW =>
  if decide ((aW.length : Int) > 1024) then
  some ((⟨([] : Str), ([] : Str), ([] : Str), false⟩ : Jl), (some 5))
  else
  some ((⟨aV.1, (([47] : Str) ++ aS), aX.1, aU.2.2⟩ : Jl), none)
theorem Ja5 {n : Nat} {host : Str} {target : Str} {K : Hp} {r : Jl × Err}
    (hm : JaJ n host target = some r) (hG : GG K) :
    Fn Tryz.prog 14 [str host, str target] K [] (fun v K' H' => v = .tuple #[.agg #[str r.1.An, str r.1.Ae, str r.1.Af, .bool r.1.HasQuery], qcs 48 r.2] ∧ H' = []) := by
 refine Fn.enter Tryz.func14 Tryz.call14 rfl fun F => ?_
 unfold JaJ at hm
 refine qai rfl fun b4 => ?_
 refine cb hm fun co bJ hm => cgx (JdB bJ :) ?_
 refine qa6 rfl ?_
 refine cs rfl rfl hm ?_ ?_ <;> intro ca hm
 refine qag rfl rfl ?_
 refine qaa r0 rfl ⟨rfl, rfl, (nl rfl), ?_⟩
 exact ro (qab r0 rfl (nl rfl) (eE hm))
 refine cb hm fun cj bT hm => cg0 (qmd bT (gg0 hG)) ?_
 obtain ⟨bz, aX, hm⟩ := bnd hm
 refine jR (σ := Bool) (rg 33 7) (fun a6 => [(39, .bool a6)]) (fun a6 => a6 = bz) ?_ ?_
 replace aX := bsm aX
 refine qaj rfl ?_
 refine qap ?_
 obtain ⟨cn, bf, aX⟩ := bnd aX
 refine cS bf (fun aU bf => ?_) fun aU bf => ?_
 refine ct aU (ct aU (ct aU ?_))
 exact eMq aX _ ⟨bq (si bf), trivial⟩
 refine cf aU ?_
 obtain ⟨cy, bS, bQ, bf⟩ := ixb bf
 refine qaz rfl bS bQ (cf aU (qa8 (cf aU ?_)))
 exact eMq aX _ ⟨bq (si bf), trivial⟩
 rintro a6 rfl bL
 refine cs rfl rfl hm ?_ ?_ <;> intro ce hm
 refine qag rfl rfl ?_
 refine qar rfl ?_
 refine qaa r0 rfl ⟨rfl, rfl, (nl rfl), ?_⟩
 exact ro (qab r0 rfl (nl rfl) (eE hm))
 refine cb hm fun bY bK hm => cg0 (JcS bK :) ?_
 refine cb hm fun bF bI hm => cg0 (JcS bI :) ?_
 refine jR (σ := Unit) (rg 52 6) (fun _ => [(57, .bool ((!bY.2) || (!bF.2)))]) (fun bX => True) ?_ ?_
 refine qaj rfl ?_
 refine qau ?_
 refine qae ?_ ?_ <;> intro aW
 refine ct aW (ct aW ?_)
 exact eMt () ⟨bq (((qbq (qef (qjb aW)))).symm), trivial⟩
 refine cf aW (qau (cf aW ?_))
 exact eMt () ⟨bq (qgx (b := (!bF.2)) (qc5 (qhc aW))), trivial⟩
 rintro _ _ bM
 refine cs rfl rfl hm ?_ ?_ <;> intro cr hm
 refine qag rfl rfl ?_
 refine qar rfl ?_
 refine qaa r0 rfl ⟨rfl, rfl, (nl rfl), ?_⟩
 exact ro (qab r0 rfl (nl rfl) (eE hm))
 obtain ⟨bR, hm⟩ := qaw hm
 refine RStep.ofN (qdz (lo := (some 1)) (hi := none) rfl bR ?_)
 refine cb hm fun ay bW hm => ck0 (qf2 bW (gg0 hG)) ?_
 rintro _ _ _ ⟨bA, bD, rfl, bj, rfl⟩
 refine ro (qak rfl ?_)
 obtain ⟨aZ, hm⟩ := qaw hm
 obtain ⟨s0, aS, hm⟩ := bnd hm
 refine qhd eS 9 1 ?_
 refine lD (σ := ((List Str)) × Option Addr × Nat) ([5,13,15,16] ++ rg 65 34) [1, 2, 3] (fun i0 => [(65, .int .i64 (i0 : Int))]) (fun (t0, aT, aV) => [(13, .slice aT t0.length aV)]) (fun (t0, aT, aV) => [qas eS aT 9 1 aV t0]) (fun (t0, aT, aV) => (0 < t0.length → Has aT) ∧ True) (fun i0 (t0, aT, aV) => JG ay (ay.drop i0) i0 t0 = some s0) (fun (t0, aT, aV) => s0 = Fl.go t0) (fun i0 => ay.length - i0) 0 (_, _, _) aS (And.intro qe (And.intro ?_ ?_))
 clear aS
 rintro i0 ⟨ac, bb, ba⟩ ⟨a8, _⟩ aS j0
 conv at aS => whnf
 refine qac rfl ?_
 refine qae ?_ ?_ <;> intro w0
 obtain ⟨e0, aY, bO⟩ := ltx w0
 rw [bO, JG.eq_2] at aS
 refine qal rfl ?_
 refine RStep.ofN (qad rfl rfl (qcu bj aY) (nn _) (qff rfl aY) (ro (qbz (i := i0) (o := 0) r1 rfl aY rfl rfl ?_)))
 refine qal rfl ?_
 refine qap (cs rfl rfl aS ?_ ?_) <;> intro bC aS
 refine qac rfl (ct bC (qap ?_))
 refine cs rfl rfl aS ?_ ?_ <;> intro bG aS
 refine ro (qak rfl (qaf ?_))
 refine cs rfl rfl aS ?_ ?_ <;> intro bN aS
 refine qag rfl rfl ?_
 refine qar rfl ?_
 refine qaa r2 rfl ⟨rfl, rfl, (nl rfl), ?_⟩
 exact ro (qab r0 rfl (nl rfl) (eE (er aS hm)))
 refine ro (qak rfl ?_)
 refine ci aS fun aS => ?_
 obtain ⟨bh, aS⟩ := qaw aS
 refine qmr (l := ac) (hi := (some ((ac.length : Int) - 1))) rfl r0 (by simp) rfl rfl bh ?_
 refine ro (qak rfl ?_)
 obtain ⟨bd, aS⟩ := qaw aS
 refine qam bd (qaf ?_)
 refine cs rfl rfl aS ?_ ?_ <;> intro bu aS
 refine bsO (len := 1) (enc := eS) (l := [([] : Str)]) (cl := [str ([] : Str)]) qb1 rfl rfl (fun _ _ => rfl) rfl rfl rfl ?_ fun bw => ?_
 · conv => whnf
   refine cT ?_
   first | done | rfl
 obtain ⟨bc, aS⟩ := qaw aS
 refine tkW ((ac.length : Int) - 1) r1 ?_
 refine apE rfl r0 qb1 (qay rfl r0 rfl (fun _ => rfl) (fun _ => rfl)) bc ?_
 intro bv bp bn
 refine qam (qbu aY aZ) ?_
 exact eR aS (_, _, _, _)
 refine qam (qbu aY aZ) ?_
 refine qrb ((ac.length : Int) - 1) r0 ?_
 exact rd (i0 + 1, (subL ac (0 : Int) ((ac.length : Int) - 1)), bb, ba) ⟨rfl, rfl, trivial⟩ rfl (pf rfl) lr (ltm aY) ⟨⟨(fun h => a8 (qgk bh h)), trivial⟩, aS⟩
 refine ro (qak rfl ?_)
 obtain ⟨bd, aS⟩ := qaw aS
 refine qam bd (qaf ?_)
 refine cs rfl rfl aS ?_ ?_ <;> intro bu aS
 refine bsO (len := 1) (enc := eS) (l := [([] : Str)]) (cl := [str ([] : Str)]) qb1 rfl rfl (fun _ _ => rfl) rfl rfl rfl ?_ fun bw => ?_
 · conv => whnf
   refine cT ?_
   first | done | rfl
 obtain ⟨bc, aS⟩ := qaw aS
 refine apE rfl r1 qb1 (qay rfl r0 rfl (fun _ => rfl) (fun _ => rfl)) bc ?_
 intro bv bp bn
 refine qam (qbu aY aZ) ?_
 exact eR aS (_, _, _, _)
 refine qam (qbu aY aZ) ?_
 exact eR aS (_, _, _, _)
 refine qap (cs rfl rfl aS ?_ ?_) <;> intro bC aS
 refine qap (cs rfl rfl aS ?_ ?_) <;> intro bG aS
 refine ro (qak rfl (qaf ?_))
 refine cs rfl rfl aS ?_ ?_ <;> intro bN aS
 refine qag rfl rfl ?_
 refine qar rfl ?_
 refine qaa r2 rfl ⟨rfl, rfl, (nl rfl), ?_⟩
 exact ro (qab r0 rfl (nl rfl) (eE (er aS hm)))
 refine ro (qak rfl ?_)
 refine ci aS fun aS => ?_
 obtain ⟨bh, aS⟩ := qaw aS
 refine qmr (l := ac) (hi := (some ((ac.length : Int) - 1))) rfl r0 (by simp) rfl rfl bh ?_
 refine ro (qak rfl ?_)
 obtain ⟨bd, aS⟩ := qaw aS
 refine qam bd (qaf ?_)
 refine cs rfl rfl aS ?_ ?_ <;> intro bu aS
 refine bsO (len := 1) (enc := eS) (l := [([] : Str)]) (cl := [str ([] : Str)]) qb1 rfl rfl (fun _ _ => rfl) rfl rfl rfl ?_ fun bw => ?_
 · conv => whnf
   refine cT ?_
   first | done | rfl
 obtain ⟨bc, aS⟩ := qaw aS
 refine tkW ((ac.length : Int) - 1) r1 ?_
 refine apE rfl r0 qb1 (qay rfl r0 rfl (fun _ => rfl) (fun _ => rfl)) bc ?_
 intro bv bp bn
 refine qam (qbu aY aZ) ?_
 exact eR aS (_, _, _, _)
 refine qam (qbu aY aZ) ?_
 refine qrb ((ac.length : Int) - 1) r0 ?_
 exact rd (i0 + 1, (subL ac (0 : Int) ((ac.length : Int) - 1)), bb, ba) ⟨rfl, rfl, trivial⟩ rfl (pf rfl) lr (ltm aY) ⟨⟨(fun h => a8 (qgk bh h)), trivial⟩, aS⟩
 refine ro (qak rfl ?_)
 obtain ⟨bd, aS⟩ := qaw aS
 refine qam bd (qaf ?_)
 refine cs rfl rfl aS ?_ ?_ <;> intro bu aS
 refine bsO (len := 1) (enc := eS) (l := [([] : Str)]) (cl := [str ([] : Str)]) qb1 rfl rfl (fun _ _ => rfl) rfl rfl rfl ?_ fun bw => ?_
 · conv => whnf
   refine cT ?_
   first | done | rfl
 obtain ⟨bc, aS⟩ := qaw aS
 refine apE rfl r1 qb1 (qay rfl r0 rfl (fun _ => rfl) (fun _ => rfl)) bc ?_
 intro bv bp bn
 refine qam (qbu aY aZ) ?_
 exact eR aS (_, _, _, _)
 refine qam (qbu aY aZ) ?_
 exact eR aS (_, _, _, _)
 refine bsO (len := 1) (enc := eS) (l := [e0]) (cl := [str e0]) qb1 rfl rfl (fun _ _ => rfl) rfl rfl rfl ?_ fun cu => ?_
 · conv => whnf
   refine cT ?_
   first | done | rfl
 obtain ⟨bH, aS⟩ := qaw aS
 refine apE rfl r1 qb1 (qay rfl r0 rfl (fun _ => rfl) (fun _ => rfl)) bH ?_
 intro cm bZ cw
 refine qam (qbu aY aZ) ?_
 exact eR aS (_, _, _, _)
 rw [lty w0, JG.eq_1] at aS
 refine cT ?_
 exact eM aS (_, _, _)
 rintro ⟨t0, aT, aV⟩ ⟨bB, _⟩ rfl j0
 replace hm := elg hm
 refine cb hm fun bP bm hm => ck0 (Fn.lend Tryz.call48 (fun bo bt bg => (qmb bm bg rfl)) (by exact fun _ _ _ _ h => h)) ?_
 rintro _ _ _ ⟨_, rfl, rfl, rfl⟩
 obtain ⟨br, hm⟩ := qaw hm
 refine qbt br ?_
 refine qag rfl rfl (cT (cT (cT (cT ?_))))
 refine qai rfl fun cz => ?_
 refine qaa r0 rfl ⟨rfl, rfl, (nl rfl), ?_⟩
 refine ro (qab r0 rfl (nl rfl) ?_)
 refine cb hm fun bV bl hm => cg0 (JdC bl :) ?_
 refine ro (qa3 rfl ?_)
 refine cs rfl rfl hm ?_ ?_ <;> intro bU hm
 refine qag rfl rfl ?_
 refine qar rfl ?_
 refine qaa r3 rfl ⟨rfl, rfl, (nl rfl), ?_⟩
 exact ro (qab r0 rfl (nl rfl) (eE hm))
 refine ro (qab r0 rfl (nl rfl) ?_)
 refine qaa r3 rfl ⟨rfl, rfl, (nl rfl), ?_⟩
 exact ro (qab r0 rfl (nl rfl) (eE hm))

def Jbd (s : Str) : Option (Bool) :=
  (JcX s).bind fun x7 =>
  some x7.2.isNone
theorem JbW {s : Str} {K : Hp} {r : Bool}
    (hm : Jbd s = some r)  :
    Fn Tryz.prog 213 [str s] K [] (fun v K' H' => v = .bool r ∧ H' = []) := by
 refine Fn.enter Tryz.func213 Tryz.call213 rfl fun F => ?_
 unfold Jbd at hm
 refine cb hm fun x7 q7 hm => cg0 (Jdv q7 :) ?_
 refine qdq rfl ?_
 exact eE hm

def JaN (s : Str) (prefixZ : Str) : Option (Str × Bool) :=
  (Jai s prefixZ).bind fun x8 =>
  if (!x8) then
  some (s, false)
  else
  (chk (0 ≤ (prefixZ.length : Int) ∧ (prefixZ.length : Int) ≤ (s.length : Int) ∧ (s.length : Int) ≤ (s.length : Int))).bind fun _ =>
  some ((subL s (prefixZ.length : Int) (s.length : Int)), true)
theorem Jcr {s : Str} {prefixZ : Str} {K : Hp} {r : Str × Bool}
    (hm : JaN s prefixZ = some r)  :
    Fn Tryz.prog 255 [str s, str prefixZ] K [] (fun v K' H' => v = .tuple #[str r.1, .bool r.2] ∧ H' = []) := by
 refine Fn.enter Tryz.func255 Tryz.call255 rfl fun F => ?_
 unfold JaN at hm
 refine cb hm fun x8 q8 hm => cg0 (Ja7 q8 :) ?_
 refine qau ?_
 refine cs rfl rfl hm ?_ ?_ <;> intro w9 hm
 exact eE hm
 refine ro (qa3 rfl ?_)
 obtain ⟨aS, hm⟩ := qaw hm
 refine RStep.ofN (qdz (lo := (some (prefixZ.length : Int))) (hi := none) rfl aS ?_)
 exact eE hm

def Jb1 (s : Str) (prefixZ : Str) : Option (Str × Bool) :=
  (JaN s prefixZ).bind fun x8 =>
  some (x8.1, x8.2)
theorem JcT {s : Str} {prefixZ : Str} {K : Hp} {r : Str × Bool}
    (hm : Jb1 s prefixZ = some r)  :
    Fn Tryz.prog 239 [str s, str prefixZ] K [] (fun v K' H' => v = .tuple #[str r.1, .bool r.2] ∧ H' = []) := by
 refine Fn.enter Tryz.func239 Tryz.call239 rfl fun F => ?_
 unfold Jb1 at hm
 refine cb hm fun x8 q8 hm => cg0 (Jcr q8 :) ?_
 exact eE hm

def JdD (s : Str) : Option (Int × Bool) :=
  if decide (s = ([112, 97, 116, 104] : Str)) then
  some (1, true)
  else
  if decide (s = ([113, 117, 101, 114, 121] : Str)) then
  some (1, true)
  else
  if decide (s = ([116, 97, 103] : Str)) then
  some (1, true)
  else
  if decide (s = ([116, 116, 108] : Str)) then
  some (1, true)
  else
  if decide (s = ([100, 101, 110, 121] : Str)) then
  some (1, true)
  else
  if decide (s = ([112, 97, 115, 115] : Str)) then
  some (0, true)
  else
  if decide (s = ([116, 111, 107, 101, 110] : Str)) then
  some (0, true)
  else
  (Jb1 s ([104, 101, 97, 100, 101, 114, 58] : Str)).bind fun aS =>
  if aS.2 then
  (Jbd aS.1).bind fun aU =>
  some (1, aU)
  else
  (Jb1 s ([118, 97, 114, 121, 58] : Str)).bind fun aT =>
  (if aT.2 then (Jbd aT.1).bind fun aV =>
  some aV else some false).bind fun aW =>
  some (0, aW)
theorem Jen {s : Str} {K : Hp} {r : Int × Bool}
    (hm : JdD s = some r)  :
    Fn Tryz.prog 214 [str s] K [] (fun v K' H' => v = .tuple #[.int .i64 r.1, .bool r.2] ∧ H' = []) := by
 refine Fn.enter Tryz.func214 Tryz.call214 rfl fun F => ?_
 unfold JdD at hm
 refine qal rfl ?_
 refine qap (cs rfl rfl hm ?_ ?_) <;> intro w9 hm
 refine qac rfl (ct w9 ?_)
 exact eE hm
 refine qap (cs rfl rfl hm ?_ ?_) <;> intro w9 hm
 refine qac rfl (ct w9 ?_)
 exact eE hm
 refine qap (cs rfl rfl hm ?_ ?_) <;> intro w9 hm
 refine qac rfl (ct w9 ?_)
 exact eE hm
 refine qap (cs rfl rfl hm ?_ ?_) <;> intro w9 hm
 refine qac rfl (ct w9 ?_)
 exact eE hm
 refine qap (cs rfl rfl hm ?_ ?_) <;> intro w9 hm
 exact eE hm
 refine qap (cs rfl rfl hm ?_ ?_) <;> intro aU hm
 refine qac rfl (ct aU ?_)
 exact eE hm
 refine qap (cs rfl rfl hm ?_ ?_) <;> intro aU hm
 exact eE hm
 refine cb hm fun aZ aV hm => cg0 (JcT aV :) ?_
 refine cs rfl rfl hm ?_ ?_ <;> intro a6 hm
 refine cb hm fun a8 aW hm => cg0 (JbW aW :) ?_
 exact eE hm
 refine cb hm fun bc aX hm => cg0 (JcT aX :) ?_
 refine qaj rfl ?_
 obtain ⟨bb, aT, hm⟩ := bnd hm
 refine cS aT (fun aS aT => ?_) fun aS aT => ?_
 refine ct aS ?_
 refine cb aT fun ba aY aT => cg0 (JbW aY :) ?_
 refine ct aS ?_
 cases hm
 exact en lr ⟨(by rw [← (si aT)] <;> rfl), rfl⟩ (pf rfl)
 refine cf aS (cf aS ?_)
 cases hm
 exact en lr ⟨(by rw [← ((si aT).symm).symm] <;> rfl), rfl⟩ (pf rfl)

def Jdd (x : Jf) : Option (Int × Int × Bool) :=
  if decide (x.Op = 1) then
  some (0, 1, ((decide (x.S = ([] : Str)) && decide (x.N ≥ 0)) && decide (x.N ≤ 999999999)))
  else
  if decide (x.Op = 2) then
  (if decide (x.N = 0) then (Jbd x.S).bind fun aU =>
  some aU else some false).bind fun aV =>
  some (0, 1, aV)
  else
  if decide (x.Op = 3) then
  some (0, 1, ((decide (x.S = ([] : Str)) && decide (x.N ≥ 0)) && decide (x.N ≤ 511)))
  else
  if decide (x.Op = 4) then
  some (1, 0, ((decide (x.S = ([] : Str)) && decide (x.N ≥ 0)) && decide (x.N ≤ 511)))
  else
  if decide (x.Op = 5) then
  (if decide (x.N = 0) then (JK Jas x.S).bind fun aY =>
  some aY else some false).bind fun ay =>
  some (0, 1, ay)
  else
  if decide (x.Op = 6) then
  (if decide (x.N = 0) then (JK JaT x.S).bind fun aZ =>
  some aZ else some false).bind fun aX =>
  some (1, 1, aX)
  else
  if decide (x.Op = 7) then
  (if decide (x.N = 0) then (JK JaU x.S).bind fun aW =>
  some aW else some false).bind fun aT =>
  some (2, 1, aT)
  else
  if decide (x.Op = 8) then
  some (1, 1, (decide (x.N = 0) && decide (x.S = ([] : Str))))
  else
  if decide (x.Op = 9) then
  some (0, 0, decide (x.S = ([] : Str)))
  else
  if decide (x.Op = 10) then
  some (1, 0, decide (x.S = ([] : Str)))
  else
  if decide (x.Op = 11) then
  (JdD x.S).bind fun aS =>
  some (aS.1, 0, (decide (x.N = 0) && aS.2))
  else
  if decide (x.Op = 12) then
  some (0, 0, (decide (x.N = 0) && decide (x.S = ([] : Str))))
  else
  some (0, 0, false)
theorem Jd9 {x : Jf} {K : Hp} {r : Int × Int × Bool}
    (hm : Jdd x = some r) (hG : GG K) :
    Fn Tryz.prog 153 [.agg #[.int .i64 x.Op, .int .i64 x.N, str x.S]] K [] (fun v K' H' => v = .tuple #[.int .i64 r.1, .int .i64 r.2.1, .bool r.2.2] ∧ H' = []) := by
 obtain ⟨bV, bY, bG, gn_, bg, bw⟩ := gg1 hG
 subst gn_
 obtain ⟨ce, bP, bO, gn_, bm, bX⟩ := gg2 hG
 subst gn_
 obtain ⟨ca, bN, bz, gn_, bp, bT⟩ := gg3 hG
 subst gn_
 refine Fn.enter Tryz.func153 Tryz.call153 rfl fun F => ?_
 unfold Jdd at hm
 refine qaq ?_
 intro b1
 refine fa rfl (ro (ld r0 rfl rfl (qaf (fa rfl (ro (ld r0 rfl rfl (qap ?_)))))))
 refine jR (σ := Unit) ([7] ++ rg 14 11) (fun _ => [(7, .bool ((decide (x.S = ([] : Str)) && decide (x.N ≥ 0)) && decide (x.N ≤ 511)))]) (fun bn => True) ?_ ?_
 refine qaj rfl ?_
 refine qae ?_ ?_ <;> intro aW
 refine fa rfl (ct aW (ro (ld r0 rfl rfl (ct aW (ct aW ?_)))))
 refine qae ?_ ?_ <;> intro aX
 refine fa rfl (ct aX (ro (ld r0 rfl rfl (ct aX (ct aX ?_)))))
 exact eMt () ⟨bq (qcw (b := decide (x.N ≤ 511)) (qa5 aW aX)), trivial⟩
 refine cf aX (cf aX (cf aX ?_))
 exact eMt () ⟨bq (((qav (qbs aW aX))).symm), trivial⟩
 refine cf aW (cf aW (cf aW (cF (cF (cF (cF ?_))))))
 exact eMt () ⟨bq (((qav (qav aW))).symm), trivial⟩
 rintro _ _ bv
 refine fa rfl (ro (ld r0 rfl rfl ?_))
 refine qal rfl ?_
 refine qaf (cs rfl rfl hm ?_ ?_) <;> intro bF hm
 refine qa4 ⟨⟨[], false⟩, _, [(_, _)], []⟩ (by kernel_rfl) ⟨Hp.Le.refl _, (pf rfl), ci0⟩ ?_
 refine qae ?_ ?_ <;> intro aV
 refine fa rfl (ct aV (qao m0 rfl rfl (ct aV (ct aV ?_))))
 refine qae ?_ ?_ <;> intro aY
 refine fa rfl (ct aY (qao m0 rfl rfl (ct aY (ct aY ?_))))
 cases hm
 exact en lr ⟨(by rw [← (qcw (b := decide (x.N ≤ 999999999)) (qa5 aV aY))] <;> rfl), rfl⟩ (sc [1] rfl)
 refine cf aY (cf aY (cf aY ?_))
 cases hm
 exact en lr ⟨(by rw [← ((qav (qbs aV aY))).symm] <;> rfl), rfl⟩ (sc [1] rfl)
 refine cf aV (cf aV (cf aV (cF (cF (cF (cF ?_))))))
 cases hm
 exact en lr ⟨(by rw [← ((qav (qav aV))).symm] <;> rfl), rfl⟩ (sc [1] rfl)
 refine qaf (cs rfl rfl hm ?_ ?_) <;> intro bL hm
 refine qaj rfl ?_
 obtain ⟨bJ, bc, hm⟩ := bnd hm
 refine cS bc (fun a8 bc => ?_) fun a8 bc => ?_
 refine fa rfl (ct a8 (ro (ld r0 rfl rfl (ct a8 ?_))))
 refine cb bc fun bD bj bc => cg0 (JbW bj :) ?_
 refine ct a8 ?_
 cases hm
 exact en lr ⟨(by rw [← (si bc)] <;> rfl), rfl⟩ (sc [1] rfl)
 refine cf a8 (cf a8 (cf a8 ?_))
 cases hm
 exact en lr ⟨(by rw [← ((si bc).symm).symm] <;> rfl), rfl⟩ (sc [1] rfl)
 refine qaf (cs rfl rfl hm ?_ ?_) <;> intro bB hm
 exact eE hm
 refine qaf (cs rfl rfl hm ?_ ?_) <;> intro cj hm
 exact eE hm
 refine qaf (cs rfl rfl hm ?_ ?_) <;> intro bQ hm
 refine qaj rfl ?_
 obtain ⟨ay, bf, hm⟩ := bnd hm
 refine cS bf (fun aT bf => ?_) fun aT bf => ?_
 refine ro (qka bg rfl (ct aT (fa rfl (ct aT (ro (ld r0 rfl rfl (ct aT ?_)))))))
 refine cb bf fun bM bt bf => cgx (JM bt :) ?_
 refine ct aT ?_
 cases hm
 exact en lr ⟨(by rw [← (si bf)] <;> rfl), rfl⟩ (sc [1] rfl)
 refine cf aT (cf aT (cf aT (cf aT ?_)))
 cases hm
 exact en lr ⟨(by rw [← ((si bf).symm).symm] <;> rfl), rfl⟩ (sc [1] rfl)
 refine qaf (cs rfl rfl hm ?_ ?_) <;> intro bZ hm
 refine qaj rfl ?_
 obtain ⟨bH, bd, hm⟩ := bnd hm
 refine cS bd (fun aS bd => ?_) fun aS bd => ?_
 refine ro (qka bm rfl (ct aS (fa rfl (ct aS (ro (ld r0 rfl rfl (ct aS ?_)))))))
 refine cb bd fun bI bl bd => cgx (JM bl :) ?_
 refine ct aS ?_
 cases hm
 exact en lr ⟨(by rw [← (si bd)] <;> rfl), rfl⟩ (sc [1] rfl)
 refine cf aS (cf aS (cf aS (cf aS ?_)))
 cases hm
 exact en lr ⟨(by rw [← ((si bd).symm).symm] <;> rfl), rfl⟩ (sc [1] rfl)
 refine qaf (cs rfl rfl hm ?_ ?_) <;> intro bR hm
 refine qaj rfl ?_
 obtain ⟨bW, bb, hm⟩ := bnd hm
 refine cS bb (fun aU bb => ?_) fun aU bb => ?_
 refine ro (qka bp rfl (ct aU (fa rfl (ct aU (ro (ld r0 rfl rfl (ct aU ?_)))))))
 refine cb bb fun bK bu bb => cgx (JM bu :) ?_
 refine ct aU ?_
 cases hm
 exact en lr ⟨(by rw [← (si bb)] <;> rfl), rfl⟩ (sc [1] rfl)
 refine cf aU (cf aU (cf aU (cf aU ?_)))
 cases hm
 exact en lr ⟨(by rw [← ((si bb).symm).symm] <;> rfl), rfl⟩ (sc [1] rfl)
 refine qaf (cs rfl rfl hm ?_ ?_) <;> intro bA hm
 refine qaj rfl ?_
 refine qae ?_ ?_ <;> intro ba
 refine ct ba ?_
 cases hm
 exact en lr ⟨(by rw [← (qcw (b := decide (x.S = ([] : Str))) ba)] <;> rfl), rfl⟩ (sc [1] rfl)
 refine cf ba ?_
 cases hm
 exact en lr ⟨(by rw [← ((qav ba)).symm] <;> rfl), rfl⟩ (sc [1] rfl)
 refine qaf (cs rfl rfl hm ?_ ?_) <;> intro bS hm
 exact eE hm
 refine qaf (cs rfl rfl hm ?_ ?_) <;> intro bC hm
 exact eE hm
 refine qaf (cs rfl rfl hm ?_ ?_) <;> intro bU hm
 refine fa rfl (ro (ld r0 rfl rfl ?_))
 refine cb hm fun bh bo hm => cg0 (Jen bo :) ?_
 refine qaj rfl ?_
 refine qae ?_ ?_ <;> intro aZ
 refine ct aZ ?_
 cases hm
 exact en lr ⟨(by rw [← (qcw (b := bh.2) aZ)] <;> rfl), rfl⟩ (sc [1] rfl)
 refine cf aZ ?_
 cases hm
 exact en lr ⟨(by rw [← ((qav aZ)).symm] <;> rfl), rfl⟩ (sc [1] rfl)
 refine qaf (cs rfl rfl hm ?_ ?_) <;> intro br hm
 refine qaj rfl ?_
 refine qae ?_ ?_ <;> intro a6
 refine ct a6 ?_
 cases hm
 exact en lr ⟨(by rw [← (qcw (b := decide (x.S = ([] : Str))) a6)] <;> rfl), rfl⟩ (sc [1] rfl)
 refine cf a6 ?_
 cases hm
 exact en lr ⟨(by rw [← ((qav a6)).symm] <;> rfl), rfl⟩ (sc [1] rfl)
 exact eE hm

def Jcs (s : Jo) (slot : Int) : Option (Bool) :=
  (chk ((64 : Int) ≠ 0 ∧ InI (Int.tdiv slot 64))).bind fun _ =>
  (chk (0 ≤ (Int.tdiv slot 64) ∧ (Int.tdiv slot 64) < 8)).bind fun _ =>
  (chk (0 ≤ (Int.tmod slot 64))).bind fun _ =>
  some (decide ((u64and (qnv (List.getD [s.At.f0, s.At.f1, s.At.f2, s.At.f3, s.At.f4, s.At.f5, s.At.f6, s.At.f7] (Int.toNat (Int.tdiv slot 64)) 0) (Int.tmod slot 64)) 1) = 1))
theorem JdE {s : Jo} {slot : Int} {K : Hp} {r : Bool}
    (hm : Jcs s slot = some r)  :
    Fn Tryz.prog 154 [.agg #[.bool s.Au, .int .i64 s.depth, .int .u64 s.At.f0, .int .u64 s.At.f1, .int .u64 s.At.f2, .int .u64 s.At.f3, .int .u64 s.At.f4, .int .u64 s.At.f5, .int .u64 s.At.f6, .int .u64 s.At.f7], .int .i64 slot] K [] (fun v K' H' => v = .bool r ∧ H' = []) := by
 refine Fn.enter Tryz.func154 Tryz.call154 rfl fun F => ?_
 unfold Jcs at hm
 refine qaq ?_
 intro b2
 obtain ⟨h6, hm⟩ := qaw hm
 refine qlj h6.1 h6.2 (fa rfl ?_)
 obtain ⟨h8, hm⟩ := qaw hm
 refine RStep.ofN (qbw (sz := 1) rfl rfl h8.1 h8.2 (ro (qnx (L := [s.At.f0, s.At.f1, s.At.f2, s.At.f3, s.At.f4, s.At.f5, s.At.f6, s.At.f7]) (pre := [.bool s.Au, .int .i64 s.depth]) (post := []) r0 rfl (by simp) rfl h8.1 h8.2 (qli (by decide) ?_))))
 obtain ⟨aS, hm⟩ := qaw hm
 refine qov aS ?_
 refine qjl ?_
 refine qaf ?_
 exact eE hm

def JaD (t : Jo) : Nat → Nat → Int → Int → Int → Int → Int → Int → Int → Int → Option (Int × Int × Int × Int × Int × Int × Int × Int)
  | 0, _, ac, aW, aV, aX, aT, aZ, aU, aY => some (ac, aW, aV, aX, aT, aZ, aU, aY)
  | a6 + 1, i0, ac, aW, aV, aX, aT, aZ, aU, aY =>
    (chk (0 ≤ (i0 : Int) ∧ (i0 : Int) < 8)).bind fun _ =>
    (chk (0 ≤ (i0 : Int) ∧ (i0 : Int) < 8)).bind fun _ =>
    (chk (0 ≤ (i0 : Int) ∧ (i0 : Int) < 8)).bind fun _ =>
    (some (List.set [ac, aW, aV, aX, aT, aZ, aU, aY] (Int.toNat (i0 : Int)) (u64and (List.getD [ac, aW, aV, aX, aT, aZ, aU, aY] (Int.toNat (i0 : Int)) 0) (List.getD [t.At.f0, t.At.f1, t.At.f2, t.At.f3, t.At.f4, t.At.f5, t.At.f6, t.At.f7] (Int.toNat (i0 : Int)) 0)))).bind fun aS =>
    JaD t a6 (i0 + 1) (List.getD aS 0 0) (List.getD aS 1 0) (List.getD aS 2 0) (List.getD aS 3 0) (List.getD aS 4 0) (List.getD aS 5 0) (List.getD aS 6 0) (List.getD aS 7 0)
def Jc1 (s : Jo) (t : Jo) : Option (Bool × Jo) :=
  if (!s.Au) then
  some (true, t)
  else
  (chk (InI (8 : Int))).bind fun _ =>
  (JaD t (8 : Int).toNat 0 s.At.f0 s.At.f1 s.At.f2 s.At.f3 s.At.f4 s.At.f5 s.At.f6 s.At.f7).bind fun t0 =>
  some (decide (s.depth = t.depth), (⟨s.Au, s.depth, (⟨t0.1, t0.2.1, t0.2.2.1, t0.2.2.2.1, t0.2.2.2.2.1, t0.2.2.2.2.2.1, t0.2.2.2.2.2.2.1, t0.2.2.2.2.2.2.2⟩ : JaE)⟩ : Jo))
theorem JeB {s : Jo} {t : Jo} {b0 : Nat} {K : Hp} {r : Bool × Jo}
    (hm : Jc1 s t = some r)  :
    Fn Tryz.prog 155 [.pointer (some ⟨b0, 0, none⟩), .agg #[.bool t.Au, .int .i64 t.depth, .int .u64 t.At.f0, .int .u64 t.At.f1, .int .u64 t.At.f2, .int .u64 t.At.f3, .int .u64 t.At.f4, .int .u64 t.At.f5, .int .u64 t.At.f6, .int .u64 t.At.f7]] K [Cells b0 228 [.bool s.Au, .int .i64 s.depth, .int .u64 s.At.f0, .int .u64 s.At.f1, .int .u64 s.At.f2, .int .u64 s.At.f3, .int .u64 s.At.f4, .int .u64 s.At.f5, .int .u64 s.At.f6, .int .u64 s.At.f7]] (fun v K' H' => v = .bool r.1 ∧ H' = [Cells b0 228 [.bool r.2.Au, .int .i64 r.2.depth, .int .u64 r.2.At.f0, .int .u64 r.2.At.f1, .int .u64 r.2.At.f2, .int .u64 r.2.At.f3, .int .u64 r.2.At.f4, .int .u64 r.2.At.f5, .int .u64 r.2.At.f6, .int .u64 r.2.At.f7]]) := by
 refine Fn.enter Tryz.func155 Tryz.call155 rfl fun F => ?_
 unfold Jc1 at hm
 refine qaq ?_
 intro b3
 refine qah (fa rfl (ro (ld r1 rfl rfl (qau ?_))))
 refine cs rfl rfl hm ?_ ?_ <;> intro bg hm
 refine ro (qab r0 rfl (nl rfl) (qah ?_))
 refine qaa r1 rfl ⟨rfl, rfl, (nl rfl), ?_⟩
 exact eE hm
 obtain ⟨bf, hm⟩ := qaw hm
 obtain ⟨s0, aT, hm⟩ := bnd hm
 refine lD (σ := (Int × Int × Int × Int × Int × Int × Int × Int)) ([5] ++ rg 14 18) [0, 2] (fun i0 => [(14, .int .i64 (i0 : Int))]) (fun _ => []) (fun t0 => [Cells b0 228 [.bool s.Au, .int .i64 s.depth, .int .u64 t0.1, .int .u64 t0.2.1, .int .u64 t0.2.2.1, .int .u64 t0.2.2.2.1, .int .u64 t0.2.2.2.2.1, .int .u64 t0.2.2.2.2.2.1, .int .u64 t0.2.2.2.2.2.2.1, .int .u64 t0.2.2.2.2.2.2.2]]) (fun _ => True) (fun i0 t0 => JaD t ((8 : Int).toNat - i0) i0 t0.1 t0.2.1 t0.2.2.1 t0.2.2.2.1 t0.2.2.2.2.1 t0.2.2.2.2.2.1 t0.2.2.2.2.2.2.1 t0.2.2.2.2.2.2.2 = some s0) (fun t0 => t0 = s0) (fun i0 => (8 : Int).toNat - i0) 0 (_, _, _, _, _, _, _, _) aT (And.intro qe (And.intro ?_ ?_))
 clear aT
 rintro i0 ⟨ac, aY, ba, aZ, aW, a8, aX, a6⟩ _ aT j0
 dsimp only at aT ⊢
 refine qac rfl ?_
 refine qae ?_ ?_ <;> intro w0
 rw [ltn (n := (8 : Int)) w0, JaD.eq_2] at aT
 refine qal rfl ?_
 refine qa1 ⟨⟨[], false⟩, _, [(_, _), (_, _)], []⟩ 13 rfl (by kernel_rfl) ⟨Hp.Le.refl _, (pf rfl), ci0⟩ ?_
 refine qah (fa rfl ?_)
 obtain ⟨bb, aT⟩ := qaw aT
 refine qbw (sz := 1) rfl rfl bb.1 bb.2 ?_
 refine qfz (L := [ac, aY, ba, aZ, aW, a8, aX, a6]) (pre := [.bool s.Au, .int .i64 s.depth]) (post := []) m0 rfl (by simp) rfl bb.1 bb.2 ?_
 refine fa rfl ?_
 obtain ⟨bc, aT⟩ := qaw aT
 refine qbw (sz := 1) rfl rfl bc.1 bc.2 ?_
 refine qfz (L := [t.At.f0, t.At.f1, t.At.f2, t.At.f3, t.At.f4, t.At.f5, t.At.f6, t.At.f7]) (pre := [.bool t.Au, .int .i64 t.depth]) (post := []) m1 rfl (by simp) rfl bc.1 bc.2 ?_
 refine qjl ?_
 refine qah (fa rfl ?_)
 obtain ⟨bd, aT⟩ := qaw aT
 refine qbw (sz := 1) rfl rfl bd.1 bd.2 ?_
 obtain ⟨aS, aU, aT⟩ := bnd aT
 replace aU := Option.some.inj aU
 have aV : aS.length = 8 := by rw [← aU]; simp
 refine qlx (L := [ac, aY, ba, aZ, aW, a8, aX, a6]) (pre := [.bool s.Au, .int .i64 s.depth]) (post := []) (cs' := [.bool s.Au, .int .i64 s.depth, .int .u64 (List.getD aS 0 0), .int .u64 (List.getD aS 1 0), .int .u64 (List.getD aS 2 0), .int .u64 (List.getD aS 3 0), .int .u64 (List.getD aS 4 0), .int .u64 (List.getD aS 5 0), .int .u64 (List.getD aS 6 0), .int .u64 (List.getD aS 7 0)]) r0 rfl (by simp) rfl bd.1 bd.2 aU (by rw [qqd aV]; rfl) ?_
 refine ⟨⟨Hp.emp_le _, (pf rfl), ci0⟩, ?_⟩
 refine qam (qiy w0 bf) ?_
 exact eR aT (_, (_, _, _, _, _, _, _, _))
 rw [lto (n := (8 : Int)) w0, JaD.eq_1] at aT
 refine cT ?_
 exact eM aT _
 rintro t0 _ rfl j0
 refine qa4 ⟨⟨[], false⟩, _, [(_, _), (_, _)], []⟩ (by kernel_rfl) ⟨Hp.Le.refl _, (pf rfl), ci0⟩ ?_
 refine qah (fa rfl (qao m0 rfl rfl (fa rfl (qao m1 rfl rfl (qaf ?_)))))
 exact eE hm

def Jan (s_i : Nat) (t : Jo) : Nat → Nat → (List Jo) → Option ((List Jo))
  | 0, _, ac => some ac
  | aU + 1, i0, ac =>
    (chk (0 ≤ (i0 : Int) ∧ (i0 : Int) < 8)).bind fun _ =>
    (ac[s_i]?).bind fun aS =>
    (chk (0 ≤ (i0 : Int) ∧ (i0 : Int) < 8)).bind fun _ =>
    (chk (0 ≤ (i0 : Int) ∧ (i0 : Int) < 8)).bind fun _ =>
    (some (List.set [aS.At.f0, aS.At.f1, aS.At.f2, aS.At.f3, aS.At.f4, aS.At.f5, aS.At.f6, aS.At.f7] (Int.toNat (i0 : Int)) (u64and (List.getD [aS.At.f0, aS.At.f1, aS.At.f2, aS.At.f3, aS.At.f4, aS.At.f5, aS.At.f6, aS.At.f7] (Int.toNat (i0 : Int)) 0) (List.getD [t.At.f0, t.At.f1, t.At.f2, t.At.f3, t.At.f4, t.At.f5, t.At.f6, t.At.f7] (Int.toNat (i0 : Int)) 0)))).bind fun aT =>
    Jan s_i t aU (i0 + 1) (ac.set s_i (⟨aS.Au, aS.depth, (⟨(List.getD aT 0 0), (List.getD aT 1 0), (List.getD aT 2 0), (List.getD aT 3 0), (List.getD aT 4 0), (List.getD aT 5 0), (List.getD aT 6 0), (List.getD aT 7 0)⟩ : JaE)⟩ : Jo))
def Ja2 (s : (List Jo)) (s_i : Nat) (t : Jo) : Option (Bool × (List Jo)) :=
  (s[s_i]?).bind fun aT =>
  if (!aT.Au) then
  some (true, (s.set s_i t))
  else
  (chk (InI (8 : Int))).bind fun _ =>
  (Jan s_i t (8 : Int).toNat 0 s).bind fun t0 =>
  (t0[s_i]?).bind fun aS =>
  some (decide (aS.depth = t.depth), t0)
theorem JaK {s : (List Jo)} {s_i : Nat} {t : Jo} {aO : Option Addr} {aR : Nat} {K : Hp} {r : Bool × (List Jo)}
    (hm : Ja2 s s_i t = some r) (aL : 0 < s.length → Has aO) :
    Fn Tryz.prog 155 [(qih aO (s_i * 10)), .agg #[.bool t.Au, .int .i64 t.depth, .int .u64 t.At.f0, .int .u64 t.At.f1, .int .u64 t.At.f2, .int .u64 t.At.f3, .int .u64 t.At.f4, .int .u64 t.At.f5, .int .u64 t.At.f6, .int .u64 t.At.f7]] K [qas Jo.enc aO 228 10 aR s] (fun v K' H' => v = .bool r.1 ∧ (0 < r.2.length → Has aO) ∧ s.length = r.2.length ∧ H' = [qas Jo.enc aO 228 10 aR r.2]) := by
 refine Fn.enter Tryz.func155 Tryz.call155 rfl fun F => ?_
 unfold Ja2 at hm
 obtain ⟨bf, aV, hm⟩ := bnd hm
 refine qaq ?_
 intro b3
 refine qdk (qcu aL aV) (qbb rfl (qcu aL aV) (ro (qbz (i := s_i) (o := 0) r1 rfl aV rfl rfl (qau ?_))))
 refine cs rfl rfl hm ?_ ?_ <;> intro bl hm
 refine ro (qab r0 rfl (nl rfl) (qdk (qcu aL aV) ?_))
 refine qex (o := 0) (y := t) bf r1 rfl aV rfl (by (conv => whnf); exact ⟨rfl, rfl, (nl rfl), rfl, rfl, rfl⟩) ?_
 cases hm
 exact en lr ⟨rfl, (by first | simpa using aL | exact fun _ => ⟨_, _, rfl⟩), ((rfl).trans List.length_set.symm), rfl⟩ (sc [0,1] rfl)
 obtain ⟨bg, hm⟩ := qaw hm
 obtain ⟨s0, aT, hm⟩ := bnd hm
 refine lD (σ := ((List Jo))) ([5] ++ rg 14 18) [0, 2] (fun i0 => [(14, .int .i64 (i0 : Int))]) (fun _ => []) (fun t0 => [qas Jo.enc aO 228 10 aR t0]) (fun t0 => (0 < t0.length → Has aO) ∧ s.length = t0.length) (fun i0 t0 => Jan s_i t ((8 : Int).toNat - i0) i0 t0 = some s0) (fun t0 => t0 = s0) (fun i0 => (8 : Int).toNat - i0) 0 _ aT (And.intro qe (And.intro ?_ ?_))
 clear aT
 rintro i0 ac ⟨aX, aZ⟩ aT j0
 conv at aT => whnf
 refine qac rfl ?_
 refine qae ?_ ?_ <;> intro w0
 rw [ltn (n := (8 : Int)) w0, Jan.eq_2] at aT
 refine qal rfl ?_
 refine qa4 ⟨⟨[], true⟩, _, [], []⟩ (by kernel_rfl) ⟨Hp.Le.refl _, (pf rfl), ci0⟩ ?_
 refine qdk (qcu aL aV) (qbb rfl (qcu aL aV) ?_)
 obtain ⟨a6, aT⟩ := qaw aT
 refine qiq (sz := 1) rfl rfl (qcu aL aV) a6.1 a6.2 ?_
 obtain ⟨aS, bc, aT⟩ := bnd aT
 refine qbz (i := s_i) (o := 2 + (Int.toNat (i0 : Int))) r0 rfl bc (qjm (L := [aS.At.f0, aS.At.f1, aS.At.f2, aS.At.f3, aS.At.f4, aS.At.f5, aS.At.f6, aS.At.f7]) (pre := [.bool aS.Au, .int .i64 aS.depth]) (post := []) rfl a6.1 a6.2) (by omega) ?_
 refine fa rfl ?_
 obtain ⟨a8, aT⟩ := qaw aT
 refine qbw (sz := 1) rfl rfl a8.1 a8.2 ?_
 refine qnx (L := [t.At.f0, t.At.f1, t.At.f2, t.At.f3, t.At.f4, t.At.f5, t.At.f6, t.At.f7]) (pre := [.bool t.Au, .int .i64 t.depth]) (post := []) r1 rfl (by simp) rfl a8.1 a8.2 ?_
 refine qjl ?_
 refine qdk (qcu aL aV) (qbb rfl (qcu aL aV) ?_)
 obtain ⟨ba, aT⟩ := qaw aT
 refine qiq (sz := 1) rfl rfl (qcu aL aV) ba.1 ba.2 ?_
 obtain ⟨aU, aW, aT⟩ := bnd aT
 replace aW := Option.some.inj aW
 have aY : aU.length = 8 := by rw [← aW]; simp
 refine qex (n := 1) (o := 2 + (Int.toNat (i0 : Int))) (y := (⟨aS.Au, aS.depth, (⟨(List.getD aU 0 0), (List.getD aU 1 0), (List.getD aU 2 0), (List.getD aU 3 0), (List.getD aU 4 0), (List.getD aU 5 0), (List.getD aU 6 0), (List.getD aU 7 0)⟩ : JaE)⟩ : Jo)) aS r0 rfl bc (by omega) (by rw [qbv]; exact ⟨rfl, rfl, by omega, (qhj (L := [aS.At.f0, aS.At.f1, aS.At.f2, aS.At.f3, aS.At.f4, aS.At.f5, aS.At.f6, aS.At.f7]) (pre := [.bool aS.Au, .int .i64 aS.depth]) (post := []) ba.1 ba.2).trans (by rw [aW, qqd aY]; rfl), rfl, rfl⟩) ?_
 refine qk (pf rfl) ?_
 refine qam (qiy w0 bg) ?_
 exact rd (i0 + 1, (ac.set s_i (⟨aS.Au, aS.depth, (⟨(List.getD aU 0 0), (List.getD aU 1 0), (List.getD aU 2 0), (List.getD aU 3 0), (List.getD aU 4 0), (List.getD aU 5 0), (List.getD aU 6 0), (List.getD aU 7 0)⟩ : JaE)⟩ : Jo))) ⟨rfl, trivial⟩ rfl (pf rfl) lr (qo6 w0) ⟨⟨(by first | simpa using aX | exact fun _ => ⟨_, _, rfl⟩), ((aZ).trans List.length_set.symm)⟩, aT⟩
 rw [lto (n := (8 : Int)) w0, Jan.eq_1] at aT
 refine cT ?_
 exact eM aT _
 rintro t0 ⟨bb, bd⟩ rfl j0
 refine qa4 ⟨⟨[], true⟩, _, [], []⟩ (by kernel_rfl) ⟨Hp.Le.refl _, (pf rfl), ci0⟩ ?_
 refine qdk (qcu aL aV) (qbb rfl (qcu aL aV) ?_)
 obtain ⟨bj, bh, hm⟩ := bnd hm
 refine qbz (i := s_i) (o := 1) r0 rfl bh rfl rfl ?_
 refine fa rfl ?_
 refine ld r1 rfl rfl ?_
 refine qaf ?_
 exact eE hm
