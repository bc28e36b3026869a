/- Functions of the program: mirrors, and that a call returns what the mirror says. Printed by gen.py. -/
import Derived.Test.YtiaaooopklhobaaGreatDoorG3
set_option linter.unusedVariables false
set_option linter.unusedSimpArgs false
open Go Go.SL Go.Proofs
noncomputable section
set_option maxRecDepth 1000000
set_option maxHeartbeats 8000000
def J7 (av : (Jd → (List Ja) → Option (Jd))) (n : Nat) (c : Jd) (n' : Ja) : Option (Jd) :=
  if decide (n'.Ab = 2) then
  (JaO av n c n').bind fun x9 =>
  some x9
  else
  if decide ((n'.Aa.length : Int) > 0) then
  (ix n'.Aa 0).bind fun bb =>
  (Jz n c bb).bind fun aU =>
  if decide (n'.Ab = 3) then
  (Jj aU 4 aU.Ap ([] : Str)).bind fun aT =>
  (chk (aT.2.names.length + [(⟨n'.Ac, aT.2.Ap⟩ : Jr)].length ≤ lim)).bind fun _ =>
  (chk (InI (aT.2.Ap + 1))).bind fun _ =>
  some (⟨aT.2.code, (aT.2.names ++ [(⟨n'.Ac, aT.2.Ap⟩ : Jr)]), (aT.2.Ap + 1)⟩ : Jd)
  else
  if decide (n'.Ab = 4) then
  (Jj aU 11 0 n'.Ac).bind fun aW =>
  some aW.2
  else
  if decide (n'.Ab = 5) then
  (chk (([104, 101, 97, 100, 101, 114, 58] : Str).length + n'.Ac.length ≤ lim)).bind fun _ =>
  (Jj aU 11 0 (([104, 101, 97, 100, 101, 114, 58] : Str) ++ n'.Ac)).bind fun aV =>
  some aV.2
  else
  if decide (n'.Ab = 6) then
  (chk (([118, 97, 114, 121, 58] : Str).length + n'.Ac.length ≤ lim)).bind fun _ =>
  (Jj aU 11 0 (([118, 97, 114, 121, 58] : Str) ++ n'.Ac)).bind fun aZ =>
  some aZ.2
  else
  if decide (n'.Ab = 7) then
  (Jj aU 11 0 ([116, 97, 103] : Str)).bind fun aY =>
  some aY.2
  else
  if decide (n'.Ab = 8) then
  (Jj aU 11 0 ([116, 116, 108] : Str)).bind fun aX =>
  some aX.2
  else
  if decide (n'.Ab = 9) then
  (Jj aU 11 0 ([100, 101, 110, 121] : Str)).bind fun ba =>
  some ba.2
  else
  if decide (n'.Ab = 10) then
  (Jj aU 11 0 ([112, 97, 115, 115] : Str)).bind fun a8 =>
  some a8.2
  else
  if decide (n'.Ab = 11) then
  (Jj aU 11 0 ([116, 111, 107, 101, 110] : Str)).bind fun a6 =>
  some a6.2
  else
  some aU
  else
  if decide (n'.Ab = 3) then
  (Jj c 4 c.Ap ([] : Str)).bind fun aT =>
  (chk (aT.2.names.length + [(⟨n'.Ac, aT.2.Ap⟩ : Jr)].length ≤ lim)).bind fun _ =>
  (chk (InI (aT.2.Ap + 1))).bind fun _ =>
  some (⟨aT.2.code, (aT.2.names ++ [(⟨n'.Ac, aT.2.Ap⟩ : Jr)]), (aT.2.Ap + 1)⟩ : Jd)
  else
  if decide (n'.Ab = 4) then
  (Jj c 11 0 n'.Ac).bind fun aW =>
  some aW.2
  else
  if decide (n'.Ab = 5) then
  (chk (([104, 101, 97, 100, 101, 114, 58] : Str).length + n'.Ac.length ≤ lim)).bind fun _ =>
  (Jj c 11 0 (([104, 101, 97, 100, 101, 114, 58] : Str) ++ n'.Ac)).bind fun aV =>
  some aV.2
  else
  if decide (n'.Ab = 6) then
  (chk (([118, 97, 114, 121, 58] : Str).length + n'.Ac.length ≤ lim)).bind fun _ =>
  (Jj c 11 0 (([118, 97, 114, 121, 58] : Str) ++ n'.Ac)).bind fun aZ =>
  some aZ.2
  else
  if decide (n'.Ab = 7) then
  (Jj c 11 0 ([116, 97, 103] : Str)).bind fun aY =>
  some aY.2
  else
  if decide (n'.Ab = 8) then
  (Jj c 11 0 ([116, 116, 108] : Str)).bind fun aX =>
  some aX.2
  else
  if decide (n'.Ab = 9) then
  (Jj c 11 0 ([100, 101, 110, 121] : Str)).bind fun ba =>
  some ba.2
  else
  if decide (n'.Ab = 10) then
  (Jj c 11 0 ([112, 97, 115, 115] : Str)).bind fun a8 =>
  some a8.2
  else
  if decide (n'.Ab = 11) then
  (Jj c 11 0 ([116, 111, 107, 101, 110] : Str)).bind fun a6 =>
  some a6.2
  else
  some c
theorem Jc1 {av : (Jd → (List Ja) → Option (Jd))} (ihrec4_0 : ∀ {c : Jd} {list : (List Ja)} {b0 : Nat} {aa : Option Addr} {ab : Nat} {ah : Option Addr} {ak : Nat} {af : Option Addr} {ag : Nat} {n1 : Nat} {K : Hp} {r : Jd} (hm : av c list = some r) (hX : (0 < c.code.length → Has aa) ∧ (0 < c.names.length → Has ah) ∧ LiC Ja.R K af ag 4 list ∧ n1 = list.length), Fn Tryz.prog 142 [.pointer (some ⟨b0, 0, none⟩), .slice af n1 ag] K [Cells b0 209 [.slice aa c.code.length ab, .slice ah c.names.length ak, .int .i64 c.Ap], qau Jg.enc aa 135 3 ab c.code, qau Jr.enc ah 290 2 ak c.names] (fun v K' H' => ∃ ar_0 : Option Addr, ∃ cr_0 : Nat, ∃ ar_1 : Option Addr, ∃ cr_1 : Nat, v = .tuple #[] ∧ (0 < r.code.length → Has ar_0) ∧ (0 < r.names.length → Has ar_1) ∧ H' = [Cells b0 209 [.slice ar_0 r.code.length cr_0, .slice ar_1 r.names.length cr_1, .int .i64 r.Ap], qau Jg.enc ar_0 135 3 cr_0 r.code, qau Jr.enc ar_1 290 2 cr_1 r.names])) {n : Nat} {c : Jd} {n' : Ja} {b0 : Nat} {aa : Option Addr} {ab : Nat} {ah : Option Addr} {ak : Nat} {af : Option Addr} {ag : Nat} {K : Hp} {r : Jd}
    (hm : J7 av n c n' = some r) (hX : (0 < c.code.length → Has aa) ∧ (0 < c.names.length → Has ah) ∧ LiC Ja.R K af ag 4 n'.Aa) :
    Fn Tryz.prog 197 [.pointer (some ⟨b0, 0, none⟩), .agg #[.int .i64 n'.Ab, str n'.Ac, .slice af n'.Aa.length ag, .int .i64 n'.Ad]] K [Cells b0 209 [.slice aa c.code.length ab, .slice ah c.names.length ak, .int .i64 c.Ap], qau Jg.enc aa 135 3 ab c.code, qau Jr.enc ah 290 2 ak c.names] (fun v K' H' => ∃ ar_0 : Option Addr, ∃ cr_0 : Nat, ∃ ar_1 : Option Addr, ∃ cr_1 : Nat, v = .tuple #[] ∧ (0 < r.code.length → Has ar_0) ∧ (0 < r.names.length → Has ar_1) ∧ H' = [Cells b0 209 [.slice ar_0 r.code.length cr_0, .slice ar_1 r.names.length cr_1, .int .i64 r.Ap], qau Jg.enc ar_0 135 3 cr_0 r.code, qau Jr.enc ar_1 290 2 cr_1 r.names]) := by
 obtain ⟨ae, cK, ai⟩ := hX
 refine Fn.enter Tryz.func197 Tryz.call197 rfl fun F => ?_
 unfold J7 at hm
 refine qas ?_
 intro b3
 refine fa rfl (ro (ld r0 rfl rfl (qag ?_)))
 refine cs rfl rfl hm ?_ ?_ <;> intro w6 hm
 refine ro (qab r0 rfl (nl rfl) ?_)
 refine cb hm fun x9 q9 hm => ckx (Jdj ihrec4_0 q9 :) ?_
 rintro _ _ _ ⟨c4, dq, cV, cU, rfl, dg, c5, rfl⟩
 exact eE hm
 refine fa rfl (ro (ld r0 rfl rfl (ro (qal rfl ?_))))
 refine cs rfl rfl hm ?_ ?_ <;> intro dz hm
 refine fa rfl (ro (ld r0 rfl rfl ?_))
 obtain ⟨dA, cH, cz, hm⟩ := ixb hm
 refine RStep.ofN (qae rfl rfl (qc8 ai.rd cz) cH (qaz rfl cH cz) ?_)
 obtain ⟨dc, dp, ce, cr, cw⟩ := LiR.get ai.rd cz
 obtain ⟨cL, cO, rfl, cN⟩ := Ja.out cw
 refine ro (qao ((0 : Int).toNat) _ ce rfl cr rfl ?_)
 refine cb hm fun dB cZ hm => ckx (Jcu cZ :) ?_
 rintro _ _ _ ⟨cM, cJ, cG, cQ, rfl, cP, cI, rfl⟩
 refine fa rfl (ro (ld r3 rfl rfl ?_))
 refine qam rfl ?_
 refine qag (cs rfl rfl hm ?_ ?_) <;> intro dh hm
 refine qaj (fa rfl (ro (ld r0 rfl rfl ?_)))
 refine cb hm fun bn cy hm => ckx (Ji cy :) ?_
 rintro _ _ _ ⟨ba, bo, bC, aT, rfl, bB, aW, rfl⟩
 refine qa2 ⟨⟨[], false⟩, _, [(_, _), (_, _)], []⟩ 14 rfl (by kernel_rfl) ⟨Hp.Le.refl _, (sc [0,2] rfl), ci0⟩ ?_
 refine qaj (fa rfl (qap m0 rfl rfl (fa rfl (qap m1 rfl rfl (qaj (fa rfl (qap m0 rfl rfl ?_)))))))
 refine qad rfl rfl (cT (cT ?_))
 refine bsO (len := 1) (enc := Jr.enc) (l := [(⟨n'.Ac, bn.2.Ap⟩ : Jr)]) (cl := [str n'.Ac, .int .i64 bn.2.Ap]) qkq rfl rfl (fun _ _ => rfl) rfl rfl rfl ?_ fun de => ?_
 · conv => whnf
   refine cT ?_
   first | done | rfl
 refine qk (sc [1,3] rfl) ?_
 obtain ⟨cn, hm⟩ := qaw hm
 refine apE rfl r3 qkq (qay rfl r0 rfl (fun _ => rfl) (fun _ => rfl)) cn ?_
 intro c8 df dn
 refine qk (sc [2,3] rfl) ?_
 refine qaj (fa rfl ?_)
 refine qaa r2 rfl ⟨rfl, rfl, (nl rfl), ?_⟩
 refine ⟨⟨Hp.emp_le _, (pf rfl), ci0⟩, ?_⟩
 refine qaj (fa rfl (ro (ld r0 rfl rfl ?_)))
 obtain ⟨cB, hm⟩ := qaw hm
 refine qan cB (qaj (fa rfl ?_))
 refine qaa r0 rfl ⟨rfl, rfl, (nl rfl), ?_⟩
 exact eE hm
 refine qag (cs rfl rfl hm ?_ ?_) <;> intro dm hm
 refine fa rfl (ro (ld r3 rfl rfl ?_))
 refine cb hm fun cR cm hm => ckx (Ji cm :) ?_
 rintro _ _ _ ⟨bc, bO, aU, bu, rfl, aZ, a6, rfl⟩
 exact eE hm
 refine qag (cs rfl rfl hm ?_ ?_) <;> intro dv hm
 refine fa rfl (ro (ld r3 rfl rfl ?_))
 obtain ⟨cD, hm⟩ := qaw hm
 refine qa5 cD ?_
 refine cb hm fun dt cq hm => ckx (Ji cq :) ?_
 rintro _ _ _ ⟨a8, bM, bj, bX, rfl, aV, bg, rfl⟩
 exact eE hm
 refine qag (cs rfl rfl hm ?_ ?_) <;> intro c6 hm
 refine fa rfl (ro (ld r3 rfl rfl ?_))
 obtain ⟨cA, hm⟩ := qaw hm
 refine qa5 cA ?_
 refine cb hm fun di cp hm => ckx (Ji cp :) ?_
 rintro _ _ _ ⟨bz, bv, bL, br, rfl, bb, bS, rfl⟩
 exact eE hm
 refine qag (cs rfl rfl hm ?_ ?_) <;> intro dw hm
 refine cb hm fun du cC hm => ckx (Ji cC :) ?_
 rintro _ _ _ ⟨bR, bm, bI, bY, rfl, bf, bF, rfl⟩
 exact eE hm
 refine qag (cs rfl rfl hm ?_ ?_) <;> intro dj hm
 refine cb hm fun c9 cj hm => ckx (Ji cj :) ?_
 rintro _ _ _ ⟨ca, bZ, bK, bl, rfl, cd, bN, rfl⟩
 exact eE hm
 refine qag (cs rfl rfl hm ?_ ?_) <;> intro cW hm
 refine cb hm fun dk co hm => ckx (Ji co :) ?_
 rintro _ _ _ ⟨bT, bh, bQ, bd, rfl, bU, bt, rfl⟩
 exact eE hm
 refine qag (cs rfl rfl hm ?_ ?_) <;> intro cX hm
 refine cb hm fun dy cu hm => ckx (Ji cu :) ?_
 rintro _ _ _ ⟨bD, bG, bP, aX, rfl, bw, aY, rfl⟩
 exact eE hm
 refine qag (cs rfl rfl hm ?_ ?_) <;> intro cY hm
 refine cb hm fun dx cE hm => ckx (Ji cE :) ?_
 rintro _ _ _ ⟨bV, bJ, bp, bH, rfl, bW, bA, rfl⟩
 exact eE hm
 exact eE hm
 refine fa rfl (ro (ld r0 rfl rfl ?_))
 refine qam rfl ?_
 refine qag (cs rfl rfl hm ?_ ?_) <;> intro dh hm
 refine qaj (fa rfl (ro (ld r1 rfl rfl ?_)))
 refine cb hm fun bn cy hm => ckx (Ji cy :) ?_
 rintro _ _ _ ⟨ba, bo, bC, aT, rfl, bB, aW, rfl⟩
 refine qa2 ⟨⟨[], false⟩, _, [(_, _), (_, _)], []⟩ 14 rfl (by kernel_rfl) ⟨Hp.Le.refl _, (sc [0,2] rfl), ci0⟩ ?_
 refine qaj (fa rfl (qap m0 rfl rfl (fa rfl (qap m1 rfl rfl (qaj (fa rfl (qap m0 rfl rfl ?_)))))))
 refine qad rfl rfl (cT (cT ?_))
 refine bsO (len := 1) (enc := Jr.enc) (l := [(⟨n'.Ac, bn.2.Ap⟩ : Jr)]) (cl := [str n'.Ac, .int .i64 bn.2.Ap]) qkq rfl rfl (fun _ _ => rfl) rfl rfl rfl ?_ fun de => ?_
 · conv => whnf
   refine cT ?_
   first | done | rfl
 refine qk (sc [1,3] rfl) ?_
 obtain ⟨cn, hm⟩ := qaw hm
 refine apE rfl r3 qkq (qay rfl r0 rfl (fun _ => rfl) (fun _ => rfl)) cn ?_
 intro c8 df dn
 refine qk (sc [2,3] rfl) ?_
 refine qaj (fa rfl ?_)
 refine qaa r2 rfl ⟨rfl, rfl, (nl rfl), ?_⟩
 refine ⟨⟨Hp.emp_le _, (pf rfl), ci0⟩, ?_⟩
 refine qaj (fa rfl (ro (ld r0 rfl rfl ?_)))
 obtain ⟨cB, hm⟩ := qaw hm
 refine qan cB (qaj (fa rfl ?_))
 refine qaa r0 rfl ⟨rfl, rfl, (nl rfl), ?_⟩
 exact eE hm
 refine qag (cs rfl rfl hm ?_ ?_) <;> intro dm hm
 refine fa rfl (ro (ld r0 rfl rfl ?_))
 refine cb hm fun cR cm hm => ckx (Ji cm :) ?_
 rintro _ _ _ ⟨bc, bO, aU, bu, rfl, aZ, a6, rfl⟩
 exact eE hm
 refine qag (cs rfl rfl hm ?_ ?_) <;> intro dv hm
 refine fa rfl (ro (ld r0 rfl rfl ?_))
 obtain ⟨cD, hm⟩ := qaw hm
 refine qa5 cD ?_
 refine cb hm fun dt cq hm => ckx (Ji cq :) ?_
 rintro _ _ _ ⟨a8, bM, bj, bX, rfl, aV, bg, rfl⟩
 exact eE hm
 refine qag (cs rfl rfl hm ?_ ?_) <;> intro c6 hm
 refine fa rfl (ro (ld r0 rfl rfl ?_))
 obtain ⟨cA, hm⟩ := qaw hm
 refine qa5 cA ?_
 refine cb hm fun di cp hm => ckx (Ji cp :) ?_
 rintro _ _ _ ⟨bz, bv, bL, br, rfl, bb, bS, rfl⟩
 exact eE hm
 refine qag (cs rfl rfl hm ?_ ?_) <;> intro dw hm
 refine cb hm fun du cC hm => ckx (Ji cC :) ?_
 rintro _ _ _ ⟨bR, bm, bI, bY, rfl, bf, bF, rfl⟩
 exact eE hm
 refine qag (cs rfl rfl hm ?_ ?_) <;> intro dj hm
 refine cb hm fun c9 cj hm => ckx (Ji cj :) ?_
 rintro _ _ _ ⟨ca, bZ, bK, bl, rfl, cd, bN, rfl⟩
 exact eE hm
 refine qag (cs rfl rfl hm ?_ ?_) <;> intro cW hm
 refine cb hm fun dk co hm => ckx (Ji co :) ?_
 rintro _ _ _ ⟨bT, bh, bQ, bd, rfl, bU, bt, rfl⟩
 exact eE hm
 refine qag (cs rfl rfl hm ?_ ?_) <;> intro cX hm
 refine cb hm fun dy cu hm => ckx (Ji cu :) ?_
 rintro _ _ _ ⟨bD, bG, bP, aX, rfl, bw, aY, rfl⟩
 exact eE hm
 refine qag (cs rfl rfl hm ?_ ?_) <;> intro cY hm
 refine cb hm fun dx cE hm => ckx (Ji cE :) ?_
 rintro _ _ _ ⟨bV, bJ, bp, bH, rfl, bW, bA, rfl⟩
 exact eE hm
 exact eE hm

def Jab (rec_ : (Jd → (List Ja) → Option (Jd))) (n : Nat) : List Ja → Nat → Jd → Option (Jd)
  | [], _, ac => some ac
  | e0 :: aU, i0, ac =>
    (J7 rec_ n ac e0).bind fun aT =>
    Jab rec_ n aU (i0 + 1) aT
def JF : Nat → Jd → (List Ja) → Option (Jd)
  | 0, _, _ => none
  | n + 1, c, list =>
    (chk (list.length ≤ qa7)).bind fun _ =>
    (Jab (JF n) n list 0 c).bind fun t0 =>
    (chk (0 ≤ (0 : Int) ∧ (0 : Int) ≤ (c.names.length : Int) ∧ (c.names.length : Int) ≤ (t0.names.length : Int))).bind fun _ =>
    some (⟨t0.code, (subL t0.names (0 : Int) (c.names.length : Int)), t0.Ap⟩ : Jd)
theorem Jdl : ∀ {n : Nat} {c : Jd} {list : (List Ja)} {b0 : Nat} {aa : Option Addr} {ab : Nat} {ah : Option Addr} {ak : Nat} {af : Option Addr} {ag : Nat} {n1 : Nat} {K : Hp} {r : Jd}
    (hm : JF n c list = some r) (hX : (0 < c.code.length → Has aa) ∧ (0 < c.names.length → Has ah) ∧ LiC Ja.R K af ag 4 list ∧ n1 = list.length),
    Fn Tryz.prog 142 [.pointer (some ⟨b0, 0, none⟩), .slice af n1 ag] K [Cells b0 209 [.slice aa c.code.length ab, .slice ah c.names.length ak, .int .i64 c.Ap], qau Jg.enc aa 135 3 ab c.code, qau Jr.enc ah 290 2 ak c.names] (fun v K' H' => ∃ ar_0 : Option Addr, ∃ cr_0 : Nat, ∃ ar_1 : Option Addr, ∃ cr_1 : Nat, v = .tuple #[] ∧ (0 < r.code.length → Has ar_0) ∧ (0 < r.names.length → Has ar_1) ∧ H' = [Cells b0 209 [.slice ar_0 r.code.length cr_0, .slice ar_1 r.names.length cr_1, .int .i64 r.Ap], qau Jg.enc ar_0 135 3 cr_0 r.code, qau Jr.enc ar_1 290 2 cr_1 r.names]) := by
 intro n
 induction n with
 | zero =>
   intro c list b0 aa ab ah ak af ag n1 K r hm hX
   rw [JF.eq_1] at hm; cases hm
 | succ n ih =>
   intro c list b0 aa ab ah ak af ag n1 K r hm hX
   obtain ⟨ae, bw, ai, bG⟩ := hX
   subst bG
   refine Fn.enter Tryz.func142 Tryz.call142 rfl fun F => ?_
   rw [JF.eq_2] at hm
   refine qaj (fa rfl (ro (ld r0 rfl rfl (ro (qal rfl (ro (qal rfl ?_)))))))
   obtain ⟨bB, hm⟩ := qaw hm
   obtain ⟨s0, aX, hm⟩ := bnd hm
   refine lD (σ := (Jd) × Option Addr × Nat × Option Addr × Nat) ([6] ++ rg 14 8) [3] (fun i0 => [(14, .int .i64 (i0 : Int))]) (fun _ => []) (fun (t0, aU, aV, aT, aW) => [Cells b0 209 [.slice aU t0.code.length aV, .slice aT t0.names.length aW, .int .i64 t0.Ap], qau Jg.enc aU 135 3 aV t0.code, qau Jr.enc aT 290 2 aW t0.names]) (fun (t0, aU, aV, aT, aW) => (0 < t0.code.length → Has aU) ∧ (0 < t0.names.length → Has aT)) (fun i0 (t0, aU, aV, aT, aW) => Jab (JF n) n (list.drop i0) i0 t0 = some s0) (fun (t0, aU, aV, aT, aW) => t0 = s0) (fun i0 => list.length - i0) 0 (_, _, _, _, _) aX (And.intro qe (And.intro ?_ ?_))
   clear aX
   rintro i0 ⟨ac, bb, ba, bf, bc⟩ ⟨a6, a8⟩ aX j0
   conv at aX => whnf
   refine qac rfl ?_
   refine qah ?_ ?_ <;> intro w0
   obtain ⟨e0, bd, bF⟩ := ltx w0
   rw [bF, Jab.eq_2] at aX
   refine qam rfl ?_
   refine RStep.ofN (qae rfl rfl (qc8 ai.rd bd) (nn _) (qbs bd) ?_)
   obtain ⟨bD, bC, bj, bh, bg⟩ := LiR.get ai.rd bd
   obtain ⟨br, bv, rfl, bt⟩ := Ja.out bg
   refine ro (qao i0 _ bj rfl bh rfl ?_)
   refine qai rfl fun b6 => ?_
   refine qaa r0 rfl ⟨rfl, rfl, (nl rfl), ?_⟩
   refine ro (qab r0 rfl (nl rfl) ?_)
   refine cb aX fun bH bA aX => ckx (Jc1 ih bA :) ?_
   rintro _ _ _ ⟨bl, bp, bz, bo, rfl, bu, bm, rfl⟩
   refine qan (qbu bd bB) ?_
   exact eR aX (_, _, _, _, _, _)
   rw [lty w0, Jab.eq_1] at aX
   refine cT ?_
   exact eM aX (_, _, _, _, _)
   rintro ⟨t0, aU, aV, aT, aW⟩ ⟨aZ, aY⟩ rfl j0
   refine qaj (fa rfl (ro (ld r0 rfl rfl ?_)))
   obtain ⟨bn, hm⟩ := qaw hm
   refine qn2 (l := t0.names) (hi := (some (c.names.length : Int))) rfl r2 (by simp) rfl rfl bn ?_
   refine qaj (fa rfl ?_)
   refine tkW (c.names.length : Int) r2 ?_
   refine qaa r1 rfl ⟨rfl, rfl, (nl rfl), ?_⟩
   cases hm
   exact en lr ⟨aU, aV, aT, aW, rfl, aZ, (fun h => aY (qgv bn h)), rfl⟩ (sc [0,1,0,0] rfl)

def Jb4 (n : Nat) (program : Ja) : Option ((List Jg) × Err) :=
  (Jbq n program).bind fun x9 =>
  if x9.2.isSome then
  some ([], x9.2)
  else
  (JF n (⟨[], [], 0⟩ : Jd) program.Aa).bind fun aU =>
  (Jj aU 12 0 ([] : Str)).bind fun aT =>
  if decide ((aT.2.code.length : Int) > 2048) then
  some ([], (some 5))
  else
  some (aT.2.code, none)
theorem JdW {n : Nat} {program : Ja} {aa : Option Addr} {ab : Nat} {K : Hp} {r : (List Jg) × Err}
    (hm : Jb4 n program = some r) (hX : LiC Ja.R K aa ab 4 program.Aa ∧ GG K) :
    Fn Tryz.prog 90 [.agg #[.int .i64 program.Ab, str program.Ac, .slice aa program.Aa.length ab, .int .i64 program.Ad]] K [] (fun v K' H' => ∃ ar_0 : Option Addr, ∃ cr_0 : Nat, v = .tuple #[.slice ar_0 r.1.length cr_0, qc5 48 r.2] ∧ (0 < r.1.length → Has ar_0) ∧ H' = [qau Jg.enc ar_0 135 3 cr_0 r.1]) := by
 obtain ⟨ae, hG⟩ := hX
 refine Fn.enter Tryz.func90 Tryz.call90 rfl fun F => ?_
 unfold Jb4 at hm
 refine qas ?_
 intro b1
 refine ro (qab r0 rfl (nl rfl) ?_)
 refine cb hm fun x9 q9 hm => cgx (JcW q9 :) ?_
 refine qa9 rfl ?_
 refine cs rfl rfl hm ?_ ?_ <;> intro bj hm
 refine qci Jg.enc 135 3 ?_
 exact eE hm
 refine qad rfl rfl ?_
 refine qas ?_
 intro bg
 refine fa rfl (ro (ld r1 rfl rfl ?_))
 refine qty Tryz.call142 Jg.enc 135 3 ?_
 refine qty Tryz.call142 Jr.enc 290 2 ?_
 refine cb hm fun bl bd hm => ckx (Jdl bd :) ?_
 rintro _ _ _ ⟨aU, aT, bc, a8, rfl, aZ, aW, rfl⟩
 refine cb hm fun bh bf hm => ckx (Ji bf :) ?_
 rintro _ _ _ ⟨aX, bb, a6, aV, rfl, aY, ba, rfl⟩
 refine qaj (fa rfl (ro (ld r0 rfl rfl (ro (qal rfl ?_)))))
 refine cs rfl rfl hm ?_ ?_ <;> intro bm hm
 refine qat rfl ?_
 refine qci Jg.enc 135 3 ?_
 exact eE hm
 refine qaj (fa rfl (ro (ld r0 rfl rfl ?_)))
 exact eE hm

def Jbs (rec_ : (Ja → (List Jl) → Option (Int × Int))) (env : (List Jl)) : List Ja → Nat → (List Int) → Int → Int → Option ((List Int) × Int × Int)
  | [], _, ac, aV, aT => some (ac, aV, aT)
  | e0 :: aW, i0, ac, aV, aT =>
    (rec_ e0 env).bind fun aU =>
    (chk (ac.length + [aU.1].length ≤ lim)).bind fun _ =>
    if decide ((i0 : Int) = 0) then
    (chk (InI (aT + aU.2))).bind fun _ =>
    Jbs rec_ env aW (i0 + 1) (ac ++ [aU.1]) aU.2 (aT + aU.2)
    else
    (chk (InI (aT + aU.2))).bind fun _ =>
    Jbs rec_ env aW (i0 + 1) (ac ++ [aU.1]) aV (aT + aU.2)
def Jb7 : Nat → Ja → (List Jl) → Option (Int × Int)
  | 0, _, _ => none
  | n + 1, n', env =>
    (chk (n'.Aa.length ≤ qa7)).bind fun _ =>
    (Jbs (Jb7 n) env n'.Aa 0 [] 0 0).bind fun t0 =>
    if decide (n'.Ab = 20) then
    some (2, 1)
    else
    if decide (n'.Ab = 21) then
    some (1, 1)
    else
    if decide (n'.Ab = 22) then
    some (3, 3)
    else
    if decide (n'.Ab = 23) then
    (Jci n n'.Ac env).bind fun aU =>
    some (aU, 1)
    else
    if decide (n'.Ab = 24) then
    (JbB (⟨0, none⟩ : Jm) n' t0.1).bind fun aB =>
    if decide (aB.1 = 1) then
    (chk (InI (t0.2.2 + 32))).bind fun _ =>
    (chk (InI ((t0.2.2 + 32) + 1))).bind fun _ =>
    some (aB.1, ((t0.2.2 + 32) + 1))
    else
    (chk (InI (t0.2.2 + 1))).bind fun _ =>
    some (aB.1, (t0.2.2 + 1))
    else
    if decide (n'.Ab = 14) then
    if decide (n'.Ab = 14) then
    (chk (InI (t0.2.1 + 1))).bind fun _ =>
    (chk (InI (t0.2.2 - t0.2.1))).bind fun _ =>
    (chk (InI ((t0.2.2 - t0.2.1) + 1))).bind fun _ =>
    (chk (InI ((t0.2.1 + 1) + (max 3 ((t0.2.2 - t0.2.1) + 1))))).bind fun _ =>
    some (3, ((t0.2.1 + 1) + (max 3 ((t0.2.2 - t0.2.1) + 1))))
    else
    (chk (InI (t0.2.1 + 1))).bind fun _ =>
    (chk (InI (t0.2.2 - t0.2.1))).bind fun _ =>
    (chk (InI ((t0.2.1 + 1) + (max 4 (t0.2.2 - t0.2.1))))).bind fun _ =>
    some (3, ((t0.2.1 + 1) + (max 4 (t0.2.2 - t0.2.1))))
    else
    if decide (n'.Ab = 13) then
    if decide (n'.Ab = 14) then
    (chk (InI (t0.2.1 + 1))).bind fun _ =>
    (chk (InI (t0.2.2 - t0.2.1))).bind fun _ =>
    (chk (InI ((t0.2.2 - t0.2.1) + 1))).bind fun _ =>
    (chk (InI ((t0.2.1 + 1) + (max 3 ((t0.2.2 - t0.2.1) + 1))))).bind fun _ =>
    some (3, ((t0.2.1 + 1) + (max 3 ((t0.2.2 - t0.2.1) + 1))))
    else
    (chk (InI (t0.2.1 + 1))).bind fun _ =>
    (chk (InI (t0.2.2 - t0.2.1))).bind fun _ =>
    (chk (InI ((t0.2.1 + 1) + (max 4 (t0.2.2 - t0.2.1))))).bind fun _ =>
    some (3, ((t0.2.1 + 1) + (max 4 (t0.2.2 - t0.2.1))))
    else
    (Jcm n' t0.1).bind fun aT =>
    if decide (aT = 1) then
    (chk (InI (t0.2.2 + 32))).bind fun _ =>
    (chk (InI ((t0.2.2 + 32) + 1))).bind fun _ =>
    some (aT, ((t0.2.2 + 32) + 1))
    else
    (chk (InI (t0.2.2 + 1))).bind fun _ =>
    some (aT, (t0.2.2 + 1))
theorem Jd9 : ∀ {n : Nat} {n' : Ja} {env : (List Jl)} {aa : Option Addr} {ab : Nat} {af : Option Addr} {ag : Nat} {n1 : Nat} {K : Hp} {r : Int × Int}
    (hm : Jb7 n n' env = some r) (hX : LiC Ja.R K aa ab 4 n'.Aa ∧ RdC Jl.enc K af ag 2 env ∧ n1 = env.length),
    Fn Tryz.prog 198 [.agg #[.int .i64 n'.Ab, str n'.Ac, .slice aa n'.Aa.length ab, .int .i64 n'.Ad], .slice af n1 ag] K [] (fun v K' H' => v = .tuple #[.int .i64 r.1, .int .i64 r.2] ∧ H' = []) := by
 intro n
 induction n with
 | zero =>
   intro n' env aa ab af ag n1 K r hm hX
   rw [Jb7.eq_1] at hm; cases hm
 | succ n ih =>
   intro n' env aa ab af ag n1 K r hm hX
   obtain ⟨ae, ai, bK⟩ := hX
   subst bK
   refine Fn.enter Tryz.func198 Tryz.call198 rfl fun F => ?_
   rw [Jb7.eq_2] at hm
   refine qas ?_
   intro b2
   refine fa rfl (ro (ld r0 rfl rfl (ro (qal rfl ?_))))
   obtain ⟨bt, hm⟩ := qaw hm
   obtain ⟨s0, aV, hm⟩ := bnd hm
   refine qhp eN 3 1 ?_
   refine lD (σ := ((List Int) × Int × Int) × Option Addr × Nat) (rg 6 7 ++ rg 19 22) [1, 2] (fun i0 => [(19, .int .i64 (i0 : Int))]) (fun (t0, aT, aU) => [(6, .slice aT t0.1.length aU), (7, .int .i64 t0.2.1), (8, .int .i64 t0.2.2)]) (fun (t0, aT, aU) => [qau eN aT 3 1 aU t0.1]) (fun (t0, aT, aU) => (0 < t0.1.length → Has aT) ∧ True) (fun i0 (t0, aT, aU) => Jbs (Jb7 n) env (n'.Aa.drop i0) i0 t0.1 t0.2.1 t0.2.2 = some s0) (fun (t0, aT, aU) => t0 = s0) (fun i0 => n'.Aa.length - i0) 0 ((_, _, _), _, _) aV (And.intro qe (And.intro ?_ ?_))
   clear aV
   rintro i0 ⟨⟨ac, bw, bH⟩, bp, bj⟩ ⟨bg, _⟩ aV j0
   dsimp only at aV ⊢
   refine qac rfl ?_
   refine qah ?_ ?_ <;> intro w0
   obtain ⟨e0, aX, bC⟩ := ltx w0
   rw [bC, Jbs.eq_2] at aV
   refine qam rfl ?_
   refine RStep.ofN (qae rfl rfl (qc8 ae.rd aX) (nn _) (qbs aX) ?_)
   obtain ⟨bz, bG, bc, ba, a8⟩ := LiR.get ae.rd aX
   obtain ⟨bm, bh, rfl, bv⟩ := Ja.out a8
   refine ro (qao i0 _ bc rfl ba rfl ?_)
   refine qai rfl fun bN => ?_
   refine qaa r0 rfl ⟨rfl, rfl, (nl rfl), ?_⟩
   refine ro (qab r0 rfl (nl rfl) ?_)
   refine cb aV fun bn bJ aV => cgx (ih bJ :) ?_
   refine bsO (len := 1) (enc := eN) (l := [bn.1]) (cl := [.int .i64 bn.1]) qko rfl rfl (fun _ _ => rfl) rfl rfl rfl ?_ fun bT => ?_
   · conv => whnf
     refine cT ?_
     first | done | rfl
   obtain ⟨bA, aV⟩ := qaw aV
   refine apE rfl r2 qko (qay rfl r0 rfl (fun _ => rfl) (fun _ => rfl)) bA ?_
   intro bP bO bS
   refine qag (cs rfl rfl aV ?_ ?_) <;> intro ca aV
   obtain ⟨bd, aV⟩ := qaw aV
   refine qan bd (qan (qbu aX bt) ?_)
   exact eR aV (_, (_, _, _), _, _)
   obtain ⟨bd, aV⟩ := qaw aV
   refine qan bd (qan (qbu aX bt) ?_)
   exact eR aV (_, (_, _, _), _, _)
   rw [lty w0, Jbs.eq_1] at aV
   refine cT ?_
   exact eM aV (_, _, _)
   rintro ⟨t0, aT, aU⟩ ⟨br, _⟩ rfl j0
   refine qad rfl rfl ?_
   refine qas ?_
   intro bR
   refine fa rfl (ro (ld r2 rfl rfl ?_))
   refine qam rfl ?_
   refine qag (cs rfl rfl hm ?_ ?_) <;> intro bZ hm
   exact eE hm
   refine qag (cs rfl rfl hm ?_ ?_) <;> intro bY hm
   exact eE hm
   refine qag (cs rfl rfl hm ?_ ?_) <;> intro bQ hm
   exact eE hm
   refine qag (cs rfl rfl hm ?_ ?_) <;> intro bU hm
   refine fa rfl (ro (ld r2 rfl rfl ?_))
   refine cb hm fun bL bB hm => cgx (JcK bB :) ?_
   exact eE hm
   refine qag (cs rfl rfl hm ?_ ?_) <;> intro bW hm
   refine ro (qab r2 rfl (nl rfl) ?_)
   refine cb hm fun aB bI hm => ck0 (Fn.lend Tryz.call228 (fun bo aY aW => (JcC (c := (⟨0, none⟩ : Jm)) (n' := n') bI ⟨(LiC.mono Ja.R_ok aY ae), aW, rfl⟩)) (by exact fun _ _ _ _ h => h)) ?_
   rintro _ _ _ ⟨_, rfl, rfl, rfl⟩
   refine qag (cs rfl rfl hm ?_ ?_) <;> intro bM hm
   refine ci hm fun hm => ?_
   refine ci hm fun hm => ?_
   exact eE hm
   refine ci hm fun hm => ?_
   exact eE hm
   refine qag (cs rfl rfl hm ?_ ?_) <;> intro bu hm
   refine qac rfl (ct bu (fa rfl (ro (ld r2 rfl rfl (qag ?_)))))
   refine cs rfl rfl hm ?_ ?_ <;> intro bD hm
   refine ci hm fun hm => ?_
   refine ci hm fun hm => ?_
   obtain ⟨bf, hm⟩ := qaw hm
   refine qan bf (ro (qcg ?_))
   refine ci hm fun hm => ?_
   exact eE hm
   refine ci hm fun hm => ?_
   obtain ⟨bb, hm⟩ := qaw hm
   refine qan bb (ro (qcg ?_))
   refine ci hm fun hm => ?_
   exact eE hm
   refine qag (cs rfl rfl hm ?_ ?_) <;> intro bu hm
   refine fa rfl (ro (ld r2 rfl rfl (qag ?_)))
   refine cs rfl rfl hm ?_ ?_ <;> intro bD hm
   refine ci hm fun hm => ?_
   refine ci hm fun hm => ?_
   obtain ⟨bf, hm⟩ := qaw hm
   refine qan bf (ro (qcg ?_))
   refine ci hm fun hm => ?_
   exact eE hm
   refine ci hm fun hm => ?_
   obtain ⟨bb, hm⟩ := qaw hm
   refine qan bb (ro (qcg ?_))
   refine ci hm fun hm => ?_
   exact eE hm
   refine ro (qab r2 rfl (nl rfl) ?_)
   refine cb hm fun bX bF hm => ck0 (Fn.lend Tryz.call229 (fun bl aZ a6 => (Jda (n' := n') bF ⟨(LiC.mono Ja.R_ok aZ ae), a6, rfl⟩)) (by exact fun _ _ _ _ h => h)) ?_
   rintro _ _ _ ⟨_, rfl, rfl, rfl⟩
   refine qag (cs rfl rfl hm ?_ ?_) <;> intro bV hm
   refine ci hm fun hm => ?_
   refine ci hm fun hm => ?_
   exact eE hm
   refine ci hm fun hm => ?_
   exact eE hm

def JaC (n : Nat) (rec_ : ((List Ja) → (List Jl) → Option (Int))) : List Ja → Nat → (List Jl) → Int → Option ((List Jl) × Int)
  | [], _, ac, aT => some (ac, aT)
  | e0 :: aW, i0, ac, aT =>
    (chk (InI (aT + 1))).bind fun _ =>
    if decide ((e0.Aa.length : Int) = 0) then
    JaC n rec_ aW (i0 + 1) ac (aT + 1)
    else
    (ix e0.Aa 0).bind fun aZ =>
    (Jb7 n aZ ac).bind fun aU =>
    (chk (InI ((aT + 1) + aU.2))).bind fun _ =>
    if decide (e0.Ab = 3) then
    (Ja7 ac e0.Ac aU.1).bind fun ba =>
    JaC n rec_ aW (i0 + 1) ba ((aT + 1) + aU.2)
    else
    if decide (e0.Ab = 2) then
    (ix e0.Aa 1).bind fun a6 =>
    (Jcj a6).bind fun a8 =>
    (rec_ a8 ac).bind fun aV =>
    if decide ((e0.Aa.length : Int) > 2) then
    (chk (InI (aV + 1))).bind fun _ =>
    (ix e0.Aa 2).bind fun bb =>
    (Jcj bb).bind fun aY =>
    (rec_ aY ac).bind fun aX =>
    (chk (InI (((aT + 1) + aU.2) + (max (aV + 1) aX)))).bind fun _ =>
    JaC n rec_ aW (i0 + 1) ac (((aT + 1) + aU.2) + (max (aV + 1) aX))
    else
    (chk (InI (((aT + 1) + aU.2) + aV))).bind fun _ =>
    JaC n rec_ aW (i0 + 1) ac (((aT + 1) + aU.2) + aV)
    else
    JaC n rec_ aW (i0 + 1) ac ((aT + 1) + aU.2)
def JbH : Nat → (List Ja) → (List Jl) → Option (Int)
  | 0, _, _ => none
  | n + 1, list, env =>
    (chk (list.length ≤ qa7)).bind fun _ =>
    (JaC n (JbH n) list 0 env 0).bind fun t0 =>
    some t0.2
theorem Jea : ∀ {n : Nat} {list : (List Ja)} {env : (List Jl)} {aa : Option Addr} {ab : Nat} {n0 : Nat} {af : Option Addr} {ag : Nat} {n1 : Nat} {K : Hp} {r : Int}
    (hm : JbH n list env = some r) (hX : LiC Ja.R K aa ab 4 list ∧ n0 = list.length ∧ RdC Jl.enc K af ag 2 env ∧ n1 = env.length),
    Fn Tryz.prog 144 [.slice aa n0 ab, .slice af n1 ag] K [] (fun v K' H' => v = .int .i64 r ∧ H' = []) := by
 intro n
 induction n with
 | zero =>
   intro list env aa ab n0 af ag n1 K r hm hX
   rw [JbH.eq_1] at hm; cases hm
 | succ n ih =>
   intro list env aa ab n0 af ag n1 K r hm hX
   obtain ⟨ae, co, ai, cH⟩ := hX
   subst co
   subst cH
   refine Fn.enter Tryz.func144 Tryz.call144 rfl fun F => ?_
   rw [JbH.eq_2] at hm
   refine ro (qal rfl ?_)
   obtain ⟨aY, hm⟩ := qaw hm
   obtain ⟨s0, aT, hm⟩ := bnd hm
   refine lC (σ := ((List Jl) × Int) × Option Addr × Nat) ([1,5,7,8,9,10] ++ rg 13 58) [0] (fun i0 => [(13, .int .i64 (i0 : Int))]) (fun (t0, aU, aW) => [(1, .slice aU t0.1.length aW), (5, .int .i64 t0.2)]) (fun _ => []) (fun zz K1 => match zz with | (t0, aU, aW) => RdC Jl.enc K1 aU aW 2 t0.1 ∧ True) (fun i0 (t0, aU, aW) => JaC n (JbH n) (list.drop i0) i0 t0.1 t0.2 = some s0) (fun (t0, aU, aW) => t0 = s0) (fun i0 => list.length - i0) 0 ((_, _), _, _) aT (And.intro qe (And.intro ?_ ?_))
   clear aT
   rintro i0 ⟨⟨ac, cd⟩, bD, bB⟩ cM bW ⟨br, _⟩ aT j0
   dsimp only at aT ⊢
   refine qac rfl ?_
   refine qah ?_ ?_ <;> intro w0
   obtain ⟨e0, aX, cq⟩ := ltx w0
   rw [cq, JaC.eq_2] at aT
   refine qam rfl ?_
   refine RStep.ofN (qae rfl rfl (qc8 (LiC.mono Ja.R_ok bW ae).rd aX) (nn _) (qbs aX) ?_)
   obtain ⟨cB, cn, bn, ba, bf⟩ := LiR.get (LiC.mono Ja.R_ok bW ae).rd aX
   obtain ⟨bP, bw, rfl, aV⟩ := Ja.out bf
   refine ro (qao i0 _ bn rfl ba rfl ?_)
   refine qai rfl fun b7 => ?_
   refine qaa r0 rfl ⟨rfl, rfl, (nl rfl), ?_⟩
   obtain ⟨cr, aT⟩ := qaw aT
   refine qan cr (fa rfl (ro (ld r0 rfl rfl (ro (qal rfl (qag ?_))))))
   refine cs rfl rfl aT ?_ ?_ <;> intro cQ aT
   refine cT (qan (qbu aX aY) ?_)
   exact eR aT (_, (_, _), _, _)
   refine fa rfl (ro (ld r0 rfl rfl ?_))
   obtain ⟨cN, bJ, bb, aT⟩ := ixb aT
   refine RStep.ofN (qae rfl rfl (qc8 aV.rd bb) bJ (qaz rfl bJ bb) ?_)
   obtain ⟨cj, cy, bd, bj, bg⟩ := LiR.get aV.rd bb
   obtain ⟨bF, bH, rfl, bS⟩ := Ja.out bg
   refine ro (qao ((0 : Int).toNat) _ bd rfl bj rfl ?_)
   refine cb aT fun cO cC aT => cgx (Jd9 cC :) ?_
   obtain ⟨cp, aT⟩ := qaw aT
   refine qan cp (fa rfl (ro (ld r0 rfl rfl ?_)))
   refine qam rfl ?_
   refine qag (cs rfl rfl aT ?_ ?_) <;> intro cX aT
   refine fa rfl (ro (ld r0 rfl rfl ?_))
   refine cb aT fun cY cD aT => ckx (Jbn cD :) ?_
   rintro _ _ _ ⟨bX, bO, rfl, bz, rfl⟩
   refine qan (qbu aX aY) ?_
   refine fRo r0 fun bY bu bV => ?_
   exact eR aT (_, (_, _), _, _)
   refine qag (cs rfl rfl aT ?_ ?_) <;> intro c5 aT
   refine fa rfl (ro (ld r0 rfl rfl ?_))
   obtain ⟨c6, bC, bc, aT⟩ := ixb aT
   refine RStep.ofN (qae rfl rfl (qc8 aV.rd bc) bC (qaz rfl bC bc) ?_)
   obtain ⟨ce, cu, aZ, bh, bo⟩ := LiR.get aV.rd bc
   obtain ⟨ca, bR, rfl, bA⟩ := Ja.out bo
   refine ro (qao ((1 : Int).toNat) _ aZ rfl bh rfl ?_)
   refine cb aT fun cP cw aT => cfx (Jcd cw :) ?_
   rintro _ cZ _ bZ ⟨bT, bI, rfl, bN, rfl⟩
   refine cb aT fun cU cI aT => cgx (ih cI :) ?_
   refine fa rfl (ro (ld r0 rfl rfl (ro (qal rfl ?_))))
   refine cs rfl rfl aT ?_ ?_ <;> intro cJ aT
   obtain ⟨cG, aT⟩ := qaw aT
   refine qan cG (fa rfl (ro (ld r0 rfl rfl ?_)))
   obtain ⟨cV, bK, a8, aT⟩ := ixb aT
   refine RStep.ofN (qae rfl rfl (qc8 (LiC.mono Ja.R_ok bZ aV).rd a8) bK (qaz rfl bK a8) ?_)
   obtain ⟨cE, cm, a6, bl, bm⟩ := LiR.get (LiC.mono Ja.R_ok bZ aV).rd a8
   obtain ⟨bv, bQ, rfl, bU⟩ := Ja.out bm
   refine ro (qao ((2 : Int).toNat) _ a6 rfl bl rfl ?_)
   refine cb aT fun cK cA aT => cfx (Jcd cA :) ?_
   rintro _ c8 _ c4 ⟨bL, bt, rfl, bG, rfl⟩
   refine cb aT fun cW cz aT => cgx (ih cz :) ?_
   refine ro (qcg ?_)
   obtain ⟨bp, aT⟩ := qaw aT
   refine qan bp (qan (qbu aX aY) ?_)
   exact eR aT (_, (_, _), _, _)
   obtain ⟨bp, aT⟩ := qaw aT
   refine qan bp (qan (qbu aX aY) ?_)
   exact eR aT (_, (_, _), _, _)
   refine qan (qbu aX aY) ?_
   exact eR aT (_, (_, _), _, _)
   rw [lty w0, JaC.eq_1] at aT
   refine cT ?_
   exact eM aT (_, _, _)
   rintro ⟨t0, aU, aW⟩ cR cL ⟨bM, _⟩ rfl j0
   exact eE hm

def Jcv (n : Nat) (program : Ja) : Option (Int × Err) :=
  (Jbq n program).bind fun x8 =>
  if x8.2.isSome then
  some (0, x8.2)
  else
  (JbH n program.Aa []).bind fun aT =>
  (chk (InI (aT + 1))).bind fun _ =>
  some ((aT + 1), none)
theorem Jeb {n : Nat} {program : Ja} {aa : Option Addr} {ab : Nat} {K : Hp} {r : Int × Err}
    (hm : Jcv n program = some r) (hX : LiC Ja.R K aa ab 4 program.Aa ∧ GG K) :
    Fn Tryz.prog 91 [.agg #[.int .i64 program.Ab, str program.Ac, .slice aa program.Aa.length ab, .int .i64 program.Ad]] K [] (fun v K' H' => v = .tuple #[.int .i64 r.1, qc5 48 r.2] ∧ H' = []) := by
 obtain ⟨ae, hG⟩ := hX
 refine Fn.enter Tryz.func91 Tryz.call91 rfl fun F => ?_
 unfold Jcv at hm
 refine qas ?_
 intro b1
 refine ro (qab r0 rfl (nl rfl) ?_)
 refine cb hm fun x8 q8 hm => cgx (JcW q8 :) ?_
 refine qa9 rfl ?_
 refine cs rfl rfl hm ?_ ?_ <;> intro aV hm
 exact eE hm
 refine fa rfl (ro (ld r0 rfl rfl ?_))
 refine cb hm fun aU aT hm => cgx (Jea aT :) ?_
 refine ci hm fun hm => ?_
 exact eE hm

def qba (n : Nat) (text : Str) : Option ((List Jg) × Err) :=
  (Jad n text).bind fun aT =>
  if aT.2.2.isSome then
  some ([], aT.2.2)
  else
  (Jbq n aT.1).bind fun aW =>
  if aW.2.isSome then
  some ([], aW.2)
  else
  (Jb4 n aT.1).bind fun aU =>
  if aU.2.isSome then
  some ([], aU.2)
  else
  (Jcv n aT.1).bind fun aV =>
  if aV.2.isSome then
  some ([], aV.2)
  else
  if decide (aV.1 > 10000) then
  some ([], (some 5))
  else
  some (aU.1, none)
theorem qfi {n : Nat} {text : Str} {K : Hp} {r : (List Jg) × Err}
    (hm : qba n text = some r) (hG : GG K) :
    Fn Tryz.prog 67 [str text] K [] (fun v K' H' => ∃ ar_0 : Option Addr, ∃ cr_0 : Nat, v = .tuple #[.slice ar_0 r.1.length cr_0, qc5 48 r.2] ∧ (0 < r.1.length → Has ar_0) ∧ H' = [qau Jg.enc ar_0 135 3 cr_0 r.1]) := by
 refine Fn.enter Tryz.func67 Tryz.call67 rfl fun F => ?_
 unfold qba at hm
 refine cb hm fun bb aZ hm => cfx (Jd5 aZ :) ?_
 rintro _ bf _ bd ⟨aT, aX, rfl, aU, rfl⟩
 refine qai rfl fun b4 => ?_
 refine qaa r0 rfl ⟨rfl, rfl, (nl rfl), ?_⟩
 refine qa9 rfl ?_
 refine cs rfl rfl hm ?_ ?_ <;> intro bc hm
 refine qci Jg.enc 135 3 ?_
 exact eE hm
 refine ro (qab r0 rfl (nl rfl) ?_)
 refine cb hm fun bl a6 hm => cgx (JcW a6 :) ?_
 refine qa9 rfl ?_
 refine cs rfl rfl hm ?_ ?_ <;> intro bh hm
 refine qci Jg.enc 135 3 ?_
 exact eE hm
 refine ro (qab r0 rfl (nl rfl) ?_)
 refine cb hm fun bo a8 hm => ckx (JdW a8 :) ?_
 rintro _ _ _ ⟨aV, aW, rfl, aY, rfl⟩
 refine qa9 rfl ?_
 refine cs rfl rfl hm ?_ ?_ <;> intro bj hm
 refine qci Jg.enc 135 3 ?_
 exact eE hm
 refine ro (qab r1 rfl (nl rfl) ?_)
 refine cb hm fun bm ba hm => cgx (Jeb ba :) ?_
 refine qa9 rfl ?_
 refine cs rfl rfl hm ?_ ?_ <;> intro bn hm
 refine qci Jg.enc 135 3 ?_
 exact eE hm
 refine cs rfl rfl hm ?_ ?_ <;> intro bg hm
 refine qat rfl ?_
 refine qci Jg.enc 135 3 ?_
 exact eE hm
 exact eE hm

def tenant_Directory_add (n : Nat) (d : JI) (s : JJ) : Option (Err × JI) :=
  (JcB s.An).bind fun aU =>
  if ((aU.2.isSome || decide (aU.1 ≠ s.An)) || (mget d.sites s.An).isSome) then
  some ((some 8), d)
  else
  if (decide (s.Tenant < 0) || decide (s.Tenant ≥ 16)) then
  some ((some 1), d)
  else
  (qba n s.Program).bind fun aT =>
  if aT.2.isSome then
  some (aT.2, d)
  else
  some (none, (⟨(mset d.sites s.An (⟨s.Tenant, aT.1⟩ : Jw))⟩ : JI))
theorem qds {n : Nat} {d : JI} {s : JJ} {b0 : Nat} {aF : Nat} {aH : List (Str × EnD Jw)} {K : Hp} {r : Err × JI}
    (hm : tenant_Directory_add n d s = some r) (hX : MR Jw.R K aH d.sites ∧ GG K) :
    Fn Tryz.prog 35 [.pointer (some ⟨b0, 0, none⟩), .agg #[str s.An, .int .i64 s.Tenant, str s.Program]] K [Cells b0 78 [.map (some aF)], qlf qle vAg aF aH] (fun v K' H' => ∃ mr_0 : Nat, ∃ wr_0 : List (Str × EnD Jw), v = qc5 48 r.1 ∧ MR Jw.R K' wr_0 r.2.sites ∧ H' = [Cells b0 78 [.map (some mr_0)], qlf qle vAg mr_0 wr_0]) := by
 obtain ⟨a8, hG⟩ := hX
 refine Fn.enter Tryz.func35 Tryz.call35 rfl fun F => ?_
 unfold tenant_Directory_add at hm
 refine qas ?_
 intro b3
 refine fa rfl (ro (ld r0 rfl rfl ?_))
 refine cb hm fun bc bn hm => cgx (JdM bn :) ?_
 refine qfb ⟨⟨[], false⟩, _, [(_, _), (_, _)], []⟩ 13 rfl (by kernel_rfl) ⟨Hp.Le.refl _, (sc [1,0] rfl), ci0⟩ ?_
 refine qaj (fa rfl (qap m0 rfl rfl (fa rfl (qap m1 rfl rfl ?_))))
 refine qhx (kenc := qle) (R := Jw.R) (zs := [.int .i64 0, .slice none 0 0]) (z := (⟨0, []⟩ : Jw)) r2 rfl rfl (qjw rfl) a8 (⟨none, 0, rfl, RdC.nil⟩) fun br bb => ?_
 obtain ⟨bd, bh, rfl, bf⟩ := bb
 refine qky rfl ?_
 intro b7
 intro bt
 refine qaa r0 rfl ⟨rfl, rfl, (nl rfl), ?_⟩
 refine ⟨⟨lr, (sc [2,1] rfl), ci0⟩, ?_⟩
 refine ⟨_, .cons r5 .nil, ⟨lr, (sc [2,1] rfl), ci0⟩, ?_⟩
 refine jR (σ := Unit) (rg 26 11) (fun _ => [(36, .bool ((bc.2.isSome || decide (bc.1 ≠ s.An)) || (mget d.sites s.An).isSome))]) (fun bj => True) ?_ ?_
 refine qaf rfl ?_
 refine qa9 rfl ?_
 refine qah ?_ ?_ <;> intro aU
 refine ct aU (ct aU (ct aU (ct aU (cT (cT ?_)))))
 exact eMt () ⟨bq (((qbv (qbv aU))).symm), trivial⟩
 refine cf aU (fa rfl (cf aU (ro (ld r1 rfl rfl (cf aU (qbr (cf aU ?_)))))))
 refine qah ?_ ?_ <;> intro aY
 refine ct aY ?_
 exact eMt () ⟨bq (((qbv (qf2 aU aY))).symm), trivial⟩
 refine cf aY ?_
 exact eMt () ⟨bq (qhb (b := (mget d.sites s.An).isSome) (qc4 aU aY)), trivial⟩
 rintro _ _ bp
 refine cs rfl rfl hm ?_ ?_ <;> intro bu hm
 refine qat rfl ?_
 exact eE hm
 refine jR (σ := Unit) (rg 38 8) (fun _ => [(45, .bool (decide (s.Tenant < 0) || decide (s.Tenant ≥ 16)))]) (fun bo => True) ?_ ?_
 refine qaf rfl ?_
 refine fa rfl (ro (ld r1 rfl rfl ?_))
 refine qah ?_ ?_ <;> intro aW
 refine ct aW (ct aW (ct aW ?_))
 exact eMt () ⟨bq (((qbv aW)).symm), trivial⟩
 refine fa rfl (cf aW (ro (ld r1 rfl rfl (cf aW (cf aW ?_)))))
 exact eMt () ⟨bq (qhb (b := decide (s.Tenant ≥ 16)) aW), trivial⟩
 rintro _ _ bm
 refine cs rfl rfl hm ?_ ?_ <;> intro bw hm
 refine qat rfl ?_
 exact eE hm
 refine fa rfl (ro (ld r1 rfl rfl ?_))
 refine cb hm fun ba bl hm => ckx (qfi bl :) ?_
 rintro _ _ _ ⟨aZ, a6, rfl, bg, rfl⟩
 refine qa9 rfl ?_
 refine cs rfl rfl hm ?_ ?_ <;> intro bv hm
 exact eE hm
 refine qa4 ⟨⟨[], false⟩, _, [(_, _), (_, _)], []⟩ (by kernel_rfl) ⟨Hp.Le.refl _, (sc [3,2] rfl), ci0⟩ ?_
 refine qaj (fa rfl (qap m0 rfl rfl (fa rfl (qap m1 rfl rfl (fa rfl (qap m1 rfl rfl (qad rfl rfl ?_)))))))
 refine cT (cT ?_)
 refine fW r0 fun aX aT aV => ?_
 refine qjy (kenc := qle) (venc := vAg) ([.int .i64 s.Tenant, .slice aZ ba.1.length a6], (⟨s.Tenant, ba.1⟩ : Jw)) rfl r3 rfl (qjw rfl) ?_
 refine qk (sc [3,2] rfl) ?_
 cases hm
 exact en aT ⟨aF, (mset aH s.An ([.int .i64 s.Tenant, .slice aZ ba.1.length a6], (⟨s.Tenant, ba.1⟩ : Jw))), rfl, (MR.set (R := Jw.R) (MR.mono Jw.R_ok a8 aT) s.An (⟨aZ, a6, rfl, aV⟩)), rfl⟩ (sc [3,0,2] rfl)

def tenant_New_L0 (n : Nat) : List JJ → Nat → JI → Option (Fl (Option JI × Int × Err) (JI))
  | [], _, ac => some (Fl.go ac)
  | e0 :: aU, i0, ac =>
    (tenant_Directory_add n ac e0).bind fun aT =>
    if aT.1.isSome then
    some (Fl.ret (none, (i0 : Int), aT.1))
    else
    tenant_New_L0 n aU (i0 + 1) aT.2
def qbc (n : Nat) (sites : (List JJ)) : Option (Option JI × Int × Err) :=
  (chk (sites.length ≤ qa7)).bind fun _ =>
  (tenant_New_L0 n sites 0 (⟨[]⟩ : JI)).bind fun s0 => s0.el some fun t0 =>
  some ((some t0), 0, none)
theorem qet {n : Nat} {sites : (List JJ)} {aa : Option Addr} {ab : Nat} {n0 : Nat} {K : Hp} {r : Option JI × Int × Err}
    (hm : qbc n sites = some r) (hX : RdC JJ.enc K aa ab 3 sites ∧ n0 = sites.length ∧ GG K) :
    Fn Tryz.prog 12 [.slice aa n0 ab] K [] (fun v K' H' => match r.1 with | none => (v = .tuple #[.pointer none, .int .i64 r.2.1, qc5 48 r.2.2] ∧ H' = []) | some ro => (∃ br_0 : Nat, ∃ mr_1 : Nat, ∃ wr_1 : List (Str × EnD Jw), v = .tuple #[.pointer (some ⟨br_0, 0, none⟩), .int .i64 r.2.1, qc5 48 r.2.2] ∧ MR Jw.R K' wr_1 ro.sites ∧ H' = [Cells br_0 78 [.map (some mr_1)], qlf qle vAg mr_1 wr_1])) := by
 obtain ⟨ae, bh, hG⟩ := hX
 subst bh
 refine Fn.enter Tryz.func12 Tryz.call12 rfl fun F => ?_
 unfold qbc at hm
 refine qiz qle (venc := (vAg : EnD Jw → Value)) fun b9 => ?_
 refine qad rfl rfl (cT ?_)
 refine qas ?_
 intro bd
 refine ro (qal rfl ?_)
 obtain ⟨bf, hm⟩ := qaw hm
 obtain ⟨s0, aV, hm⟩ := bnd hm
 refine lC (σ := (JI) × Nat × List (Str × EnD Jw)) ([2,3,4,6,7,8] ++ rg 14 13) [2] (fun i0 => [(14, .int .i64 (i0 : Int))]) (fun _ => []) (fun (t0, aT, aU) => [Cells bd 78 [.map (some aT)], qlf qle vAg aT aU]) (fun zz K1 => match zz with | (t0, aT, aU) => MR Jw.R K1 aU t0.sites ∧ True) (fun i0 (t0, aT, aU) => tenant_New_L0 n (sites.drop i0) i0 t0 = some s0) (fun (t0, aT, aU) => s0 = Fl.go t0) (fun i0 => sites.length - i0) 0 ((⟨[]⟩ : JI), b9, ([] : List (Str × EnD Jw))) aV (And.intro ⟨⟨MR.nil, trivial⟩, ⟨rfl, trivial⟩, _, (sp rfl)⟩ (And.intro ?_ ?_))
 clear aV
 rintro i0 ⟨ac, aW, aX⟩ bo bc ⟨aZ, _⟩ aV j0
 conv at aV => whnf
 refine qac rfl ?_
 refine qah ?_ ?_ <;> intro w0
 obtain ⟨e0, a6, bj⟩ := ltx w0
 rw [bj, tenant_New_L0.eq_2] at aV
 refine qam rfl ?_
 refine RStep.ofN (qae rfl rfl (qf3 (ae.mono bc).rd a6) (nn _) (qbs a6) (ro (qao i0 _ (ae.mono bc).rd rfl (mp a6) rfl ?_)))
 refine qai rfl fun b7 => ?_
 refine qaa r0 rfl ⟨rfl, rfl, (nl rfl), ?_⟩
 refine ro (qab r0 rfl (nl rfl) ?_)
 refine cb aV fun bp bg aV => cfx (qds bg :) ?_
 rintro _ bt _ br ⟨bb, ba, rfl, a8, rfl⟩
 refine qa9 rfl ?_
 refine cs rfl rfl aV ?_ ?_ <;> intro bn aV
 exact eE (er aV hm)
 refine qan (qbu a6 bf) ?_
 exact eR aV (_, _, _, _)
 rw [lty w0, tenant_New_L0.eq_1] at aV
 refine cT ?_
 exact eM aV (_, _, _)
 rintro ⟨t0, aT, aU⟩ bm bl ⟨aY, _⟩ rfl j0
 replace hm := elg hm
 exact eE hm

def Jbc : Nat → Nat → Str → Option (Str)
  | 0, _, ac => some ac
  | aU + 1, i0, ac =>
    (ix ac (i0 : Int)).bind fun aT =>
    if (decide ((aT.toNat : Int) ≥ 65) && decide ((aT.toNat : Int) ≤ 90)) then
    (ix ac (i0 : Int)).bind fun aV =>
    Jbc aU (i0 + 1) (ac.set (((i0 : Int)).toNat) (aT + (32 : UInt8)))
    else
    Jbc aU (i0 + 1) ac
def JaX (s : Str) : Option (Str) :=
  (chk (s.length ≤ lim)).bind fun _ =>
  (chk (InI (s.length : Int))).bind fun _ =>
  (Jbc (s.length : Int).toNat 0 s).bind fun t0 =>
  some t0
theorem Jbd {s : Str} {K : Hp} {r : Str}
    (hm : JaX s = some r)  :
    Fn Tryz.prog 51 [str s] K [] (fun v K' H' => v = str r ∧ H' = []) := by
 refine Fn.enter Tryz.func51 Tryz.call51 rfl fun F => ?_
 unfold JaX at hm
 obtain ⟨h7, hm⟩ := qaw hm
 refine qga rfl rfl rfl h7 ?_
 intro a7 c7 o7
 refine ro (qal rfl ?_)
 obtain ⟨a6, hm⟩ := qaw hm
 obtain ⟨s0, aU, hm⟩ := bnd hm
 refine lD (σ := (Str)) ([4,5] ++ rg 10 17) [1] (fun i0 => [(10, .int .i64 (i0 : Int))]) (fun _ => []) (fun t0 => [qau eU a7 5 1 c7 t0]) (fun t0 => (0 < t0.length → Has a7) ∧ s.length = t0.length) (fun i0 t0 => Jbc ((s.length : Int).toNat - i0) i0 t0 = some s0) (fun t0 => t0 = s0) (fun i0 => (s.length : Int).toNat - i0) 0 _ aU (And.intro qe (And.intro ?_ ?_))
 clear aU
 rintro i0 ac ⟨aV, aW⟩ aU j0
 conv at aU => whnf
 refine qac rfl ?_
 refine qah ?_ ?_ <;> intro w0
 rw [ltn w0, Jbc.eq_2] at aU
 refine qam rfl ?_
 obtain ⟨aZ, bb, a8, aU⟩ := ixb aU
 refine RStep.ofN (qae rfl rfl (qcv aV a8) bb (qaz aW bb a8) (ro (qb1 (i := ((i0 : Int)).toNat) (o := 0) r0 rfl a8 rfl rfl ?_)))
 refine qaf rfl ?_
 refine qah ?_ ?_ <;> intro aT
 refine ct aT (ct aT (qac rfl ?_))
 refine qah ?_ ?_ <;> intro bd
 replace aU := ift (qcx aT bd) aU
 refine qh8 (x := aZ) (y := (32 : UInt8)) rfl rfl ?_
 obtain ⟨bf, bc, aY, aU⟩ := ixb aU
 refine RStep.ofN (qae rfl rfl (qcv aV aY) bc (qaz aW bc aY) ?_)
 refine qe7 (o := 0) (y := (aZ + (32 : UInt8))) bf r0 rfl aY rfl (by (conv => whnf); exact ⟨rfl, rfl, (nl rfl), rfl, rfl, rfl⟩) ?_
 refine qan (qjm w0 a6) ?_
 exact rd (i0 + 1, (ac.set (((i0 : Int)).toNat) (aZ + (32 : UInt8)))) ⟨rfl, trivial⟩ rfl (pf rfl) lr (qq1 w0) ⟨⟨(by first | simpa using aV | exact fun _ => ⟨_, _, rfl⟩), ((aW).trans List.length_set.symm)⟩, aU⟩
 replace aU := qbb (qcy aT bd) aU
 refine qan (qjm w0 a6) ?_
 exact eR aU (_, _)
 refine cf aT (cf aT (qac rfl (cF ?_)))
 replace aU := qbb (qbe aT) aU
 refine qan (qjm w0 a6) ?_
 exact eR aU (_, _)
 rw [lto w0, Jbc.eq_1] at aU
 refine cT ?_
 exact eM aU _
 rintro t0 ⟨ba, aX⟩ rfl j0
 refine ro (qd7 aX r0 rfl rfl rfl ?_)
 exact eE hm

def JcD (x9 : Str) : List Jc → Nat → (List Str) → Option ((List Str))
  | [], _, ac => some ac
  | e0 :: aT, i0, ac =>
    (JaX e0.Name).bind fun aU =>
    if decide (aU = x9) then
    (chk (ac.length + [e0.Value].length ≤ lim)).bind fun _ =>
    JcD x9 aT (i0 + 1) (ac ++ [e0.Value])
    else
    JcD x9 aT (i0 + 1) ac
def Jc2 (f : (List Jc)) (name : Str) : Option ((List Str)) :=
  (JaX name).bind fun x9 =>
  (chk (f.length ≤ qa7)).bind fun _ =>
  (JcD x9 f 0 []).bind fun t0 =>
  some t0
theorem Jc3 {f : (List Jc)} {name : Str} {aa : Option Addr} {ab : Nat} {n0 : Nat} {K : Hp} {r : (List Str)}
    (hm : Jc2 f name = some r) (hX : RdC Jc.enc K aa ab 2 f ∧ n0 = f.length) :
    Fn Tryz.prog 24 [.slice aa n0 ab, str name] K [] (fun v K' H' => ∃ ar_0 : Option Addr, ∃ cr_0 : Nat, v = .slice ar_0 r.length cr_0 ∧ (0 < r.length → Has ar_0) ∧ H' = [qau eS ar_0 9 1 cr_0 r]) := by
 obtain ⟨ae, bc⟩ := hX
 subst bc
 refine Fn.enter Tryz.func24 Tryz.call24 rfl fun F => ?_
 unfold Jc2 at hm
 refine cb hm fun x9 q9 hm => cg0 (Jbd q9 :) ?_
 refine ro (qal rfl ?_)
 obtain ⟨aZ, hm⟩ := qaw hm
 obtain ⟨s0, aV, hm⟩ := bnd hm
 refine qhp eS 9 1 ?_
 refine lD (σ := ((List Str)) × Option Addr × Nat) ([5,7] ++ rg 12 15) [1] (fun i0 => [(12, .int .i64 (i0 : Int))]) (fun (t0, aT, aU) => [(5, .slice aT t0.length aU)]) (fun (t0, aT, aU) => [qau eS aT 9 1 aU t0]) (fun (t0, aT, aU) => (0 < t0.length → Has aT) ∧ True) (fun i0 (t0, aT, aU) => JcD x9 (f.drop i0) i0 t0 = some s0) (fun (t0, aT, aU) => t0 = s0) (fun i0 => f.length - i0) 0 (_, _, _) aV (And.intro qe (And.intro ?_ ?_))
 clear aV
 rintro i0 ⟨ac, a8, a6⟩ ⟨aX, _⟩ aV j0
 conv at aV => whnf
 refine qac rfl ?_
 refine qah ?_ ?_ <;> intro w0
 obtain ⟨e0, aW, bd⟩ := ltx w0
 rw [bd, JcD.eq_2] at aV
 refine qam rfl ?_
 refine RStep.ofN (qae rfl rfl (qf3 ae.rd aW) (nn _) (qbs aW) (ro (qao i0 _ ae.rd rfl (mp aW) rfl ?_)))
 refine qai rfl fun b7 => ?_
 refine qaa r0 rfl ⟨rfl, rfl, (nl rfl), ?_⟩
 refine fa rfl (ro (ld r0 rfl rfl ?_))
 refine cb aV fun bl bb aV => cg0 (Jbd bb :) ?_
 refine qaq (cs rfl rfl aV ?_ ?_) <;> intro bj aV
 refine fa rfl (ro (ld r0 rfl rfl ?_))
 refine bsO (len := 1) (enc := eS) (l := [e0.Value]) (cl := [str e0.Value]) qbp rfl rfl (fun _ _ => rfl) rfl rfl rfl ?_ fun bf => ?_
 · conv => whnf
   refine cT ?_
   first | done | rfl
 obtain ⟨ba, aV⟩ := qaw aV
 refine apE rfl r2 qbp (qay rfl r0 rfl (fun _ => rfl) (fun _ => rfl)) ba ?_
 intro bm bh bg
 refine qan (qbu aW aZ) ?_
 exact eR aV (_, _, _, _)
 refine qan (qbu aW aZ) ?_
 exact eR aV (_, _, _, _)
 rw [lty w0, JcD.eq_1] at aV
 refine cT ?_
 exact eM aV (_, _, _)
 rintro ⟨t0, aT, aU⟩ ⟨aY, _⟩ rfl j0
 exact eE hm

def tenant_lower_L0 : Nat → Nat → Str → Option (Str)
  | 0, _, ac => some ac
  | aU + 1, i0, ac =>
    (ix ac (i0 : Int)).bind fun aT =>
    if (decide ((aT.toNat : Int) ≥ 65) && decide ((aT.toNat : Int) ≤ 90)) then
    (ix ac (i0 : Int)).bind fun aV =>
    tenant_lower_L0 aU (i0 + 1) (ac.set (((i0 : Int)).toNat) (aT + (32 : UInt8)))
    else
    tenant_lower_L0 aU (i0 + 1) ac
def qcn (s : Str) : Option (Str) :=
  (chk (s.length ≤ lim)).bind fun _ =>
  (chk (InI (s.length : Int))).bind fun _ =>
  (tenant_lower_L0 (s.length : Int).toNat 0 s).bind fun t0 =>
  some t0
theorem qd0 {s : Str} {K : Hp} {r : Str}
    (hm : qcn s = some r)  :
    Fn Tryz.prog 36 [str s] K [] (fun v K' H' => v = str r ∧ H' = []) := by
 refine Fn.enter Tryz.func36 Tryz.call36 rfl fun F => ?_
 unfold qcn at hm
 obtain ⟨h7, hm⟩ := qaw hm
 refine qga rfl rfl rfl h7 ?_
 intro a7 c7 o7
 refine ro (qal rfl ?_)
 obtain ⟨a6, hm⟩ := qaw hm
 obtain ⟨s0, aU, hm⟩ := bnd hm
 refine lD (σ := (Str)) ([4,5] ++ rg 10 17) [1] (fun i0 => [(10, .int .i64 (i0 : Int))]) (fun _ => []) (fun t0 => [qau eU a7 5 1 c7 t0]) (fun t0 => (0 < t0.length → Has a7) ∧ s.length = t0.length) (fun i0 t0 => tenant_lower_L0 ((s.length : Int).toNat - i0) i0 t0 = some s0) (fun t0 => t0 = s0) (fun i0 => (s.length : Int).toNat - i0) 0 _ aU (And.intro qe (And.intro ?_ ?_))
 clear aU
 rintro i0 ac ⟨aV, aW⟩ aU j0
 conv at aU => whnf
 refine qac rfl ?_
 refine qah ?_ ?_ <;> intro w0
 rw [ltn w0, tenant_lower_L0.eq_2] at aU
 refine qam rfl ?_
 obtain ⟨aZ, bb, a8, aU⟩ := ixb aU
 refine RStep.ofN (qae rfl rfl (qcv aV a8) bb (qaz aW bb a8) (ro (qb1 (i := ((i0 : Int)).toNat) (o := 0) r0 rfl a8 rfl rfl ?_)))
 refine qaf rfl ?_
 refine qah ?_ ?_ <;> intro aT
 refine ct aT (ct aT (qac rfl ?_))
 refine qah ?_ ?_ <;> intro bd
 replace aU := ift (qcx aT bd) aU
 refine qh8 (x := aZ) (y := (32 : UInt8)) rfl rfl ?_
 obtain ⟨bf, bc, aY, aU⟩ := ixb aU
 refine RStep.ofN (qae rfl rfl (qcv aV aY) bc (qaz aW bc aY) ?_)
 refine qe7 (o := 0) (y := (aZ + (32 : UInt8))) bf r0 rfl aY rfl (by (conv => whnf); exact ⟨rfl, rfl, (nl rfl), rfl, rfl, rfl⟩) ?_
 refine qan (qjm w0 a6) ?_
 exact rd (i0 + 1, (ac.set (((i0 : Int)).toNat) (aZ + (32 : UInt8)))) ⟨rfl, trivial⟩ rfl (pf rfl) lr (qq1 w0) ⟨⟨(by first | simpa using aV | exact fun _ => ⟨_, _, rfl⟩), ((aW).trans List.length_set.symm)⟩, aU⟩
 replace aU := qbb (qcy aT bd) aU
 refine qan (qjm w0 a6) ?_
 exact eR aU (_, _)
 refine cf aT (cf aT (qac rfl (cF ?_)))
 replace aU := qbb (qbe aT) aU
 refine qan (qjm w0 a6) ?_
 exact eR aU (_, _)
 rw [lto w0, tenant_lower_L0.eq_1] at aU
 refine cT ?_
 exact eM aU _
 rintro t0 ⟨ba, aX⟩ rfl j0
 refine ro (qd7 aX r0 rfl rfl rfl ?_)
 exact eE hm

def JaY (c : UInt8) : Option (Bool) :=
  (JcF c).bind fun x4 =>
  some ((((x4 || decide ((c.toNat : Int) = 45)) || decide ((c.toNat : Int) = 46)) || decide ((c.toNat : Int) = 95)) || decide ((c.toNat : Int) = 126))
theorem Jc4 {c : UInt8} {K : Hp} {r : Bool}
    (hm : JaY c = some r)  :
    Fn Tryz.prog 79 [.int .u8 (c.toNat : Int)] K [] (fun v K' H' => v = .bool r ∧ H' = []) := by
 refine Fn.enter Tryz.func79 Tryz.call79 rfl fun F => ?_
 unfold JaY at hm
 refine qaf rfl ?_
 refine cb hm fun x4 q4 hm => cg0 (JdE q4 :) ?_
 refine qah ?_ ?_ <;> intro aV
 refine ct aV (ct aV (cT (cT (cT (cT (cT (cT ?_)))))))
 refine cT (cT (cT ?_))
 exact bE (((qbv (qbv (qbv (qbv aV))))).symm) (eE hm)
 refine cf aV (qag (cf aV ?_))
 refine qah ?_ ?_ <;> intro aW
 refine ct aW (ct aW (cT (cT (cT (cT (cT (cT ?_)))))))
 exact bE (((qbv (qbv (qbv (qf2 aV aW))))).symm) (eE hm)
 refine cf aW (qag (cf aW ?_))
 refine qah ?_ ?_ <;> intro aT
 refine ct aT (ct aT (cT (cT (cT ?_))))
 exact bE (((qbv (qbv (qf2 (qc4 aV aW) aT)))).symm) (eE hm)
 refine cf aT (qag (cf aT ?_))
 refine qah ?_ ?_ <;> intro aU
 refine ct aU (ct aU ?_)
 exact bE (((qbv (qf2 (qc4 (qc4 aV aW) aT) aU))).symm) (eE hm)
 refine cf aU (qag (cf aU ?_))
 exact bE (qhb (b := decide ((c.toNat : Int) = 126)) (qc4 (qc4 (qc4 aV aW) aT) aU)) (eE hm)

def JbC (c : UInt8) : Option (Int) :=
  if (decide ((c.toNat : Int) ≥ 48) && decide ((c.toNat : Int) ≤ 57)) then
  some ((c - (48 : UInt8)).toNat : Int)
  else
  if (decide ((c.toNat : Int) ≥ 97) && decide ((c.toNat : Int) ≤ 102)) then
  (chk (InI (((c - (97 : UInt8)).toNat : Int) + 10))).bind fun _ =>
  some (((c - (97 : UInt8)).toNat : Int) + 10)
  else
  if (decide ((c.toNat : Int) ≥ 65) && decide ((c.toNat : Int) ≤ 70)) then
  (chk (InI (((c - (65 : UInt8)).toNat : Int) + 10))).bind fun _ =>
  some (((c - (65 : UInt8)).toNat : Int) + 10)
  else
  some (-1)
theorem Jcz {c : UInt8} {K : Hp} {r : Int}
    (hm : JbC c = some r)  :
    Fn Tryz.prog 81 [.int .u8 (c.toNat : Int)] K [] (fun v K' H' => v = .int .i64 r ∧ H' = []) := by
 refine Fn.enter Tryz.func81 Tryz.call81 rfl fun F => ?_
 unfold JbC at hm
 refine qam rfl ?_
 refine jR (σ := Unit) (rg 3 7) (fun _ => [(3, .bool (decide ((c.toNat : Int) ≥ 48) && decide ((c.toNat : Int) ≤ 57)))]) (fun aZ => True) ?_ ?_
 refine qaf rfl ?_
 refine qah ?_ ?_ <;> intro aV
 refine ct aV (ct aV ?_)
 exact eMt () ⟨bq (qcz (b := decide ((c.toNat : Int) ≤ 57)) aV), trivial⟩
 refine cf aV (cf aV ?_)
 exact eMt () ⟨bq (((qbe aV)).symm), trivial⟩
 rintro _ _ a6
 refine cs rfl rfl hm ?_ ?_ <;> intro w3 hm
 refine qh9 (x := c) (y := (48 : UInt8)) rfl rfl (qc3 rfl rfl (qq7 (c - (48 : UInt8))) ?_)
 exact eE hm
 refine jR (σ := Unit) (rg 13 7) (fun _ => [(13, .bool (decide ((c.toNat : Int) ≥ 97) && decide ((c.toNat : Int) ≤ 102)))]) (fun aY => True) ?_ ?_
 refine qaf rfl ?_
 refine qah ?_ ?_ <;> intro aU
 refine ct aU (ct aU ?_)
 exact eMt () ⟨bq (qcz (b := decide ((c.toNat : Int) ≤ 102)) aU), trivial⟩
 refine cf aU (cf aU ?_)
 exact eMt () ⟨bq (((qbe aU)).symm), trivial⟩
 rintro _ _ aX
 refine cs rfl rfl hm ?_ ?_ <;> intro a8 hm
 refine qh9 (x := c) (y := (97 : UInt8)) rfl rfl (qc3 rfl rfl (qq7 (c - (97 : UInt8))) ?_)
 refine ci hm fun hm => ?_
 exact eE hm
 refine qaf rfl ?_
 refine qah ?_ ?_ <;> intro aT
 refine ct aT (ct aT (qac rfl ?_))
 refine qah ?_ ?_ <;> intro aW
 replace hm := ift (qcx aT aW) hm
 refine qh9 (x := c) (y := (65 : UInt8)) rfl rfl (qc3 rfl rfl (qq7 (c - (65 : UInt8))) ?_)
 refine ci hm fun hm => ?_
 exact eE hm
 replace hm := qbb (qcy aT aW) hm
 exact eE hm
 refine cf aT (cf aT (qac rfl (cF ?_)))
 replace hm := qbb (qbe aT) hm
 exact eE hm

def Jal (s : Str) (others : Str) : Nat → Str → Int → Option (Fl (Str × Bool) (Str × Int))
  | 0, _, _ => none
  | aX + 1, ac, aT =>
    if decide (aT < (s.length : Int)) then
    (ix s aT).bind fun aW =>
    if decide ((aW.toNat : Int) ≠ 37) then
    (JaY aW).bind fun bb =>
    (if (!bb) then (ixByteM others aW).bind fun bl =>
    some (decide (bl < 0)) else some false).bind fun bn =>
    if bn then
    some (Fl.ret (([] : Str), false))
    else
    (chk (ac.length + ([aW] : Str).length ≤ lim)).bind fun _ =>
    (chk (InI (aT + 1))).bind fun _ =>
    Jal s others aX (ac ++ ([aW] : Str)) (aT + 1)
    else
    (((chk (InI (aT + 2))).bind fun _ =>
    (if decide ((aT + 2) ≥ (s.length : Int)) then some true else (chk (InI (aT + 1))).bind fun _ =>
    (ix s (aT + 1)).bind fun ba =>
    (JbC ba).bind fun bh =>
    some (decide (bh < 0))).bind fun bg =>
    (if bg then some true else (chk (InI (aT + 2))).bind fun _ =>
    (ix s (aT + 2)).bind fun bf =>
    (JbC bf).bind fun bc =>
    some (decide (bc < 0))).bind fun bm =>
    some bm) : Option (Bool)).bind fun aY =>
    if aY then
    some (Fl.ret (([] : Str), false))
    else
    (chk (InI (aT + 1))).bind fun _ =>
    (ix s (aT + 1)).bind fun bj =>
    (JbC bj).bind fun aU =>
    (chk (InI (16 * aU))).bind fun _ =>
    (chk (InI (aT + 2))).bind fun _ =>
    (ix s (aT + 2)).bind fun a8 =>
    (JbC a8).bind fun aV =>
    (chk (InI ((16 * aU) + aV))).bind fun _ =>
    (chk (InI (aT + 2))).bind fun _ =>
    if (decide (((qdz ((16 * aU) + aV)).toNat : Int) < 32) || decide (((qdz ((16 * aU) + aV)).toNat : Int) = 127)) then
    some (Fl.ret (([] : Str), false))
    else
    (JaY (qdz ((16 * aU) + aV))).bind fun bd =>
    if bd then
    (chk (ac.length + ([(qdz ((16 * aU) + aV))] : Str).length ≤ lim)).bind fun _ =>
    (chk (InI ((aT + 2) + 1))).bind fun _ =>
    Jal s others aX (ac ++ ([(qdz ((16 * aU) + aV))] : Str)) ((aT + 2) + 1)
    else
    (ix ([48, 49, 50, 51, 52, 53, 54, 55, 56, 57, 65, 66, 67, 68, 69, 70] : Str) (((qdz ((16 * aU) + aV)) / 16).toNat : Int)).bind fun a6 =>
    (ix ([48, 49, 50, 51, 52, 53, 54, 55, 56, 57, 65, 66, 67, 68, 69, 70] : Str) (((qdz ((16 * aU) + aV)) &&& (15 : UInt8)).toNat : Int)).bind fun aZ =>
    (chk (ac.length + ([(37 : UInt8), a6, aZ] : Str).length ≤ lim)).bind fun _ =>
    (chk (InI ((aT + 2) + 1))).bind fun _ =>
    Jal s others aX (ac ++ ([(37 : UInt8), a6, aZ] : Str)) ((aT + 2) + 1)
    else
    some (Fl.go (ac, aT))
def Jbt (n : Nat) (s : Str) (others : Str) : Option (Str × Bool) :=
  (Jal s others n [] 0).bind fun s0 => s0.el some fun t0 =>
  some (t0.1, true)
theorem Jdc {n : Nat} {s : Str} {others : Str} {K : Hp} {r : Str × Bool}
    (hm : Jbt n s others = some r)  :
    Fn Tryz.prog 46 [str s, str others] K [] (fun v K' H' => v = .tuple #[str r.1, .bool r.2] ∧ H' = []) := by
 refine Fn.enter Tryz.func46 Tryz.call46 rfl fun F => ?_
 unfold Jbt at hm
 obtain ⟨s0, aT, hm⟩ := bnd hm
 refine qhp eU 5 1 ?_
 refine lD (σ := (Str × Int) × Option Addr × Nat) (rg 4 86) [1] (fun _ => []) (fun (t0, aZ, a6) => [(6, .slice aZ t0.1.length a6), (7, .int .i64 t0.2)]) (fun (t0, aZ, a6) => [qau eU aZ 5 1 a6 t0.1]) (fun (t0, aZ, a6) => (0 < t0.1.length → Has aZ) ∧ True) (fun i0 (t0, aZ, a6) => Jal s others i0 t0.1 t0.2 = some s0) (fun (t0, aZ, a6) => s0 = Fl.go t0) (fun i0 => i0) n ((_, _), _, _) aT (And.intro qe (And.intro ?_ ?_))
 clear aT
 rintro i0 ⟨⟨ac, bu⟩, bn, bm⟩ ⟨bl, _⟩ aT j0
 dsimp only at aT ⊢
 cases i0 with
 | zero => rw [Jal.eq_1] at aT; cases aT
 | succ i0 =>
  rw [Jal.eq_2] at aT
  refine ro (qa3 rfl ?_)
  refine cs rfl rfl aT ?_ ?_ <;> intro cO aT
  refine qam rfl ?_
  obtain ⟨bg, bI, bZ, aT⟩ := ixb aT
  refine qa0 rfl bI bZ (qa8 ?_)
  refine cs rfl rfl aT ?_ ?_ <;> intro cP aT
  refine qaf rfl ?_
  refine cb aT fun cC bG aT => cg0 (Jc4 bG :) ?_
  refine qax ?_
  obtain ⟨cB, bc, aT⟩ := bnd aT
  refine cS bc (fun aX bc => ?_) fun aX bc => ?_
  refine ct aX (ct aX ?_)
  refine cb bc fun cy bY bc => cg0 (qjk bY) ?_
  refine ct aX (ct aX (qac rfl ?_))
  refine qah ?_ ?_ <;> intro bp
  replace aT := ift ((si bc).symm.trans bp) aT
  exact eE (er aT hm)
  replace aT := qbb ((si bc).symm.trans bp) aT
  refine bsO (len := 1) (enc := eU) (l := ([bg] : Str)) (cl := [.int .u8 (bg.toNat : Int)]) qck rfl rfl (fun _ _ => rfl) rfl rfl rfl ?_ fun bV => ?_
  · conv => whnf
    refine cT ?_
    first | done | rfl
  obtain ⟨bj, aT⟩ := qaw aT
  refine apE rfl r1 qck (qay rfl r0 rfl (fun _ => rfl) (fun _ => rfl)) bj ?_
  intro bT bR bO
  refine cT ?_
  refine ci aT fun aT => ?_
  exact eR aT (_, (_, _), _, _)
  refine cf aX (cf aX (cf aX (cf aX (qac rfl (cF ?_)))))
  replace aT := qbb (si bc).symm aT
  refine bsO (len := 1) (enc := eU) (l := ([bg] : Str)) (cl := [.int .u8 (bg.toNat : Int)]) qck rfl rfl (fun _ _ => rfl) rfl rfl rfl ?_ fun bV => ?_
  · conv => whnf
    refine cT ?_
    first | done | rfl
  obtain ⟨bj, aT⟩ := qaw aT
  refine apE rfl r1 qck (qay rfl r0 rfl (fun _ => rfl) (fun _ => rfl)) bj ?_
  intro bT bR bO
  refine cT ?_
  refine ci aT fun aT => ?_
  exact eR aT (_, (_, _), _, _)
  obtain ⟨bh, aW, aT⟩ := bnd aT
  refine jR (σ := Bool) (rg 33 21) (fun bb => [(53, .bool bb)]) (fun bb => bb = bh) ?_ ?_
  refine qaf rfl ?_
  obtain ⟨bK, aW⟩ := qaw aW
  refine qan bK (ro (qa3 rfl ?_))
  obtain ⟨cI, ba, aW⟩ := bnd aW
  refine cS ba (fun aV ba => ?_) fun aV ba => ?_
  refine ct aV (ct aV (ct aV (ct aV (ct aV (ct aV ?_)))))
  obtain ⟨bB, a8, aW⟩ := bnd aW
  replace a8 := ift (si ba).symm a8
  refine cT (cT (cT (cT (cT (cT (cT ?_))))))
  exact eMq aW _ ⟨bq (si a8), trivial⟩
  refine cf aV (cf aV ?_)
  obtain ⟨ce, ba⟩ := qaw ba
  refine qan ce (cf aV ?_)
  obtain ⟨cp, cn, bF, ba⟩ := ixb ba
  refine qa0 rfl cn bF (cf aV ?_)
  refine cb ba fun cN bW ba => cg0 (Jcz bW :) ?_
  refine cf aV (cf aV ?_)
  obtain ⟨bB, a8, aW⟩ := bnd aW
  refine qah ?_ ?_ <;> intro aU
  replace a8 := ift ((si ba).symm.trans aU) a8
  refine ct aU (ct aU (ct aU (ct aU (ct aU (ct aU ?_)))))
  exact eMq aW _ ⟨bq (si a8), trivial⟩
  replace a8 := qbb ((si ba).symm.trans aU) a8
  refine cf aU (cf aU ?_)
  obtain ⟨bL, a8⟩ := qaw a8
  refine qan bL (cf aU ?_)
  obtain ⟨cD, cm, bS, a8⟩ := ixb a8
  refine qa0 rfl cm bS (cf aU ?_)
  refine cb a8 fun cq cj a8 => cg0 (Jcz cj :) ?_
  refine cf aU (cf aU ?_)
  exact eMq aW _ ⟨bq (si a8), trivial⟩
  rintro bb rfl bH
  refine cs rfl rfl aT ?_ ?_ <;> intro cJ aT
  exact eE (er aT hm)
  refine qa4 ⟨⟨[], false⟩, _, [], []⟩ (by kernel_rfl) ⟨Hp.Le.refl _, (pf rfl), ci0⟩ ?_
  refine ci aT fun aT => ?_
  obtain ⟨cw, bX, bz, aT⟩ := ixb aT
  refine qa0 rfl bX bz ?_
  refine cb aT fun bd bA aT => cg0 (Jcz bA :) ?_
  refine qk (pf rfl) ?_
  refine ci aT fun aT => ?_
  refine ci aT fun aT => ?_
  obtain ⟨co, cd, bC, aT⟩ := ixb aT
  refine qa0 rfl cd bC ?_
  refine cb aT fun bf bQ aT => cg0 (Jcz bQ :) ?_
  refine qk (pf rfl) ?_
  refine ci aT fun aT => ?_
  refine qjz rfl rfl ?_
  refine ci aT fun aT => ?_
  refine jR (σ := Unit) (rg 69 6) (fun _ => [(74, .bool (decide (((qdz ((16 * bd) + bf)).toNat : Int) < 32) || decide (((qdz ((16 * bd) + bf)).toNat : Int) = 127)))]) (fun bP => True) ?_ ?_
  refine qaf rfl ?_
  refine qah ?_ ?_ <;> intro aY
  refine ct aY (ct aY ?_)
  exact eMt () ⟨bq (((qbv aY)).symm), trivial⟩
  refine cf aY (qag (cf aY ?_))
  exact eMt () ⟨bq (qhb (b := decide (((qdz ((16 * bd) + bf)).toNat : Int) = 127)) aY), trivial⟩
  rintro _ _ bJ
  refine cs rfl rfl aT ?_ ?_ <;> intro cH aT
  exact eE (er aT hm)
  refine cb aT fun cK bM aT => cg0 (Jc4 bM :) ?_
  refine cs rfl rfl aT ?_ ?_ <;> intro cG aT
  refine bsO (len := 1) (enc := eU) (l := ([(qdz ((16 * bd) + bf))] : Str)) (cl := [.int .u8 ((qdz ((16 * bd) + bf)).toNat : Int)]) qck rfl rfl (fun _ _ => rfl) rfl rfl rfl ?_ fun cr => ?_
  · conv => whnf
    refine cT ?_
    first | done | rfl
  obtain ⟨bv, aT⟩ := qaw aT
  refine apE rfl r1 qck (qay rfl r0 rfl (fun _ => rfl) (fun _ => rfl)) bv ?_
  intro cz cL cE
  refine cT ?_
  refine ci aT fun aT => ?_
  exact eR aT (_, (_, _), _, _)
  refine qa4 ⟨⟨[], false⟩, _, [], []⟩ (by kernel_rfl) ⟨Hp.Le.refl _, (pf rfl), ci0⟩ ?_
  refine qrp (x := (qdz ((16 * bd) + bf))) 16 rfl (by decide) (by decide) ?_
  obtain ⟨bo, bU, bN, aT⟩ := ixb aT
  refine qa0 rfl bU bN ?_
  refine qrq (x := (qdz ((16 * bd) + bf))) (y := (15 : UInt8)) rfl rfl ?_
  obtain ⟨bt, ca, bw, aT⟩ := ixb aT
  refine qa0 rfl ca bw ?_
  refine bsO (len := 3) (enc := eU) (l := ([(37 : UInt8), bo, bt] : Str)) (cl := [.int .u8 37, .int .u8 (bo.toNat : Int), .int .u8 (bt.toNat : Int)]) qck rfl rfl (fun _ _ => rfl) rfl rfl rfl ?_ fun cu => ?_
  · conv => whnf
    refine cT (cT (cT ?_))
    first | done | rfl
  refine qk (pf rfl) ?_
  obtain ⟨bD, aT⟩ := qaw aT
  refine apE rfl r1 qck (qay rfl r0 rfl (fun _ => rfl) (fun _ => rfl)) bD ?_
  intro cM cA cQ
  refine qk (pf rfl) ?_
  refine ci aT fun aT => ?_
  exact eR aT (_, (_, _), _, _)
  refine cT ?_
  exact eM aT (_, _, _)
 rintro ⟨t0, aZ, a6⟩ ⟨br, _⟩ rfl j0
 replace hm := elg hm
 refine ro (qd7 rfl r0 rfl rfl rfl ?_)
 exact eE hm

def JcE (a : Je) : Option (Str) :=
  if a.HasQuery then
  (chk (a.An.length + a.Ae.length ≤ lim)).bind fun _ =>
  (chk ((a.An ++ a.Ae).length + ([63] : Str).length ≤ lim)).bind fun _ =>
  (chk (((a.An ++ a.Ae) ++ ([63] : Str)).length + a.Af.length ≤ lim)).bind fun _ =>
  some (((a.An ++ a.Ae) ++ ([63] : Str)) ++ a.Af)
  else
  (chk (a.An.length + a.Ae.length ≤ lim)).bind fun _ =>
  some (a.An ++ a.Ae)
theorem JdN {a : Je} {K : Hp} {r : Str}
    (hm : JcE a = some r)  :
    Fn Tryz.prog 49 [.agg #[str a.An, str a.Ae, str a.Af, .bool a.HasQuery]] K [] (fun v K' H' => v = str r ∧ H' = []) := by
 refine Fn.enter Tryz.func49 Tryz.call49 rfl fun F => ?_
 unfold JcE at hm
 refine qas ?_
 intro b1
 refine fa rfl (ro (ld r0 rfl rfl ?_))
 refine cs rfl rfl hm ?_ ?_ <;> intro w4 hm
 refine fa rfl (ro (ld r0 rfl rfl (fa rfl (ro (ld r0 rfl rfl ?_)))))
 obtain ⟨h9, hm⟩ := qaw hm
 refine qa5 h9 ?_
 obtain ⟨aU, hm⟩ := qaw hm
 refine qa5 aU ?_
 refine fa rfl (ro (ld r0 rfl rfl ?_))
 obtain ⟨aT, hm⟩ := qaw hm
 refine qa5 aT ?_
 exact eE hm
 refine fa rfl (ro (ld r0 rfl rfl (fa rfl (ro (ld r0 rfl rfl ?_)))))
 obtain ⟨aV, hm⟩ := qaw hm
 refine qa5 aV ?_
 exact eE hm

def JO (aB : (List Str)) : List Str → Nat → (List Str) → Option (Fl (Je × Err) ((List Str)))
  | [], _, ac => some (Fl.go ac)
  | e0 :: aT, i0, ac =>
    if decide (e0 = ([46] : Str)) then
    if decide (e0 = ([46, 46] : Str)) then
    if decide ((ac.length : Int) = 0) then
    some (Fl.ret ((⟨([] : Str), ([] : Str), ([] : Str), false⟩ : Je), (some 27)))
    else
    (chk (InI ((ac.length : Int) - 1))).bind fun _ =>
    (chk (0 ≤ (0 : Int) ∧ (0 : Int) ≤ ((ac.length : Int) - 1) ∧ ((ac.length : Int) - 1) ≤ (ac.length : Int))).bind fun _ =>
    (chk (InI ((aB.length : Int) - 1))).bind fun _ =>
    if decide ((i0 : Int) = ((aB.length : Int) - 1)) then
    (chk ((subL ac (0 : Int) ((ac.length : Int) - 1)).length + ([([] : Str)]).length ≤ lim)).bind fun _ =>
    JO aB aT (i0 + 1) ((subL ac (0 : Int) ((ac.length : Int) - 1)) ++ [([] : Str)])
    else
    JO aB aT (i0 + 1) (subL ac (0 : Int) ((ac.length : Int) - 1))
    else
    (chk (InI ((aB.length : Int) - 1))).bind fun _ =>
    if decide ((i0 : Int) = ((aB.length : Int) - 1)) then
    (chk (ac.length + ([([] : Str)]).length ≤ lim)).bind fun _ =>
    JO aB aT (i0 + 1) (ac ++ [([] : Str)])
    else
    JO aB aT (i0 + 1) ac
    else
    if decide (e0 = ([46, 46] : Str)) then
    if decide (e0 = ([46, 46] : Str)) then
    if decide ((ac.length : Int) = 0) then
    some (Fl.ret ((⟨([] : Str), ([] : Str), ([] : Str), false⟩ : Je), (some 27)))
    else
    (chk (InI ((ac.length : Int) - 1))).bind fun _ =>
    (chk (0 ≤ (0 : Int) ∧ (0 : Int) ≤ ((ac.length : Int) - 1) ∧ ((ac.length : Int) - 1) ≤ (ac.length : Int))).bind fun _ =>
    (chk (InI ((aB.length : Int) - 1))).bind fun _ =>
    if decide ((i0 : Int) = ((aB.length : Int) - 1)) then
    (chk ((subL ac (0 : Int) ((ac.length : Int) - 1)).length + ([([] : Str)]).length ≤ lim)).bind fun _ =>
    JO aB aT (i0 + 1) ((subL ac (0 : Int) ((ac.length : Int) - 1)) ++ [([] : Str)])
    else
    JO aB aT (i0 + 1) (subL ac (0 : Int) ((ac.length : Int) - 1))
    else
    (chk (InI ((aB.length : Int) - 1))).bind fun _ =>
    if decide ((i0 : Int) = ((aB.length : Int) - 1)) then
    (chk (ac.length + ([([] : Str)]).length ≤ lim)).bind fun _ =>
    JO aB aT (i0 + 1) (ac ++ [([] : Str)])
    else
    JO aB aT (i0 + 1) ac
    else
    (chk (ac.length + [e0].length ≤ lim)).bind fun _ =>
    JO aB aT (i0 + 1) (ac ++ [e0])
def JaJ (n : Nat) (host : Str) (target : Str) : Option (Je × Err) :=
  (JcB host).bind fun aW =>
  if aW.2.isSome then
  some ((⟨([] : Str), ([] : Str), ([] : Str), false⟩ : Je), aW.2)
  else
  (qnn target ([63] : Str)).bind fun aV =>
  (if decide (aV.1 = ([] : Str)) then some true else (ix aV.1 0).bind fun a6 =>
  some (decide ((a6.toNat : Int) ≠ 47))).bind fun aZ =>
  if aZ then
  some ((⟨([] : Str), ([] : Str), ([] : Str), false⟩ : Je), (some 27))
  else
  (Jbt n aV.1 ([33, 36, 38, 39, 40, 41, 42, 43, 44, 59, 61, 58, 64, 47] : Str)).bind fun aU =>
  (Jbt n aV.2.1 ([33, 36, 38, 39, 40, 41, 42, 43, 44, 59, 61, 58, 64, 47, 63] : Str)).bind fun aY =>
  if ((!aU.2) || (!aY.2)) then
  some ((⟨([] : Str), ([] : Str), ([] : Str), false⟩ : Je), (some 27))
  else
  (chk (0 ≤ (1 : Int) ∧ (1 : Int) ≤ (aU.1.length : Int) ∧ (aU.1.length : Int) ≤ (aU.1.length : Int))).bind fun _ =>
  (qd9 (subL aU.1 (1 : Int) (aU.1.length : Int)) ([47] : Str)).bind fun aB =>
  (chk (aB.length ≤ qa7)).bind fun _ =>
  (JO aB aB 0 []).bind fun s0 => s0.el some fun t0 =>
  (qi7 t0 ([47] : Str)).bind fun aT =>
  (chk (([47] : Str).length + aT.length ≤ lim)).bind fun _ =>
  (JcE (⟨aW.1, (([47] : Str) ++ aT), aY.1, aV.2.2⟩ : Je)).bind fun aX =>
  if decide ((aX.length : Int) > 1024) then
  some ((⟨([] : Str), ([] : Str), ([] : Str), false⟩ : Je), (some 5))
  else
  some ((⟨aW.1, (([47] : Str) ++ aT), aY.1, aV.2.2⟩ : Je), none)
theorem JcA {n : Nat} {host : Str} {target : Str} {K : Hp} {r : Je × Err}
    (hm : JaJ n host target = some r) (hG : GG K) :
    Fn Tryz.prog 14 [str host, str target] K [] (fun v K' H' => v = .tuple #[.agg #[str r.1.An, str r.1.Ae, str r.1.Af, .bool r.1.HasQuery], qc5 48 r.2] ∧ H' = []) := by
 refine Fn.enter Tryz.func14 Tryz.call14 rfl fun F => ?_
 unfold JaJ at hm
 refine qai rfl fun b4 => ?_
 refine cb hm fun co bK hm => cgx (JdM bK :) ?_
 refine qa9 rfl ?_
 refine cs rfl rfl hm ?_ ?_ <;> intro cd hm
 refine qad rfl rfl ?_
 refine qaa r0 rfl ⟨rfl, rfl, (nl rfl), ?_⟩
 exact ro (qab r0 rfl (nl rfl) (eE hm))
 refine cb hm fun cj bU hm => cg0 (qnm bU (gg0 hG)) ?_
 obtain ⟨bA, aY, hm⟩ := bnd hm
 refine jR (σ := Bool) (rg 33 7) (fun a8 => [(39, .bool a8)]) (fun a8 => a8 = bA) ?_ ?_
 replace aY := bsm aY
 refine qaf rfl ?_
 refine qaq ?_
 obtain ⟨cn, bg, aY⟩ := bnd aY
 refine cS bg (fun aV bg => ?_) fun aV bg => ?_
 refine ct aV (ct aV (ct aV ?_))
 exact eMq aY _ ⟨bq (si bg), trivial⟩
 refine cf aV ?_
 obtain ⟨cu, bT, bR, bg⟩ := ixb bg
 refine qa0 rfl bT bR (cf aV (qa8 (cf aV ?_)))
 exact eMq aY _ ⟨bq (si bg), trivial⟩
 rintro a8 rfl bM
 refine cs rfl rfl hm ?_ ?_ <;> intro ce hm
 refine qad rfl rfl ?_
 refine qat rfl ?_
 refine qaa r0 rfl ⟨rfl, rfl, (nl rfl), ?_⟩
 exact ro (qab r0 rfl (nl rfl) (eE hm))
 refine cb hm fun bZ bL hm => cg0 (Jdc bL :) ?_
 refine cb hm fun bG bJ hm => cg0 (Jdc bJ :) ?_
 refine jR (σ := Unit) (rg 52 6) (fun _ => [(57, .bool ((!bZ.2) || (!bG.2)))]) (fun bY => True) ?_ ?_
 refine qaf rfl ?_
 refine qax ?_
 refine qah ?_ ?_ <;> intro aX
 refine ct aX (ct aX ?_)
 exact eMt () ⟨bq (((qbv (qfp (qlg aX)))).symm), trivial⟩
 refine cf aX (qax (cf aX ?_))
 exact eMt () ⟨bq (qhb (b := (!bG.2)) (qdo (qio aX))), trivial⟩
 rintro _ _ bN
 refine cs rfl rfl hm ?_ ?_ <;> intro cp hm
 refine qad rfl rfl ?_
 refine qat rfl ?_
 refine qaa r0 rfl ⟨rfl, rfl, (nl rfl), ?_⟩
 exact ro (qab r0 rfl (nl rfl) (eE hm))
 obtain ⟨bS, hm⟩ := qaw hm
 refine RStep.ofN (qdx (lo := (some 1)) (hi := none) rfl bS ?_)
 refine cb hm fun aB bX hm => ck0 (qge bX (gg0 hG)) ?_
 rintro _ _ _ ⟨bB, bF, rfl, bl, rfl⟩
 refine ro (qal rfl ?_)
 obtain ⟨a6, hm⟩ := qaw hm
 obtain ⟨s0, aT, hm⟩ := bnd hm
 refine qhp eS 9 1 ?_
 refine lD (σ := ((List Str)) × Option Addr × Nat) ([5,13,15,16] ++ rg 65 34) [1, 2, 3] (fun i0 => [(65, .int .i64 (i0 : Int))]) (fun (t0, aU, aW) => [(13, .slice aU t0.length aW)]) (fun (t0, aU, aW) => [qau eS aU 9 1 aW t0]) (fun (t0, aU, aW) => (0 < t0.length → Has aU) ∧ True) (fun i0 (t0, aU, aW) => JO aB (aB.drop i0) i0 t0 = some s0) (fun (t0, aU, aW) => s0 = Fl.go t0) (fun i0 => aB.length - i0) 0 (_, _, _) aT (And.intro qe (And.intro ?_ ?_))
 clear aT
 rintro i0 ⟨ac, bc, bb⟩ ⟨ba, _⟩ aT j0
 conv at aT => whnf
 refine qac rfl ?_
 refine qah ?_ ?_ <;> intro w0
 obtain ⟨e0, aZ, bP⟩ := ltx w0
 rw [bP, JO.eq_2] at aT
 refine qam rfl ?_
 refine RStep.ofN (qae rfl rfl (qcv bl aZ) (nn _) (qfq rfl aZ) (ro (qb1 (i := i0) (o := 0) r1 rfl aZ rfl rfl ?_)))
 refine qam rfl ?_
 refine qaq (cs rfl rfl aT ?_ ?_) <;> intro bD aT
 refine qac rfl (ct bD (qaq ?_))
 refine cs rfl rfl aT ?_ ?_ <;> intro bH aT
 refine ro (qal rfl (qag ?_))
 refine cs rfl rfl aT ?_ ?_ <;> intro bO aT
 refine qad rfl rfl ?_
 refine qat rfl ?_
 refine qaa r2 rfl ⟨rfl, rfl, (nl rfl), ?_⟩
 exact ro (qab r0 rfl (nl rfl) (eE (er aT hm)))
 refine ro (qal rfl ?_)
 refine ci aT fun aT => ?_
 obtain ⟨bj, aT⟩ := qaw aT
 refine qn2 (l := ac) (hi := (some ((ac.length : Int) - 1))) rfl r0 (by simp) rfl rfl bj ?_
 refine ro (qal rfl ?_)
 obtain ⟨bf, aT⟩ := qaw aT
 refine qan bf (qag ?_)
 refine cs rfl rfl aT ?_ ?_ <;> intro bv aT
 refine bsO (len := 1) (enc := eS) (l := [([] : Str)]) (cl := [str ([] : Str)]) qbp rfl rfl (fun _ _ => rfl) rfl rfl rfl ?_ fun bz => ?_
 · conv => whnf
   refine cT ?_
   first | done | rfl
 obtain ⟨bd, aT⟩ := qaw aT
 refine tkW ((ac.length : Int) - 1) r1 ?_
 refine apE rfl r0 qbp (qay rfl r0 rfl (fun _ => rfl) (fun _ => rfl)) bd ?_
 intro bw br bo
 refine qan (qbu aZ a6) ?_
 exact eR aT (_, _, _, _)
 refine qan (qbu aZ a6) ?_
 refine qt3 ((ac.length : Int) - 1) r0 ?_
 exact rd (i0 + 1, (subL ac (0 : Int) ((ac.length : Int) - 1)), bc, bb) ⟨rfl, rfl, trivial⟩ rfl (pf rfl) lr (ltm aZ) ⟨⟨(fun h => ba (qgv bj h)), trivial⟩, aT⟩
 refine ro (qal rfl ?_)
 obtain ⟨bf, aT⟩ := qaw aT
 refine qan bf (qag ?_)
 refine cs rfl rfl aT ?_ ?_ <;> intro bv aT
 refine bsO (len := 1) (enc := eS) (l := [([] : Str)]) (cl := [str ([] : Str)]) qbp rfl rfl (fun _ _ => rfl) rfl rfl rfl ?_ fun bz => ?_
 · conv => whnf
   refine cT ?_
   first | done | rfl
 obtain ⟨bd, aT⟩ := qaw aT
 refine apE rfl r1 qbp (qay rfl r0 rfl (fun _ => rfl) (fun _ => rfl)) bd ?_
 intro bw br bo
 refine qan (qbu aZ a6) ?_
 exact eR aT (_, _, _, _)
 refine qan (qbu aZ a6) ?_
 exact eR aT (_, _, _, _)
 refine qaq (cs rfl rfl aT ?_ ?_) <;> intro bD aT
 refine qaq (cs rfl rfl aT ?_ ?_) <;> intro bH aT
 refine ro (qal rfl (qag ?_))
 refine cs rfl rfl aT ?_ ?_ <;> intro bO aT
 refine qad rfl rfl ?_
 refine qat rfl ?_
 refine qaa r2 rfl ⟨rfl, rfl, (nl rfl), ?_⟩
 exact ro (qab r0 rfl (nl rfl) (eE (er aT hm)))
 refine ro (qal rfl ?_)
 refine ci aT fun aT => ?_
 obtain ⟨bj, aT⟩ := qaw aT
 refine qn2 (l := ac) (hi := (some ((ac.length : Int) - 1))) rfl r0 (by simp) rfl rfl bj ?_
 refine ro (qal rfl ?_)
 obtain ⟨bf, aT⟩ := qaw aT
 refine qan bf (qag ?_)
 refine cs rfl rfl aT ?_ ?_ <;> intro bv aT
 refine bsO (len := 1) (enc := eS) (l := [([] : Str)]) (cl := [str ([] : Str)]) qbp rfl rfl (fun _ _ => rfl) rfl rfl rfl ?_ fun bz => ?_
 · conv => whnf
   refine cT ?_
   first | done | rfl
 obtain ⟨bd, aT⟩ := qaw aT
 refine tkW ((ac.length : Int) - 1) r1 ?_
 refine apE rfl r0 qbp (qay rfl r0 rfl (fun _ => rfl) (fun _ => rfl)) bd ?_
 intro bw br bo
 refine qan (qbu aZ a6) ?_
 exact eR aT (_, _, _, _)
 refine qan (qbu aZ a6) ?_
 refine qt3 ((ac.length : Int) - 1) r0 ?_
 exact rd (i0 + 1, (subL ac (0 : Int) ((ac.length : Int) - 1)), bc, bb) ⟨rfl, rfl, trivial⟩ rfl (pf rfl) lr (ltm aZ) ⟨⟨(fun h => ba (qgv bj h)), trivial⟩, aT⟩
 refine ro (qal rfl ?_)
 obtain ⟨bf, aT⟩ := qaw aT
 refine qan bf (qag ?_)
 refine cs rfl rfl aT ?_ ?_ <;> intro bv aT
 refine bsO (len := 1) (enc := eS) (l := [([] : Str)]) (cl := [str ([] : Str)]) qbp rfl rfl (fun _ _ => rfl) rfl rfl rfl ?_ fun bz => ?_
 · conv => whnf
   refine cT ?_
   first | done | rfl
 obtain ⟨bd, aT⟩ := qaw aT
 refine apE rfl r1 qbp (qay rfl r0 rfl (fun _ => rfl) (fun _ => rfl)) bd ?_
 intro bw br bo
 refine qan (qbu aZ a6) ?_
 exact eR aT (_, _, _, _)
 refine qan (qbu aZ a6) ?_
 exact eR aT (_, _, _, _)
 refine bsO (len := 1) (enc := eS) (l := [e0]) (cl := [str e0]) qbp rfl rfl (fun _ _ => rfl) rfl rfl rfl ?_ fun cq => ?_
 · conv => whnf
   refine cT ?_
   first | done | rfl
 obtain ⟨bI, aT⟩ := qaw aT
 refine apE rfl r1 qbp (qay rfl r0 rfl (fun _ => rfl) (fun _ => rfl)) bI ?_
 intro cm ca cr
 refine qan (qbu aZ a6) ?_
 exact eR aT (_, _, _, _)
 rw [lty w0, JO.eq_1] at aT
 refine cT ?_
 exact eM aT (_, _, _)
 rintro ⟨t0, aU, aW⟩ ⟨bC, _⟩ rfl j0
 replace hm := elg hm
 refine cb hm fun bQ bn hm => ck0 (Fn.lend Tryz.call48 (fun bp bu bh => (qnk bn bh rfl)) (by exact fun _ _ _ _ h => h)) ?_
 rintro _ _ _ ⟨_, rfl, rfl, rfl⟩
 obtain ⟨bt, hm⟩ := qaw hm
 refine qa5 bt ?_
 refine qad rfl rfl (cT (cT (cT (cT ?_))))
 refine qai rfl fun cw => ?_
 refine qaa r0 rfl ⟨rfl, rfl, (nl rfl), ?_⟩
 refine ro (qab r0 rfl (nl rfl) ?_)
 refine cb hm fun bW bm hm => cg0 (JdN bm :) ?_
 refine ro (qa3 rfl ?_)
 refine cs rfl rfl hm ?_ ?_ <;> intro bV hm
 refine qad rfl rfl ?_
 refine qat rfl ?_
 refine qaa r3 rfl ⟨rfl, rfl, (nl rfl), ?_⟩
 exact ro (qab r0 rfl (nl rfl) (eE hm))
 refine ro (qab r0 rfl (nl rfl) ?_)
 refine qaa r3 rfl ⟨rfl, rfl, (nl rfl), ?_⟩
 exact ro (qab r0 rfl (nl rfl) (eE hm))

def JaZ (s : Str) : Option (Bool) :=
  (Jcl s).bind fun x7 =>
  some x7.2.isNone
theorem Jck {s : Str} {K : Hp} {r : Bool}
    (hm : JaZ s = some r)  :
    Fn Tryz.prog 213 [str s] K [] (fun v K' H' => v = .bool r ∧ H' = []) := by
 refine Fn.enter Tryz.func213 Tryz.call213 rfl fun F => ?_
 unfold JaZ at hm
 refine cb hm fun x7 q7 hm => cg0 (JdG q7 :) ?_
 refine qbn rfl ?_
 exact eE hm

def Jan (s : Str) (prefixZ : Str) : Option (Str × Bool) :=
  (JV s prefixZ).bind fun x8 =>
  if (!x8) then
  some (s, false)
  else
  (chk (0 ≤ (prefixZ.length : Int) ∧ (prefixZ.length : Int) ≤ (s.length : Int) ∧ (s.length : Int) ≤ (s.length : Int))).bind fun _ =>
  some ((subL s (prefixZ.length : Int) (s.length : Int)), true)
theorem JcL {s : Str} {prefixZ : Str} {K : Hp} {r : Str × Bool}
    (hm : Jan s prefixZ = some r)  :
    Fn Tryz.prog 255 [str s, str prefixZ] K [] (fun v K' H' => v = .tuple #[str r.1, .bool r.2] ∧ H' = []) := by
 refine Fn.enter Tryz.func255 Tryz.call255 rfl fun F => ?_
 unfold Jan at hm
 refine cb hm fun x8 q8 hm => cg0 (Jby q8 :) ?_
 refine qax ?_
 refine cs rfl rfl hm ?_ ?_ <;> intro w9 hm
 exact eE hm
 refine ro (qa3 rfl ?_)
 obtain ⟨aT, hm⟩ := qaw hm
 refine RStep.ofN (qdx (lo := (some (prefixZ.length : Int))) (hi := none) rfl aT ?_)
 exact eE hm

def JaP (s : Str) (prefixZ : Str) : Option (Str × Bool) :=
  (Jan s prefixZ).bind fun x8 =>
  some (x8.1, x8.2)
theorem Jdd {s : Str} {prefixZ : Str} {K : Hp} {r : Str × Bool}
    (hm : JaP s prefixZ = some r)  :
    Fn Tryz.prog 239 [str s, str prefixZ] K [] (fun v K' H' => v = .tuple #[str r.1, .bool r.2] ∧ H' = []) := by
 refine Fn.enter Tryz.func239 Tryz.call239 rfl fun F => ?_
 unfold JaP at hm
 refine cb hm fun x8 q8 hm => cg0 (JcL q8 :) ?_
 exact eE hm

def Jc5 (s : Str) : Option (Int × Bool) :=
  if decide (s = ([112, 97, 116, 104] : Str)) then
  some (1, true)
  else
  if decide (s = ([113, 117, 101, 114, 121] : Str)) then
  some (1, true)
  else
  if decide (s = ([116, 97, 103] : Str)) then
  some (1, true)
  else
  if decide (s = ([116, 116, 108] : Str)) then
  some (1, true)
  else
  if decide (s = ([100, 101, 110, 121] : Str)) then
  some (1, true)
  else
  if decide (s = ([112, 97, 115, 115] : Str)) then
  some (0, true)
  else
  if decide (s = ([116, 111, 107, 101, 110] : Str)) then
  some (0, true)
  else
  (JaP s ([104, 101, 97, 100, 101, 114, 58] : Str)).bind fun aT =>
  if aT.2 then
  (JaZ aT.1).bind fun aV =>
  some (1, aV)
  else
  (JaP s ([118, 97, 114, 121, 58] : Str)).bind fun aU =>
  (if aU.2 then (JaZ aU.1).bind fun aW =>
  some aW else some false).bind fun aX =>
  some (0, aX)
theorem Jeo {s : Str} {K : Hp} {r : Int × Bool}
    (hm : Jc5 s = some r)  :
    Fn Tryz.prog 214 [str s] K [] (fun v K' H' => v = .tuple #[.int .i64 r.1, .bool r.2] ∧ H' = []) := by
 refine Fn.enter Tryz.func214 Tryz.call214 rfl fun F => ?_
 unfold Jc5 at hm
 refine qam rfl ?_
 refine qaq (cs rfl rfl hm ?_ ?_) <;> intro w9 hm
 refine qac rfl (ct w9 ?_)
 exact eE hm
 refine qaq (cs rfl rfl hm ?_ ?_) <;> intro w9 hm
 refine qac rfl (ct w9 ?_)
 exact eE hm
 refine qaq (cs rfl rfl hm ?_ ?_) <;> intro w9 hm
 refine qac rfl (ct w9 ?_)
 exact eE hm
 refine qaq (cs rfl rfl hm ?_ ?_) <;> intro w9 hm
 refine qac rfl (ct w9 ?_)
 exact eE hm
 refine qaq (cs rfl rfl hm ?_ ?_) <;> intro w9 hm
 exact eE hm
 refine qaq (cs rfl rfl hm ?_ ?_) <;> intro aV hm
 refine qac rfl (ct aV ?_)
 exact eE hm
 refine qaq (cs rfl rfl hm ?_ ?_) <;> intro aV hm
 exact eE hm
 refine cb hm fun a6 aW hm => cg0 (Jdd aW :) ?_
 refine cs rfl rfl hm ?_ ?_ <;> intro a8 hm
 refine cb hm fun ba aX hm => cg0 (Jck aX :) ?_
 exact eE hm
 refine cb hm fun bd aY hm => cg0 (Jdd aY :) ?_
 refine qaf rfl ?_
 obtain ⟨bc, aU, hm⟩ := bnd hm
 refine cS aU (fun aT aU => ?_) fun aT aU => ?_
 refine ct aT ?_
 refine cb aU fun bb aZ aU => cg0 (Jck aZ :) ?_
 refine ct aT ?_
 cases hm
 exact en lr ⟨(by rw [← (si aU)] <;> rfl), rfl⟩ (pf rfl)
 refine cf aT (cf aT ?_)
 cases hm
 exact en lr ⟨(by rw [← ((si aU).symm).symm] <;> rfl), rfl⟩ (pf rfl)

def Jae (x : Jg) : Option (Int × Int × Bool) :=
  if decide (x.Op = 1) then
  some (0, 1, ((decide (x.S = ([] : Str)) && decide (x.N ≥ 0)) && decide (x.N ≤ 999999999)))
  else
  if decide (x.Op = 2) then
  (if decide (x.N = 0) then (JaZ x.S).bind fun aV =>
  some aV else some false).bind fun aW =>
  some (0, 1, aW)
  else
  if decide (x.Op = 3) then
  some (0, 1, ((decide (x.S = ([] : Str)) && decide (x.N ≥ 0)) && decide (x.N ≤ 511)))
  else
  if decide (x.Op = 4) then
  some (1, 0, ((decide (x.S = ([] : Str)) && decide (x.N ≥ 0)) && decide (x.N ≤ 511)))
  else
  if decide (x.Op = 5) then
  (if decide (x.N = 0) then (JD JaR x.S).bind fun aZ =>
  some aZ else some false).bind fun aB =>
  some (0, 1, aB)
  else
  if decide (x.Op = 6) then
  (if decide (x.N = 0) then (JD Jbo x.S).bind fun a6 =>
  some a6 else some false).bind fun aY =>
  some (1, 1, aY)
  else
  if decide (x.Op = 7) then
  (if decide (x.N = 0) then (JD Jbp x.S).bind fun aX =>
  some aX else some false).bind fun aU =>
  some (2, 1, aU)
  else
  if decide (x.Op = 8) then
  some (1, 1, (decide (x.N = 0) && decide (x.S = ([] : Str))))
  else
  if decide (x.Op = 9) then
  some (0, 0, decide (x.S = ([] : Str)))
  else
  if decide (x.Op = 10) then
  some (1, 0, decide (x.S = ([] : Str)))
  else
  if decide (x.Op = 11) then
  (Jc5 x.S).bind fun aT =>
  some (aT.1, 0, (decide (x.N = 0) && aT.2))
  else
  if decide (x.Op = 12) then
  some (0, 0, (decide (x.N = 0) && decide (x.S = ([] : Str))))
  else
  some (0, 0, false)
theorem Jec {x : Jg} {K : Hp} {r : Int × Int × Bool}
    (hm : Jae x = some r) (hG : GG K) :
    Fn Tryz.prog 153 [.agg #[.int .i64 x.Op, .int .i64 x.N, str x.S]] K [] (fun v K' H' => v = .tuple #[.int .i64 r.1, .int .i64 r.2.1, .bool r.2.2] ∧ H' = []) := by
 obtain ⟨bW, bZ, bH, gn_, bh, bz⟩ := gg1 hG
 subst gn_
 obtain ⟨ce, bQ, bP, gn_, bn, bY⟩ := gg2 hG
 subst gn_
 obtain ⟨cd, bO, bA, gn_, bt, bU⟩ := gg3 hG
 subst gn_
 refine Fn.enter Tryz.func153 Tryz.call153 rfl fun F => ?_
 unfold Jae at hm
 refine qas ?_
 intro b1
 refine fa rfl (ro (ld r0 rfl rfl (qag (fa rfl (ro (ld r0 rfl rfl (qaq ?_)))))))
 refine jR (σ := Unit) ([7] ++ rg 14 11) (fun _ => [(7, .bool ((decide (x.S = ([] : Str)) && decide (x.N ≥ 0)) && decide (x.N ≤ 511)))]) (fun bo => True) ?_ ?_
 refine qaf rfl ?_
 refine qah ?_ ?_ <;> intro aX
 refine fa rfl (ct aX (ro (ld r0 rfl rfl (ct aX (ct aX ?_)))))
 refine qah ?_ ?_ <;> intro aY
 refine fa rfl (ct aY (ro (ld r0 rfl rfl (ct aY (ct aY ?_)))))
 exact eMt () ⟨bq (qcz (b := decide (x.N ≤ 511)) (qcx aX aY)), trivial⟩
 refine cf aY (cf aY (cf aY ?_))
 exact eMt () ⟨bq (((qbe (qcy aX aY))).symm), trivial⟩
 refine cf aX (cf aX (cf aX (cF (cF (cF (cF ?_))))))
 exact eMt () ⟨bq (((qbe (qbe aX))).symm), trivial⟩
 rintro _ _ bw
 refine fa rfl (ro (ld r0 rfl rfl ?_))
 refine qam rfl ?_
 refine qag (cs rfl rfl hm ?_ ?_) <;> intro bG hm
 refine qa4 ⟨⟨[], false⟩, _, [(_, _)], []⟩ (by kernel_rfl) ⟨Hp.Le.refl _, (pf rfl), ci0⟩ ?_
 refine qah ?_ ?_ <;> intro aW
 refine fa rfl (ct aW (qap m0 rfl rfl (ct aW (ct aW ?_))))
 refine qah ?_ ?_ <;> intro aZ
 refine fa rfl (ct aZ (qap m0 rfl rfl (ct aZ (ct aZ ?_))))
 cases hm
 exact en lr ⟨(by rw [← (qcz (b := decide (x.N ≤ 999999999)) (qcx aW aZ))] <;> rfl), rfl⟩ (sc [1] rfl)
 refine cf aZ (cf aZ (cf aZ ?_))
 cases hm
 exact en lr ⟨(by rw [← ((qbe (qcy aW aZ))).symm] <;> rfl), rfl⟩ (sc [1] rfl)
 refine cf aW (cf aW (cf aW (cF (cF (cF (cF ?_))))))
 cases hm
 exact en lr ⟨(by rw [← ((qbe (qbe aW))).symm] <;> rfl), rfl⟩ (sc [1] rfl)
 refine qag (cs rfl rfl hm ?_ ?_) <;> intro bM hm
 refine qaf rfl ?_
 obtain ⟨bK, bd, hm⟩ := bnd hm
 refine cS bd (fun ba bd => ?_) fun ba bd => ?_
 refine fa rfl (ct ba (ro (ld r0 rfl rfl (ct ba ?_))))
 refine cb bd fun bF bl bd => cg0 (Jck bl :) ?_
 refine ct ba ?_
 cases hm
 exact en lr ⟨(by rw [← (si bd)] <;> rfl), rfl⟩ (sc [1] rfl)
 refine cf ba (cf ba (cf ba ?_))
 cases hm
 exact en lr ⟨(by rw [← ((si bd).symm).symm] <;> rfl), rfl⟩ (sc [1] rfl)
 refine qag (cs rfl rfl hm ?_ ?_) <;> intro bC hm
 exact eE hm
 refine qag (cs rfl rfl hm ?_ ?_) <;> intro cj hm
 exact eE hm
 refine qag (cs rfl rfl hm ?_ ?_) <;> intro bR hm
 refine qaf rfl ?_
 obtain ⟨aB, bg, hm⟩ := bnd hm
 refine cS bg (fun aU bg => ?_) fun aU bg => ?_
 refine ro (qkz bh rfl (ct aU (fa rfl (ct aU (ro (ld r0 rfl rfl (ct aU ?_)))))))
 refine cb bg fun bN bu bg => cgx (JT bu :) ?_
 refine ct aU ?_
 cases hm
 exact en lr ⟨(by rw [← (si bg)] <;> rfl), rfl⟩ (sc [1] rfl)
 refine cf aU (cf aU (cf aU (cf aU ?_)))
 cases hm
 exact en lr ⟨(by rw [← ((si bg).symm).symm] <;> rfl), rfl⟩ (sc [1] rfl)
 refine qag (cs rfl rfl hm ?_ ?_) <;> intro ca hm
 refine qaf rfl ?_
 obtain ⟨bI, bf, hm⟩ := bnd hm
 refine cS bf (fun aT bf => ?_) fun aT bf => ?_
 refine ro (qkz bn rfl (ct aT (fa rfl (ct aT (ro (ld r0 rfl rfl (ct aT ?_)))))))
 refine cb bf fun bJ bm bf => cgx (JT bm :) ?_
 refine ct aT ?_
 cases hm
 exact en lr ⟨(by rw [← (si bf)] <;> rfl), rfl⟩ (sc [1] rfl)
 refine cf aT (cf aT (cf aT (cf aT ?_)))
 cases hm
 exact en lr ⟨(by rw [← ((si bf).symm).symm] <;> rfl), rfl⟩ (sc [1] rfl)
 refine qag (cs rfl rfl hm ?_ ?_) <;> intro bS hm
 refine qaf rfl ?_
 obtain ⟨bX, bc, hm⟩ := bnd hm
 refine cS bc (fun aV bc => ?_) fun aV bc => ?_
 refine ro (qkz bt rfl (ct aV (fa rfl (ct aV (ro (ld r0 rfl rfl (ct aV ?_)))))))
 refine cb bc fun bL bv bc => cgx (JT bv :) ?_
 refine ct aV ?_
 cases hm
 exact en lr ⟨(by rw [← (si bc)] <;> rfl), rfl⟩ (sc [1] rfl)
 refine cf aV (cf aV (cf aV (cf aV ?_)))
 cases hm
 exact en lr ⟨(by rw [← ((si bc).symm).symm] <;> rfl), rfl⟩ (sc [1] rfl)
 refine qag (cs rfl rfl hm ?_ ?_) <;> intro bB hm
 refine qaf rfl ?_
 refine qah ?_ ?_ <;> intro bb
 refine ct bb ?_
 cases hm
 exact en lr ⟨(by rw [← (qcz (b := decide (x.S = ([] : Str))) bb)] <;> rfl), rfl⟩ (sc [1] rfl)
 refine cf bb ?_
 cases hm
 exact en lr ⟨(by rw [← ((qbe bb)).symm] <;> rfl), rfl⟩ (sc [1] rfl)
 refine qag (cs rfl rfl hm ?_ ?_) <;> intro bT hm
 exact eE hm
 refine qag (cs rfl rfl hm ?_ ?_) <;> intro bD hm
 exact eE hm
 refine qag (cs rfl rfl hm ?_ ?_) <;> intro bV hm
 refine fa rfl (ro (ld r0 rfl rfl ?_))
 refine cb hm fun bj bp hm => cg0 (Jeo bp :) ?_
 refine qaf rfl ?_
 refine qah ?_ ?_ <;> intro a6
 refine ct a6 ?_
 cases hm
 exact en lr ⟨(by rw [← (qcz (b := bj.2) a6)] <;> rfl), rfl⟩ (sc [1] rfl)
 refine cf a6 ?_
 cases hm
 exact en lr ⟨(by rw [← ((qbe a6)).symm] <;> rfl), rfl⟩ (sc [1] rfl)
 refine qag (cs rfl rfl hm ?_ ?_) <;> intro br hm
 refine qaf rfl ?_
 refine qah ?_ ?_ <;> intro a8
 refine ct a8 ?_
 cases hm
 exact en lr ⟨(by rw [← (qcz (b := decide (x.S = ([] : Str))) a8)] <;> rfl), rfl⟩ (sc [1] rfl)
 refine cf a8 ?_
 cases hm
 exact en lr ⟨(by rw [← ((qbe a8)).symm] <;> rfl), rfl⟩ (sc [1] rfl)
 exact eE hm

def JcM (s : Jo) (slot : Int) : Option (Bool) :=
  (chk ((64 : Int) ≠ 0 ∧ InI (Int.tdiv slot 64))).bind fun _ =>
  (chk (0 ≤ (Int.tdiv slot 64) ∧ (Int.tdiv slot 64) < 8)).bind fun _ =>
  (chk (0 ≤ (Int.tmod slot 64))).bind fun _ =>
  some (decide ((u64and (qpb (List.getD [s.At.f0, s.At.f1, s.At.f2, s.At.f3, s.At.f4, s.At.f5, s.At.f6, s.At.f7] (Int.toNat (Int.tdiv slot 64)) 0) (Int.tmod slot 64)) 1) = 1))
theorem JdO {s : Jo} {slot : Int} {K : Hp} {r : Bool}
    (hm : JcM s slot = some r)  :
    Fn Tryz.prog 154 [.agg #[.bool s.Au, .int .i64 s.depth, .int .u64 s.At.f0, .int .u64 s.At.f1, .int .u64 s.At.f2, .int .u64 s.At.f3, .int .u64 s.At.f4, .int .u64 s.At.f5, .int .u64 s.At.f6, .int .u64 s.At.f7], .int .i64 slot] K [] (fun v K' H' => v = .bool r ∧ H' = []) := by
 refine Fn.enter Tryz.func154 Tryz.call154 rfl fun F => ?_
 unfold JcM at hm
 refine qas ?_
 intro b2
 obtain ⟨h6, hm⟩ := qaw hm
 refine qi2 h6.1 h6.2 (fa rfl ?_)
 obtain ⟨h8, hm⟩ := qaw hm
 refine RStep.ofN (qby (sz := 1) rfl rfl h8.1 h8.2 (ro (qpd (L := [s.At.f0, s.At.f1, s.At.f2, s.At.f3, s.At.f4, s.At.f5, s.At.f6, s.At.f7]) (pre := [.bool s.Au, .int .i64 s.depth]) (post := []) r0 rfl (by simp) rfl h8.1 h8.2 (qha (by decide) ?_))))
 obtain ⟨aT, hm⟩ := qaw hm
 refine qqg aT ?_
 refine qj8 ?_
 refine qag ?_
 exact eE hm

def Ja5 (t : Jo) : Nat → Nat → Int → Int → Int → Int → Int → Int → Int → Int → Option (Int × Int × Int × Int × Int × Int × Int × Int)
  | 0, _, ac, aX, aW, aY, aU, a6, aV, aZ => some (ac, aX, aW, aY, aU, a6, aV, aZ)
  | a8 + 1, i0, ac, aX, aW, aY, aU, a6, aV, aZ =>
    (chk (0 ≤ (i0 : Int) ∧ (i0 : Int) < 8)).bind fun _ =>
    (chk (0 ≤ (i0 : Int) ∧ (i0 : Int) < 8)).bind fun _ =>
    (chk (0 ≤ (i0 : Int) ∧ (i0 : Int) < 8)).bind fun _ =>
    (some (List.set [ac, aX, aW, aY, aU, a6, aV, aZ] (Int.toNat (i0 : Int)) (u64and (List.getD [ac, aX, aW, aY, aU, a6, aV, aZ] (Int.toNat (i0 : Int)) 0) (List.getD [t.At.f0, t.At.f1, t.At.f2, t.At.f3, t.At.f4, t.At.f5, t.At.f6, t.At.f7] (Int.toNat (i0 : Int)) 0)))).bind fun aT =>
    Ja5 t a8 (i0 + 1) (List.getD aT 0 0) (List.getD aT 1 0) (List.getD aT 2 0) (List.getD aT 3 0) (List.getD aT 4 0) (List.getD aT 5 0) (List.getD aT 6 0) (List.getD aT 7 0)
def Jdk (s : Jo) (t : Jo) : Option (Bool × Jo) :=
  if (!s.Au) then
  some (true, t)
  else
  (chk (InI (8 : Int))).bind fun _ =>
  (Ja5 t (8 : Int).toNat 0 s.At.f0 s.At.f1 s.At.f2 s.At.f3 s.At.f4 s.At.f5 s.At.f6 s.At.f7).bind fun t0 =>
  some (decide (s.depth = t.depth), (⟨s.Au, s.depth, (⟨t0.1, t0.2.1, t0.2.2.1, t0.2.2.2.1, t0.2.2.2.2.1, t0.2.2.2.2.2.1, t0.2.2.2.2.2.2.1, t0.2.2.2.2.2.2.2⟩ : JaS)⟩ : Jo))
theorem JeB {s : Jo} {t : Jo} {b0 : Nat} {K : Hp} {r : Bool × Jo}
    (hm : Jdk s t = some r)  :
    Fn Tryz.prog 155 [.pointer (some ⟨b0, 0, none⟩), .agg #[.bool t.Au, .int .i64 t.depth, .int .u64 t.At.f0, .int .u64 t.At.f1, .int .u64 t.At.f2, .int .u64 t.At.f3, .int .u64 t.At.f4, .int .u64 t.At.f5, .int .u64 t.At.f6, .int .u64 t.At.f7]] K [Cells b0 228 [.bool s.Au, .int .i64 s.depth, .int .u64 s.At.f0, .int .u64 s.At.f1, .int .u64 s.At.f2, .int .u64 s.At.f3, .int .u64 s.At.f4, .int .u64 s.At.f5, .int .u64 s.At.f6, .int .u64 s.At.f7]] (fun v K' H' => v = .bool r.1 ∧ H' = [Cells b0 228 [.bool r.2.Au, .int .i64 r.2.depth, .int .u64 r.2.At.f0, .int .u64 r.2.At.f1, .int .u64 r.2.At.f2, .int .u64 r.2.At.f3, .int .u64 r.2.At.f4, .int .u64 r.2.At.f5, .int .u64 r.2.At.f6, .int .u64 r.2.At.f7]]) := by
 refine Fn.enter Tryz.func155 Tryz.call155 rfl fun F => ?_
 unfold Jdk at hm
 refine qas ?_
 intro b3
 refine qaj (fa rfl (ro (ld r1 rfl rfl (qax ?_))))
 refine cs rfl rfl hm ?_ ?_ <;> intro bh hm
 refine ro (qab r0 rfl (nl rfl) (qaj ?_))
 refine qaa r1 rfl ⟨rfl, rfl, (nl rfl), ?_⟩
 exact eE hm
 obtain ⟨bg, hm⟩ := qaw hm
 obtain ⟨s0, aU, hm⟩ := bnd hm
 refine lD (σ := (Int × Int × Int × Int × Int × Int × Int × Int)) ([5] ++ rg 14 18) [0, 2] (fun i0 => [(14, .int .i64 (i0 : Int))]) (fun _ => []) (fun t0 => [Cells b0 228 [.bool s.Au, .int .i64 s.depth, .int .u64 t0.1, .int .u64 t0.2.1, .int .u64 t0.2.2.1, .int .u64 t0.2.2.2.1, .int .u64 t0.2.2.2.2.1, .int .u64 t0.2.2.2.2.2.1, .int .u64 t0.2.2.2.2.2.2.1, .int .u64 t0.2.2.2.2.2.2.2]]) (fun _ => True) (fun i0 t0 => Ja5 t ((8 : Int).toNat - i0) i0 t0.1 t0.2.1 t0.2.2.1 t0.2.2.2.1 t0.2.2.2.2.1 t0.2.2.2.2.2.1 t0.2.2.2.2.2.2.1 t0.2.2.2.2.2.2.2 = some s0) (fun t0 => t0 = s0) (fun i0 => (8 : Int).toNat - i0) 0 (_, _, _, _, _, _, _, _) aU (And.intro qe (And.intro ?_ ?_))
 clear aU
 rintro i0 ⟨ac, aZ, bb, a6, aX, ba, aY, a8⟩ _ aU j0
 dsimp only at aU ⊢
 refine qac rfl ?_
 refine qah ?_ ?_ <;> intro w0
 rw [ltn (n := (8 : Int)) w0, Ja5.eq_2] at aU
 refine qam rfl ?_
 refine qa2 ⟨⟨[], false⟩, _, [(_, _), (_, _)], []⟩ 13 rfl (by kernel_rfl) ⟨Hp.Le.refl _, (pf rfl), ci0⟩ ?_
 refine qaj (fa rfl ?_)
 obtain ⟨bc, aU⟩ := qaw aU
 refine qby (sz := 1) rfl rfl bc.1 bc.2 ?_
 refine qgc (L := [ac, aZ, bb, a6, aX, ba, aY, a8]) (pre := [.bool s.Au, .int .i64 s.depth]) (post := []) m0 rfl (by simp) rfl bc.1 bc.2 ?_
 refine fa rfl ?_
 obtain ⟨bd, aU⟩ := qaw aU
 refine qby (sz := 1) rfl rfl bd.1 bd.2 ?_
 refine qgc (L := [t.At.f0, t.At.f1, t.At.f2, t.At.f3, t.At.f4, t.At.f5, t.At.f6, t.At.f7]) (pre := [.bool t.Au, .int .i64 t.depth]) (post := []) m1 rfl (by simp) rfl bd.1 bd.2 ?_
 refine qj8 ?_
 refine qaj (fa rfl ?_)
 obtain ⟨bf, aU⟩ := qaw aU
 refine qby (sz := 1) rfl rfl bf.1 bf.2 ?_
 obtain ⟨aT, aV, aU⟩ := bnd aU
 replace aV := Option.some.inj aV
 have aW : aT.length = 8 := by rw [← aV]; simp
 refine qmk (L := [ac, aZ, bb, a6, aX, ba, aY, a8]) (pre := [.bool s.Au, .int .i64 s.depth]) (post := []) (cs' := [.bool s.Au, .int .i64 s.depth, .int .u64 (List.getD aT 0 0), .int .u64 (List.getD aT 1 0), .int .u64 (List.getD aT 2 0), .int .u64 (List.getD aT 3 0), .int .u64 (List.getD aT 4 0), .int .u64 (List.getD aT 5 0), .int .u64 (List.getD aT 6 0), .int .u64 (List.getD aT 7 0)]) r0 rfl (by simp) rfl bf.1 bf.2 aV (by rw [qsn aW]; rfl) ?_
 refine ⟨⟨Hp.emp_le _, (pf rfl), ci0⟩, ?_⟩
 refine qan (qjm w0 bg) ?_
 exact eR aU (_, (_, _, _, _, _, _, _, _))
 rw [lto (n := (8 : Int)) w0, Ja5.eq_1] at aU
 refine cT ?_
 exact eM aU _
 rintro t0 _ rfl j0
 refine qa4 ⟨⟨[], false⟩, _, [(_, _), (_, _)], []⟩ (by kernel_rfl) ⟨Hp.Le.refl _, (pf rfl), ci0⟩ ?_
 refine qaj (fa rfl (qap m0 rfl rfl (fa rfl (qap m1 rfl rfl (qag ?_)))))
 exact eE hm

def JaH (s_i : Nat) (t : Jo) : Nat → Nat → (List Jo) → Option ((List Jo))
  | 0, _, ac => some ac
  | aV + 1, i0, ac =>
    (chk (0 ≤ (i0 : Int) ∧ (i0 : Int) < 8)).bind fun _ =>
    (ac[s_i]?).bind fun aT =>
    (chk (0 ≤ (i0 : Int) ∧ (i0 : Int) < 8)).bind fun _ =>
    (chk (0 ≤ (i0 : Int) ∧ (i0 : Int) < 8)).bind fun _ =>
    (some (List.set [aT.At.f0, aT.At.f1, aT.At.f2, aT.At.f3, aT.At.f4, aT.At.f5, aT.At.f6, aT.At.f7] (Int.toNat (i0 : Int)) (u64and (List.getD [aT.At.f0, aT.At.f1, aT.At.f2, aT.At.f3, aT.At.f4, aT.At.f5, aT.At.f6, aT.At.f7] (Int.toNat (i0 : Int)) 0) (List.getD [t.At.f0, t.At.f1, t.At.f2, t.At.f3, t.At.f4, t.At.f5, t.At.f6, t.At.f7] (Int.toNat (i0 : Int)) 0)))).bind fun aU =>
    JaH s_i t aV (i0 + 1) (ac.set s_i (⟨aT.Au, aT.depth, (⟨(List.getD aU 0 0), (List.getD aU 1 0), (List.getD aU 2 0), (List.getD aU 3 0), (List.getD aU 4 0), (List.getD aU 5 0), (List.getD aU 6 0), (List.getD aU 7 0)⟩ : JaS)⟩ : Jo))
def Jbw (s : (List Jo)) (s_i : Nat) (t : Jo) : Option (Bool × (List Jo)) :=
  (s[s_i]?).bind fun aU =>
  if (!aU.Au) then
  some (true, (s.set s_i t))
  else
  (chk (InI (8 : Int))).bind fun _ =>
  (JaH s_i t (8 : Int).toNat 0 s).bind fun t0 =>
  (t0[s_i]?).bind fun aT =>
  some (decide (aT.depth = t.depth), t0)
theorem Jbe {s : (List Jo)} {s_i : Nat} {t : Jo} {aP : Option Addr} {aS : Nat} {K : Hp} {r : Bool × (List Jo)}
    (hm : Jbw s s_i t = some r) (aM : 0 < s.length → Has aP) :
    Fn Tryz.prog 155 [(qiy aP (s_i * 10)), .agg #[.bool t.Au, .int .i64 t.depth, .int .u64 t.At.f0, .int .u64 t.At.f1, .int .u64 t.At.f2, .int .u64 t.At.f3, .int .u64 t.At.f4, .int .u64 t.At.f5, .int .u64 t.At.f6, .int .u64 t.At.f7]] K [qau Jo.enc aP 228 10 aS s] (fun v K' H' => v = .bool r.1 ∧ (0 < r.2.length → Has aP) ∧ s.length = r.2.length ∧ H' = [qau Jo.enc aP 228 10 aS r.2]) := by
 refine Fn.enter Tryz.func155 Tryz.call155 rfl fun F => ?_
 unfold Jbw at hm
 obtain ⟨bg, aW, hm⟩ := bnd hm
 refine qas ?_
 intro b3
 refine qdp (qcv aM aW) (qbd rfl (qcv aM aW) (ro (qb1 (i := s_i) (o := 0) r1 rfl aW rfl rfl (qax ?_))))
 refine cs rfl rfl hm ?_ ?_ <;> intro bm hm
 refine ro (qab r0 rfl (nl rfl) (qdp (qcv aM aW) ?_))
 refine qe7 (o := 0) (y := t) bg r1 rfl aW rfl (by (conv => whnf); exact ⟨rfl, rfl, (nl rfl), rfl, rfl, rfl⟩) ?_
 cases hm
 exact en lr ⟨rfl, (by first | simpa using aM | exact fun _ => ⟨_, _, rfl⟩), ((rfl).trans List.length_set.symm), rfl⟩ (sc [0,1] rfl)
 obtain ⟨bh, hm⟩ := qaw hm
 obtain ⟨s0, aU, hm⟩ := bnd hm
 refine lD (σ := ((List Jo))) ([5] ++ rg 14 18) [0, 2] (fun i0 => [(14, .int .i64 (i0 : Int))]) (fun _ => []) (fun t0 => [qau Jo.enc aP 228 10 aS t0]) (fun t0 => (0 < t0.length → Has aP) ∧ s.length = t0.length) (fun i0 t0 => JaH s_i t ((8 : Int).toNat - i0) i0 t0 = some s0) (fun t0 => t0 = s0) (fun i0 => (8 : Int).toNat - i0) 0 _ aU (And.intro qe (And.intro ?_ ?_))
 clear aU
 rintro i0 ac ⟨aY, a6⟩ aU j0
 conv at aU => whnf
 refine qac rfl ?_
 refine qah ?_ ?_ <;> intro w0
 rw [ltn (n := (8 : Int)) w0, JaH.eq_2] at aU
 refine qam rfl ?_
 refine qa4 ⟨⟨[], true⟩, _, [], []⟩ (by kernel_rfl) ⟨Hp.Le.refl _, (pf rfl), ci0⟩ ?_
 refine qdp (qcv aM aW) (qbd rfl (qcv aM aW) ?_)
 obtain ⟨a8, aU⟩ := qaw aU
 refine qi8 (sz := 1) rfl rfl (qcv aM aW) a8.1 a8.2 ?_
 obtain ⟨aT, bd, aU⟩ := bnd aU
 refine qb1 (i := s_i) (o := 2 + (Int.toNat (i0 : Int))) r0 rfl bd (qj9 (L := [aT.At.f0, aT.At.f1, aT.At.f2, aT.At.f3, aT.At.f4, aT.At.f5, aT.At.f6, aT.At.f7]) (pre := [.bool aT.Au, .int .i64 aT.depth]) (post := []) rfl a8.1 a8.2) (by omega) ?_
 refine fa rfl ?_
 obtain ⟨ba, aU⟩ := qaw aU
 refine qby (sz := 1) rfl rfl ba.1 ba.2 ?_
 refine qpd (L := [t.At.f0, t.At.f1, t.At.f2, t.At.f3, t.At.f4, t.At.f5, t.At.f6, t.At.f7]) (pre := [.bool t.Au, .int .i64 t.depth]) (post := []) r1 rfl (by simp) rfl ba.1 ba.2 ?_
 refine qj8 ?_
 refine qdp (qcv aM aW) (qbd rfl (qcv aM aW) ?_)
 obtain ⟨bb, aU⟩ := qaw aU
 refine qi8 (sz := 1) rfl rfl (qcv aM aW) bb.1 bb.2 ?_
 obtain ⟨aV, aX, aU⟩ := bnd aU
 replace aX := Option.some.inj aX
 have aZ : aV.length = 8 := by rw [← aX]; simp
 refine qe7 (n := 1) (o := 2 + (Int.toNat (i0 : Int))) (y := (⟨aT.Au, aT.depth, (⟨(List.getD aV 0 0), (List.getD aV 1 0), (List.getD aV 2 0), (List.getD aV 3 0), (List.getD aV 4 0), (List.getD aV 5 0), (List.getD aV 6 0), (List.getD aV 7 0)⟩ : JaS)⟩ : Jo)) aT r0 rfl bd (by omega) (by rw [qbx]; exact ⟨rfl, rfl, by omega, (qhv (L := [aT.At.f0, aT.At.f1, aT.At.f2, aT.At.f3, aT.At.f4, aT.At.f5, aT.At.f6, aT.At.f7]) (pre := [.bool aT.Au, .int .i64 aT.depth]) (post := []) bb.1 bb.2).trans (by rw [aX, qsn aZ]; rfl), rfl, rfl⟩) ?_
 refine qk (pf rfl) ?_
 refine qan (qjm w0 bh) ?_
 exact rd (i0 + 1, (ac.set s_i (⟨aT.Au, aT.depth, (⟨(List.getD aV 0 0), (List.getD aV 1 0), (List.getD aV 2 0), (List.getD aV 3 0), (List.getD aV 4 0), (List.getD aV 5 0), (List.getD aV 6 0), (List.getD aV 7 0)⟩ : JaS)⟩ : Jo))) ⟨rfl, trivial⟩ rfl (pf rfl) lr (qq1 w0) ⟨⟨(by first | simpa using aY | exact fun _ => ⟨_, _, rfl⟩), ((a6).trans List.length_set.symm)⟩, aU⟩
 rw [lto (n := (8 : Int)) w0, JaH.eq_1] at aU
 refine cT ?_
 exact eM aU _
 rintro t0 ⟨bc, bf⟩ rfl j0
 refine qa4 ⟨⟨[], true⟩, _, [], []⟩ (by kernel_rfl) ⟨Hp.Le.refl _, (pf rfl), ci0⟩ ?_
 refine qdp (qcv aM aW) (qbd rfl (qcv aM aW) ?_)
 obtain ⟨bl, bj, hm⟩ := bnd hm
 refine qb1 (i := s_i) (o := 1) r0 rfl bj rfl rfl ?_
 refine fa rfl ?_
 refine ld r1 rfl rfl ?_
 refine qag ?_
 exact eE hm
