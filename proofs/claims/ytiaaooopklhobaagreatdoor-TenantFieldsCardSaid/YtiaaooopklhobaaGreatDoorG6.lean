/- Functions of the program: mirrors, and that a call returns what the mirror says. Printed by gen.py. -/
import Derived.Test.YtiaaooopklhobaaGreatDoorG5
set_option linter.unusedVariables false
set_option linter.unusedSimpArgs false
open Go Go.SL Go.Proofs
noncomputable section
set_option maxRecDepth 1000000
set_option maxHeartbeats 8000000
def Jco (r' : Jp) (s : Str) (x : Ji) : Option (Err × Jp) :=
  (((if (decide (s = ([112, 97, 115, 115] : Str)) || decide (s = ([116, 111, 107, 101, 110] : Str))) then some true else (Jak s ([118, 97, 114, 121, 58] : Str)).bind fun aY =>
  some aY).bind fun aV =>
  if aV then
  some 0
  else
  if (decide (s = ([116, 116, 108] : Str)) || decide (s = ([100, 101, 110, 121] : Str))) then
  some 2
  else
  some 1 : Option (Int))).bind fun aU =>
  if decide (x.kind ≠ aU) then
  some ((some 9), r')
  else
  if decide (s = ([112, 97, 116, 104] : Str)) then
  some (none, (⟨x.s, r'.Af, r'.Ag, r'.Vary, r'.Ah, r'.TTL, r'.Ai, r'.Aj, r'.Ak, r'.Al⟩ : Jp))
  else
  if decide (s = ([113, 117, 101, 114, 121] : Str)) then
  some (none, (⟨r'.Ae, x.s, r'.Ag, r'.Vary, r'.Ah, r'.TTL, r'.Ai, r'.Aj, r'.Ak, r'.Al⟩ : Jp))
  else
  if decide (s = ([116, 97, 103] : Str)) then
  (JE r'.Ah x.s).bind fun aX =>
  if (!aX) then
  (chk (r'.Ah.length + [x.s].length ≤ lim)).bind fun _ =>
  some (none, (⟨r'.Ae, r'.Af, r'.Ag, r'.Vary, (r'.Ah ++ [x.s]), r'.TTL, r'.Ai, r'.Aj, r'.Ak, r'.Al⟩ : Jp))
  else
  some (none, r')
  else
  if decide (s = ([116, 116, 108] : Str)) then
  some (none, (⟨r'.Ae, r'.Af, r'.Ag, r'.Vary, r'.Ah, (max 0 x.n), r'.Ai, r'.Aj, r'.Ak, r'.Al⟩ : Jp))
  else
  if decide (s = ([100, 101, 110, 121] : Str)) then
  if (decide (x.n < 400) || decide (x.n > 499)) then
  some (none, (⟨r'.Ae, r'.Af, r'.Ag, r'.Vary, r'.Ah, r'.TTL, 403, r'.Aj, r'.Ak, r'.Al⟩ : Jp))
  else
  some (none, (⟨r'.Ae, r'.Af, r'.Ag, r'.Vary, r'.Ah, r'.TTL, x.n, r'.Aj, r'.Ak, r'.Al⟩ : Jp))
  else
  if decide (s = ([112, 97, 115, 115] : Str)) then
  some (none, (⟨r'.Ae, r'.Af, r'.Ag, r'.Vary, r'.Ah, r'.TTL, r'.Ai, r'.Aj, true, r'.Al⟩ : Jp))
  else
  if decide (s = ([116, 111, 107, 101, 110] : Str)) then
  some (none, (⟨r'.Ae, r'.Af, r'.Ag, r'.Vary, r'.Ah, r'.TTL, r'.Ai, r'.Aj, r'.Ak, true⟩ : Jp))
  else
  (Jb9 r' s x).bind fun aW =>
  some (aW.1, aW.2)
theorem JdN {r' : Jp} {s : Str} {x : Ji} {b0 : Nat} {aa : Option Addr} {ab : Nat} {ai : Option Addr} {ak : Nat} {am : Option Addr} {av : Nat} {aS : TypeId} {aL aR : List Value} {K : Hp} {r : Err × Jp}
    (hm : Jco r' s x = some r) (hX : (0 < r'.Ag.length → Has aa) ∧ (0 < r'.Vary.length → Has ai) ∧ (0 < r'.Ah.length → Has am) ∧ GG K) :
    Fn Tryz.prog 115 [.pointer (some ⟨b0, aL.length + 0, none⟩), str s, .agg #[.int .i64 x.kind, .int .i64 x.n, str x.s, .bool x.As]] K [qfh b0 aS aL aR [str r'.Ae, str r'.Af, .slice aa r'.Ag.length ab, .slice ai r'.Vary.length ak, .slice am r'.Ah.length av, .int .i64 r'.TTL, .int .i64 r'.Ai, .int .i64 r'.Aj, .bool r'.Ak, .bool r'.Al], qat Jc.enc aa 41 2 ab r'.Ag, qat eS ai 9 1 ak r'.Vary, qat eS am 9 1 av r'.Ah] (fun v K' H' => ∃ ar_0 : Option Addr, ∃ cr_0 : Nat, ∃ ar_1 : Option Addr, ∃ cr_1 : Nat, ∃ ar_2 : Option Addr, ∃ cr_2 : Nat, v = qcp 48 r.1 ∧ (0 < r.2.Ag.length → Has ar_0) ∧ (0 < r.2.Vary.length → Has ar_1) ∧ (0 < r.2.Ah.length → Has ar_2) ∧ H' = [qfh b0 aS aL aR [str r.2.Ae, str r.2.Af, .slice ar_0 r.2.Ag.length cr_0, .slice ar_1 r.2.Vary.length cr_1, .slice ar_2 r.2.Ah.length cr_2, .int .i64 r.2.TTL, .int .i64 r.2.Ai, .int .i64 r.2.Aj, .bool r.2.Ak, .bool r.2.Al], qat Jc.enc ar_0 41 2 cr_0 r.2.Ag, qat eS ar_1 9 1 cr_1 r.2.Vary, qat eS ar_2 9 1 cr_2 r.2.Ah]) := by
 obtain ⟨ae, bu, bl, hG⟩ := hX
 refine Fn.enter Tryz.func115 Tryz.call115 rfl fun F => ?_
 unfold Jco at hm
 refine qar ?_
 intro b5
 obtain ⟨bc, aU, hm⟩ := bnd hm
 refine jD (σ := (Int)) (rg 7 19) [0, 1, 2, 3, 4, 5] (fun a8 => [(7, .int .i64 a8)]) (fun a8 => []) (fun a8 => a8 = bc) (And.intro ?_ ?_)
 refine qal rfl ?_
 obtain ⟨bd, aW, aU⟩ := bnd aU
 refine jR (σ := Bool) (rg 8 11) (fun ba => [(8, .bool ba)]) (fun ba => ba = bd) ?_ ?_
 replace aW := bsm aW
 refine qaj rfl ?_
 refine qaq ?_
 refine qae ?_ ?_ <;> intro aX
 refine ct aX (ct aX ?_)
 obtain ⟨bG, a6, aW⟩ := bnd aW
 replace a6 := ift (qcn aX) a6
 refine cT (cT (cT ?_))
 exact eMq aW _ ⟨bq (si a6), trivial⟩
 refine cf aX (qaq (cf aX ?_))
 obtain ⟨bG, a6, aW⟩ := bnd aW
 refine qae ?_ ?_ <;> intro aZ
 replace a6 := ift (qg1 aX aZ) a6
 refine ct aZ (ct aZ ?_)
 exact eMq aW _ ⟨bq (si a6), trivial⟩
 replace a6 := qa9 (qew aX aZ) a6
 refine cf aZ ?_
 refine cb a6 fun bW bD a6 => cg0 (JaG bD :) ?_
 refine cf aZ ?_
 exact eMq aW _ ⟨bq (si a6), trivial⟩
 rintro ba rfl bF
 refine cs rfl rfl aU ?_ ?_ <;> intro w8 aU
 exact eM aU _
 refine qaj rfl ?_
 refine qaq ?_
 refine qae ?_ ?_ <;> intro aY
 refine ct aY (ct aY (qac rfl (cT ?_)))
 replace aU := ift (qcn aY) aU
 exact eM aU _
 refine cf aY (qaq (cf aY (qac rfl ?_)))
 refine qae ?_ ?_ <;> intro bt
 replace aU := ift (qg1 aY bt) aU
 exact eM aU _
 replace aU := qa9 (qew aY bt) aU
 exact eM aU _
 rintro a8 rfl bI
 refine fa rfl (ro (ld r0 rfl rfl (qa8 ?_)))
 refine cs rfl rfl hm ?_ ?_ <;> intro bO hm
 refine qas rfl ?_
 exact eE hm
 refine qal rfl ?_
 refine qaq (cs rfl rfl hm ?_ ?_) <;> intro bT hm
 refine fa rfl (ro (ld r0 rfl rfl (qah ?_)))
 refine qc3 (j' := 0) rfl rfl ?_
 refine qd4 r1 rfl ?_
 refine ⟨rfl, rfl, (nl rfl), ?_⟩
 exact eE hm
 refine qaq (cs rfl rfl hm ?_ ?_) <;> intro bL hm
 refine fa rfl (ro (ld r0 rfl rfl (qah ?_)))
 refine qc3 (j' := 1) rfl rfl ?_
 refine qd4 r1 rfl ?_
 refine ⟨rfl, rfl, (nl rfl), ?_⟩
 exact eE hm
 refine qaq (cs rfl rfl hm ?_ ?_) <;> intro bM hm
 refine qa6 ⟨⟨[], false⟩, _, [(_, _), (_, _)], []⟩ (by kernel_rfl) ⟨Hp.Le.refl _, (sc [1,0] rfl), ci0⟩ ?_
 refine qah ?_
 refine qc3 (j' := 4) rfl rfl ?_
 refine qao m0 rfl (qi4 rfl) (fa rfl (qao m1 rfl rfl ?_))
 refine cb hm fun bJ bC hm => ck0 (Fn.lend Tryz.call53 (fun bv bf bb => (JP (v' := x.s) bC ⟨bb, rfl⟩)) (by exact fun _ _ _ _ h => h)) ?_
 rintro _ _ _ ⟨_, rfl, rfl, rfl⟩
 refine qk (sc [2,1] rfl) ?_
 refine qau ?_
 refine cs rfl rfl hm ?_ ?_ <;> intro bV hm
 refine qa2 ⟨⟨[], false⟩, _, [(_, _), (_, _)], []⟩ 9 rfl (by kernel_rfl) ⟨Hp.Le.refl _, (sc [2,1] rfl), ci0⟩ ?_
 refine qah ?_
 refine qc3 (j' := 4) rfl rfl ?_
 refine qao m0 rfl (qi4 rfl) (fa rfl (qao m1 rfl rfl ?_))
 refine bsO (len := 1) (enc := eS) (l := [x.s]) (cl := [str x.s]) qbw rfl rfl (fun _ _ => rfl) rfl rfl rfl ?_ fun bU => ?_
 · conv => whnf
   refine cT ?_
   first | done | rfl
 refine qk (sc [3,2] rfl) ?_
 obtain ⟨bH, hm⟩ := qaw hm
 refine apE rfl r1 qbw (qay rfl r0 rfl (fun _ => rfl) (fun _ => rfl)) bH ?_
 intro bX bQ bP
 refine qk (sc [3,2] rfl) ?_
 refine qah ?_
 refine qc3 (j' := 4) rfl rfl ?_
 refine qd4 r3 rfl ?_
 refine ⟨rfl, rfl, (nl rfl), ?_⟩
 refine ⟨⟨Hp.emp_le _, (pf rfl), ci0⟩, ?_⟩
 exact eE hm
 exact eE hm
 refine qaq (cs rfl rfl hm ?_ ?_) <;> intro bR hm
 refine fa rfl (ro (ld r0 rfl rfl (ro (qch (qah ?_)))))
 refine qc3 (j' := 5) rfl rfl ?_
 refine qd4 r1 rfl ?_
 refine ⟨rfl, rfl, (nl rfl), ?_⟩
 exact eE hm
 refine qaq (cs rfl rfl hm ?_ ?_) <;> intro bK hm
 refine fa rfl (ro (ld r0 rfl rfl (qah ?_)))
 refine qc3 (j' := 6) rfl rfl ?_
 refine qd4 r1 rfl ?_
 refine ⟨rfl, rfl, (nl rfl), ?_⟩
 refine qaj rfl ?_
 refine fa rfl (ro (ld r1 rfl rfl ?_))
 refine qae ?_ ?_ <;> intro aV
 refine ct aV (ct aV (ct aV (qac rfl (cT ?_))))
 replace hm := ift (qcn aV) hm
 refine qah ?_
 refine qc3 (j' := 6) rfl rfl ?_
 refine qd4 r0 rfl ?_
 refine ⟨rfl, rfl, (nl rfl), ?_⟩
 exact eE hm
 refine fa rfl (cf aV (ro (ld r1 rfl rfl (cf aV (cf aV (qac rfl ?_))))))
 refine qae ?_ ?_ <;> intro bp
 replace hm := ift (qg1 aV bp) hm
 refine qah ?_
 refine qc3 (j' := 6) rfl rfl ?_
 refine qd4 r0 rfl ?_
 refine ⟨rfl, rfl, (nl rfl), ?_⟩
 exact eE hm
 replace hm := qa9 (qew aV bp) hm
 exact eE hm
 refine qaq (cs rfl rfl hm ?_ ?_) <;> intro bN hm
 refine qah ?_
 refine qc3 (j' := 8) rfl rfl ?_
 refine qd4 r1 rfl ?_
 refine ⟨rfl, rfl, (nl rfl), ?_⟩
 exact eE hm
 refine qaq (cs rfl rfl hm ?_ ?_) <;> intro bA hm
 refine qah ?_
 refine qc3 (j' := 9) rfl rfl ?_
 refine qd4 r1 rfl ?_
 refine ⟨rfl, rfl, (nl rfl), ?_⟩
 exact eE hm
 refine ro (qab r0 rfl (nl rfl) ?_)
 refine cb hm fun bS bB hm => ckx (JdB bB :) ?_
 rintro _ _ _ ⟨bn, bh, bz, bj, bm, bg, rfl, bo, bw, br, rfl⟩
 exact eE hm

def Jcp (m : Jh) (atZ : Int) (x : Jf) : Option (Int × Err × Jh) :=
  (chk (InI (m.result.Aj + 1))).bind fun _ =>
  if decide ((m.result.Aj + 1) > m.most) then
  some (0, (some 13), (⟨m.Aq, m.most, (⟨m.result.Ae, m.result.Af, m.result.Ag, m.result.Vary, m.result.Ah, m.result.TTL, m.result.Ai, (m.result.Aj + 1), m.result.Ak, m.result.Al⟩ : Jp), m.stack, m.Ap⟩ : Jh))
  else
  (chk (InI (atZ + 1))).bind fun _ =>
  if decide (x.Op = 1) then
  (JbY x.N).bind fun bu =>
  (Jac (⟨m.Aq, m.most, (⟨m.result.Ae, m.result.Af, m.result.Ag, m.result.Vary, m.result.Ah, m.result.TTL, m.result.Ai, (m.result.Aj + 1), m.result.Ak, m.result.Al⟩ : Jp), m.stack, m.Ap⟩ : Jh) bu false).bind fun az =>
  some ((atZ + 1), az.1, (⟨m.Aq, az.2.most, az.2.result, az.2.stack, az.2.Ap⟩ : Jh))
  else
  if decide (x.Op = 2) then
  (JaD x.S).bind fun br =>
  (Jac (⟨m.Aq, m.most, (⟨m.result.Ae, m.result.Af, m.result.Ag, m.result.Vary, m.result.Ah, m.result.TTL, m.result.Ai, (m.result.Aj + 1), m.result.Ak, m.result.Al⟩ : Jp), m.stack, m.Ap⟩ : Jh) br false).bind fun bh =>
  some ((atZ + 1), bh.1, (⟨m.Aq, bh.2.most, bh.2.result, bh.2.stack, bh.2.Ap⟩ : Jh))
  else
  if decide (x.Op = 3) then
  (ix m.Ap x.N).bind fun bp =>
  (Jac (⟨m.Aq, m.most, (⟨m.result.Ae, m.result.Af, m.result.Ag, m.result.Vary, m.result.Ah, m.result.TTL, m.result.Ai, (m.result.Aj + 1), m.result.Ak, m.result.Al⟩ : Jp), m.stack, m.Ap⟩ : Jh) bp false).bind fun bg =>
  some ((atZ + 1), bg.1, (⟨m.Aq, bg.2.most, bg.2.result, bg.2.stack, bg.2.Ap⟩ : Jh))
  else
  if decide (x.Op = 5) then
  (JcD x.S m.Aq).bind fun bt =>
  (Jac (⟨m.Aq, m.most, (⟨m.result.Ae, m.result.Af, m.result.Ag, m.result.Vary, m.result.Ah, m.result.TTL, m.result.Ai, (m.result.Aj + 1), m.result.Ak, m.result.Al⟩ : Jp), m.stack, m.Ap⟩ : Jh) bt false).bind fun bj =>
  some ((atZ + 1), bj.1, (⟨m.Aq, bj.2.most, bj.2.result, bj.2.stack, bj.2.Ap⟩ : Jh))
  else
  if decide (x.Op = 4) then
  (Jag (⟨m.Aq, m.most, (⟨m.result.Ae, m.result.Af, m.result.Ag, m.result.Vary, m.result.Ah, m.result.TTL, m.result.Ai, (m.result.Aj + 1), m.result.Ak, m.result.Al⟩ : Jp), m.stack, m.Ap⟩ : Jh)).bind fun bd =>
  (ix bd.2.Ap x.N).bind fun bv =>
  some ((atZ + 1), none, (⟨m.Aq, bd.2.most, bd.2.result, bd.2.stack, (bd.2.Ap.set ((x.N).toNat) bd.1)⟩ : Jh))
  else
  if decide (x.Op = 6) then
  (Jag (⟨m.Aq, m.most, (⟨m.result.Ae, m.result.Af, m.result.Ag, m.result.Vary, m.result.Ah, m.result.TTL, m.result.Ai, (m.result.Aj + 1), m.result.Ak, m.result.Al⟩ : Jp), m.stack, m.Ap⟩ : Jh)).bind fun bc =>
  (Jd7 x.S bc.1 m.Aq).bind fun bl =>
  if (!bl.2) then
  some (0, (some 9), (⟨m.Aq, bc.2.most, bc.2.result, bc.2.stack, bc.2.Ap⟩ : Jh))
  else
  (Jac (⟨m.Aq, bc.2.most, bc.2.result, bc.2.stack, bc.2.Ap⟩ : Jh) bl.1 true).bind fun a8 =>
  some ((atZ + 1), a8.1, (⟨m.Aq, a8.2.most, a8.2.result, a8.2.stack, a8.2.Ap⟩ : Jh))
  else
  if decide (x.Op = 7) then
  (Jag (⟨m.Aq, m.most, (⟨m.result.Ae, m.result.Af, m.result.Ag, m.result.Vary, m.result.Ah, m.result.TTL, m.result.Ai, (m.result.Aj + 1), m.result.Ak, m.result.Al⟩ : Jp), m.stack, m.Ap⟩ : Jh)).bind fun ba =>
  (Jag (⟨m.Aq, ba.2.most, ba.2.result, ba.2.stack, ba.2.Ap⟩ : Jh)).bind fun aX =>
  (Jdv x.S aX.1 ba.1).bind fun bf =>
  if (!bf.2) then
  some (0, (some 9), (⟨m.Aq, aX.2.most, aX.2.result, aX.2.stack, aX.2.Ap⟩ : Jh))
  else
  (Jac (⟨m.Aq, aX.2.most, aX.2.result, aX.2.stack, aX.2.Ap⟩ : Jh) bf.1 true).bind fun aZ =>
  some ((atZ + 1), aZ.1, (⟨m.Aq, aZ.2.most, aZ.2.result, aZ.2.stack, aZ.2.Ap⟩ : Jh))
  else
  if decide (x.Op = 8) then
  (Jag (⟨m.Aq, m.most, (⟨m.result.Ae, m.result.Af, m.result.Ag, m.result.Vary, m.result.Ah, m.result.TTL, m.result.Ai, (m.result.Aj + 1), m.result.Ak, m.result.Al⟩ : Jp), m.stack, m.Ap⟩ : Jh)).bind fun aW =>
  if decide (aW.1.kind ≠ 3) then
  some (0, (some 9), (⟨m.Aq, aW.2.most, aW.2.result, aW.2.stack, aW.2.Ap⟩ : Jh))
  else
  (JaV (!aW.1.As)).bind fun bm =>
  (Jac (⟨m.Aq, aW.2.most, aW.2.result, aW.2.stack, aW.2.Ap⟩ : Jh) bm false).bind fun a6 =>
  some ((atZ + 1), a6.1, (⟨m.Aq, a6.2.most, a6.2.result, a6.2.stack, a6.2.Ap⟩ : Jh))
  else
  if decide (x.Op = 9) then
  some (x.N, none, (⟨m.Aq, m.most, (⟨m.result.Ae, m.result.Af, m.result.Ag, m.result.Vary, m.result.Ah, m.result.TTL, m.result.Ai, (m.result.Aj + 1), m.result.Ak, m.result.Al⟩ : Jp), m.stack, m.Ap⟩ : Jh))
  else
  if decide (x.Op = 10) then
  (Jag (⟨m.Aq, m.most, (⟨m.result.Ae, m.result.Af, m.result.Ag, m.result.Vary, m.result.Ah, m.result.TTL, m.result.Ai, (m.result.Aj + 1), m.result.Ak, m.result.Al⟩ : Jp), m.stack, m.Ap⟩ : Jh)).bind fun aV =>
  if decide (aV.1.kind ≠ 3) then
  some (0, (some 9), (⟨m.Aq, aV.2.most, aV.2.result, aV.2.stack, aV.2.Ap⟩ : Jh))
  else
  if (!aV.1.As) then
  some (x.N, none, (⟨m.Aq, aV.2.most, aV.2.result, aV.2.stack, aV.2.Ap⟩ : Jh))
  else
  some ((atZ + 1), none, (⟨m.Aq, aV.2.most, aV.2.result, aV.2.stack, aV.2.Ap⟩ : Jh))
  else
  if decide (x.Op = 11) then
  (if (decide (x.S ≠ ([112, 97, 115, 115] : Str)) && decide (x.S ≠ ([116, 111, 107, 101, 110] : Str))) then (Jak x.S ([118, 97, 114, 121, 58] : Str)).bind fun bn =>
  some (!bn) else some false).bind fun bo =>
  ((if bo then
  (Jag (⟨m.Aq, m.most, (⟨m.result.Ae, m.result.Af, m.result.Ag, m.result.Vary, m.result.Ah, m.result.TTL, m.result.Ai, (m.result.Aj + 1), m.result.Ak, m.result.Al⟩ : Jp), m.stack, m.Ap⟩ : Jh)).bind fun aY =>
  some (aY.1.kind, aY.1.n, aY.1.s, aY.1.As, (⟨m.Aq, aY.2.most, aY.2.result, aY.2.stack, aY.2.Ap⟩ : Jh))
  else
  some (0, 0, ([] : Str), false, (⟨m.Aq, m.most, (⟨m.result.Ae, m.result.Af, m.result.Ag, m.result.Vary, m.result.Ah, m.result.TTL, m.result.Ai, (m.result.Aj + 1), m.result.Ak, m.result.Al⟩ : Jp), m.stack, m.Ap⟩ : Jh)) : Option (Int × Int × Str × Bool × Jh))).bind fun aU =>
  (Jco aU.2.2.2.2.result x.S (⟨aU.1, aU.2.1, aU.2.2.1, aU.2.2.2.1⟩ : Ji)).bind fun bb =>
  if bb.1.isSome then
  some (0, bb.1, (⟨m.Aq, aU.2.2.2.2.most, bb.2, aU.2.2.2.2.stack, aU.2.2.2.2.Ap⟩ : Jh))
  else
  if decide (x.S = ([100, 101, 110, 121] : Str)) then
  some ((-1), none, (⟨m.Aq, aU.2.2.2.2.most, bb.2, aU.2.2.2.2.stack, aU.2.2.2.2.Ap⟩ : Jh))
  else
  some ((atZ + 1), none, (⟨m.Aq, aU.2.2.2.2.most, bb.2, aU.2.2.2.2.stack, aU.2.2.2.2.Ap⟩ : Jh))
  else
  if decide (x.Op = 12) then
  some ((-1), none, (⟨m.Aq, m.most, (⟨m.result.Ae, m.result.Af, m.result.Ag, m.result.Vary, m.result.Ah, m.result.TTL, m.result.Ai, (m.result.Aj + 1), m.result.Ak, m.result.Al⟩ : Jp), m.stack, m.Ap⟩ : Jh))
  else
  some ((atZ + 1), none, (⟨m.Aq, m.most, (⟨m.result.Ae, m.result.Af, m.result.Ag, m.result.Vary, m.result.Ah, m.result.TTL, m.result.Ai, (m.result.Aj + 1), m.result.Ak, m.result.Al⟩ : Jp), m.stack, m.Ap⟩ : Jh))
theorem JdO {m : Jh} {atZ : Int} {x : Jf} {b0 : Nat} {aa : Option Addr} {ab : Nat} {ai : Option Addr} {ak : Nat} {am : Option Addr} {av : Nat} {ax : Option Addr} {aA : Nat} {ay : Option Addr} {aB : Nat} {K : Hp} {r : Int × Err × Jh}
    (hm : Jcp m atZ x = some r) (hX : RdC Jc.enc K aa ab 2 m.Aq.Ao ∧ (0 < m.result.Ag.length → Has ai) ∧ (0 < m.result.Vary.length → Has am) ∧ (0 < m.result.Ah.length → Has ax) ∧ (0 < m.stack.length → Has ay) ∧ m.Ap.length = 512 ∧ GG K) :
    Fn Tryz.prog 69 [.pointer (some ⟨b0, 0, none⟩), .int .i64 atZ, .agg #[.int .i64 x.Op, .int .i64 x.N, str x.S]] K [Cells b0 131 ((str m.Aq.Am) :: (str m.Aq.An) :: (str m.Aq.Ae) :: (str m.Aq.Af) :: (.slice aa m.Aq.Ao.length ab) :: (.int .i64 m.most) :: (str m.result.Ae) :: (str m.result.Af) :: (.slice ai m.result.Ag.length ak) :: (.slice am m.result.Vary.length av) :: (.slice ax m.result.Ah.length aA) :: (.int .i64 m.result.TTL) :: (.int .i64 m.result.Ai) :: (.int .i64 m.result.Aj) :: (.bool m.result.Ak) :: (.bool m.result.Al) :: (.slice ay m.stack.length aB) :: (m.Ap.map Ji.enc).flatten), qat Jc.enc ai 41 2 ak m.result.Ag, qat eS am 9 1 av m.result.Vary, qat eS ax 9 1 aA m.result.Ah, qat Ji.enc ay 128 4 aB m.stack] (fun v K' H' => ∃ ar_0 : Option Addr, ∃ cr_0 : Nat, ∃ ar_1 : Option Addr, ∃ cr_1 : Nat, ∃ ar_2 : Option Addr, ∃ cr_2 : Nat, ∃ ar_3 : Option Addr, ∃ cr_3 : Nat, v = .tuple #[.int .i64 r.1, qcp 48 r.2.1] ∧ (0 < r.2.2.result.Ag.length → Has ar_0) ∧ (0 < r.2.2.result.Vary.length → Has ar_1) ∧ (0 < r.2.2.result.Ah.length → Has ar_2) ∧ (0 < r.2.2.stack.length → Has ar_3) ∧ r.2.2.Ap.length = 512 ∧ H' = [Cells b0 131 ((str m.Aq.Am) :: (str m.Aq.An) :: (str m.Aq.Ae) :: (str m.Aq.Af) :: (.slice aa m.Aq.Ao.length ab) :: (.int .i64 r.2.2.most) :: (str r.2.2.result.Ae) :: (str r.2.2.result.Af) :: (.slice ar_0 r.2.2.result.Ag.length cr_0) :: (.slice ar_1 r.2.2.result.Vary.length cr_1) :: (.slice ar_2 r.2.2.result.Ah.length cr_2) :: (.int .i64 r.2.2.result.TTL) :: (.int .i64 r.2.2.result.Ai) :: (.int .i64 r.2.2.result.Aj) :: (.bool r.2.2.result.Ak) :: (.bool r.2.2.result.Al) :: (.slice ar_3 r.2.2.stack.length cr_3) :: (r.2.2.Ap.map Ji.enc).flatten), qat Jc.enc ar_0 41 2 cr_0 r.2.2.result.Ag, qat eS ar_1 9 1 cr_1 r.2.2.result.Vary, qat eS ar_2 9 1 cr_2 r.2.2.result.Ah, qat Ji.enc ar_3 128 4 cr_3 r.2.2.stack]) := by
 obtain ⟨ae, fy, fk, gb, e8, bI, hG⟩ := hX
 refine Fn.enter Tryz.func69 Tryz.call69 rfl fun F => ?_
 unfold Jcp at hm
 refine qar ?_
 intro b5
 refine qah (fa rfl (fa rfl (ro (ld r1 rfl rfl ?_))))
 obtain ⟨gK, hm⟩ := qaw hm
 refine qam gK (qah (fa rfl (fa rfl ?_)))
 refine qmp (cs' := (str m.Aq.Am) :: (str m.Aq.An) :: (str m.Aq.Ae) :: (str m.Aq.Af) :: (.slice aa m.Aq.Ao.length ab) :: (.int .i64 m.most) :: (str m.result.Ae) :: (str m.result.Af) :: (.slice ai m.result.Ag.length ak) :: (.slice am m.result.Vary.length av) :: (.slice ax m.result.Ah.length aA) :: (.int .i64 m.result.TTL) :: (.int .i64 m.result.Ai) :: (.int .i64 (m.result.Aj + 1)) :: (.bool m.result.Ak) :: (.bool m.result.Al) :: (.slice ay m.stack.length aB) :: (m.Ap.map Ji.enc).flatten) r1 rfl rfl (by exact rfl) (by exact nl rfl) (by exact rfl) ?_
 refine qa6 ⟨⟨[], false⟩, _, [(_, _)], []⟩ (by kernel_rfl) ⟨Hp.Le.refl _, (pf rfl), ci0⟩ ?_
 refine qah (fa rfl (fa rfl (qao m0 rfl rfl (qah (fa rfl (qao m0 rfl rfl ?_))))))
 refine cs rfl rfl hm ?_ ?_ <;> intro io hm
 refine qas rfl ?_
 exact eE hm
 obtain ⟨gC, hm⟩ := qaw hm
 refine qam gC (fa rfl (ro (ld r1 rfl rfl ?_)))
 refine qal rfl ?_
 refine qag (cs rfl rfl hm ?_ ?_) <;> intro iE hm
 refine fa rfl (ro (ld r1 rfl rfl ?_))
 refine cb hm fun iq gB hm => cg0 (Jbq gB :) ?_
 refine cb hm fun az gZ hm => ckx (Jae gZ :) ?_
 rintro _ _ _ ⟨fX, fJ, e7, fv, fB, fE, gt, fq, rfl, fp, eT, fu, gq, fo, rfl⟩
 exact eE hm
 refine qag (cs rfl rfl hm ?_ ?_) <;> intro iu hm
 refine fa rfl (ro (ld r1 rfl rfl ?_))
 refine cb hm fun iz gJ hm => cg0 (Jaj gJ :) ?_
 refine cb hm fun ik gz hm => ckx (Jae gz :) ?_
 rintro _ _ _ ⟨gp, fO, gm, gr, gn, fV, fm, gj, rfl, fh, ge, gf, e6, fT, rfl⟩
 exact eE hm
 refine qag (cs rfl rfl hm ?_ ?_) <;> intro il hm
 refine qa6 ⟨⟨[], true⟩, _, [], []⟩ (by kernel_rfl) ⟨Hp.Le.refl _, (pf rfl), ci0⟩ ?_
 refine fa rfl ?_
 refine ld r1 rfl rfl ?_
 refine qah (fa rfl ?_)
 obtain ⟨ip, eW, fI, hm⟩ := ixb hm
 refine qbu (sz := 4) rfl rfl eW (qq7 bI eW fI) ?_
 refine qsb (enc := Ji.enc) (sz := 4) r0 rfl (by exact rfl) fI (by exact rfl) ?_
 refine cb hm fun iC gR hm => ckx (Jae gR :) ?_
 rintro _ _ _ ⟨f8, fM, fc, fS, ff, fZ, gd, gl, rfl, fN, fR, fC, fw, eX, rfl⟩
 refine qk (pf rfl) ?_
 exact eE hm
 refine qag (cs rfl rfl hm ?_ ?_) <;> intro ij hm
 refine qa6 ⟨⟨[], false⟩, _, [(_, _)], [(b0, [str m.Aq.Am, str m.Aq.An, str m.Aq.Ae, str m.Aq.Af, .slice aa m.Aq.Ao.length ab])]⟩ (by kernel_rfl) ⟨Hp.Le.refl _, (sc [1] rfl), (ci1 r0 (by exact rfl))⟩ ?_
 refine fa rfl (qao m0 rfl rfl (qah (fa rfl ?_)))
 refine qmr m0 rfl (nl rfl) ?_
 refine cb hm fun ir g9 hm => cgx (JdV g9 :) ?_
 refine ⟨⟨lr, (sc [1] rfl), (ci1 r0 (by exact rfl))⟩, ?_⟩
 refine cb hm fun ii hS hm => ckx (Jae hS :) ?_
 rintro _ _ _ ⟨gi, eQ, eV, fP, gc, eY, fQ, fK, rfl, ga, fA, gh, fj, fe, rfl⟩
 refine ⟨⟨lr, (sc [5] rfl), (ci1 r0 (by exact rfl))⟩, ?_⟩
 exact eE hm
 refine qag (cs rfl rfl hm ?_ ?_) <;> intro ie hm
 refine qa6 ⟨⟨[], false⟩, _, [(_, _)], []⟩ (by kernel_rfl) ⟨Hp.Le.refl _, (sc [1] rfl), ci0⟩ ?_
 refine fa rfl (qao m0 rfl rfl ?_)
 refine cb hm fun bh gU hm => ckx (Jah gU :) ?_
 rintro _ _ _ ⟨bp, bl, bt, bn, bv, bu, br, bm, rfl, bF, bD, bG, bH, bo, rfl⟩
 refine qk (sc [5] rfl) ?_
 refine qah (fa rfl ?_)
 obtain ⟨im, fb, gg, hm⟩ := ixb hm
 refine qbu (sz := 4) rfl rfl fb (qq7 bo fb gg) ?_
 refine qsc (sz := 4) (enc := Ji.enc) (y := bh.1) (cs' := (str m.Aq.Am) :: (str m.Aq.An) :: (str m.Aq.Ae) :: (str m.Aq.Af) :: (.slice aa m.Aq.Ao.length ab) :: (.int .i64 bh.2.most) :: (str bh.2.result.Ae) :: (str bh.2.result.Af) :: (.slice bp bh.2.result.Ag.length bl) :: (.slice bt bh.2.result.Vary.length bn) :: (.slice bv bh.2.result.Ah.length bu) :: (.int .i64 bh.2.result.TTL) :: (.int .i64 bh.2.result.Ai) :: (.int .i64 bh.2.result.Aj) :: (.bool bh.2.result.Ak) :: (.bool bh.2.result.Al) :: (.slice br bh.2.stack.length bm) :: ((bh.2.Ap.set ((x.N).toNat) bh.1).map Ji.enc).flatten) r0 rfl (by exact rfl) gg rfl (fun _ => rfl) (fun _ => rfl) (by exact rfl) (by decide) ?_
 refine qk (sc [5] rfl) ?_
 cases hm
 exact en lr ⟨bp, bl, bt, bn, bv, bu, br, bm, rfl, bF, bD, bG, bH, (List.length_set.trans bo), rfl⟩ (sc [0,0,0,0,0,1] rfl)
 refine qag (cs rfl rfl hm ?_ ?_) <;> intro iv hm
 refine qe1 ⟨⟨[], false⟩, _, [(_, _)], [(b0, [str m.Aq.Am, str m.Aq.An, str m.Aq.Ae, str m.Aq.Af, .slice aa m.Aq.Ao.length ab])]⟩ 15 rfl (by kernel_rfl) ⟨Hp.Le.refl _, (sc [1] rfl), (ci1 r0 (by exact rfl))⟩ ?_
 refine fa rfl (qao m0 rfl rfl ?_)
 intro gH
 refine cb hm fun iA gN hm => ckx (Jah gN :) ?_
 rintro _ _ _ ⟨fD, e9, fL, fG, fg, fU, gk, fH, rfl, eZ, fY, eP, fl, f9, rfl⟩
 refine ⟨⟨lr, (sc [5] rfl), (ci1 r0 (by exact rfl))⟩, ?_⟩
 refine ⟨_, .cons r7 .nil, ⟨lr, (sc [5] rfl), (ci1 r0 (by exact rfl))⟩, ?_⟩
 refine qah (fa rfl ?_)
 refine qmr m0 rfl (nl rfl) ?_
 intro ic
 refine cb hm fun gQ cD hm => cgx (JeE cD :) ?_
 refine ⟨⟨lr, (sc [5] rfl), (ci1 r0 (by exact rfl))⟩, ?_⟩
 refine ⟨_, .cons r7 .nil, ⟨lr, (sc [5] rfl), (ci1 r0 (by exact rfl))⟩, ?_⟩
 refine qks rfl ?_
 intro b9
 intro gL
 refine qaa r0 rfl ⟨rfl, rfl, (nl rfl), ?_⟩
 refine ⟨⟨lr, (sc [6] rfl), (ci1 r1 (by exact rfl))⟩, ?_⟩
 refine ⟨_, .cons r8 .nil, ⟨lr, (sc [6] rfl), (ci1 r1 (by exact rfl))⟩, ?_⟩
 refine qau ?_
 refine cs rfl rfl hm ?_ ?_ <;> intro g7 hm
 refine qas rfl ?_
 exact eE hm
 refine ro (qab r0 rfl (nl rfl) ?_)
 refine cb hm fun gO cN hm => ckx (Jae cN :) ?_
 rintro _ _ _ ⟨cI, eA, cy, dT, c4, dt, co, dz, rfl, eD, bZ, eF, cn, ee, rfl⟩
 exact eE hm
 refine qag (cs rfl rfl hm ?_ ?_) <;> intro gX hm
 refine cb hm fun gI bY hm => ckx (Jah bY :) ?_
 rintro _ _ _ ⟨dX, dc, ey, df, dk, d9, dU, dn, rfl, dx, dN, dg, bT, cR, rfl⟩
 refine qaf rfl fun ig => ?_
 refine qaa r0 rfl ⟨rfl, rfl, (nl rfl), ?_⟩
 refine qe1 ⟨⟨[], false⟩, _, [(_, _), (_, _)], []⟩ 12 rfl (by kernel_rfl) ⟨Hp.Le.refl _, (sc [6,0] rfl), ci0⟩ ?_
 refine fa rfl (qao m0 rfl rfl ?_)
 intro gH
 refine cb hm fun hZ dI hm => ckx (Jah dI :) ?_
 rintro _ _ _ ⟨ek, d8, cM, bU, bO, c9, cQ, dS, rfl, cL, cr, cm, cj, bP, rfl⟩
 refine ⟨⟨lr, (sc [6,5] rfl), ci0⟩, ?_⟩
 refine ⟨_, .cons r8 .nil, ⟨lr, (sc [6,5] rfl), ci0⟩, ?_⟩
 refine qcb m1 rfl (nl rfl) ?_
 intro iB
 refine cb hm fun gv eg hm => cgx (Jen eg :) ?_
 refine ⟨⟨lr, (sc [6,5] rfl), ci0⟩, ?_⟩
 refine ⟨_, .cons r8 .nil, ⟨lr, (sc [6,5] rfl), ci0⟩, ?_⟩
 refine qks rfl ?_
 intro iD
 intro hP
 refine qaa r0 rfl ⟨rfl, rfl, (nl rfl), ?_⟩
 refine ⟨⟨lr, (sc [7,6] rfl), ci0⟩, ?_⟩
 refine ⟨_, .cons r9 .nil, ⟨lr, (sc [7,6] rfl), ci0⟩, ?_⟩
 refine qau ?_
 refine cs rfl rfl hm ?_ ?_ <;> intro gY hm
 refine qas rfl ?_
 exact eE hm
 refine ro (qab r0 rfl (nl rfl) ?_)
 refine cb hm fun gS dD hm => ckx (Jae dD :) ?_
 rintro _ _ _ ⟨ep, bL, cO, cJ, cw, ew, ca, dJ, rfl, dG, d3, dy, cW, eL, rfl⟩
 exact eE hm
 refine qag (cs rfl rfl hm ?_ ?_) <;> intro gu hm
 refine cb hm fun gP cB hm => ckx (Jah cB :) ?_
 rintro _ _ _ ⟨bQ, cG, dE, ei, bK, cA, cY, bM, rfl, cC, dZ, du, cE, dB, rfl⟩
 refine qaf rfl fun iy => ?_
 refine qaa r0 rfl ⟨rfl, rfl, (nl rfl), ?_⟩
 refine fa rfl (ro (ld r0 rfl rfl (qa8 ?_)))
 refine cs rfl rfl hm ?_ ?_ <;> intro gW hm
 refine qas rfl ?_
 exact eE hm
 refine fa rfl (ro (ld r0 rfl rfl (qau ?_)))
 refine cb hm fun hO dK hm => cg0 (JaE dK :) ?_
 refine cb hm fun gF bR hm => ckx (Jae bR :) ?_
 rintro _ _ _ ⟨cK, eK, eu, dP, dF, d7, dh, dR, rfl, dO, cX, dW, cV, dj, rfl⟩
 exact eE hm
 refine qag (cs rfl rfl hm ?_ ?_) <;> intro gM hm
 refine fa rfl (ro (ld r1 rfl rfl ?_))
 exact eE hm
 refine qag (cs rfl rfl hm ?_ ?_) <;> intro ia hm
 refine cb hm fun gG d5 hm => ckx (Jah d5 :) ?_
 rintro _ _ _ ⟨eC, dv, bX, eJ, di, bW, eH, cZ, rfl, d4, c8, eO, dH, dQ, rfl⟩
 refine qaf rfl fun iw => ?_
 refine qaa r0 rfl ⟨rfl, rfl, (nl rfl), ?_⟩
 refine fa rfl (ro (ld r0 rfl rfl (qa8 ?_)))
 refine cs rfl rfl hm ?_ ?_ <;> intro gy hm
 refine qas rfl ?_
 exact eE hm
 refine fa rfl (ro (ld r0 rfl rfl (qau ?_)))
 refine cs rfl rfl hm ?_ ?_ <;> intro hJ hm
 refine fa rfl (ro (ld r6 rfl rfl ?_))
 exact eE hm
 exact eE hm
 refine qag (cs rfl rfl hm ?_ ?_) <;> intro g8 hm
 refine qai rfl rfl ?_
 refine qaf rfl fun gE => ?_
 refine qaa r0 rfl ⟨rfl, rfl, (nl rfl), ?_⟩
 obtain ⟨bN, bd, hm⟩ := bnd hm
 refine jR (σ := Bool) (rg 168 14) (fun bj => [(181, .bool bj)]) (fun bj => bj = bN) ?_ ?_
 replace bd := bsm bd
 refine qaj rfl ?_
 refine fa rfl (ro (ld r2 rfl rfl (qbk ?_)))
 refine qae ?_ ?_ <;> intro aX
 refine fa rfl (ct aX (ro (ld r2 rfl rfl (ct aX (qbk (ct aX ?_))))))
 obtain ⟨bS, bf, bd⟩ := bnd bd
 refine qae ?_ ?_ <;> intro aW
 replace bf := ift (qcy aX aW) bf
 refine fa rfl (ct aW (ro (ld r2 rfl rfl (ct aW ?_))))
 refine cb bf fun gA cz bf => cg0 (JaG cz :) ?_
 refine ct aW (qau (ct aW ?_))
 exact eMq bd _ ⟨bq (si bf), trivial⟩
 replace bf := qa9 (qcz aX aW) bf
 refine cf aW (cf aW (cf aW (cf aW ?_)))
 exact eMq bd _ ⟨bq (si bf), trivial⟩
 refine cf aX (cf aX (cf aX ?_))
 obtain ⟨bS, bf, bd⟩ := bnd bd
 replace bf := qa9 (qbc aX) bf
 refine cF (cF (cF (cF (cF ?_))))
 exact eMq bd _ ⟨bq (si bf), trivial⟩
 rintro bj rfl ib
 obtain ⟨ef, bg, hm⟩ := bnd hm
 refine jD (σ := (Int × Int × Str × Bool × Jh) × Option Addr × Nat × Option Addr × Nat × Option Addr × Nat × Option Addr × Nat) [182,183] [2, 7] (fun (aU, aY, bb, a8, bc, aZ, ba, aV, a6) => []) (fun (aU, aY, bb, a8, bc, aZ, ba, aV, a6) => [Cells b0 131 ((str m.Aq.Am) :: (str m.Aq.An) :: (str m.Aq.Ae) :: (str m.Aq.Af) :: (.slice aa m.Aq.Ao.length ab) :: (.int .i64 aU.2.2.2.2.most) :: (str aU.2.2.2.2.result.Ae) :: (str aU.2.2.2.2.result.Af) :: (.slice aY aU.2.2.2.2.result.Ag.length bb) :: (.slice a8 aU.2.2.2.2.result.Vary.length bc) :: (.slice aZ aU.2.2.2.2.result.Ah.length ba) :: (.int .i64 aU.2.2.2.2.result.TTL) :: (.int .i64 aU.2.2.2.2.result.Ai) :: (.int .i64 aU.2.2.2.2.result.Aj) :: (.bool aU.2.2.2.2.result.Ak) :: (.bool aU.2.2.2.2.result.Al) :: (.slice aV aU.2.2.2.2.stack.length a6) :: (aU.2.2.2.2.Ap.map Ji.enc).flatten), qat Jc.enc aY 41 2 bb aU.2.2.2.2.result.Ag, qat eS a8 9 1 bc aU.2.2.2.2.result.Vary, qat eS aZ 9 1 ba aU.2.2.2.2.result.Ah, qat Ji.enc aV 128 4 a6 aU.2.2.2.2.stack, Cells gE 128 [.int .i64 aU.1, .int .i64 aU.2.1, str aU.2.2.1, .bool aU.2.2.2.1]]) (fun (aU, aY, bb, a8, bc, aZ, ba, aV, a6) => (0 < aU.2.2.2.2.result.Ag.length → Has aY) ∧ (0 < aU.2.2.2.2.result.Vary.length → Has a8) ∧ (0 < aU.2.2.2.2.result.Ah.length → Has aZ) ∧ (0 < aU.2.2.2.2.stack.length → Has aV) ∧ aU.2.2.2.2.Ap.length = 512 ∧ aU = ef) (And.intro ?_ ?_)
 refine cs rfl rfl bg ?_ ?_ <;> intro gV bg
 refine cb bg fun gD cP bg => ckx (Jah cP :) ?_
 rintro _ _ _ ⟨dq, dp, bJ, dA, c5, eh, cu, dV, rfl, ce, dw, c6, bV, de, rfl⟩
 refine qaa r5 rfl ⟨rfl, rfl, (nl rfl), ?_⟩
 exact eM bg (_, _, _, _, _, _, _, _, _)
 exact eM bg (_, _, _, _, _, _, _, _, _)
 rintro ⟨aU, aY, bb, a8, bc, aZ, ba, aV, a6⟩ ⟨bw, bB, bz, bA, bC, rfl⟩ gx
 refine qa6 ⟨⟨[], false⟩, _, [(_, _), (_, _)], []⟩ (by kernel_rfl) ⟨Hp.Le.refl _, (sc [6,5] rfl), ci0⟩ ?_
 refine qah (fa rfl (fa rfl (qao m0 rfl rfl (qcb m1 rfl (nl rfl) ?_))))
 refine cb hm fun hU d6 hm => ckx (JdN (aL := [str m.Aq.Am, str m.Aq.An, str m.Aq.Ae, str m.Aq.Af, .slice aa m.Aq.Ao.length ab, .int .i64 aU.2.2.2.2.most]) (aR := (.slice aV aU.2.2.2.2.stack.length a6) :: (aU.2.2.2.2.Ap.map Ji.enc).flatten) d6 :) ?_
 rintro _ _ _ ⟨cH, dL, ej, dM, dY, dm, rfl, eG, cU, dC, rfl⟩
 refine qk (sc [6,5] rfl) ?_
 refine qa5 rfl ?_
 refine cs rfl rfl hm ?_ ?_ <;> intro gw hm
 exact eE hm
 refine fa rfl (ro (ld r6 rfl rfl (qaq ?_)))
 refine cs rfl rfl hm ?_ ?_ <;> intro gT hm
 exact eE hm
 exact eE hm
 refine qag (cs rfl rfl hm ?_ ?_) <;> intro hY hm
 exact eE hm
 exact eE hm

def JcF (code : (List Jf)) (Aq : J0) : Nat → Int → Jh → Option (Fl (Jp × Err) (Int × Jh))
  | 0, _, _ => none
  | aW + 1, ac, aU =>
    if decide (ac ≥ 0) then
    (ix code ac).bind fun aX =>
    (Jcp (⟨Aq, aU.most, aU.result, aU.stack, aU.Ap⟩ : Jh) ac aX).bind fun aV =>
    if aV.2.1.isSome then
    some (Fl.ret ((⟨([] : Str), ([] : Str), [], [], [], 0, 0, 0, false, false⟩ : Jp), aV.2.1))
    else
    JcF code Aq aW aV.1 (⟨Aq, aV.2.2.most, aV.2.2.result, aV.2.2.stack, aV.2.2.Ap⟩ : Jh)
    else
    some (Fl.go (ac, (⟨Aq, aU.most, aU.result, aU.stack, aU.Ap⟩ : Jh)))
def JdY (n : Nat) (code : (List Jf)) (Aq : J0) (most : Int) : Option (Jp × Err) :=
  (Jdt code).bind fun aU =>
  if aU.isSome then
  some ((⟨([] : Str), ([] : Str), [], [], [], 0, 0, 0, false, false⟩ : Jp), (some 2))
  else
  (JcF code Aq n 0 (⟨Aq, most, (⟨Aq.Ae, Aq.Af, [], [], [], (-1), 0, 0, false, false⟩ : Jp), [], (List.replicate 512 (⟨0, 0, ([] : Str), false⟩ : Ji))⟩ : Jh)).bind fun s0 => s0.el some fun t0 =>
  some (t0.2.result, none)
theorem JeH {n : Nat} {code : (List Jf)} {Aq : J0} {most : Int} {aa : Option Addr} {ab : Nat} {n0 : Nat} {af : Option Addr} {ag : Nat} {K : Hp} {r : Jp × Err}
    (hm : JdY n code Aq most = some r) (hX : RdC Jf.enc K aa ab 3 code ∧ n0 = code.length ∧ RdC Jc.enc K af ag 2 Aq.Ao ∧ GG K) :
    Fn Tryz.prog 37 [.slice aa n0 ab, .agg #[str Aq.Am, str Aq.An, str Aq.Ae, str Aq.Af, .slice af Aq.Ao.length ag], .int .i64 most] K [] (fun v K' H' => ∃ ar_0 : Option Addr, ∃ cr_0 : Nat, ∃ ar_1 : Option Addr, ∃ cr_1 : Nat, ∃ ar_2 : Option Addr, ∃ cr_2 : Nat, v = .tuple #[.agg #[str r.1.Ae, str r.1.Af, .slice ar_0 r.1.Ag.length cr_0, .slice ar_1 r.1.Vary.length cr_1, .slice ar_2 r.1.Ah.length cr_2, .int .i64 r.1.TTL, .int .i64 r.1.Ai, .int .i64 r.1.Aj, .bool r.1.Ak, .bool r.1.Al], qcp 48 r.2] ∧ (0 < r.1.Ag.length → Has ar_0) ∧ (0 < r.1.Vary.length → Has ar_1) ∧ (0 < r.1.Ah.length → Has ar_2) ∧ H' = [qat Jc.enc ar_0 41 2 cr_0 r.1.Ag, qat eS ar_1 9 1 cr_1 r.1.Vary, qat eS ar_2 9 1 cr_2 r.1.Ah]) := by
 obtain ⟨ae, bT, ah, hG⟩ := hX
 subst bT
 refine Fn.enter Tryz.func37 Tryz.call37 rfl fun F => ?_
 unfold JdY at hm
 refine qar ?_
 intro b4
 refine qaf rfl fun b6 => ?_
 refine cb hm fun bY bR hm => cgx (Jel bR :) ?_
 refine qa5 rfl ?_
 refine cs rfl rfl hm ?_ ?_ <;> intro bZ hm
 refine qai rfl rfl ?_
 refine qas rfl ?_
 refine qaa r0 rfl ⟨rfl, rfl, (nl rfl), ?_⟩
 refine ro (qab r0 rfl (nl rfl) ?_)
 refine qci Jc.enc 41 2 ?_
 refine qci eS 9 1 ?_
 refine qci eS 9 1 ?_
 exact eE hm
 refine ro (qab r1 rfl (nl rfl) (fa rfl (ro (ld r1 rfl rfl (fa rfl (ro (ld r1 rfl rfl (qai rfl rfl (cT (cT ?_))))))))))
 refine cT ?_
 refine qlm (enc := Ji.enc) [str ([] : Str), str ([] : Str), str ([] : Str), str ([] : Str), .slice none 0 0, .int .i64 0, str ([] : Str), str ([] : Str), .slice none 0 0, .slice none 0 0, .slice none 0 0, .int .i64 0, .int .i64 0, .int .i64 0, .bool false, .bool false, .slice none 0 0] (List.replicate 512 (⟨0, 0, ([] : Str), false⟩ : Ji)) (by kernel_rfl) rfl ?_
 refine cT (cT (cT ?_))
 refine qn4 ?_
 intro bU
 obtain ⟨s0, ba, hm⟩ := bnd hm
 refine qhg Jc.enc 41 2 ?_
 refine qhg eS 9 1 ?_
 refine qhg eS 9 1 ?_
 refine qhg Ji.enc 128 4 ?_
 refine lD (σ := (Int × Jh) × Option Addr × Nat × Option Addr × Nat × Option Addr × Nat × Option Addr × Nat) ([7,9,10,11] ++ rg 26 17) [5, 6, 7] (fun _ => []) (fun (t0, aW, a8, aX, aZ, aU, a6, aV, aY) => [(9, .int .i64 t0.1)]) (fun (t0, aW, a8, aX, aZ, aU, a6, aV, aY) => [Cells bU 131 ((str Aq.Am) :: (str Aq.An) :: (str Aq.Ae) :: (str Aq.Af) :: (.slice af Aq.Ao.length ag) :: (.int .i64 t0.2.most) :: (str t0.2.result.Ae) :: (str t0.2.result.Af) :: (.slice aW t0.2.result.Ag.length a8) :: (.slice aX t0.2.result.Vary.length aZ) :: (.slice aU t0.2.result.Ah.length a6) :: (.int .i64 t0.2.result.TTL) :: (.int .i64 t0.2.result.Ai) :: (.int .i64 t0.2.result.Aj) :: (.bool t0.2.result.Ak) :: (.bool t0.2.result.Al) :: (.slice aV t0.2.stack.length aY) :: (t0.2.Ap.map Ji.enc).flatten), qat Jc.enc aW 41 2 a8 t0.2.result.Ag, qat eS aX 9 1 aZ t0.2.result.Vary, qat eS aU 9 1 a6 t0.2.result.Ah, qat Ji.enc aV 128 4 aY t0.2.stack]) (fun (t0, aW, a8, aX, aZ, aU, a6, aV, aY) => (0 < t0.2.result.Ag.length → Has aW) ∧ (0 < t0.2.result.Vary.length → Has aX) ∧ (0 < t0.2.result.Ah.length → Has aU) ∧ (0 < t0.2.stack.length → Has aV) ∧ t0.2.Ap.length = 512) (fun i0 (t0, aW, a8, aX, aZ, aU, a6, aV, aY) => JcF code Aq i0 t0.1 t0.2 = some s0) (fun (t0, aW, a8, aX, aZ, aU, a6, aV, aY) => s0 = Fl.go t0) (fun i0 => i0) n ((0, (⟨Aq, most, (⟨Aq.Ae, Aq.Af, [], [], [], (-1), 0, 0, false, false⟩ : Jp), [], (List.replicate 512 (⟨0, 0, ([] : Str), false⟩ : Ji))⟩ : Jh)), none, 0, none, 0, none, 0, none, 0) ba (And.intro ⟨⟨(fun h => by simp at h), (fun h => by simp at h), (fun h => by simp at h), (fun h => by simp at h), List.length_replicate⟩, ⟨rfl, trivial⟩, _, (ss [4,3,2,1,0,0,0,0] rfl)⟩ (And.intro ?_ ?_))
 clear ba
 rintro i0 ⟨⟨ac, bQ⟩, bj, bl, bz, bv, br, bh, bw, bb⟩ ⟨bc, bn, bm, bp, bu⟩ ba j0
 dsimp only at ba ⊢
 cases i0 with
 | zero => rw [JcF.eq_1] at ba; cases ba
 | succ i0 =>
  rw [JcF.eq_2] at ba
  refine cs rfl rfl ba ?_ ?_ <;> intro bV ba
  refine qal rfl ?_
  obtain ⟨ca, bK, bA, ba⟩ := ixb ba
  refine RStep.ofN (qad rfl rfl (qff ae.rd bA) bK (qax rfl bK bA) (ro (qan ((ac).toNat) _ ae.rd rfl (mp bA) rfl ?_)))
  refine cb ba fun bW bS ba => ckx (JdO bS :) ?_
  rintro _ _ _ ⟨bM, bI, bP, bJ, bL, bH, bF, bG, rfl, bD, bO, bN, bB, bC, rfl⟩
  refine qa5 rfl ?_
  refine cs rfl rfl ba ?_ ?_ <;> intro bX ba
  refine qai rfl rfl ?_
  refine qaa r5 rfl ⟨rfl, rfl, (nl rfl), ?_⟩
  refine ro (qab r0 rfl (nl rfl) ?_)
  refine qci Jc.enc 41 2 ?_
  refine qci eS 9 1 ?_
  refine qci eS 9 1 ?_
  exact eE (er ba hm)
  exact eR ba (_, (_, _), _, _, _, _, _, _, _, _)
  refine cT ?_
  exact eM ba (_, _, _, _, _, _, _, _, _)
 rintro ⟨t0, aW, a8, aX, aZ, aU, a6, aV, aY⟩ ⟨bg, bf, bd, bo, bt⟩ rfl j0
 replace hm := elg hm
 refine qah (fa rfl (ro (qab r0 rfl (nl rfl) ?_)))
 refine qaa r5 rfl ⟨rfl, rfl, (nl rfl), ?_⟩
 exact ro (qab r0 rfl (nl rfl) (eE hm))

def qcf (a : Jn) (r' : Jp) : Option (Str) :=
  ((if decide (r'.Af ≠ ([] : Str)) then
  some true
  else
  some (a.HasQuery && decide (r'.Af = a.Af))) : Option (Bool)).bind fun aU =>
  if aU then
  (chk (r'.Ae.length + ([63] : Str).length ≤ lim)).bind fun _ =>
  (chk ((r'.Ae ++ ([63] : Str)).length + r'.Af.length ≤ lim)).bind fun _ =>
  some ((r'.Ae ++ ([63] : Str)) ++ r'.Af)
  else
  some r'.Ae
theorem qfv {a : Jn} {r' : Jp} {af : Option Addr} {ag : Nat} {aM : Option Addr} {aN : Nat} {aO : Option Addr} {aP : Nat} {K : Hp} {r : Str}
    (hm : qcf a r' = some r) (hX : RdC Jc.enc K af ag 2 r'.Ag ∧ RdC eS K aM aN 1 r'.Vary ∧ RdC eS K aO aP 1 r'.Ah) :
    Fn Tryz.prog 38 [.agg #[str a.An, str a.Ae, str a.Af, .bool a.HasQuery], .agg #[str r'.Ae, str r'.Af, .slice af r'.Ag.length ag, .slice aM r'.Vary.length aN, .slice aO r'.Ah.length aP, .int .i64 r'.TTL, .int .i64 r'.Ai, .int .i64 r'.Aj, .bool r'.Ak, .bool r'.Al]] K [] (fun v K' H' => v = str r ∧ H' = []) := by
 obtain ⟨ah, a6, aZ⟩ := hX
 refine Fn.enter Tryz.func38 Tryz.call38 rfl fun F => ?_
 unfold qcf at hm
 refine qar ?_
 intro b2
 refine qar ?_
 intro b3
 obtain ⟨aY, aW, hm⟩ := bnd hm
 refine jR (σ := Bool) (rg 5 14) (fun aX => [(18, .bool aX)]) (fun aX => aX = aY) ?_ ?_
 refine qaj rfl ?_
 refine fa rfl (ro (ld r0 rfl rfl (qbk ?_)))
 refine cS aW (fun aV aW => ?_) fun aV aW => ?_
 refine ct aV (ct aV (ct aV (ct aV ?_)))
 exact eM aW _
 refine fa rfl (cf aV (ro (ld r1 rfl rfl (cf aV ?_))))
 refine qae ?_ ?_ <;> intro aU
 refine fa rfl (ct aU (ro (ld r0 rfl rfl (ct aU (fa rfl (ct aU (ro (ld r1 rfl rfl (ct aU ?_)))))))))
 refine qaq (cf aV (ct aU (cf aV ?_)))
 exact eMq aW _ ⟨bq (qc1 (b := decide (r'.Af = a.Af)) aU), trivial⟩
 refine cf aU (cf aU (cf aU (cf aU (cf aV (cf aU (cf aV ?_))))))
 exact eMq aW _ ⟨bq (((qbc aU)).symm), trivial⟩
 rintro aX rfl bb
 refine cs rfl rfl hm ?_ ?_ <;> intro bc hm
 refine fa rfl (ro (ld r0 rfl rfl ?_))
 obtain ⟨a8, hm⟩ := qaw hm
 refine qbs a8 ?_
 refine fa rfl (ro (ld r0 rfl rfl ?_))
 obtain ⟨ba, hm⟩ := qaw hm
 refine qbs ba ?_
 exact eE hm
 refine fa rfl (ro (ld r0 rfl rfl ?_))
 exact eE hm

def JbL (s : (List Str)) : Option ((List Str)) :=
  (chk (([] : List Str).length + s.length ≤ lim)).bind fun _ =>
  some (([] : List Str) ++ s)
theorem JdP {s : (List Str)} {aa : Option Addr} {ab : Nat} {n0 : Nat} {K : Hp} {r : (List Str)}
    (hm : JbL s = some r) (hX : RdC eS K aa ab 1 s ∧ n0 = s.length) :
    Fn Tryz.prog 39 [.slice aa n0 ab] K [] (fun v K' H' => ∃ ar_0 : Option Addr, ∃ cr_0 : Nat, v = .slice ar_0 r.length cr_0 ∧ (0 < r.length → Has ar_0) ∧ H' = [qat eS ar_0 9 1 cr_0 r]) := by
 obtain ⟨ae, aU⟩ := hX
 subst aU
 refine Fn.enter Tryz.func39 Tryz.call39 rfl fun F => ?_
 unfold JbL at hm
 rcases Classical.em (aa = none) with hz | hz
 subst hz
 obtain rfl := RdC.none_nil ae
 obtain ⟨_, hm⟩ := qaw hm
 obtain rfl := si hm
 refine qjm rfl ?_
 refine qac rfl (cT ?_)
 refine qci eS 9 1 ?_
 exact en lr ⟨none, 0, rfl, (fun h => by simp at h), rfl⟩ (pf rfl)
 refine qjx hz rfl ?_
 refine qac rfl (cF ?_)
 refine bsO (len := 0) (enc := eS) (l := ([] : List Str)) (cl := []) qbw rfl rfl (fun _ _ => rfl) rfl rfl rfl ?_ fun b5 => ?_
 · conv => whnf
   first | done | rfl
 obtain ⟨h7, hm⟩ := qaw hm
 refine apE rfl r0 qbw (qqr rfl ae.rd rfl) h7 ?_
 intro a7 c7 o7
 exact eE hm

def qb7 (c : UInt8) : Option (Bool) :=
  some ((decide ((c.toNat : Int) < 32) && decide ((c.toNat : Int) ≠ 9)) || decide ((c.toNat : Int) = 127))
theorem qe9 {c : UInt8} {K : Hp} {r : Bool}
    (hm : qb7 c = some r)  :
    Fn Tryz.prog 147 [.int .u8 (c.toNat : Int)] K [] (fun v K' H' => v = .bool r ∧ H' = []) := by
 refine Fn.enter Tryz.func147 Tryz.call147 rfl fun F => ?_
 unfold qb7 at hm
 refine qaj rfl ?_
 refine qae ?_ ?_ <;> intro aU
 refine ct aU (qa8 (ct aU ?_))
 refine qae ?_ ?_ <;> intro aV
 refine ct aV (ct aV ?_)
 exact bE (((qcn (qcy aU aV))).symm) (eE hm)
 refine cf aV (qag (cf aV ?_))
 exact bE (qg2 (b := decide ((c.toNat : Int) = 127)) (qcz aU aV)) (eE hm)
 refine cf aU (cf aU (cF (cF (qag (cF ?_)))))
 exact bE (qg2 (b := decide ((c.toNat : Int) = 127)) (qbc aU)) (eE hm)

def syntax_clean_L0 : List UInt8 → Nat → Option (Fl (Bool) (Unit))
  | [], _ => some (Fl.go ())
  | e0 :: aU, i0 =>
    (qb7 e0).bind fun al =>
    if al then
    some (Fl.ret false)
    else
    syntax_clean_L0 aU (i0 + 1)
def qda (s : Str) : Option (Bool) :=
  (chk (s.length ≤ qa3)).bind fun _ =>
  (syntax_clean_L0 s 0).bind fun s0 => s0.el some fun t0 =>
  some true
theorem qf8 {s : Str} {K : Hp} {r : Bool}
    (hm : qda s = some r)  :
    Fn Tryz.prog 95 [str s] K [] (fun v K' H' => v = .bool r ∧ H' = []) := by
 refine Fn.enter Tryz.func95 Tryz.call95 rfl fun F => ?_
 unfold qda at hm
 refine ro (qa0 rfl ?_)
 obtain ⟨aX, hm⟩ := qaw hm
 obtain ⟨s0, aU, hm⟩ := bnd hm
 refine lD (σ := (Unit)) ([2,3] ++ rg 6 8) [0] (fun i0 => [(6, .int .i64 (i0 : Int))]) (fun _ => []) (fun _ => []) (fun _ => True) (fun i0 _ => syntax_clean_L0 (s.drop i0) i0 = some s0) (fun t0 => s0 = Fl.go t0) (fun i0 => s.length - i0) 0 () aU (And.intro qe (And.intro ?_ ?_))
 clear aU
 rintro i0 _ _ aU j0
 conv at aU => whnf
 refine qac rfl ?_
 refine qae ?_ ?_ <;> intro w0
 obtain ⟨e0, aV, aY⟩ := ltx w0
 rw [aY, syntax_clean_L0.eq_2] at aU
 refine qal rfl ?_
 refine qaz rfl (nn _) aV ?_
 refine cb aU fun al aW aU => cg0 (qe9 aW :) ?_
 refine cs rfl rfl aU ?_ ?_ <;> intro aZ aU
 exact eE (er aU hm)
 refine qam (qbn aV aX) ?_
 exact eR aU (_, ())
 rw [lty w0, syntax_clean_L0.eq_1] at aU
 refine cT ?_
 exact eM aU _
 rintro t0 _ rfl j0
 replace hm := elg hm
 exact eE hm

def syntax_parts_L0 (s : Str) (separator : UInt8) : Nat → (List Str) → Int → Bool → Int → Option ((List Str) × Int × Bool × Int)
  | 0, _, _, _, _ => none
  | aX + 1, ac, aW, aV, aU =>
    if decide (aU < (s.length : Int)) then
    (if aV then (ix s aU).bind fun a8 =>
    some (decide ((a8.toNat : Int) = 92)) else some false).bind fun aY =>
    if aY then
    (chk (InI (aU + 1))).bind fun _ =>
    (chk (InI ((aU + 1) + 1))).bind fun _ =>
    syntax_parts_L0 s separator aX ac aW aV ((aU + 1) + 1)
    else
    (ix s aU).bind fun bb =>
    if decide ((bb.toNat : Int) = 34) then
    (chk (InI (aU + 1))).bind fun _ =>
    syntax_parts_L0 s separator aX ac aW (!aV) (aU + 1)
    else
    (if (!aV) then (ix s aU).bind fun ba =>
    some (decide ((ba.toNat : Int) = (separator.toNat : Int))) else some false).bind fun aZ =>
    if aZ then
    (chk (0 ≤ aW ∧ aW ≤ aU ∧ aU ≤ (s.length : Int))).bind fun _ =>
    (qh7 (subL s aW aU) ([32, 9] : Str)).bind fun a6 =>
    (chk (ac.length + [a6].length ≤ lim)).bind fun _ =>
    (chk (InI (aU + 1))).bind fun _ =>
    (chk (InI (aU + 1))).bind fun _ =>
    syntax_parts_L0 s separator aX (ac ++ [a6]) (aU + 1) aV (aU + 1)
    else
    (chk (InI (aU + 1))).bind fun _ =>
    syntax_parts_L0 s separator aX ac aW aV (aU + 1)
    else
    some (ac, aW, aV, aU)
def qcs (n : Nat) (s : Str) (separator : UInt8) : Option ((List Str) × Err) :=
  (qda s).bind fun aV =>
  if (!aV) then
  some ([], (some 2))
  else
  (syntax_parts_L0 s separator n [] 0 false 0).bind fun t0 =>
  if t0.2.2.1 then
  some ([], (some 2))
  else
  (chk (0 ≤ t0.2.1 ∧ t0.2.1 ≤ (s.length : Int) ∧ (s.length : Int) ≤ (s.length : Int))).bind fun _ =>
  (qh7 (subL s t0.2.1 (s.length : Int)) ([32, 9] : Str)).bind fun aU =>
  (chk (t0.1.length + [aU].length ≤ lim)).bind fun _ =>
  some ((t0.1 ++ [aU]), none)
theorem qf9 {n : Nat} {s : Str} {separator : UInt8} {K : Hp} {r : (List Str) × Err}
    (hm : qcs n s separator = some r)  :
    Fn Tryz.prog 87 [str s, .int .u8 (separator.toNat : Int)] K [] (fun v K' H' => ∃ ar_0 : Option Addr, ∃ cr_0 : Nat, v = .tuple #[.slice ar_0 r.1.length cr_0, qcp 48 r.2] ∧ (0 < r.1.length → Has ar_0) ∧ H' = [qat eS ar_0 9 1 cr_0 r.1]) := by
 refine Fn.enter Tryz.func87 Tryz.call87 rfl fun F => ?_
 unfold qcs at hm
 refine cb hm fun bL bB hm => cg0 (qf8 bB :) ?_
 refine qau ?_
 refine cs rfl rfl hm ?_ ?_ <;> intro co hm
 refine qas rfl ?_
 refine qci eS 9 1 ?_
 exact eE hm
 obtain ⟨s0, aV, hm⟩ := bnd hm
 refine qhg eS 9 1 ?_
 refine lD (σ := ((List Str) × Int × Bool × Int) × Option Addr × Nat) ([6,7,8,9] ++ rg 14 43) [1] (fun _ => []) (fun (t0, aX, aY) => [(6, .slice aX t0.1.length aY), (7, .int .i64 t0.2.1), (8, .bool t0.2.2.1), (9, .int .i64 t0.2.2.2)]) (fun (t0, aX, aY) => [qat eS aX 9 1 aY t0.1]) (fun (t0, aX, aY) => (0 < t0.1.length → Has aX) ∧ True) (fun i0 (t0, aX, aY) => syntax_parts_L0 s separator i0 t0.1 t0.2.1 t0.2.2.1 t0.2.2.2 = some s0) (fun (t0, aX, aY) => t0 = s0) (fun i0 => i0) n ((_, _, _, _), _, _) aV (And.intro qe (And.intro ?_ ?_))
 clear aV
 rintro i0 ⟨⟨ac, bd, bC, bg⟩, bp, bo⟩ ⟨bl, _⟩ aV j0
 dsimp only at aV ⊢
 cases i0 with
 | zero => rw [syntax_parts_L0.eq_1] at aV; cases aV
 | succ i0 =>
  rw [syntax_parts_L0.eq_2] at aV
  refine ro (qa0 rfl ?_)
  refine cs rfl rfl aV ?_ ?_ <;> intro bV aV
  refine qal rfl ?_
  refine qal rfl ?_
  obtain ⟨bh, aZ, aV⟩ := bnd aV
  refine jR (σ := Bool) (rg 20 8) (fun a8 => [(20, .bool a8)]) (fun a8 => a8 = bh) ?_ ?_
  replace aZ := bsm aZ
  refine qaj rfl ?_
  obtain ⟨ce, bc, aZ⟩ := bnd aZ
  refine cS bc (fun aW bc => ?_) fun aW bc => ?_
  refine ct aW (ct aW ?_)
  obtain ⟨bW, bI, br, bc⟩ := ixb bc
  refine qaz rfl bI br (ct aW (qag (ct aW ?_)))
  exact eMq aZ _ ⟨bq (si bc), trivial⟩
  refine cf aW (cf aW (cf aW (cf aW ?_)))
  exact eMq aZ _ ⟨bq (si bc), trivial⟩
  rintro a8 rfl bD
  refine CStep.ownLe r0 fun bX => ?_
  refine cs rfl rfl aV ?_ ?_ <;> intro bS aV
  refine ci aV fun aV => ?_
  refine ci aV fun aV => ?_
  exact eR aV (_, (_, _, _, _), _, _)
  obtain ⟨bT, bz, bG, aV⟩ := ixb aV
  refine qaz rfl bz bG (qag ?_)
  refine CStep.ownLe r0 fun cn => ?_
  refine cs rfl rfl aV ?_ ?_ <;> intro bR aV
  refine qau ?_
  refine ci aV fun aV => ?_
  exact eR aV (_, (_, _, _, _), _, _)
  obtain ⟨bf, a6, aV⟩ := bnd aV
  refine jR (σ := Bool) (rg 37 10) (fun ba => [(37, .bool ba)]) (fun ba => ba = bf) ?_ ?_
  replace a6 := bsm a6
  refine qaj rfl ?_
  refine qau ?_
  obtain ⟨bM, bb, a6⟩ := bnd a6
  refine cS bb (fun aU bb => ?_) fun aU bb => ?_
  refine ct aU (ct aU ?_)
  obtain ⟨cj, bw, bv, bb⟩ := ixb bb
  refine qaz rfl bw bv (ct aU (ct aU (qag (ct aU ?_))))
  exact eMq a6 _ ⟨bq (si bb), trivial⟩
  refine cf aU (cf aU (cf aU (cf aU (cf aU ?_))))
  exact eMq a6 _ ⟨bq (si bb), trivial⟩
  rintro ba rfl bt
  refine CStep.ownLe r0 fun bY => ?_
  refine cs rfl rfl aV ?_ ?_ <;> intro bZ aV
  obtain ⟨bA, aV⟩ := qaw aV
  refine RStep.ofN (qdp (lo := (some bd)) (hi := (some bg)) rfl bA ?_)
  refine cb aV fun bn bK aV => cg0 (qke bK) ?_
  refine bsO (len := 1) (enc := eS) (l := [bn]) (cl := [str bn]) qbw rfl rfl (fun _ _ => rfl) rfl rfl rfl ?_ fun ca => ?_
  · conv => whnf
    refine cT ?_
    first | done | rfl
  obtain ⟨bH, aV⟩ := qaw aV
  refine apE rfl r1 qbw (qay rfl r0 rfl (fun _ => rfl) (fun _ => rfl)) bH ?_
  intro bP bN cm
  refine ci aV fun aV => ?_
  refine ci aV fun aV => ?_
  exact eR aV (_, (_, _, _, _), _, _)
  refine ci aV fun aV => ?_
  exact eR aV (_, (_, _, _, _), _, _)
  refine cT ?_
  exact eM aV (_, _, _)
 rintro ⟨t0, aX, aY⟩ ⟨bm, _⟩ rfl j0
 refine cs rfl rfl hm ?_ ?_ <;> intro bO hm
 refine qas rfl ?_
 refine qci eS 9 1 ?_
 exact eE hm
 obtain ⟨bF, hm⟩ := qaw hm
 refine RStep.ofN (qdp (lo := (some t0.2.1)) (hi := none) rfl bF ?_)
 refine cb hm fun bj bu hm => cg0 (qke bu) ?_
 refine bsO (len := 1) (enc := eS) (l := [bj]) (cl := [str bj]) qbw rfl rfl (fun _ _ => rfl) rfl rfl rfl ?_ fun cr => ?_
 · conv => whnf
   refine cT ?_
   first | done | rfl
 obtain ⟨bJ, hm⟩ := qaw hm
 refine apE rfl r1 qbw (qay rfl r0 rfl (fun _ => rfl) (fun _ => rfl)) bJ ?_
 intro cu bQ bU
 exact eE hm

def syntax_List_L0 : List Str → Nat → (List Str) → Option ((List Str))
  | [], _, ac => some ac
  | e0 :: aU, i0, ac =>
    if decide (e0 ≠ ([] : Str)) then
    (chk (ac.length + [e0].length ≤ lim)).bind fun _ =>
    syntax_List_L0 aU (i0 + 1) (ac ++ [e0])
    else
    syntax_List_L0 aU (i0 + 1) ac
def qcl (n : Nat) (s : Str) : Option ((List Str) × Err) :=
  (qcs n s (44 : UInt8)).bind fun aU =>
  if aU.2.isSome then
  some ([], aU.2)
  else
  (chk (aU.1.length ≤ qa3)).bind fun _ =>
  (syntax_List_L0 aU.1 0 []).bind fun t0 =>
  some (t0, none)
theorem qgy {n : Nat} {s : Str} {K : Hp} {r : (List Str) × Err}
    (hm : qcl n s = some r)  :
    Fn Tryz.prog 52 [str s] K [] (fun v K' H' => ∃ ar_0 : Option Addr, ∃ cr_0 : Nat, v = .tuple #[.slice ar_0 r.1.length cr_0, qcp 48 r.2] ∧ (0 < r.1.length → Has ar_0) ∧ H' = [qat eS ar_0 9 1 cr_0 r.1]) := by
 refine Fn.enter Tryz.func52 Tryz.call52 rfl fun F => ?_
 unfold qcl at hm
 refine cb hm fun a6 bh hm => ck0 (qf9 bh :) ?_
 rintro _ _ _ ⟨aZ, bb, rfl, aX, rfl⟩
 refine qa5 rfl ?_
 refine cs rfl rfl hm ?_ ?_ <;> intro bp hm
 refine qci eS 9 1 ?_
 exact eE hm
 refine ro (qak rfl ?_)
 obtain ⟨bc, hm⟩ := qaw hm
 obtain ⟨s0, aW, hm⟩ := bnd hm
 refine qhg eS 9 1 ?_
 refine lD (σ := ((List Str)) × Option Addr × Nat) ([6,8] ++ rg 19 11) [1, 2] (fun i0 => [(19, .int .i64 (i0 : Int))]) (fun (t0, aU, aV) => [(6, .slice aU t0.length aV)]) (fun (t0, aU, aV) => [qat eS aU 9 1 aV t0]) (fun (t0, aU, aV) => (0 < t0.length → Has aU) ∧ True) (fun i0 (t0, aU, aV) => syntax_List_L0 (a6.1.drop i0) i0 t0 = some s0) (fun (t0, aU, aV) => t0 = s0) (fun i0 => a6.1.length - i0) 0 (_, _, _) aW (And.intro qe (And.intro ?_ ?_))
 clear aW
 rintro i0 ⟨ac, bf, bd⟩ ⟨a8, _⟩ aW j0
 conv at aW => whnf
 refine qac rfl ?_
 refine qae ?_ ?_ <;> intro w0
 obtain ⟨e0, aY, bj⟩ := ltx w0
 rw [bj, syntax_List_L0.eq_2] at aW
 refine qal rfl ?_
 refine RStep.ofN (qad rfl rfl (qco aX aY) (nn _) (qd2 rfl aY) (ro (qbv (i := i0) (o := 0) r1 rfl aY rfl rfl (qbk ?_))))
 refine cs rfl rfl aW ?_ ?_ <;> intro bl aW
 refine bsO (len := 1) (enc := eS) (l := [e0]) (cl := [str e0]) qbw rfl rfl (fun _ _ => rfl) rfl rfl rfl ?_ fun bm => ?_
 · conv => whnf
   refine cT ?_
   first | done | rfl
 obtain ⟨bg, aW⟩ := qaw aW
 refine apE rfl r1 qbw (qay rfl r0 rfl (fun _ => rfl) (fun _ => rfl)) bg ?_
 intro bn bo br
 refine qam (qbn aY bc) ?_
 exact eR aW (_, _, _, _)
 refine qam (qbn aY bc) ?_
 exact eR aW (_, _, _, _)
 rw [lty w0, syntax_List_L0.eq_1] at aW
 refine cT ?_
 exact eM aW (_, _, _)
 rintro ⟨t0, aU, aV⟩ ⟨ba, _⟩ rfl j0
 exact eE hm

def Ja6 : List Str → Nat → (List Str) → Option ((List Str))
  | [], _, aU => some aU
  | e2 :: aW, i2, aU =>
    (JaK e2).bind fun aV =>
    (chk (aU.length + [aV].length ≤ lim)).bind fun _ =>
    Ja6 aW (i2 + 1) (aU ++ [aV])
def Jaw (n : Nat) : List Str → Nat → (List Str) → Option ((List Str))
  | [], _, ac => some ac
  | e0 :: aV, i0, ac =>
    (qcl n e0).bind fun aU =>
    if aU.2.isSome then
    Jaw n aV (i0 + 1) ac
    else
    (chk (aU.1.length ≤ qa3)).bind fun _ =>
    (Ja6 aU.1 0 ac).bind fun t2 =>
    Jaw n aV (i0 + 1) t2
def JaR (t0 : (List Str)) : List Jc → Nat → (List Jc) → Option ((List Jc))
  | [], _, aU => some aU
  | e4 :: aV, i4, aU =>
    (JaK e4.Name).bind fun aX =>
    (JE t0 aX).bind fun aW =>
    if (!aW) then
    (chk (aU.length + [e4].length ≤ lim)).bind fun _ =>
    JaR t0 aV (i4 + 1) (aU ++ [e4])
    else
    JaR t0 aV (i4 + 1) aU
def Jcq (n : Nat) (f : (List Jc)) : Option ((List Jc)) :=
  (JbS f ([99, 111, 110, 110, 101, 99, 116, 105, 111, 110] : Str)).bind fun aU =>
  (chk (aU.length ≤ qa3)).bind fun _ =>
  (Jaw n aU 0 ([([99, 111, 110, 110, 101, 99, 116, 105, 111, 110] : Str), ([107, 101, 101, 112, 45, 97, 108, 105, 118, 101] : Str), ([112, 114, 111, 120, 121, 45, 99, 111, 110, 110, 101, 99, 116, 105, 111, 110] : Str), ([112, 114, 111, 120, 121, 45, 97, 117, 116, 104, 101, 110, 116, 105, 99, 97, 116, 101] : Str), ([112, 114, 111, 120, 121, 45, 97, 117, 116, 104, 111, 114, 105, 122, 97, 116, 105, 111, 110] : Str), ([116, 101] : Str), ([116, 114, 97, 105, 108, 101, 114] : Str), ([116, 114, 97, 110, 115, 102, 101, 114, 45, 101, 110, 99, 111, 100, 105, 110, 103] : Str), ([117, 112, 103, 114, 97, 100, 101] : Str)])).bind fun t0 =>
  (chk (f.length ≤ qa3)).bind fun _ =>
  (JaR t0 f 0 []).bind fun t4 =>
  some t4
theorem Jdw {n : Nat} {f : (List Jc)} {aa : Option Addr} {ab : Nat} {n0 : Nat} {K : Hp} {r : (List Jc)}
    (hm : Jcq n f = some r) (hX : RdC Jc.enc K aa ab 2 f ∧ n0 = f.length) :
    Fn Tryz.prog 22 [.slice aa n0 ab] K [] (fun v K' H' => ∃ ar_0 : Option Addr, ∃ cr_0 : Nat, v = .slice ar_0 r.length cr_0 ∧ (0 < r.length → Has ar_0) ∧ H' = [qat Jc.enc ar_0 41 2 cr_0 r]) := by
 obtain ⟨ae, bR⟩ := hX
 subst bR
 refine Fn.enter Tryz.func22 Tryz.call22 rfl fun F => ?_
 unfold Jcq at hm
 refine bsO (len := 9) (enc := eS) (l := [([99, 111, 110, 110, 101, 99, 116, 105, 111, 110] : Str), ([107, 101, 101, 112, 45, 97, 108, 105, 118, 101] : Str), ([112, 114, 111, 120, 121, 45, 99, 111, 110, 110, 101, 99, 116, 105, 111, 110] : Str), ([112, 114, 111, 120, 121, 45, 97, 117, 116, 104, 101, 110, 116, 105, 99, 97, 116, 101] : Str), ([112, 114, 111, 120, 121, 45, 97, 117, 116, 104, 111, 114, 105, 122, 97, 116, 105, 111, 110] : Str), ([116, 101] : Str), ([116, 114, 97, 105, 108, 101, 114] : Str), ([116, 114, 97, 110, 115, 102, 101, 114, 45, 101, 110, 99, 111, 100, 105, 110, 103] : Str), ([117, 112, 103, 114, 97, 100, 101] : Str)]) (cl := [str ([99, 111, 110, 110, 101, 99, 116, 105, 111, 110] : Str), str ([107, 101, 101, 112, 45, 97, 108, 105, 118, 101] : Str), str ([112, 114, 111, 120, 121, 45, 99, 111, 110, 110, 101, 99, 116, 105, 111, 110] : Str), str ([112, 114, 111, 120, 121, 45, 97, 117, 116, 104, 101, 110, 116, 105, 99, 97, 116, 101] : Str), str ([112, 114, 111, 120, 121, 45, 97, 117, 116, 104, 111, 114, 105, 122, 97, 116, 105, 111, 110] : Str), str ([116, 101] : Str), str ([116, 114, 97, 105, 108, 101, 114] : Str), str ([116, 114, 97, 110, 115, 102, 101, 114, 45, 101, 110, 99, 111, 100, 105, 110, 103] : Str), str ([117, 112, 103, 114, 97, 100, 101] : Str)]) qbw rfl rfl (fun _ _ => rfl) rfl rfl rfl ?_ fun cm => ?_
 · conv => whnf
   refine cT (cT (cT (cT (cT (cT (cT (cT ?_)))))))
   refine cT ?_
   first | done | rfl
 refine cb hm fun bm bN hm => ckx (J9 bN :) ?_
 rintro _ _ _ ⟨br, bA, rfl, bf, rfl⟩
 refine ro (qak rfl ?_)
 obtain ⟨bH, hm⟩ := qaw hm
 obtain ⟨s0, a6, hm⟩ := bnd hm
 refine lD (σ := ((List Str)) × Option Addr × Nat) ([3,5,6,7,9] ++ rg 17 24) [0, 2] (fun i0 => [(17, .int .i64 (i0 : Int))]) (fun (t0, aU, aY) => [(3, .slice aU t0.length aY)]) (fun (t0, aU, aY) => [qat eS aU 9 1 aY t0]) (fun (t0, aU, aY) => (0 < t0.length → Has aU) ∧ True) (fun i0 (t0, aU, aY) => Jaw n (bm.drop i0) i0 t0 = some s0) (fun (t0, aU, aY) => t0 = s0) (fun i0 => bm.length - i0) 0 (_, _, _) a6 (And.intro qe (And.intro ?_ ?_))
 clear a6
 rintro i0 ⟨ac, bw, bo⟩ ⟨bl, _⟩ a6 j0
 conv at a6 => whnf
 refine qac rfl ?_
 refine qae ?_ ?_ <;> intro w0
 obtain ⟨e0, bd, bT⟩ := ltx w0
 rw [bT, Jaw.eq_2] at a6
 refine qal rfl ?_
 refine RStep.ofN (qad rfl rfl (qco bf bd) (nn _) (qd2 rfl bd) (ro (qbv (i := i0) (o := 0) r1 rfl bd rfl rfl ?_)))
 refine cb a6 fun bB bS a6 => ck0 (qgy bS :) ?_
 rintro _ _ _ ⟨bu, bn, rfl, bg, rfl⟩
 refine qa5 rfl ?_
 refine cs rfl rfl a6 ?_ ?_ <;> intro cj a6
 refine cT (qam (qbn bd bH) ?_)
 exact eR a6 (_, _, _, _)
 refine ro (qak rfl ?_)
 obtain ⟨bX, a6⟩ := qaw a6
 obtain ⟨s2, ba, a6⟩ := bnd a6
 refine lD (σ := ((List Str)) × Option Addr × Nat) ([3,9] ++ rg 30 10) [0, 2, 3] (fun i2 => [(30, .int .i64 (i2 : Int))]) (fun (t2, aV, aZ) => [(3, .slice aV t2.length aZ)]) (fun (t2, aV, aZ) => [qat eS aV 9 1 aZ t2]) (fun (t2, aV, aZ) => (0 < t2.length → Has aV) ∧ True) (fun i2 (t2, aV, aZ) => Ja6 (bB.1.drop i2) i2 t2 = some s2) (fun (t2, aV, aZ) => t2 = s2) (fun i2 => bB.1.length - i2) 0 (_, _, _) ba (And.intro qe (And.intro ?_ ?_))
 clear ba
 rintro i2 ⟨bZ, bG, bj⟩ ⟨bz, _⟩ ba j2
 conv at ba => whnf
 refine qac rfl ?_
 refine qae ?_ ?_ <;> intro w2
 obtain ⟨e2, bh, bM⟩ := ltx w2
 rw [bM, Ja6.eq_2] at ba
 refine qal rfl ?_
 refine RStep.ofN (qad rfl rfl (qco bg bh) (nn _) (qd2 rfl bh) (ro (qbv (i := i2) (o := 0) r1 rfl bh rfl rfl ?_)))
 refine cb ba fun bv ca ba => cg0 (JaO ca :) ?_
 refine bsO (len := 1) (enc := eS) (l := [bv]) (cl := [str bv]) qbw rfl rfl (fun _ _ => rfl) rfl rfl rfl ?_ fun cy => ?_
 · conv => whnf
   refine cT ?_
   first | done | rfl
 obtain ⟨bV, ba⟩ := qaw ba
 refine apE rfl r1 qbw (qay rfl r0 rfl (fun _ => rfl) (fun _ => rfl)) bV ?_
 intro cn cA cC
 refine qam (qbn bh bX) ?_
 exact eR ba (_, _, _, _)
 rw [lty w2, Ja6.eq_1] at ba
 refine cT ?_
 exact eM ba (_, _, _)
 rintro ⟨t2, aV, aZ⟩ ⟨bp, _⟩ rfl j2
 refine qam (qbn bd bH) ?_
 exact eR a6 (_, _, _, _)
 rw [lty w0, Jaw.eq_1] at a6
 refine cT ?_
 exact eM a6 (_, _, _)
 rintro ⟨t0, aU, aY⟩ ⟨bD, _⟩ rfl j0
 refine ro (qak rfl ?_)
 obtain ⟨bI, hm⟩ := qaw hm
 obtain ⟨s4, a8, hm⟩ := bnd hm
 refine qhg Jc.enc 41 2 ?_
 refine lD (σ := ((List Jc)) × Option Addr × Nat) ([10,12] ++ rg 43 15) [1, 2, 3] (fun i4 => [(43, .int .i64 (i4 : Int))]) (fun (t4, aW, aX) => [(10, .slice aW t4.length aX)]) (fun (t4, aW, aX) => [qat Jc.enc aW 41 2 aX t4]) (fun (t4, aW, aX) => (0 < t4.length → Has aW) ∧ True) (fun i4 (t4, aW, aX) => JaR t0 (f.drop i4) i4 t4 = some s4) (fun (t4, aW, aX) => t4 = s4) (fun i4 => f.length - i4) 0 (_, _, _) a8 (And.intro qe (And.intro ?_ ?_))
 clear a8
 rintro i4 ⟨bP, bL, bt⟩ ⟨bC, _⟩ a8 j4
 conv at a8 => whnf
 refine qac rfl ?_
 refine qae ?_ ?_ <;> intro w4
 obtain ⟨e4, bc, bU⟩ := ltx w4
 rw [bU, JaR.eq_2] at a8
 refine qal rfl ?_
 refine RStep.ofN (qad rfl rfl (qff ae.rd bc) (nn _) (qbl bc) (ro (qan i4 _ ae.rd rfl (mp bc) rfl ?_)))
 refine qaf rfl fun cB => ?_
 refine qaa r0 rfl ⟨rfl, rfl, (nl rfl), ?_⟩
 refine fa rfl (ro (ld r0 rfl rfl ?_))
 refine cb a8 fun bQ bW a8 => cg0 (JaO bW :) ?_
 refine cb a8 fun ce bY a8 => ck0 (Fn.lend Tryz.call53 (fun bF bK bb => (JP (v' := bQ) bY ⟨bb, rfl⟩)) (by exact fun _ _ _ _ h => h)) ?_
 rintro _ _ _ ⟨_, rfl, rfl, rfl⟩
 refine qau ?_
 refine cs rfl rfl a8 ?_ ?_ <;> intro co a8
 refine ro (qab r1 rfl (nl rfl) ?_)
 refine bsO (len := 1) (enc := Jc.enc) (l := [e4]) (cl := [str e4.Name, str e4.Value]) qf5 rfl rfl (fun _ _ => rfl) rfl rfl rfl ?_ fun cw => ?_
 · conv => whnf
   refine cT ?_
   first | done | rfl
 obtain ⟨bO, a8⟩ := qaw a8
 refine apE rfl r3 qf5 (qay rfl r0 rfl (fun _ => rfl) (fun _ => rfl)) bO ?_
 intro cz cr cu
 refine qam (qbn bc bI) ?_
 exact eR a8 (_, _, _, _)
 refine qam (qbn bc bI) ?_
 exact eR a8 (_, _, _, _)
 rw [lty w4, JaR.eq_1] at a8
 refine cT ?_
 exact eM a8 (_, _, _)
 rintro ⟨t4, aW, aX⟩ ⟨bJ, _⟩ rfl j4
 exact eE hm

def JaF (x9 : Str) : List Jc → Nat → (List Jc) → Option ((List Jc))
  | [], _, ac => some ac
  | e0 :: aU, i0, ac =>
    (JaK e0.Name).bind fun aV =>
    if decide (aV ≠ x9) then
    (chk (ac.length + [e0].length ≤ lim)).bind fun _ =>
    JaF x9 aU (i0 + 1) (ac ++ [e0])
    else
    JaF x9 aU (i0 + 1) ac
def JcS (f : (List Jc)) (name : Str) : Option ((List Jc)) :=
  (JaK name).bind fun x9 =>
  (chk (f.length ≤ qa3)).bind fun _ =>
  (JaF x9 f 0 []).bind fun t0 =>
  some t0
theorem Jex {f : (List Jc)} {name : Str} {aa : Option Addr} {ab : Nat} {n0 : Nat} {K : Hp} {r : (List Jc)}
    (hm : JcS f name = some r) (hX : RdC Jc.enc K aa ab 2 f ∧ n0 = f.length) :
    Fn Tryz.prog 72 [.slice aa n0 ab, str name] K [] (fun v K' H' => ∃ ar_0 : Option Addr, ∃ cr_0 : Nat, v = .slice ar_0 r.length cr_0 ∧ (0 < r.length → Has ar_0) ∧ H' = [qat Jc.enc ar_0 41 2 cr_0 r]) := by
 obtain ⟨ae, bd⟩ := hX
 subst bd
 refine Fn.enter Tryz.func72 Tryz.call72 rfl fun F => ?_
 unfold JcS at hm
 refine cb hm fun x9 q9 hm => cg0 (JaO q9 :) ?_
 refine ro (qak rfl ?_)
 obtain ⟨a6, hm⟩ := qaw hm
 obtain ⟨s0, aW, hm⟩ := bnd hm
 refine qhg Jc.enc 41 2 ?_
 refine lD (σ := ((List Jc)) × Option Addr × Nat) ([5,7] ++ rg 12 14) [1] (fun i0 => [(12, .int .i64 (i0 : Int))]) (fun (t0, aU, aV) => [(5, .slice aU t0.length aV)]) (fun (t0, aU, aV) => [qat Jc.enc aU 41 2 aV t0]) (fun (t0, aU, aV) => (0 < t0.length → Has aU) ∧ True) (fun i0 (t0, aU, aV) => JaF x9 (f.drop i0) i0 t0 = some s0) (fun (t0, aU, aV) => t0 = s0) (fun i0 => f.length - i0) 0 (_, _, _) aW (And.intro qe (And.intro ?_ ?_))
 clear aW
 rintro i0 ⟨ac, ba, a8⟩ ⟨aY, _⟩ aW j0
 conv at aW => whnf
 refine qac rfl ?_
 refine qae ?_ ?_ <;> intro w0
 obtain ⟨e0, aX, bf⟩ := ltx w0
 rw [bf, JaF.eq_2] at aW
 refine qal rfl ?_
 refine RStep.ofN (qad rfl rfl (qff ae.rd aX) (nn _) (qbl aX) (ro (qan i0 _ ae.rd rfl (mp aX) rfl ?_)))
 refine qaf rfl fun b7 => ?_
 refine qaa r0 rfl ⟨rfl, rfl, (nl rfl), ?_⟩
 refine fa rfl (ro (ld r0 rfl rfl ?_))
 refine cb aW fun bl bb aW => cg0 (JaO bb :) ?_
 refine qbk (cs rfl rfl aW ?_ ?_) <;> intro bh aW
 refine ro (qab r0 rfl (nl rfl) ?_)
 refine bsO (len := 1) (enc := Jc.enc) (l := [e0]) (cl := [str e0.Name, str e0.Value]) qf5 rfl rfl (fun _ _ => rfl) rfl rfl rfl ?_ fun bg => ?_
 · conv => whnf
   refine cT ?_
   first | done | rfl
 obtain ⟨bc, aW⟩ := qaw aW
 refine apE rfl r2 qf5 (qay rfl r0 rfl (fun _ => rfl) (fun _ => rfl)) bc ?_
 intro bm bn bj
 refine qam (qbn aX a6) ?_
 exact eR aW (_, _, _, _)
 refine qam (qbn aX a6) ?_
 exact eR aW (_, _, _, _)
 rw [lty w0, JaF.eq_1] at aW
 refine cT ?_
 exact eM aW (_, _, _)
 rintro ⟨t0, aU, aV⟩ ⟨aZ, _⟩ rfl j0
 exact eE hm

def qbh (x : Jc) : Option (Bool) :=
  (qcc x.Name).bind fun x5 =>
  (Jak x5 ([113, 117, 97, 121, 45] : Str)).bind fun x6 =>
  some x6
theorem qc2 {x : Jc} {K : Hp} {r : Bool}
    (hm : qbh x = some r)  :
    Fn Tryz.prog 74 [.agg #[str x.Name, str x.Value]] K [] (fun v K' H' => v = .bool r ∧ H' = []) := by
 refine Fn.enter Tryz.func74 Tryz.call74 rfl fun F => ?_
 unfold qbh at hm
 refine qar ?_
 intro b1
 refine fa rfl (ro (ld r0 rfl rfl ?_))
 refine cb hm fun x5 q5 hm => cg0 (qdx q5 :) ?_
 refine cb hm fun x6 q6 hm => cg0 (JaG q6 :) ?_
 exact eE hm

def Jw : List Jc → Nat → Option (Fl (Int) (Unit))
  | [], _ => some (Fl.go ())
  | e0 :: aU, i0 =>
    (qbh e0).bind fun aV =>
    if aV then
    some (Fl.ret (i0 : Int))
    else
    Jw aU (i0 + 1)
def JZ (s : (List Jc)) : Option (Int) :=
  (chk (s.length ≤ qa3)).bind fun _ =>
  (Jw s 0).bind fun s0 => s0.el some fun t0 =>
  some (-1)
theorem JbU {s : (List Jc)} {aa : Option Addr} {ab : Nat} {n0 : Nat} {K : Hp} {r : Int}
    (hm : JZ s = some r) (hX : RdC Jc.enc K aa ab 2 s ∧ n0 = s.length) :
    Fn Tryz.prog 127 [.slice aa n0 ab, .func (.func 74) #[] #[]] K [] (fun v K' H' => v = .int .i64 r ∧ H' = []) := by
 obtain ⟨ae, aW⟩ := hX
 subst aW
 refine Fn.enter Tryz.func127 Tryz.call127 rfl fun F => ?_
 unfold JZ at hm
 refine ro (qak rfl ?_)
 obtain ⟨aX, hm⟩ := qaw hm
 obtain ⟨s0, aU, hm⟩ := bnd hm
 refine lD (σ := (Unit)) ([4,5] ++ rg 8 11) [0] (fun i0 => [(8, .int .i64 (i0 : Int))]) (fun _ => []) (fun _ => []) (fun _ => True) (fun i0 _ => Jw (s.drop i0) i0 = some s0) (fun t0 => s0 = Fl.go t0) (fun i0 => s.length - i0) 0 () aU (And.intro qe (And.intro ?_ ?_))
 clear aU
 rintro i0 _ _ aU j0
 conv at aU => whnf
 refine qac rfl ?_
 refine qae ?_ ?_ <;> intro w0
 obtain ⟨e0, aV, aY⟩ := ltx w0
 rw [aY, Jw.eq_2] at aU
 refine qal rfl ?_
 refine RStep.ofN (qad rfl rfl (qff ae.rd aV) (nn _) (qbl aV) (ro (qan i0 _ ae.rd rfl (mp aV) rfl ?_)))
 refine cb aU fun a8 aZ aU => cg0 (qc2 aZ :) ?_
 refine cs rfl rfl aU ?_ ?_ <;> intro a6 aU
 exact eE (er aU hm)
 refine qam (qbn aV aX) ?_
 exact eR aU (_, ())
 rw [lty w0, Jw.eq_1] at aU
 refine cT ?_
 exact eM aU _
 rintro t0 _ rfl j0
 replace hm := elg hm
 exact eE hm

def Jt (s : (List Jc)) : Nat → Int → Int → (List Jc) → Option (Int × Int × (List Jc))
  | 0, _, _, _ => none
  | aW + 1, ac, aU, aV =>
    if decide (aU < (s.length : Int)) then
    (ix aV aU).bind fun aX =>
    (qbh aX).bind fun aY =>
    if (!aY) then
    (ix aV ac).bind fun aZ =>
    (chk (InI (ac + 1))).bind fun _ =>
    (chk (InI (aU + 1))).bind fun _ =>
    Jt s aW (ac + 1) (aU + 1) (aV.set ((ac).toNat) aX)
    else
    (chk (InI (aU + 1))).bind fun _ =>
    Jt s aW ac (aU + 1) aV
    else
    some (ac, aU, aV)
def JM (n : Nat) (s : (List Jc)) : Option ((List Jc)) :=
  (JZ s).bind fun aU =>
  if decide (aU = (-1)) then
  some s
  else
  (chk (InI (aU + 1))).bind fun _ =>
  (Jt s n aU (aU + 1) s).bind fun t0 =>
  (chk (0 ≤ t0.1 ∧ t0.1 ≤ (t0.2.2.length : Int) ∧ (t0.2.2.length : Int) ≤ (t0.2.2.length : Int))).bind fun _ =>
  (chk (0 ≤ (0 : Int) ∧ (0 : Int) ≤ t0.1 ∧ t0.1 ≤ ((SL.clr t0.2.2 (Int.toNat t0.1) (⟨([] : Str), ([] : Str)⟩ : Jc)).length : Int))).bind fun _ =>
  some (subL (SL.clr t0.2.2 (Int.toNat t0.1) (⟨([] : Str), ([] : Str)⟩ : Jc)) (0 : Int) t0.1)
theorem Jbv {n : Nat} {s : (List Jc)} {aa : Option Addr} {ab : Nat} {n0 : Nat} {K : Hp} {r : (List Jc)}
    (hm : JM n s = some r) (hX : (0 < s.length → Has aa) ∧ n0 = s.length) :
    Fn Tryz.prog 73 [.slice aa n0 ab, .func (.func 74) #[] #[]] K [qat Jc.enc aa 41 2 ab s] (fun v K' H' => ∃ ar_0 : Option Addr, ∃ cr_0 : Nat, v = .slice ar_0 r.length cr_0 ∧ (0 < r.length → Has ar_0) ∧ H' = [qat Jc.enc ar_0 41 2 cr_0 r]) := by
 obtain ⟨ae, bn⟩ := hX
 subst bn
 refine Fn.enter Tryz.func73 Tryz.call73 rfl fun F => ?_
 unfold JM at hm
 refine cb hm fun bu bp hm => ck0 (Fn.lend Tryz.call127 (fun bf bj aZ => (JbU bp ⟨aZ, rfl⟩)) (by exact fun _ _ _ _ h => h)) ?_
 rintro _ _ _ ⟨_, rfl, rfl, rfl⟩
 refine qag (cs rfl rfl hm ?_ ?_) <;> intro bv hm
 exact eE hm
 refine ci hm fun hm => ?_
 obtain ⟨s0, aU, hm⟩ := bnd hm
 refine lD (σ := (Int × Int × (List Jc))) ([5,6,7] ++ rg 16 20) [1] (fun _ => []) (fun t0 => [(5, .int .i64 t0.1), (6, .int .i64 t0.2.1)]) (fun t0 => [qat Jc.enc aa 41 2 ab t0.2.2]) (fun t0 => (0 < t0.2.2.length → Has aa) ∧ s.length = t0.2.2.length) (fun i0 t0 => Jt s i0 t0.1 t0.2.1 t0.2.2 = some s0) (fun t0 => t0 = s0) (fun i0 => i0) n (_, _, _) aU (And.intro qe (And.intro ?_ ?_))
 clear aU
 rintro i0 ⟨ac, aY, bb⟩ ⟨aW, aV⟩ aU j0
 dsimp only at aU ⊢
 cases i0 with
 | zero => rw [Jt.eq_1] at aU; cases aU
 | succ i0 =>
  rw [Jt.eq_2] at aU
  refine ro (qak rfl ?_)
  refine cs rfl rfl aU ?_ ?_ <;> intro bw aU
  refine qal rfl ?_
  obtain ⟨bl, bd, ba, aU⟩ := ixb aU
  refine RStep.ofN (qad rfl rfl (qco aW ba) bd (qax aV bd ba) (ro (qfg (i := (aY).toNat) r0 rfl ba rfl rfl ?_)))
  refine qaf rfl fun b7 => ?_
  refine qaa r0 rfl ⟨rfl, rfl, (nl rfl), ?_⟩
  refine ro (qab r0 rfl (nl rfl) ?_)
  refine cb aU fun bt bo aU => cg0 (qc2 bo :) ?_
  refine qau ?_
  refine cs rfl rfl aU ?_ ?_ <;> intro br aU
  refine ro (qab r0 rfl (nl rfl) ?_)
  obtain ⟨bm, bg, bc, aU⟩ := ixb aU
  refine RStep.ofN (qad rfl rfl (qco aW bc) bg (qax aV bg bc) ?_)
  refine qex (o := 0) (y := bl) bm r1 rfl bc rfl (by (conv => whnf); exact ⟨rfl, rfl, (nl rfl), rfl, rfl, rfl⟩) ?_
  refine ci aU fun aU => ?_
  refine ci aU fun aU => ?_
  exact rd (i0, ((ac + 1), (aY + 1), (bb.set ((ac).toNat) bl))) ⟨rfl, rfl, trivial⟩ rfl (sc [0,1] rfl) lr (Nat.lt_succ_self _) ⟨⟨(by first | simpa using aW | exact fun _ => ⟨_, _, rfl⟩), ((aV).trans List.length_set.symm)⟩, aU⟩
  refine ci aU fun aU => ?_
  exact eR aU (_, (_, _, _))
  refine cT ?_
  exact eM aU _
 rintro t0 ⟨a6, aX⟩ rfl j0
 obtain ⟨a8, hm⟩ := qaw hm
 refine qp4 (l := t0.2.2) (lo := (some t0.1)) (hi := none) aX r0 (by simp) rfl rfl a8 ?_
 refine qra (lo := (Int.toNat t0.1)) (x := (⟨([] : Str), ([] : Str)⟩ : Jc)) r0 rfl rfl rfl rfl rfl (by decide) (qr9 (css := t0.2.2) rfl a8) (qq2 (css := t0.2.2) rfl a8) ?_
 obtain ⟨bh, hm⟩ := qaw hm
 refine qnm (l := (SL.clr t0.2.2 (Int.toNat t0.1) (⟨([] : Str), ([] : Str)⟩ : Jc))) (hi := (some t0.1)) ((aX).trans (qp5 a8).symm) r0 (by simp) rfl rfl bh ?_
 obtain rfl := si hm
 refine tkE t0.1 r0 ?_
 exact en lr ⟨aa, ab, rfl, (fun h => (fun h => a6 (qp6 h)) (qgo bh h)), rfl⟩ (pf rfl)

def tenant_upstream_L0 : Nat → Nat → (List Jc) → Option ((List Jc))
  | 0, _, ac => some ac
  | aV + 1, i0, ac =>
    (ix ([([104, 111, 115, 116] : Str), ([114, 97, 110, 103, 101] : Str), ([105, 102, 45, 114, 97, 110, 103, 101] : Str), ([105, 102, 45, 109, 97, 116, 99, 104] : Str), ([105, 102, 45, 110, 111, 110, 101, 45, 109, 97, 116, 99, 104] : Str), ([105, 102, 45, 109, 111, 100, 105, 102, 105, 101, 100, 45, 115, 105, 110, 99, 101] : Str), ([105, 102, 45, 117, 110, 109, 111, 100, 105, 102, 105, 101, 100, 45, 115, 105, 110, 99, 101] : Str)]) (i0 : Int)).bind fun aW =>
    (JcS ac aW).bind fun aU =>
    tenant_upstream_L0 aV (i0 + 1) aU
def tenant_upstream_L2 : List Jc → Nat → (List Jc) → Option ((List Jc))
  | [], _, aU => some aU
  | e2 :: aV, i2, aU =>
    (Jdh aU e2.Name e2.Value).bind fun aW =>
    tenant_upstream_L2 aV (i2 + 1) aW
def qby (n : Nat) (f : (List Jc)) (headers : (List Jc)) : Option ((List Jc)) :=
  (Jcq n f).bind fun aV =>
  (chk (InI (7 : Int))).bind fun _ =>
  (tenant_upstream_L0 (7 : Int).toNat 0 aV).bind fun t0 =>
  (JM n t0).bind fun aU =>
  (chk (headers.length ≤ qa3)).bind fun _ =>
  (tenant_upstream_L2 headers 0 aU).bind fun t2 =>
  some t2
theorem qek {n : Nat} {f : (List Jc)} {headers : (List Jc)} {aa : Option Addr} {ab : Nat} {n0 : Nat} {af : Option Addr} {ag : Nat} {n1 : Nat} {K : Hp} {r : (List Jc)}
    (hm : qby n f headers = some r) (hX : RdC Jc.enc K aa ab 2 f ∧ n0 = f.length ∧ RdC Jc.enc K af ag 2 headers ∧ n1 = headers.length) :
    Fn Tryz.prog 41 [.slice aa n0 ab, .slice af n1 ag] K [] (fun v K' H' => ∃ ar_0 : Option Addr, ∃ cr_0 : Nat, v = .slice ar_0 r.length cr_0 ∧ (0 < r.length → Has ar_0) ∧ H' = [qat Jc.enc ar_0 41 2 cr_0 r]) := by
 obtain ⟨ae, bM, ah, bT⟩ := hX
 subst bM
 subst bT
 refine Fn.enter Tryz.func41 Tryz.call41 rfl fun F => ?_
 unfold qby at hm
 refine cb hm fun bW bQ hm => ckx (Jdw bQ :) ?_
 rintro _ _ _ ⟨bd, bg, rfl, bD, rfl⟩
 refine bsO (len := 7) (enc := eS) (l := [([104, 111, 115, 116] : Str), ([114, 97, 110, 103, 101] : Str), ([105, 102, 45, 114, 97, 110, 103, 101] : Str), ([105, 102, 45, 109, 97, 116, 99, 104] : Str), ([105, 102, 45, 110, 111, 110, 101, 45, 109, 97, 116, 99, 104] : Str), ([105, 102, 45, 109, 111, 100, 105, 102, 105, 101, 100, 45, 115, 105, 110, 99, 101] : Str), ([105, 102, 45, 117, 110, 109, 111, 100, 105, 102, 105, 101, 100, 45, 115, 105, 110, 99, 101] : Str)]) (cl := [str ([104, 111, 115, 116] : Str), str ([114, 97, 110, 103, 101] : Str), str ([105, 102, 45, 114, 97, 110, 103, 101] : Str), str ([105, 102, 45, 109, 97, 116, 99, 104] : Str), str ([105, 102, 45, 110, 111, 110, 101, 45, 109, 97, 116, 99, 104] : Str), str ([105, 102, 45, 109, 111, 100, 105, 102, 105, 101, 100, 45, 115, 105, 110, 99, 101] : Str), str ([105, 102, 45, 117, 110, 109, 111, 100, 105, 102, 105, 101, 100, 45, 115, 105, 110, 99, 101] : Str)]) qbw rfl rfl (fun _ _ => rfl) rfl rfl rfl ?_ fun bY => ?_
 · conv => whnf
   refine cT (cT (cT (cT (cT (cT (cT ?_))))))
   first | done | rfl
 refine ro (qak rfl ?_)
 obtain ⟨bP, hm⟩ := qaw hm
 obtain ⟨s0, aY, hm⟩ := bnd hm
 refine lD (σ := ((List Jc)) × Option Addr × Nat) ([5,7] ++ rg 14 8) [0, 2] (fun i0 => [(14, .int .i64 (i0 : Int))]) (fun (t0, aU, aW) => [(5, .slice aU t0.length aW)]) (fun (t0, aU, aW) => [qat Jc.enc aU 41 2 aW t0]) (fun (t0, aU, aW) => (0 < t0.length → Has aU) ∧ True) (fun i0 (t0, aU, aW) => tenant_upstream_L0 ((7 : Int).toNat - i0) i0 t0 = some s0) (fun (t0, aU, aW) => t0 = s0) (fun i0 => (7 : Int).toNat - i0) 0 (_, _, _) aY (And.intro qe (And.intro ?_ ?_))
 clear aY
 rintro i0 ⟨ac, bo, bj⟩ ⟨bf, _⟩ aY j0
 conv at aY => whnf
 refine qac rfl ?_
 refine qae ?_ ?_ <;> intro w0
 rw [ltn (n := (7 : Int)) w0, tenant_upstream_L0.eq_2] at aY
 refine qal rfl ?_
 obtain ⟨bR, bz, bb, aY⟩ := ixb aY
 refine RStep.ofN (qad rfl rfl (qco (fun _ => ⟨_, _, rfl⟩) bb) bz (qax rfl bz bb) (ro (qbv (i := ((i0 : Int)).toNat) (o := 0) r1 rfl bb rfl rfl ?_)))
 refine cb aY fun bX bK aY => ck0 (Fn.lend Tryz.call72 (fun bH bI a8 => (Jex (name := bR) bK ⟨a8, rfl⟩)) (by exact fun _ _ _ _ h => h)) ?_
 rintro _ _ _ ⟨_, rfl, bu, bA, rfl, bG, rfl⟩
 refine qam (qij w0 bP) ?_
 exact eR aY (_, _, _, _)
 rw [lto (n := (7 : Int)) w0, tenant_upstream_L0.eq_1] at aY
 refine cT ?_
 exact eM aY (_, _, _)
 rintro ⟨t0, aU, aW⟩ ⟨bv, _⟩ rfl j0
 refine cb hm fun bV bN hm => ckx (Jbv bN :) ?_
 rintro _ _ _ ⟨bm, bh, rfl, bF, rfl⟩
 refine ro (qak rfl ?_)
 obtain ⟨bO, hm⟩ := qaw hm
 obtain ⟨s2, aZ, hm⟩ := bnd hm
 refine lD (σ := ((List Jc)) × Option Addr × Nat) ([5,9] ++ rg 26 11) [1, 2] (fun i2 => [(26, .int .i64 (i2 : Int))]) (fun (t2, aV, aX) => [(5, .slice aV t2.length aX)]) (fun (t2, aV, aX) => [qat Jc.enc aV 41 2 aX t2]) (fun (t2, aV, aX) => (0 < t2.length → Has aV) ∧ True) (fun i2 (t2, aV, aX) => tenant_upstream_L2 (headers.drop i2) i2 t2 = some s2) (fun (t2, aV, aX) => t2 = s2) (fun i2 => headers.length - i2) 0 (_, _, _) aZ (And.intro qe (And.intro ?_ ?_))
 clear aZ
 rintro i2 ⟨bS, bw, bc⟩ ⟨bp, _⟩ aZ j2
 conv at aZ => whnf
 refine qac rfl ?_
 refine qae ?_ ?_ <;> intro w2
 obtain ⟨e2, ba, bJ⟩ := ltx w2
 rw [bJ, tenant_upstream_L2.eq_2] at aZ
 refine qal rfl ?_
 refine RStep.ofN (qad rfl rfl (qff ah.rd ba) (nn _) (qbl ba) (ro (qan i2 _ ah.rd rfl (mp ba) rfl ?_)))
 refine qaf rfl fun b9 => ?_
 refine qaa r0 rfl ⟨rfl, rfl, (nl rfl), ?_⟩
 refine fa rfl (ro (ld r0 rfl rfl (fa rfl (ro (ld r0 rfl rfl ?_)))))
 refine cb aZ fun bU bL aZ => ck0 (Fn.lend Tryz.call21 (fun bC br a6 => (JdX (name := e2.Name) (value := e2.Value) bL ⟨a6, rfl⟩)) (by exact fun _ _ _ _ h => h)) ?_
 rintro _ _ _ ⟨_, rfl, bB, bt, rfl, bn, rfl⟩
 refine qam (qbn ba bO) ?_
 exact eR aZ (_, _, _, _)
 rw [lty w2, tenant_upstream_L2.eq_1] at aZ
 refine cT ?_
 exact eM aZ (_, _, _)
 rintro ⟨t2, aV, aX⟩ ⟨bl, _⟩ rfl j2
 exact eE hm

def tags_good_L0 : List UInt8 → Nat → Option (Fl (Bool) (Unit))
  | [], _ => some (Fl.go ())
  | e0 :: aU, i0 =>
    (if decide ((e0.toNat : Int) < 33) then some true else some (decide ((e0.toNat : Int) > 126))).bind fun aV =>
    if aV then
    some (Fl.ret false)
    else
    tags_good_L0 aU (i0 + 1)
def qga (s : Str) : Option (Bool) :=
  if (decide ((s.length : Int) < 1) || decide ((s.length : Int) > 32)) then
  some false
  else
  (chk (s.length ≤ qa3)).bind fun _ =>
  (tags_good_L0 s 0).bind fun s0 => s0.el some fun t0 =>
  some true
theorem qil {s : Str} {K : Hp} {r : Bool}
    (hm : qga s = some r)  :
    Fn Tryz.prog 129 [str s] K [] (fun v K' H' => v = .bool r ∧ H' = []) := by
 refine Fn.enter Tryz.func129 Tryz.call129 rfl fun F => ?_
 unfold qga at hm
 refine jR (σ := Unit) (rg 4 8) (fun _ => [(11, .bool (decide ((s.length : Int) < 1) || decide ((s.length : Int) > 32)))]) (fun a6 => True) ?_ ?_
 refine qaj rfl ?_
 refine ro (qa0 rfl ?_)
 refine qae ?_ ?_ <;> intro aW
 refine ct aW (ct aW (ct aW ?_))
 exact eMt () ⟨bq (((qcn aW)).symm), trivial⟩
 refine cf aW (ro (qa0 rfl (cf aW (cf aW ?_))))
 exact eMt () ⟨bq (qg2 (b := decide ((s.length : Int) > 32)) aW), trivial⟩
 rintro _ _ bb
 refine cs rfl rfl hm ?_ ?_ <;> intro bc hm
 exact eE hm
 refine ro (qa0 rfl ?_)
 obtain ⟨a8, hm⟩ := qaw hm
 obtain ⟨s0, aV, hm⟩ := bnd hm
 refine lD (σ := (Unit)) ([2,3] ++ rg 14 14) [0] (fun i0 => [(14, .int .i64 (i0 : Int))]) (fun _ => []) (fun _ => []) (fun _ => True) (fun i0 _ => tags_good_L0 (s.drop i0) i0 = some s0) (fun t0 => s0 = Fl.go t0) (fun i0 => s.length - i0) 0 () aV (And.intro qe (And.intro ?_ ?_))
 clear aV
 rintro i0 _ _ aV j0
 conv at aV => whnf
 refine qac rfl ?_
 refine qae ?_ ?_ <;> intro w0
 obtain ⟨e0, aY, ba⟩ := ltx w0
 rw [ba, tags_good_L0.eq_2] at aV
 refine qal rfl ?_
 refine qaj rfl ?_
 refine qaz rfl (nn _) aY ?_
 obtain ⟨bd, aX, aV⟩ := bnd aV
 refine cS aX (fun aU aX => ?_) fun aU aX => ?_
 refine ct aU (ct aU (ct aU (ct aU (qac rfl (cT ?_)))))
 replace aV := ift (si aX).symm aV
 exact eE (er aV hm)
 refine cf aU (cf aU (qaz rfl (nn _) aY (cf aU (cf aU (qac rfl ?_)))))
 refine qae ?_ ?_ <;> intro aZ
 replace aV := ift ((si aX).symm.trans aZ) aV
 exact eE (er aV hm)
 replace aV := qa9 ((si aX).symm.trans aZ) aV
 refine qam (qbn aY a8) ?_
 exact eR aV (_, ())
 rw [lty w0, tags_good_L0.eq_1] at aV
 refine cT ?_
 exact eM aV _
 rintro t0 _ rfl j0
 replace hm := elg hm
 exact eE hm

def tags_Clean_L2 (s : Str) : Nat → Int → Option (Int)
  | 0, _ => none
  | aW + 1, aU =>
    (if decide (aU < (s.length : Int)) then (ix s aU).bind fun aY =>
    some (decide ((aY.toNat : Int) ≠ 32)) else some false).bind fun aX =>
    (if aX then (ix s aU).bind fun aV =>
    some (decide ((aV.toNat : Int) ≠ 9)) else some false).bind fun ao =>
    if ao then
    (chk (InI (aU + 1))).bind fun _ =>
    tags_Clean_L2 s aW (aU + 1)
    else
    some aU
def tags_Clean_L0 (s : Str) (n : Nat) : Nat → (List Str) → Int → Option (Fl ((List Str) × Err) ((List Str) × Int))
  | 0, _, _ => none
  | aV + 1, ac, aU =>
    if decide (aU < (s.length : Int)) then
    (((ix s aU).bind fun a6 =>
    (if decide ((a6.toNat : Int) = 32) then some true else (ix s aU).bind fun aY =>
    some (decide ((aY.toNat : Int) = 9))).bind fun aZ =>
    some aZ) : Option (Bool)).bind fun aW =>
    if aW then
    (chk (InI (aU + 1))).bind fun _ =>
    tags_Clean_L0 s n aV ac (aU + 1)
    else
    (tags_Clean_L2 s n aU).bind fun t2 =>
    (chk (0 ≤ aU ∧ aU ≤ t2 ∧ t2 ≤ (s.length : Int))).bind fun _ =>
    (qga (subL s aU t2)).bind fun a8 =>
    if (!a8) then
    some (Fl.ret ([], (some 2)))
    else
    (if decide ((ac.length : Int) < 16) then (JE ac (subL s aU t2)).bind fun aX =>
    some (!aX) else some false).bind fun ba =>
    if ba then
    (chk (ac.length + [(subL s aU t2)].length ≤ lim)).bind fun _ =>
    tags_Clean_L0 s n aV (ac ++ [(subL s aU t2)]) t2
    else
    tags_Clean_L0 s n aV ac t2
    else
    some (Fl.go (ac, aU))
def qfa (n : Nat) (s : Str) : Option ((List Str) × Err) :=
  (tags_Clean_L0 s n n [] 0).bind fun s0 => s0.el some fun t0 =>
  (qft t0.1).bind fun aU =>
  some (aU, none)
theorem qht {n : Nat} {s : Str} {K : Hp} {r : (List Str) × Err}
    (hm : qfa n s = some r)  :
    Fn Tryz.prog 76 [str s] K [] (fun v K' H' => ∃ ar_0 : Option Addr, ∃ cr_0 : Nat, v = .tuple #[.slice ar_0 r.1.length cr_0, qcp 48 r.2] ∧ (0 < r.1.length → Has ar_0) ∧ H' = [qat eS ar_0 9 1 cr_0 r.1]) := by
 refine Fn.enter Tryz.func76 Tryz.call76 rfl fun F => ?_
 unfold qfa at hm
 obtain ⟨s0, aU, hm⟩ := bnd hm
 refine qhg eS 9 1 ?_
 refine lD (σ := ((List Str) × Int) × Option Addr × Nat) (rg 2 63) [1] (fun _ => []) (fun (t0, aX, a8) => [(4, .slice aX t0.1.length a8), (5, .int .i64 t0.2)]) (fun (t0, aX, a8) => [qat eS aX 9 1 a8 t0.1]) (fun (t0, aX, a8) => (0 < t0.1.length → Has aX) ∧ True) (fun i0 (t0, aX, a8) => tags_Clean_L0 s n i0 t0.1 t0.2 = some s0) (fun (t0, aX, a8) => s0 = Fl.go t0) (fun i0 => i0) n ((_, _), _, _) aU (And.intro qe (And.intro ?_ ?_))
 clear aU
 rintro i0 ⟨⟨ac, bc⟩, bu, bp⟩ ⟨bo, _⟩ aU j0
 dsimp only at aU ⊢
 cases i0 with
 | zero => rw [tags_Clean_L0.eq_1] at aU; cases aU
 | succ i0 =>
  rw [tags_Clean_L0.eq_2] at aU
  refine ro (qa0 rfl ?_)
  refine cs rfl rfl aU ?_ ?_ <;> intro bP aU
  refine qal rfl ?_
  obtain ⟨bn, ba, aU⟩ := bnd aU
  refine jR (σ := Bool) (rg 12 10) (fun bd => [(21, .bool bd)]) (fun bd => bd = bn) ?_ ?_
  refine qaj rfl ?_
  obtain ⟨cj, bz, bJ, ba⟩ := ixb ba
  refine qaz rfl bz bJ (qag ?_)
  obtain ⟨bV, bh, ba⟩ := bnd ba
  refine cS bh (fun aZ bh => ?_) fun aZ bh => ?_
  refine ct aZ (ct aZ (ct aZ (ct aZ ?_)))
  exact eMq ba _ ⟨bq (si bh), trivial⟩
  refine cf aZ (cf aZ ?_)
  obtain ⟨bZ, bA, bK, bh⟩ := ixb bh
  refine qaz rfl bA bK (cf aZ (qag (cf aZ ?_)))
  exact eMq ba _ ⟨bq (si bh), trivial⟩
  rintro bd rfl bF
  refine cs rfl rfl aU ?_ ?_ <;> intro bU aU
  obtain ⟨bG, aU⟩ := qaw aU
  refine qam bG (cT ?_)
  exact eR aU (_, (_, _), _, _)
  obtain ⟨s2, a6, aU⟩ := bnd aU
  refine lD (σ := (Int)) ([6] ++ rg 25 18) [0, 1] (fun _ => []) (fun t2 => [(6, .int .i64 t2)]) (fun _ => []) (fun _ => True) (fun i2 t2 => tags_Clean_L2 s i2 t2 = some s2) (fun t2 => t2 = s2) (fun i2 => i2) n _ a6 (And.intro qe (And.intro ?_ ?_))
  clear a6
  rintro i2 bO _ a6 j2
  conv at a6 => whnf
  cases i2 with
  | zero => rw [tags_Clean_L2.eq_1] at a6; cases a6
  | succ i2 =>
   rw [tags_Clean_L2.eq_2] at a6
   refine qaj rfl ?_
   refine ro (qa0 rfl ?_)
   obtain ⟨bR, bf, a6⟩ := bnd a6
   refine cS bf (fun aY bf => ?_) fun aY bf => ?_
   refine ct aY (ct aY ?_)
   obtain ⟨ce, bI, bN, bf⟩ := ixb bf
   refine qaz rfl bI bN (ct aY (qa8 (ct aY ?_)))
   obtain ⟨ao, bb, a6⟩ := bnd a6
   refine qae ?_ ?_ <;> intro aW
   replace bb := ift ((si bf).symm.trans aW) bb
   refine ct aW (ct aW ?_)
   obtain ⟨bW, bD, bB, bb⟩ := ixb bb
   refine qaz rfl bD bB (ct aW (qa8 (ct aW (qac rfl ?_))))
   refine qae ?_ ?_ <;> intro bv
   replace a6 := ift ((si bb).symm.trans bv) a6
   refine qal rfl ?_
   refine ci a6 fun a6 => ?_
   exact eR a6 (_, _)
   replace a6 := qa9 ((si bb).symm.trans bv) a6
   refine cT ?_
   exact eM a6 _
   replace bb := qa9 ((si bf).symm.trans aW) bb
   refine cf aW (cf aW (cf aW (cf aW (qac rfl (cF ?_)))))
   replace a6 := qa9 (si bb).symm a6
   refine cT ?_
   exact eM a6 _
   refine cf aY (cf aY (cf aY (cf aY ?_)))
   obtain ⟨ao, bb, a6⟩ := bnd a6
   replace bb := qa9 (si bf).symm bb
   refine cF (cF (cF (cF (cF (qac rfl (cF ?_))))))
   replace a6 := qa9 (si bb).symm a6
   refine cT ?_
   exact eM a6 _
  rintro t2 _ rfl j2
  obtain ⟨bM, aU⟩ := qaw aU
  refine RStep.ofN (qdp (lo := (some bc)) (hi := (some t2)) rfl bM ?_)
  refine cb aU fun cm bL aU => cg0 (qil bL :) ?_
  refine qau ?_
  refine cs rfl rfl aU ?_ ?_ <;> intro bX aU
  refine qas rfl ?_
  refine qci eS 9 1 ?_
  exact eE (er aU hm)
  refine qaj rfl ?_
  refine ro (qak rfl ?_)
  obtain ⟨bQ, bg, aU⟩ := bnd aU
  refine cS bg (fun aV bg => ?_) fun aV bg => ?_
  refine ct aV (ct aV ?_)
  refine cb bg fun bT bH bg => ck0 (Fn.lend Tryz.call53 (fun bt br bl => (JP (v' := (subL s bc t2)) bH ⟨bl, rfl⟩)) (by exact fun _ _ _ _ h => h)) ?_
  rintro _ _ _ ⟨_, rfl, rfl, rfl⟩
  refine ct aV (qau (ct aV (qac rfl ?_)))
  refine qae ?_ ?_ <;> intro bw
  replace aU := ift ((si bg).symm.trans (qdw (qik bw))) aU
  refine bsO (len := 1) (enc := eS) (l := [(subL s bc t2)]) (cl := [str (subL s bc t2)]) qbw rfl rfl (fun _ _ => rfl) rfl rfl rfl ?_ fun bY => ?_
  · conv => whnf
    refine cT ?_
    first | done | rfl
  obtain ⟨bC, aU⟩ := qaw aU
  refine apE rfl r1 qbw (qay rfl r0 rfl (fun _ => rfl) (fun _ => rfl)) bC ?_
  intro bS co cn
  exact eR aU (_, (_, _), _, _)
  replace aU := qa9 ((si bg).symm.trans (qc0 (qgn bw))) aU
  exact eR aU (_, (_, _), _, _)
  refine cf aV (cf aV (cf aV (cf aV (qac rfl (cF ?_)))))
  replace aU := qa9 (si bg).symm aU
  exact eR aU (_, (_, _), _, _)
  refine cT ?_
  exact eM aU (_, _, _)
 rintro ⟨t0, aX, a8⟩ ⟨bj, _⟩ rfl j0
 replace hm := elg hm
 refine cb hm fun ca bm hm => cg0 (qdj bm rfl) ?_
 cases hm
 exact en lr ⟨aX, a8, (by rw [← (show _ = t0.1.length from Eq.symm ((Eq.trans (rfl) (qb3 bm).symm)))] <;> rfl), (fun h => bj (by rw [qb3 bm] at h; exact h)), rfl⟩ (pf rfl)

def tenant_words_L0 (n : Nat) : List Str → Nat → (List Str) → Option ((List Str))
  | [], _, ac => some ac
  | e0 :: aW, i0, ac =>
    (qfa n e0).bind fun aU =>
    (((if (aU.2.isNone && decide ((aU.1.length : Int) = 1)) then (ix aU.1 0).bind fun a6 =>
    some (decide (a6 = e0)) else some false).bind fun aX =>
    (if (aX && decide ((ac.length : Int) < 16)) then (JE ac e0).bind fun aZ =>
    some (!aZ) else some false).bind fun aY =>
    some aY) : Option (Bool)).bind fun aV =>
    if aV then
    (chk (ac.length + [e0].length ≤ lim)).bind fun _ =>
    tenant_words_L0 n aW (i0 + 1) (ac ++ [e0])
    else
    tenant_words_L0 n aW (i0 + 1) ac
def qdb (n : Nat) (list : (List Str)) : Option ((List Str)) :=
  (chk (list.length ≤ qa3)).bind fun _ =>
  (tenant_words_L0 n list 0 []).bind fun t0 =>
  (qft t0).bind fun aU =>
  some aU
theorem qgb {n : Nat} {list : (List Str)} {aa : Option Addr} {ab : Nat} {n0 : Nat} {K : Hp} {r : (List Str)}
    (hm : qdb n list = some r) (hX : RdC eS K aa ab 1 list ∧ n0 = list.length) :
    Fn Tryz.prog 43 [.slice aa n0 ab] K [] (fun v K' H' => ∃ ar_0 : Option Addr, ∃ cr_0 : Nat, v = .slice ar_0 r.length cr_0 ∧ (0 < r.length → Has ar_0) ∧ H' = [qat eS ar_0 9 1 cr_0 r]) := by
 obtain ⟨ae, bF⟩ := hX
 subst bF
 refine Fn.enter Tryz.func43 Tryz.call43 rfl fun F => ?_
 unfold qdb at hm
 refine ro (qak rfl ?_)
 obtain ⟨br, hm⟩ := qaw hm
 obtain ⟨s0, ba, hm⟩ := bnd hm
 refine qhg eS 9 1 ?_
 refine lD (σ := ((List Str)) × Option Addr × Nat) ([3,5,6,7] ++ rg 10 39) [1] (fun i0 => [(10, .int .i64 (i0 : Int))]) (fun (t0, aZ, a6) => [(3, .slice aZ t0.length a6)]) (fun (t0, aZ, a6) => [qat eS aZ 9 1 a6 t0]) (fun (t0, aZ, a6) => (0 < t0.length → Has aZ) ∧ True) (fun i0 (t0, aZ, a6) => tenant_words_L0 n (list.drop i0) i0 t0 = some s0) (fun (t0, aZ, a6) => t0 = s0) (fun i0 => list.length - i0) 0 (_, _, _) ba (And.intro qe (And.intro ?_ ?_))
 clear ba
 rintro i0 ⟨ac, bw, bu⟩ ⟨bo, _⟩ ba j0
 conv at ba => whnf
 refine qac rfl ?_
 refine qae ?_ ?_ <;> intro w0
 obtain ⟨e0, bg, bG⟩ := ltx w0
 rw [bG, tenant_words_L0.eq_2] at ba
 refine qal rfl ?_
 refine RStep.ofN (qad rfl rfl (qff ae.rd bg) (nn _) (qbl bg) (ro (qcx i0 0 _ _ ae.rd rfl (mp bg) rfl rfl ?_)))
 refine cb ba fun bR bI ba => ck0 (qht bI :) ?_
 rintro _ _ _ ⟨bp, bt, rfl, bh, rfl⟩
 obtain ⟨bl, aU, ba⟩ := bnd ba
 refine jR (σ := Bool) (rg 19 25) (fun bc => [(43, .bool bc)]) (fun bc => bc = bl) ?_ ?_
 refine qaj rfl ?_
 refine qd1 rfl ?_
 refine qae ?_ ?_ <;> intro aX
 refine ct aX (ro (qak rfl (ct aX (qag (ct aX ?_)))))
 obtain ⟨bC, bb, aU⟩ := bnd aU
 refine qae ?_ ?_ <;> intro aV
 replace bb := ift (qcy aX aV) bb
 refine ct aV ?_
 obtain ⟨bM, bA, bj, bb⟩ := ixb bb
 refine RStep.ofN (qad rfl rfl (qco bh bj) bA (qax rfl bA bj) (ct aV (ro (qbv (i := (0 : Int).toNat) (o := 0) r0 rfl bj rfl rfl (ct aV (ct aV (qaq (ct aV ?_))))))))
 refine qae ?_ ?_ <;> intro aY
 refine ct aY (ro (qak rfl (ct aY (ct aY ?_))))
 obtain ⟨bn, a8, aU⟩ := bnd aU
 refine qae ?_ ?_ <;> intro aW
 replace a8 := ift (qcy ((si bb).symm.trans aY) aW) a8
 refine ct aW (ct aW ?_)
 refine cb a8 fun bO bB a8 => ck0 (Fn.lend Tryz.call53 (fun bv bz bf => (JP (v' := e0) bB ⟨bf, rfl⟩)) (by exact fun _ _ _ _ h => h)) ?_
 rintro _ _ _ ⟨_, rfl, rfl, rfl⟩
 refine ct aW (qau (ct aW ?_))
 exact eMq aU _ ⟨bq (si a8), trivial⟩
 replace a8 := qa9 (qcz ((si bb).symm.trans aY) aW) a8
 refine cf aW (cf aW (cf aW (cf aW ?_)))
 exact eMq aU _ ⟨bq (si a8), trivial⟩
 refine cf aY (cf aY (cf aY ?_))
 obtain ⟨bn, a8, aU⟩ := bnd aU
 replace a8 := qa9 (qbc ((si bb).symm.trans aY)) a8
 refine cF (cF (cF (cF (cF ?_))))
 exact eMq aU _ ⟨bq (si a8), trivial⟩
 replace bb := qa9 (qcz aX aV) bb
 refine cf aV (cf aV (cf aV (cf aV (cf aV (cF (cF (cF ?_)))))))
 refine cF ?_
 obtain ⟨bn, a8, aU⟩ := bnd aU
 replace a8 := qa9 (qbc (si bb).symm) a8
 refine cF (cF (cF (cF (cF ?_))))
 exact eMq aU _ ⟨bq (si a8), trivial⟩
 refine cf aX (cf aX (cf aX ?_))
 obtain ⟨bC, bb, aU⟩ := bnd aU
 replace bb := qa9 (qbc aX) bb
 refine cF (cF (cF (cF (cF (cF (cF (cF ?_)))))))
 refine cF (cF ?_)
 obtain ⟨bn, a8, aU⟩ := bnd aU
 replace a8 := qa9 (qbc (si bb).symm) a8
 refine cF (cF (cF (cF (cF ?_))))
 exact eMq aU _ ⟨bq (si a8), trivial⟩
 rintro bc rfl bH
 refine cs rfl rfl ba ?_ ?_ <;> intro bJ ba
 refine bsO (len := 1) (enc := eS) (l := [e0]) (cl := [str e0]) qbw rfl rfl (fun _ _ => rfl) rfl rfl rfl ?_ fun bP => ?_
 · conv => whnf
   refine cT ?_
   first | done | rfl
 obtain ⟨bD, ba⟩ := qaw ba
 refine apE rfl r2 qbw (qay rfl r0 rfl (fun _ => rfl) (fun _ => rfl)) bD ?_
 intro bQ bK bL
 refine qam (qbn bg br) ?_
 exact eR ba (_, _, _, _)
 refine qam (qbn bg br) ?_
 exact eR ba (_, _, _, _)
 rw [lty w0, tenant_words_L0.eq_1] at ba
 refine cT ?_
 exact eM ba (_, _, _)
 rintro ⟨t0, aZ, a6⟩ ⟨bd, _⟩ rfl j0
 refine cb hm fun bN bm hm => cg0 (qdj bm rfl) ?_
 cases hm
 exact en lr ⟨aZ, a6, (by rw [← (show _ = t0.length from Eq.symm ((Eq.trans (rfl) (qb3 bm).symm)))] <;> rfl), (fun h => bd (by rw [qb3 bm] at h; exact h)), rfl⟩ (pf rfl)

def qa4 (n : Nat) (d : JH) (r' : JA) : Option (JF × Err) :=
  (JbS r'.Ao ([104, 111, 115, 116] : Str)).bind fun bb =>
  if decide ((bb.length : Int) ≠ 1) then
  some ((⟨0, 0, 0, (⟨([] : Str), ([] : Str), ([] : Str), false⟩ : Jn), (⟨([] : Str), ([] : Str), ([] : Str), false⟩ : Jn), [], [], [], false, false⟩ : JF), (some 8))
  else
  (ix bb 0).bind fun bg =>
  (qcc bg).bind fun aW =>
  if (!(mget d.sites aW).isSome) then
  some ((⟨0, 0, 0, (⟨([] : Str), ([] : Str), ([] : Str), false⟩ : Jn), (⟨([] : Str), ([] : Str), ([] : Str), false⟩ : Jn), [], [], [], false, false⟩ : JF), (some 8))
  else
  (Jbo n aW r'.Target).bind fun aV =>
  if aV.2.isSome then
  some ((⟨0, 0, 0, (⟨([] : Str), ([] : Str), ([] : Str), false⟩ : Jn), (⟨([] : Str), ([] : Str), ([] : Str), false⟩ : Jn), [], [], [], false, false⟩ : JF), (some 27))
  else
  (JdY n (((mget d.sites aW).getD (⟨0, []⟩ : Jz)).code) (⟨r'.Am, aV.1.An, aV.1.Ae, aV.1.Af, r'.Ao⟩ : J0) 10000).bind fun aU =>
  if aU.2.isSome then
  some ((⟨0, 0, 0, (⟨([] : Str), ([] : Str), ([] : Str), false⟩ : Jn), (⟨([] : Str), ([] : Str), ([] : Str), false⟩ : Jn), [], [], [], false, false⟩ : JF), aU.2)
  else
  (qcf aV.1 aU.1).bind fun bc =>
  (Jbo n aW bc).bind fun a6 =>
  if a6.2.isSome then
  some ((⟨0, 0, 0, (⟨([] : Str), ([] : Str), ([] : Str), false⟩ : Jn), (⟨([] : Str), ([] : Str), ([] : Str), false⟩ : Jn), [], [], [], false, false⟩ : JF), (some 27))
  else
  (JbL aU.1.Vary).bind fun bf =>
  (qft bf).bind fun bd =>
  (qby n r'.Ao aU.1.Ag).bind fun aY =>
  (qdv bd).bind fun aX =>
  (qdb n aU.1.Ah).bind fun aZ =>
  if aU.1.Ak then
  some ((⟨((mget d.sites aW).getD (⟨0, []⟩ : Jz)).tenant, aU.1.TTL, aU.1.Ai, aV.1, a6.1, aY, aX, aZ, true, aU.1.Al⟩ : JF), none)
  else
  (if (decide (r'.Am ≠ ([71, 69, 84] : Str)) && decide (r'.Am ≠ ([72, 69, 65, 68] : Str))) then some true else (JbS r'.Ao ([97, 117, 116, 104, 111, 114, 105, 122, 97, 116, 105, 111, 110] : Str)).bind fun a8 =>
  some (decide ((a8.length : Int) > 0))).bind fun ba =>
  some ((⟨((mget d.sites aW).getD (⟨0, []⟩ : Jz)).tenant, aU.1.TTL, aU.1.Ai, aV.1, a6.1, aY, aX, aZ, ba, aU.1.Al⟩ : JF), none)
theorem qb4 {n : Nat} {d : JH} {r' : JA} {b0 : Nat} {aG : Nat} {aI : List (Str × EnD Jz)} {af : Option Addr} {ag : Nat} {K : Hp} {r : JF × Err}
    (hm : qa4 n d r' = some r) (hX : MR Jz.R K aI d.sites ∧ RdC Jc.enc K af ag 2 r'.Ao ∧ GG K) :
    Fn Tryz.prog 13 [.pointer (some ⟨b0, 0, none⟩), .agg #[str r'.Am, str r'.Target, .slice af r'.Ao.length ag]] K [Cells b0 78 [.map (some aG)], qle qld vAg aG aI] (fun v K' H' => ∃ ar_0 : Option Addr, ∃ cr_0 : Nat, ∃ ar_1 : Option Addr, ∃ cr_1 : Nat, ∃ ar_2 : Option Addr, ∃ cr_2 : Nat, v = .tuple #[.agg #[.int .i64 r.1.Tenant, .int .i64 r.1.TTL, .int .i64 r.1.Ai, str r.1.Asked.An, str r.1.Asked.Ae, str r.1.Asked.Af, .bool r.1.Asked.HasQuery, str r.1.Cache.An, str r.1.Cache.Ae, str r.1.Cache.Af, .bool r.1.Cache.HasQuery, .slice ar_0 r.1.Ao.length cr_0, .slice ar_1 r.1.Vary.length cr_1, .slice ar_2 r.1.Ah.length cr_2, .bool r.1.Ak, .bool r.1.Al], qcp 48 r.2] ∧ (0 < r.1.Ao.length → Has ar_0) ∧ (0 < r.1.Vary.length → Has ar_1) ∧ (0 < r.1.Ah.length → Has ar_2) ∧ H' = [qat Jc.enc ar_0 41 2 cr_0 r.1.Ao, qat eS ar_1 9 1 cr_1 r.1.Vary, qat eS ar_2 9 1 cr_2 r.1.Ah, Cells b0 78 [.map (some aG)], qle qld vAg aG aI]) := by
 obtain ⟨bv, ah, hG⟩ := hX
 refine Fn.enter Tryz.func13 Tryz.call13 rfl fun F => ?_
 unfold qa4 at hm
 refine qar ?_
 intro b3
 refine qaf rfl fun b4 => ?_
 refine qg9 rfl ?_
 refine qac rfl (cF (fa rfl (ro (ld r1 rfl rfl ?_))))
 refine cb hm fun cE cm hm => ckx (J9 cm :) ?_
 rintro _ _ _ ⟨bU, bX, rfl, bw, rfl⟩
 refine ro (qak rfl (qa8 ?_))
 refine cs rfl rfl hm ?_ ?_ <;> intro cz hm
 refine qai rfl rfl ?_
 refine qas rfl ?_
 refine qaa r1 rfl ⟨rfl, rfl, (nl rfl), ?_⟩
 refine ro (qab r0 rfl (nl rfl) ?_)
 refine qci Jc.enc 41 2 ?_
 refine qci eS 9 1 ?_
 refine qci eS 9 1 ?_
 exact eE hm
 obtain ⟨cD, bY, bD, hm⟩ := ixb hm
 refine RStep.ofN (qad rfl rfl (qco bw bD) bY (qax rfl bY bD) (ro (qbv (i := (0 : Int).toNat) (o := 0) r0 rfl bD rfl rfl ?_)))
 refine cb hm fun cI ca hm => cg0 (qdx ca :) ?_
 refine qah (fa rfl (ro (ld r3 rfl rfl (ro (qhp (kenc := qld) (R := Jz.R) (zs := [.int .i64 0, .slice none 0 0]) (z := (⟨0, []⟩ : Jz)) r4 rfl rfl (qjn rfl) bv (⟨none, 0, rfl, RdC.nil⟩) fun cu bJ => ?_)))))
 obtain ⟨bO, bV, rfl, bN⟩ := bJ
 refine qaf rfl fun b8 => ?_
 refine qaa r0 rfl ⟨rfl, rfl, (nl rfl), ?_⟩
 refine qau ?_
 refine cs rfl rfl hm ?_ ?_ <;> intro cK hm
 refine qai rfl rfl ?_
 refine qas rfl ?_
 refine qaa r2 rfl ⟨rfl, rfl, (nl rfl), ?_⟩
 refine ro (qab r0 rfl (nl rfl) ?_)
 refine qci Jc.enc 41 2 ?_
 refine qci eS 9 1 ?_
 refine qci eS 9 1 ?_
 exact eE hm
 refine fa rfl (ro (ld r3 rfl rfl ?_))
 refine cb hm fun cO cw hm => cgx (Jcn cw :) ?_
 refine qaf rfl fun cA => ?_
 refine qaa r0 rfl ⟨rfl, rfl, (nl rfl), ?_⟩
 refine qa5 rfl ?_
 refine cs rfl rfl hm ?_ ?_ <;> intro cQ hm
 refine qai rfl rfl ?_
 refine qas rfl ?_
 refine qaa r3 rfl ⟨rfl, rfl, (nl rfl), ?_⟩
 refine ro (qab r0 rfl (nl rfl) ?_)
 refine qci Jc.enc 41 2 ?_
 refine qci eS 9 1 ?_
 refine qci eS 9 1 ?_
 exact eE hm
 refine fa rfl (ro (ld r1 rfl rfl (fa rfl (ro (ld r4 rfl rfl (fa rfl (ro (ld r0 rfl rfl (fa rfl (ro (ld r0 rfl rfl ?_)))))))))))
 refine fa rfl (ro (ld r0 rfl rfl (fa rfl (ro (ld r4 rfl rfl (qai rfl rfl (cT (cT (cT ?_)))))))))
 refine cT (cT ?_)
 refine cb hm fun cL cj hm => ckx (JeH cj :) ?_
 rintro _ _ _ ⟨bM, bK, bS, bR, bW, bL, rfl, bP, bQ, bT, rfl⟩
 refine qaf rfl fun cN => ?_
 refine qaa r0 rfl ⟨rfl, rfl, (nl rfl), ?_⟩
 refine qa5 rfl ?_
 refine cs rfl rfl hm ?_ ?_ <;> intro cM hm
 refine qai rfl rfl ?_
 refine qaa r7 rfl ⟨rfl, rfl, (nl rfl), ?_⟩
 refine ro (qab r0 rfl (nl rfl) ?_)
 refine qci Jc.enc 41 2 ?_
 refine qci eS 9 1 ?_
 refine qci eS 9 1 ?_
 exact eE hm
 refine ro (qab r4 rfl (nl rfl) (ro (qab r0 rfl (nl rfl) ?_)))
 refine fF Tryz.call38 r1 fun bu a6 bz => ?_
 refine fF Tryz.call38 r1 fun bt aZ bB => ?_
 refine fF Tryz.call38 r1 fun bA aY bC => ?_
 refine cb hm fun cG bZ hm => cgx (qfv bZ :) ?_
 refine cb hm fun cH co hm => cgx (Jcn co :) ?_
 refine qaf rfl fun cB => ?_
 refine qaa r0 rfl ⟨rfl, rfl, (nl rfl), ?_⟩
 refine qa5 rfl ?_
 refine cs rfl rfl hm ?_ ?_ <;> intro cC hm
 refine qai rfl rfl ?_
 refine qas rfl ?_
 refine qaa r5 rfl ⟨rfl, rfl, (nl rfl), ?_⟩
 refine ro (qab r0 rfl (nl rfl) ?_)
 refine qci Jc.enc 41 2 ?_
 refine qci eS 9 1 ?_
 refine qci eS 9 1 ?_
 exact eE hm
 refine fa rfl (ro (ld r1 rfl rfl ?_))
 refine cb hm fun cJ cn hm => ckx (JdP cn :) ?_
 rintro _ _ _ ⟨bj, bg, rfl, bh, rfl⟩
 refine cb hm fun cP br hm => cg0 (qdj br rfl) ?_
 refine qa6 ⟨⟨[], false⟩, _, [(_, _), (_, _), (_, _), (_, _), (_, _)], []⟩ (by kernel_rfl) ⟨Hp.Le.refl _, (sc [4,2,2,1,3] rfl), ci0⟩ ?_
 refine fa rfl (qao m0 rfl rfl (fa rfl (qao m1 rfl rfl (fa rfl (qao m1 rfl rfl (qcb m2 rfl (nl rfl) (qcb m3 rfl (nl rfl) ?_)))))))
 refine fa rfl (qao m4 rfl rfl (fa rfl (qao m1 rfl rfl ?_)))
 refine cb hm fun ce bG hm => ckx (qek bG :) ?_
 rintro _ _ _ ⟨ba, bc, rfl, bd, rfl⟩
 refine qk (sc [5,3,3,2,4] rfl) ?_
 refine cb hm fun cr bl hm => cg0 (qfk bl (Eq.trans (rfl) (qb3 br).symm)) ?_
 refine qk (sc [5,3,3,2,4] rfl) ?_
 refine fa rfl (qao m1 rfl rfl ?_)
 refine cb hm fun cy bF hm => ckx (qgb bF :) ?_
 rintro _ _ _ ⟨bb, bf, rfl, a8, rfl⟩
 refine qk (sc [6,4,4,3,5] rfl) ?_
 refine fa rfl (qao m1 rfl rfl (fa rfl (qao m1 rfl rfl ?_)))
 refine cS hm (fun aU hm => ?_) fun aU hm => ?_
 refine ct aU (ct aU (ct aU (ct aU (ct aU (cT (cT (cT ?_)))))))
 refine cT (cT (cT (qai rfl rfl (cT (cT (cT (cT ?_)))))))
 refine cT (cT (cT (cT (cT (cT ?_)))))
 refine qaa r8 rfl ⟨rfl, rfl, (nl rfl), ?_⟩
 refine qk (sc [7,5,5,4,5] rfl) ?_
 obtain rfl := si hm
 exact ro (qab r0 rfl (nl rfl) (en ((a6.trans aZ).trans aY) ⟨ba, bc, bj, bg, bb, bf, rfl, bd, (fun h => (fun h => bh (by rw [qb3 br] at h; exact h)) (qde bl h)), a8, rfl⟩ (sc [3,2,1,7,7,7] rfl)))
 refine fa rfl (cf aU (qao m4 rfl rfl (cf aU (qbk (cf aU ?_)))))
 refine qae ?_ ?_ <;> intro aW
 refine fa rfl (ct aW (qao m4 rfl rfl (ct aW (qbk (cf aU (ct aW (cf aU ?_)))))))
 obtain ⟨bI, aX, hm⟩ := bnd hm
 refine qae ?_ ?_ <;> intro aV
 replace aX := ift (qcy aW aV) aX
 refine ct aV (ct aV (ct aV (ct aV (ct aV (qai rfl rfl (cT (cT ?_)))))))
 refine cT (cT (cT (cT (cT (cT (cT (cT ?_)))))))
 refine qaa r8 rfl ⟨rfl, rfl, (nl rfl), ?_⟩
 refine qk (sc [7,5,5,4,5] rfl) ?_
 obtain rfl := si hm
 exact ro (qab r0 rfl (nl rfl) (en ((a6.trans aZ).trans aY) ⟨ba, bc, bj, bg, bb, bf, (by rw [← ((si aX).symm).symm] <;> rfl), bd, (fun h => (fun h => bh (by rw [qb3 br] at h; exact h)) (qde bl h)), a8, rfl⟩ (sc [3,2,1,7,7,7] rfl)))
 replace aX := qa9 (qcz aW aV) aX
 refine fa rfl (cf aV (qao m4 rfl rfl (cf aV ?_)))
 refine cb aX fun bH bm aX => ckx (J9 bm :) ?_
 rintro _ _ _ ⟨bo, bp, rfl, bn, rfl⟩
 refine qk (sc [7,5,5,4,6] rfl) ?_
 refine cf aV (qce rfl (cf aV (cf aV (qai rfl rfl (cT (cT (cT ?_)))))))
 refine cT (cT (cT (cT (cT (cT (cT ?_))))))
 refine qaa r9 rfl ⟨rfl, rfl, (nl rfl), ?_⟩
 refine qk (sc [8,6,6,5,6] rfl) ?_
 obtain rfl := si hm
 exact ro (qab r0 rfl (nl rfl) (en ((a6.trans aZ).trans aY) ⟨ba, bc, bj, bg, bb, bf, (by rw [← (si aX)] <;> rfl), bd, (fun h => (fun h => bh (by rw [qb3 br] at h; exact h)) (qde bl h)), a8, rfl⟩ (sc [4,3,2,8,8,8] rfl)))
 refine cf aW (cf aW (cf aU (cf aW (cf aU ?_))))
 obtain ⟨bI, aX, hm⟩ := bnd hm
 replace aX := qa9 (qbc aW) aX
 refine cF (fa rfl (cF (qao m4 rfl rfl (cF ?_))))
 refine cb aX fun bH bm aX => ckx (J9 bm :) ?_
 rintro _ _ _ ⟨bo, bp, rfl, bn, rfl⟩
 refine qk (sc [7,5,5,4,6] rfl) ?_
 refine cF (qce rfl (cF (cF (qai rfl rfl (cT (cT (cT ?_)))))))
 refine cT (cT (cT (cT (cT (cT (cT ?_))))))
 refine qaa r9 rfl ⟨rfl, rfl, (nl rfl), ?_⟩
 refine qk (sc [8,6,6,5,6] rfl) ?_
 obtain rfl := si hm
 exact ro (qab r0 rfl (nl rfl) (en ((a6.trans aZ).trans aY) ⟨ba, bc, bj, bg, bb, bf, (by rw [← (si aX)] <;> rfl), bd, (fun h => (fun h => bh (by rw [qb3 br] at h; exact h)) (qde bl h)), a8, rfl⟩ (sc [4,3,2,8,8,8] rfl)))
