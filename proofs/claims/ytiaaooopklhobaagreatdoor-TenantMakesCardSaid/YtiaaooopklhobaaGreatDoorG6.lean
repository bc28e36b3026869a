/- Functions of the program: mirrors, and that a call returns what the mirror says. Printed by gen.py. -/
import Derived.Test.YtiaaooopklhobaaGreatDoorG5
set_option linter.unusedVariables false
set_option linter.unusedSimpArgs false
open Go Go.SL Go.Proofs
noncomputable section
set_option maxRecDepth 1000000
set_option maxHeartbeats 8000000
def JcD (m : Jh) (atZ : Int) (x : Jg) : Option (Int × Err × Jh) :=
  (chk (InI (m.result.Aj + 1))).bind fun _ =>
  if decide ((m.result.Aj + 1) > m.most) then
  some (0, (some 13), (⟨m.Aq, m.most, (⟨m.result.Ae, m.result.Af, m.result.Ag, m.result.Vary, m.result.Ah, m.result.TTL, m.result.Ai, (m.result.Aj + 1), m.result.Ak, m.result.Al⟩ : Jq), m.stack, m.Ap⟩ : Jh))
  else
  (chk (InI (atZ + 1))).bind fun _ =>
  if decide (x.Op = 1) then
  (Jcd x.N).bind fun bB =>
  (Jay (⟨m.Aq, m.most, (⟨m.result.Ae, m.result.Af, m.result.Ag, m.result.Vary, m.result.Ah, m.result.TTL, m.result.Ai, (m.result.Aj + 1), m.result.Ak, m.result.Al⟩ : Jq), m.stack, m.Ap⟩ : Jh) bB false).bind fun bn =>
  some ((atZ + 1), bn.1, (⟨m.Aq, bn.2.most, bn.2.result, bn.2.stack, bn.2.Ap⟩ : Jh))
  else
  if decide (x.Op = 2) then
  (Jbf x.S).bind fun bz =>
  (Jay (⟨m.Aq, m.most, (⟨m.result.Ae, m.result.Af, m.result.Ag, m.result.Vary, m.result.Ah, m.result.TTL, m.result.Ai, (m.result.Aj + 1), m.result.Ak, m.result.Al⟩ : Jq), m.stack, m.Ap⟩ : Jh) bz false).bind fun bm =>
  some ((atZ + 1), bm.1, (⟨m.Aq, bm.2.most, bm.2.result, bm.2.stack, bm.2.Ap⟩ : Jh))
  else
  if decide (x.Op = 3) then
  (ix m.Ap x.N).bind fun bw =>
  (Jay (⟨m.Aq, m.most, (⟨m.result.Ae, m.result.Af, m.result.Ag, m.result.Vary, m.result.Ah, m.result.TTL, m.result.Ai, (m.result.Aj + 1), m.result.Ak, m.result.Al⟩ : Jq), m.stack, m.Ap⟩ : Jh) bw false).bind fun bj =>
  some ((atZ + 1), bj.1, (⟨m.Aq, bj.2.most, bj.2.result, bj.2.stack, bj.2.Ap⟩ : Jh))
  else
  if decide (x.Op = 5) then
  (JcO x.S m.Aq).bind fun bA =>
  (Jay (⟨m.Aq, m.most, (⟨m.result.Ae, m.result.Af, m.result.Ag, m.result.Vary, m.result.Ah, m.result.TTL, m.result.Ai, (m.result.Aj + 1), m.result.Ak, m.result.Al⟩ : Jq), m.stack, m.Ap⟩ : Jh) bA false).bind fun bo =>
  some ((atZ + 1), bo.1, (⟨m.Aq, bo.2.most, bo.2.result, bo.2.stack, bo.2.Ap⟩ : Jh))
  else
  if decide (x.Op = 4) then
  (JaK (⟨m.Aq, m.most, (⟨m.result.Ae, m.result.Af, m.result.Ag, m.result.Vary, m.result.Ah, m.result.TTL, m.result.Ai, (m.result.Aj + 1), m.result.Ak, m.result.Al⟩ : Jq), m.stack, m.Ap⟩ : Jh)).bind fun bg =>
  (ix bg.2.Ap x.N).bind fun bC =>
  some ((atZ + 1), none, (⟨m.Aq, bg.2.most, bg.2.result, bg.2.stack, (bg.2.Ap.set ((x.N).toNat) bg.1)⟩ : Jh))
  else
  if decide (x.Op = 6) then
  (JaK (⟨m.Aq, m.most, (⟨m.result.Ae, m.result.Af, m.result.Ag, m.result.Vary, m.result.Ah, m.result.TTL, m.result.Ai, (m.result.Aj + 1), m.result.Ak, m.result.Al⟩ : Jq), m.stack, m.Ap⟩ : Jh)).bind fun bf =>
  (Jd0 x.S bf.1 m.Aq).bind fun bp =>
  if (!bp.2) then
  some (0, (some 9), (⟨m.Aq, bf.2.most, bf.2.result, bf.2.stack, bf.2.Ap⟩ : Jh))
  else
  (Jay (⟨m.Aq, bf.2.most, bf.2.result, bf.2.stack, bf.2.Ap⟩ : Jh) bp.1 true).bind fun ba =>
  some ((atZ + 1), ba.1, (⟨m.Aq, ba.2.most, ba.2.result, ba.2.stack, ba.2.Ap⟩ : Jh))
  else
  if decide (x.Op = 7) then
  (JaK (⟨m.Aq, m.most, (⟨m.result.Ae, m.result.Af, m.result.Ag, m.result.Vary, m.result.Ah, m.result.TTL, m.result.Ai, (m.result.Aj + 1), m.result.Ak, m.result.Al⟩ : Jq), m.stack, m.Ap⟩ : Jh)).bind fun bb =>
  (JaK (⟨m.Aq, bb.2.most, bb.2.result, bb.2.stack, bb.2.Ap⟩ : Jh)).bind fun aY =>
  (Jdq x.S aY.1 bb.1).bind fun bh =>
  if (!bh.2) then
  some (0, (some 9), (⟨m.Aq, aY.2.most, aY.2.result, aY.2.stack, aY.2.Ap⟩ : Jh))
  else
  (Jay (⟨m.Aq, aY.2.most, aY.2.result, aY.2.stack, aY.2.Ap⟩ : Jh) bh.1 true).bind fun a6 =>
  some ((atZ + 1), a6.1, (⟨m.Aq, a6.2.most, a6.2.result, a6.2.stack, a6.2.Ap⟩ : Jh))
  else
  if decide (x.Op = 8) then
  (JaK (⟨m.Aq, m.most, (⟨m.result.Ae, m.result.Af, m.result.Ag, m.result.Vary, m.result.Ah, m.result.TTL, m.result.Ai, (m.result.Aj + 1), m.result.Ak, m.result.Al⟩ : Jq), m.stack, m.Ap⟩ : Jh)).bind fun aX =>
  if decide (aX.1.kind ≠ 3) then
  some (0, (some 9), (⟨m.Aq, aX.2.most, aX.2.result, aX.2.stack, aX.2.Ap⟩ : Jh))
  else
  (Jbw (!aX.1.As)).bind fun bt =>
  (Jay (⟨m.Aq, aX.2.most, aX.2.result, aX.2.stack, aX.2.Ap⟩ : Jh) bt false).bind fun a8 =>
  some ((atZ + 1), a8.1, (⟨m.Aq, a8.2.most, a8.2.result, a8.2.stack, a8.2.Ap⟩ : Jh))
  else
  if decide (x.Op = 9) then
  some (x.N, none, (⟨m.Aq, m.most, (⟨m.result.Ae, m.result.Af, m.result.Ag, m.result.Vary, m.result.Ah, m.result.TTL, m.result.Ai, (m.result.Aj + 1), m.result.Ak, m.result.Al⟩ : Jq), m.stack, m.Ap⟩ : Jh))
  else
  if decide (x.Op = 10) then
  (JaK (⟨m.Aq, m.most, (⟨m.result.Ae, m.result.Af, m.result.Ag, m.result.Vary, m.result.Ah, m.result.TTL, m.result.Ai, (m.result.Aj + 1), m.result.Ak, m.result.Al⟩ : Jq), m.stack, m.Ap⟩ : Jh)).bind fun aW =>
  if decide (aW.1.kind ≠ 3) then
  some (0, (some 9), (⟨m.Aq, aW.2.most, aW.2.result, aW.2.stack, aW.2.Ap⟩ : Jh))
  else
  if (!aW.1.As) then
  some (x.N, none, (⟨m.Aq, aW.2.most, aW.2.result, aW.2.stack, aW.2.Ap⟩ : Jh))
  else
  some ((atZ + 1), none, (⟨m.Aq, aW.2.most, aW.2.result, aW.2.stack, aW.2.Ap⟩ : Jh))
  else
  if decide (x.Op = 11) then
  (if (decide (x.S ≠ ([112, 97, 115, 115] : Str)) && decide (x.S ≠ ([116, 111, 107, 101, 110] : Str))) then (JaB x.S ([118, 97, 114, 121, 58] : Str)).bind fun bu =>
  some (!bu) else some false).bind fun bv =>
  ((if bv then
  (JaK (⟨m.Aq, m.most, (⟨m.result.Ae, m.result.Af, m.result.Ag, m.result.Vary, m.result.Ah, m.result.TTL, m.result.Ai, (m.result.Aj + 1), m.result.Ak, m.result.Al⟩ : Jq), m.stack, m.Ap⟩ : Jh)).bind fun aZ =>
  some (aZ.1.kind, aZ.1.n, aZ.1.s, aZ.1.As, (⟨m.Aq, aZ.2.most, aZ.2.result, aZ.2.stack, aZ.2.Ap⟩ : Jh))
  else
  some (0, 0, ([] : Str), false, (⟨m.Aq, m.most, (⟨m.result.Ae, m.result.Af, m.result.Ag, m.result.Vary, m.result.Ah, m.result.TTL, m.result.Ai, (m.result.Aj + 1), m.result.Ak, m.result.Al⟩ : Jq), m.stack, m.Ap⟩ : Jh)) : Option (Int × Int × Str × Bool × Jh))).bind fun aV =>
  (JcC aV.2.2.2.2.result x.S (⟨aV.1, aV.2.1, aV.2.2.1, aV.2.2.2.1⟩ : Jk)).bind fun bc =>
  if bc.1.isSome then
  some (0, bc.1, (⟨m.Aq, aV.2.2.2.2.most, bc.2, aV.2.2.2.2.stack, aV.2.2.2.2.Ap⟩ : Jh))
  else
  if decide (x.S = ([100, 101, 110, 121] : Str)) then
  some ((-1), none, (⟨m.Aq, aV.2.2.2.2.most, bc.2, aV.2.2.2.2.stack, aV.2.2.2.2.Ap⟩ : Jh))
  else
  some ((atZ + 1), none, (⟨m.Aq, aV.2.2.2.2.most, bc.2, aV.2.2.2.2.stack, aV.2.2.2.2.Ap⟩ : Jh))
  else
  if decide (x.Op = 12) then
  some ((-1), none, (⟨m.Aq, m.most, (⟨m.result.Ae, m.result.Af, m.result.Ag, m.result.Vary, m.result.Ah, m.result.TTL, m.result.Ai, (m.result.Aj + 1), m.result.Ak, m.result.Al⟩ : Jq), m.stack, m.Ap⟩ : Jh))
  else
  some ((atZ + 1), none, (⟨m.Aq, m.most, (⟨m.result.Ae, m.result.Af, m.result.Ag, m.result.Vary, m.result.Ah, m.result.TTL, m.result.Ai, (m.result.Aj + 1), m.result.Ak, m.result.Al⟩ : Jq), m.stack, m.Ap⟩ : Jh))
theorem JdL {m : Jh} {atZ : Int} {x : Jg} {b0 : Nat} {aa : Option Addr} {ab : Nat} {ah : Option Addr} {al : Nat} {ao : Option Addr} {av : Nat} {ax : Option Addr} {aA : Nat} {ay : Option Addr} {aB : Nat} {K : Hp} {r : Int × Err × Jh}
    (hm : JcD m atZ x = some r) (hX : RdC Jc.enc K aa ab 2 m.Aq.Ao ∧ (0 < m.result.Ag.length → Has ah) ∧ (0 < m.result.Vary.length → Has ao) ∧ (0 < m.result.Ah.length → Has ax) ∧ (0 < m.stack.length → Has ay) ∧ m.Ap.length = 512 ∧ GG K) :
    Fn Tryz.prog 69 [.pointer (some ⟨b0, 0, none⟩), .int .i64 atZ, .agg #[.int .i64 x.Op, .int .i64 x.N, str x.S]] K [Cells b0 131 ((str m.Aq.Am) :: (str m.Aq.An) :: (str m.Aq.Ae) :: (str m.Aq.Af) :: (.slice aa m.Aq.Ao.length ab) :: (.int .i64 m.most) :: (str m.result.Ae) :: (str m.result.Af) :: (.slice ah m.result.Ag.length al) :: (.slice ao m.result.Vary.length av) :: (.slice ax m.result.Ah.length aA) :: (.int .i64 m.result.TTL) :: (.int .i64 m.result.Ai) :: (.int .i64 m.result.Aj) :: (.bool m.result.Ak) :: (.bool m.result.Al) :: (.slice ay m.stack.length aB) :: (m.Ap.map Jk.enc).flatten), OwnL Jc.enc ah 41 2 al m.result.Ag, OwnL eS ao 9 1 av m.result.Vary, OwnL eS ax 9 1 aA m.result.Ah, OwnL Jk.enc ay 128 4 aB m.stack] (fun v K' H' => ∃ ar_0 : Option Addr, ∃ cr_0 : Nat, ∃ ar_1 : Option Addr, ∃ cr_1 : Nat, ∃ ar_2 : Option Addr, ∃ cr_2 : Nat, ∃ ar_3 : Option Addr, ∃ cr_3 : Nat, v = .tuple #[.int .i64 r.1, qc3 48 r.2.1] ∧ (0 < r.2.2.result.Ag.length → Has ar_0) ∧ (0 < r.2.2.result.Vary.length → Has ar_1) ∧ (0 < r.2.2.result.Ah.length → Has ar_2) ∧ (0 < r.2.2.stack.length → Has ar_3) ∧ r.2.2.Ap.length = 512 ∧ H' = [Cells b0 131 ((str m.Aq.Am) :: (str m.Aq.An) :: (str m.Aq.Ae) :: (str m.Aq.Af) :: (.slice aa m.Aq.Ao.length ab) :: (.int .i64 r.2.2.most) :: (str r.2.2.result.Ae) :: (str r.2.2.result.Af) :: (.slice ar_0 r.2.2.result.Ag.length cr_0) :: (.slice ar_1 r.2.2.result.Vary.length cr_1) :: (.slice ar_2 r.2.2.result.Ah.length cr_2) :: (.int .i64 r.2.2.result.TTL) :: (.int .i64 r.2.2.result.Ai) :: (.int .i64 r.2.2.result.Aj) :: (.bool r.2.2.result.Ak) :: (.bool r.2.2.result.Al) :: (.slice ar_3 r.2.2.stack.length cr_3) :: (r.2.2.Ap.map Jk.enc).flatten), OwnL Jc.enc ar_0 41 2 cr_0 r.2.2.result.Ag, OwnL eS ar_1 9 1 cr_1 r.2.2.result.Vary, OwnL eS ar_2 9 1 cr_2 r.2.2.result.Ah, OwnL Jk.enc ar_3 128 4 cr_3 r.2.2.stack]) := by
 obtain ⟨ae, fD, fp, gk, fe, bM, hG⟩ := hX
 refine Fn.enter Tryz.func69 Tryz.call69 rfl fun F => ?_
 unfold JcD at hm
 refine qar ?_
 intro b5
 refine qah (fa rfl (fa rfl (ro (ld r1 rfl rfl ?_))))
 obtain ⟨gW, hm⟩ := qax hm
 refine qan gW (qah (fa rfl (fa rfl ?_)))
 refine qpw (cs' := (str m.Aq.Am) :: (str m.Aq.An) :: (str m.Aq.Ae) :: (str m.Aq.Af) :: (.slice aa m.Aq.Ao.length ab) :: (.int .i64 m.most) :: (str m.result.Ae) :: (str m.result.Af) :: (.slice ah m.result.Ag.length al) :: (.slice ao m.result.Vary.length av) :: (.slice ax m.result.Ah.length aA) :: (.int .i64 m.result.TTL) :: (.int .i64 m.result.Ai) :: (.int .i64 (m.result.Aj + 1)) :: (.bool m.result.Ak) :: (.bool m.result.Al) :: (.slice ay m.stack.length aB) :: (m.Ap.map Jk.enc).flatten) r1 rfl rfl (by exact rfl) (by exact nl rfl) (by exact rfl) ?_
 refine qba ⟨⟨[], false⟩, _, [(_, _)], []⟩ (by kernel_rfl) ⟨Hp.Le.refl _, (pf rfl), ci0⟩ ?_
 refine qah (fa rfl (fa rfl (qap m0 rfl rfl (qah (fa rfl (qap m0 rfl rfl ?_))))))
 refine cs rfl rfl hm ?_ ?_ <;> intro iG hm
 refine qas rfl ?_
 exact eE hm
 obtain ⟨gO, hm⟩ := qax hm
 refine qan gO (fa rfl (ro (ld r1 rfl rfl ?_)))
 refine qam rfl ?_
 refine qag (cs rfl rfl hm ?_ ?_) <;> intro iU hm
 refine fa rfl (ro (ld r1 rfl rfl ?_))
 refine cb hm fun iJ gN hm => cg0 (JbR gN :) ?_
 refine cb hm fun iI ig hm => ckx (JaH ig :) ?_
 rintro _ _ _ ⟨gc, fN, fc, fB, fG, fJ, gF, fy, rfl, fw, eW, fA, gD, fv, rfl⟩
 exact eE hm
 refine qag (cs rfl rfl hm ?_ ?_) <;> intro iL hm
 refine fa rfl (ro (ld r1 rfl rfl ?_))
 refine cb hm fun iP gV hm => cg0 (JaU gV :) ?_
 refine cb hm fun iD gL hm => ckx (JaH gL :) ?_
 rintro _ _ _ ⟨gC, fS, gA, gE, gB, ga, fu, gx, rfl, fm, gq, gr, fb, fY, rfl⟩
 exact eE hm
 refine qag (cs rfl rfl hm ?_ ?_) <;> intro iE hm
 refine qba ⟨⟨[], true⟩, _, [], []⟩ (by kernel_rfl) ⟨Hp.Le.refl _, (pf rfl), ci0⟩ ?_
 refine fa rfl ?_
 refine ld r1 rfl rfl ?_
 refine qah (fa rfl ?_)
 obtain ⟨iH, eY, fM, hm⟩ := ixb hm
 refine qbz (sz := 4) rfl rfl eY (qvb bM eY fM) ?_
 refine qwn (enc := Jk.enc) (sz := 4) r0 rfl (by exact rfl) fM (by exact rfl) ?_
 refine cb hm fun iS hJ hm => ckx (JaH hJ :) ?_
 rintro _ _ _ ⟨gh, fQ, fh, fX, fk, gf, gp, gz, rfl, fR, fV, fH, fC, eZ, rfl⟩
 refine qk (pf rfl) ?_
 exact eE hm
 refine qag (cs rfl rfl hm ?_ ?_) <;> intro iC hm
 refine qba ⟨⟨[], false⟩, _, [(_, _)], [(b0, [str m.Aq.Am, str m.Aq.An, str m.Aq.Ae, str m.Aq.Af, .slice aa m.Aq.Ao.length ab])]⟩ (by kernel_rfl) ⟨Hp.Le.refl _, (sc [1] rfl), (ci1 r0 (by exact rfl))⟩ ?_
 refine fa rfl (qap m0 rfl rfl (qah (fa rfl ?_)))
 refine qpy m0 rfl (nl rfl) ?_
 refine cb hm fun iK ik hm => cgx (JdQ ik :) ?_
 refine ⟨⟨lr, (sc [1] rfl), (ci1 r0 (by exact rfl))⟩, ?_⟩
 refine cb hm fun iB ip hm => ckx (JaH ip :) ?_
 rintro _ _ _ ⟨gw, eV, eX, fT, gm, e8, fU, fO, rfl, gj, fE, gv, fo, fj, rfl⟩
 refine ⟨⟨lr, (sc [5] rfl), (ci1 r0 (by exact rfl))⟩, ?_⟩
 exact eE hm
 refine qag (cs rfl rfl hm ?_ ?_) <;> intro iz hm
 refine qba ⟨⟨[], false⟩, _, [(_, _)], []⟩ (by kernel_rfl) ⟨Hp.Le.refl _, (sc [1] rfl), ci0⟩ ?_
 refine fa rfl (qap m0 rfl rfl ?_)
 refine cb hm fun bm hZ hm => ckx (JaP hZ :) ?_
 rintro _ _ _ ⟨bv, bo, bz, bt, bB, bA, bw, bp, rfl, bJ, bI, bK, bL, bu, rfl⟩
 refine qk (sc [5] rfl) ?_
 refine qah (fa rfl ?_)
 obtain ⟨iF, fg, gu, hm⟩ := ixb hm
 refine qbz (sz := 4) rfl rfl fg (qvb bu fg gu) ?_
 refine qwo (sz := 4) (enc := Jk.enc) (y := bm.1) (cs' := (str m.Aq.Am) :: (str m.Aq.An) :: (str m.Aq.Ae) :: (str m.Aq.Af) :: (.slice aa m.Aq.Ao.length ab) :: (.int .i64 bm.2.most) :: (str bm.2.result.Ae) :: (str bm.2.result.Af) :: (.slice bv bm.2.result.Ag.length bo) :: (.slice bz bm.2.result.Vary.length bt) :: (.slice bB bm.2.result.Ah.length bA) :: (.int .i64 bm.2.result.TTL) :: (.int .i64 bm.2.result.Ai) :: (.int .i64 bm.2.result.Aj) :: (.bool bm.2.result.Ak) :: (.bool bm.2.result.Al) :: (.slice bw bm.2.stack.length bp) :: ((bm.2.Ap.set ((x.N).toNat) bm.1).map Jk.enc).flatten) r0 rfl (by exact rfl) gu rfl (fun _ => rfl) (fun _ => rfl) (by exact rfl) (by decide) ?_
 refine qk (sc [5] rfl) ?_
 cases hm
 exact en lr ⟨bv, bo, bz, bt, bB, bA, bw, bp, rfl, bJ, bI, bK, bL, (List.length_set.trans bu), rfl⟩ (sc [0,0,0,0,0,1] rfl)
 refine qag (cs rfl rfl hm ?_ ?_) <;> intro iM hm
 refine qf5 ⟨⟨[], false⟩, _, [(_, _)], [(b0, [str m.Aq.Am, str m.Aq.An, str m.Aq.Ae, str m.Aq.Af, .slice aa m.Aq.Ao.length ab])]⟩ 15 rfl (by kernel_rfl) ⟨Hp.Le.refl _, (sc [1] rfl), (ci1 r0 (by exact rfl))⟩ ?_
 refine fa rfl (qap m0 rfl rfl ?_)
 intro gT
 refine cb hm fun iQ gZ hm => ckx (JaP gZ :) ?_
 rintro _ _ _ ⟨fI, ff, fP, fK, fl, fZ, gy, fL, rfl, e9, ge, eQ, fq, gi, rfl⟩
 refine ⟨⟨lr, (sc [5] rfl), (ci1 r0 (by exact rfl))⟩, ?_⟩
 refine ⟨_, .cons r7 .nil, ⟨lr, (sc [5] rfl), (ci1 r0 (by exact rfl))⟩, ?_⟩
 refine qah (fa rfl ?_)
 refine qpy m0 rfl (nl rfl) ?_
 intro iy
 refine cb hm fun g9 cH hm => cgx (Jex cH :) ?_
 refine ⟨⟨lr, (sc [5] rfl), (ci1 r0 (by exact rfl))⟩, ?_⟩
 refine ⟨_, .cons r7 .nil, ⟨lr, (sc [5] rfl), (ci1 r0 (by exact rfl))⟩, ?_⟩
 refine qnj rfl ?_
 intro b9
 intro gX
 refine qaa r0 rfl ⟨rfl, rfl, (nl rfl), ?_⟩
 refine ⟨⟨lr, (sc [6] rfl), (ci1 r1 (by exact rfl))⟩, ?_⟩
 refine ⟨_, .cons r8 .nil, ⟨lr, (sc [6] rfl), (ci1 r1 (by exact rfl))⟩, ?_⟩
 refine qav ?_
 refine cs rfl rfl hm ?_ ?_ <;> intro ii hm
 refine qas rfl ?_
 exact eE hm
 refine ro (qab r0 rfl (nl rfl) ?_)
 refine cb hm fun g7 cQ hm => ckx (JaH cQ :) ?_
 rintro _ _ _ ⟨cL, ey, cA, dT, c8, dt, cu, dz, rfl, eD, cj, eF, cr, d8, rfl⟩
 exact eE hm
 refine qag (cs rfl rfl hm ?_ ?_) <;> intro ic hm
 refine cb hm fun gU ce hm => ckx (JaP ce :) ?_
 rintro _ _ _ ⟨dX, de, eu, dg, dl, d7, dU, dn, rfl, dx, dN, dh, bX, cW, rfl⟩
 refine qai rfl fun iA => ?_
 refine qaa r0 rfl ⟨rfl, rfl, (nl rfl), ?_⟩
 refine qf5 ⟨⟨[], false⟩, _, [(_, _), (_, _)], []⟩ 12 rfl (by kernel_rfl) ⟨Hp.Le.refl _, (sc [6,0] rfl), ci0⟩ ?_
 refine fa rfl (qap m0 rfl rfl ?_)
 intro gT
 refine cb hm fun iu dI hm => ckx (JaP dI :) ?_
 rintro _ _ _ ⟨ei, d6, cP, bY, bS, dc, cV, dS, rfl, cO, cw, cq, cp, bT, rfl⟩
 refine ⟨⟨lr, (sc [6,5] rfl), ci0⟩, ?_⟩
 refine ⟨_, .cons r8 .nil, ⟨lr, (sc [6,5] rfl), ci0⟩, ?_⟩
 refine qcg m1 rfl (nl rfl) ?_
 intro iR
 refine cb hm fun gH ed hm => cgx (Jeh ed :) ?_
 refine ⟨⟨lr, (sc [6,5] rfl), ci0⟩, ?_⟩
 refine ⟨_, .cons r8 .nil, ⟨lr, (sc [6,5] rfl), ci0⟩, ?_⟩
 refine qnj rfl ?_
 intro iT
 intro io
 refine qaa r0 rfl ⟨rfl, rfl, (nl rfl), ?_⟩
 refine ⟨⟨lr, (sc [7,6] rfl), ci0⟩, ?_⟩
 refine ⟨_, .cons r9 .nil, ⟨lr, (sc [7,6] rfl), ci0⟩, ?_⟩
 refine qav ?_
 refine cs rfl rfl hm ?_ ?_ <;> intro ie hm
 refine qas rfl ?_
 exact eE hm
 refine ro (qab r0 rfl (nl rfl) ?_)
 refine cb hm fun hU dD hm => ckx (JaH dD :) ?_
 rintro _ _ _ ⟨ej, bP, cR, cM, cz, eo, cm, dJ, rfl, dG, d1, dy, cZ, eL, rfl⟩
 exact eE hm
 refine qag (cs rfl rfl hm ?_ ?_) <;> intro gG hm
 refine cb hm fun g8 cD hm => ckx (JaP cD :) ?_
 rintro _ _ _ ⟨bU, cJ, dE, eg, bO, cC, c5, bQ, rfl, cG, dZ, du, cI, dB, rfl⟩
 refine qai rfl fun iO => ?_
 refine qaa r0 rfl ⟨rfl, rfl, (nl rfl), ?_⟩
 refine fa rfl (ro (ld r0 rfl rfl (qbb ?_)))
 refine cs rfl rfl hm ?_ ?_ <;> intro ib hm
 refine qas rfl ?_
 exact eE hm
 refine fa rfl (ro (ld r0 rfl rfl (qav ?_)))
 refine cb hm fun im dK hm => cg0 (Jbg dK :) ?_
 refine cb hm fun gR bV hm => ckx (JaH bV :) ?_
 rintro _ _ _ ⟨cN, eK, ek, dP, dF, d5, di, dR, rfl, dO, c4, dW, cY, dk, rfl⟩
 exact eE hm
 refine qag (cs rfl rfl hm ?_ ?_) <;> intro gY hm
 refine fa rfl (ro (ld r1 rfl rfl ?_))
 exact eE hm
 refine qag (cs rfl rfl hm ?_ ?_) <;> intro iv hm
 refine cb hm fun gS d3 hm => ckx (JaP d3 :) ?_
 rintro _ _ _ ⟨eC, dv, cd, eJ, dj, ca, eH, c6, rfl, d2, db, eP, dH, dQ, rfl⟩
 refine qai rfl fun iN => ?_
 refine qaa r0 rfl ⟨rfl, rfl, (nl rfl), ?_⟩
 refine fa rfl (ro (ld r0 rfl rfl (qbb ?_)))
 refine cs rfl rfl hm ?_ ?_ <;> intro gK hm
 refine qas rfl ?_
 exact eE hm
 refine fa rfl (ro (ld r0 rfl rfl (qav ?_)))
 refine cs rfl rfl hm ?_ ?_ <;> intro il hm
 refine fa rfl (ro (ld r6 rfl rfl ?_))
 exact eE hm
 exact eE hm
 refine qag (cs rfl rfl hm ?_ ?_) <;> intro ij hm
 refine qak rfl rfl ?_
 refine qai rfl fun gQ => ?_
 refine qaa r0 rfl ⟨rfl, rfl, (nl rfl), ?_⟩
 obtain ⟨bR, bg, hm⟩ := bnd hm
 refine jR (σ := Bool) (rg 168 14) (fun bn => [(181, .bool bn)]) (fun bn => bn = bR) ?_ ?_
 replace bg := bsm bg
 refine qaj rfl ?_
 refine fa rfl (ro (ld r2 rfl rfl (qbq ?_)))
 refine qaf ?_ ?_ <;> intro aY
 refine fa rfl (ct aY (ro (ld r2 rfl rfl (ct aY (qbq (ct aY ?_))))))
 obtain ⟨bW, bh, bg⟩ := bnd bg
 refine qaf ?_ ?_ <;> intro aX
 replace bh := ift (qc1 aY aX) bh
 refine fa rfl (ct aX (ro (ld r2 rfl rfl (ct aX ?_))))
 refine cb bh fun gM cB bh => cg0 (Jbh cB :) ?_
 refine ct aX (qav (ct aX ?_))
 exact eMq bg _ ⟨bq (si bh), trivial⟩
 replace bh := qbd (qc2 aY aX) bh
 refine cf aX (cf aX (cf aX (cf aX ?_)))
 exact eMq bg _ ⟨bq (si bh), trivial⟩
 refine cf aY (cf aY (cf aY ?_))
 obtain ⟨bW, bh, bg⟩ := bnd bg
 replace bh := qbd (qbh aY) bh
 refine cF (cF (cF (cF (cF ?_))))
 exact eMq bg _ ⟨bq (si bh), trivial⟩
 rintro bn rfl iw
 obtain ⟨d9, bj, hm⟩ := bnd hm
 refine jD (σ := (Int × Int × Str × Bool × Jh) × Option Addr × Nat × Option Addr × Nat × Option Addr × Nat × Option Addr × Nat) [182,183] [2, 7] (fun (aV, aZ, bc, ba, bf, a6, bb, aW, a8) => []) (fun (aV, aZ, bc, ba, bf, a6, bb, aW, a8) => [Cells b0 131 ((str m.Aq.Am) :: (str m.Aq.An) :: (str m.Aq.Ae) :: (str m.Aq.Af) :: (.slice aa m.Aq.Ao.length ab) :: (.int .i64 aV.2.2.2.2.most) :: (str aV.2.2.2.2.result.Ae) :: (str aV.2.2.2.2.result.Af) :: (.slice aZ aV.2.2.2.2.result.Ag.length bc) :: (.slice ba aV.2.2.2.2.result.Vary.length bf) :: (.slice a6 aV.2.2.2.2.result.Ah.length bb) :: (.int .i64 aV.2.2.2.2.result.TTL) :: (.int .i64 aV.2.2.2.2.result.Ai) :: (.int .i64 aV.2.2.2.2.result.Aj) :: (.bool aV.2.2.2.2.result.Ak) :: (.bool aV.2.2.2.2.result.Al) :: (.slice aW aV.2.2.2.2.stack.length a8) :: (aV.2.2.2.2.Ap.map Jk.enc).flatten), OwnL Jc.enc aZ 41 2 bc aV.2.2.2.2.result.Ag, OwnL eS ba 9 1 bf aV.2.2.2.2.result.Vary, OwnL eS a6 9 1 bb aV.2.2.2.2.result.Ah, OwnL Jk.enc aW 128 4 a8 aV.2.2.2.2.stack, Cells gQ 128 [.int .i64 aV.1, .int .i64 aV.2.1, str aV.2.2.1, .bool aV.2.2.2.1]]) (fun (aV, aZ, bc, ba, bf, a6, bb, aW, a8) => (0 < aV.2.2.2.2.result.Ag.length → Has aZ) ∧ (0 < aV.2.2.2.2.result.Vary.length → Has ba) ∧ (0 < aV.2.2.2.2.result.Ah.length → Has a6) ∧ (0 < aV.2.2.2.2.stack.length → Has aW) ∧ aV.2.2.2.2.Ap.length = 512 ∧ aV = d9) (And.intro ?_ ?_)
 refine cs rfl rfl bj ?_ ?_ <;> intro ia bj
 refine cb bj fun gP cU bj => ckx (JaP cU :) ?_
 rintro _ _ _ ⟨dq, dp, bN, dA, c9, ee, cy, dV, rfl, cn, dw, da, bZ, df, rfl⟩
 refine qaa r5 rfl ⟨rfl, rfl, (nl rfl), ?_⟩
 exact eM bj (_, _, _, _, _, _, _, _, _)
 exact eM bj (_, _, _, _, _, _, _, _, _)
 rintro ⟨aV, aZ, bc, ba, bf, a6, bb, aW, a8⟩ ⟨bC, bG, bD, bF, bH, rfl⟩ gJ
 refine qba ⟨⟨[], false⟩, _, [(_, _), (_, _)], []⟩ (by kernel_rfl) ⟨Hp.Le.refl _, (sc [6,5] rfl), ci0⟩ ?_
 refine qah (fa rfl (fa rfl (qap m0 rfl rfl (qcg m1 rfl (nl rfl) ?_))))
 refine cb hm fun iq d4 hm => ckx (JdK (aM := [str m.Aq.Am, str m.Aq.An, str m.Aq.Ae, str m.Aq.Af, .slice aa m.Aq.Ao.length ab, .int .i64 aV.2.2.2.2.most]) (aS := (.slice aW aV.2.2.2.2.stack.length a8) :: (aV.2.2.2.2.Ap.map Jk.enc).flatten) d4 :) ?_
 rintro _ _ _ ⟨cK, dL, eh, dM, dY, dm, rfl, eG, cX, dC, rfl⟩
 refine qk (sc [6,5] rfl) ?_
 refine qa7 rfl ?_
 refine cs rfl rfl hm ?_ ?_ <;> intro gI hm
 exact eE hm
 refine fa rfl (ro (ld r6 rfl rfl (qaq ?_)))
 refine cs rfl rfl hm ?_ ?_ <;> intro hY hm
 exact eE hm
 exact eE hm
 refine qag (cs rfl rfl hm ?_ ?_) <;> intro ir hm
 exact eE hm
 exact eE hm

def JcQ (code : (List Jg)) (Aq : J5) : Nat → Int → Jh → Option (Fl (Jq × Err) (Int × Jh))
  | 0, _, _ => none
  | aX + 1, ac, aV =>
    if decide (ac ≥ 0) then
    (ix code ac).bind fun aY =>
    (JcD (⟨Aq, aV.most, aV.result, aV.stack, aV.Ap⟩ : Jh) ac aY).bind fun aW =>
    if aW.2.1.isSome then
    some (Fl.ret ((⟨([] : Str), ([] : Str), [], [], [], 0, 0, 0, false, false⟩ : Jq), aW.2.1))
    else
    JcQ code Aq aX aW.1 (⟨Aq, aW.2.2.most, aW.2.2.result, aW.2.2.stack, aW.2.2.Ap⟩ : Jh)
    else
    some (Fl.go (ac, (⟨Aq, aV.most, aV.result, aV.stack, aV.Ap⟩ : Jh)))
def Jej (n : Nat) (code : (List Jg)) (Aq : J5) (most : Int) : Option (Jq × Err) :=
  (Jdo code).bind fun aV =>
  if aV.isSome then
  some ((⟨([] : Str), ([] : Str), [], [], [], 0, 0, 0, false, false⟩ : Jq), (some 2))
  else
  (JcQ code Aq n 0 (⟨Aq, most, (⟨Aq.Ae, Aq.Af, [], [], [], (-1), 0, 0, false, false⟩ : Jq), [], (List.replicate 512 (⟨0, 0, ([] : Str), false⟩ : Jk))⟩ : Jh)).bind fun s0 => s0.el some fun t0 =>
  some (t0.2.result, none)
theorem JeC {n : Nat} {code : (List Jg)} {Aq : J5} {most : Int} {aa : Option Addr} {ab : Nat} {n0 : Nat} {af : Option Addr} {ag : Nat} {K : Hp} {r : Jq × Err}
    (hm : Jej n code Aq most = some r) (hX : RdC Jg.enc K aa ab 3 code ∧ n0 = code.length ∧ RdC Jc.enc K af ag 2 Aq.Ao ∧ GG K) :
    Fn Tryz.prog 37 [.slice aa n0 ab, .agg #[str Aq.Am, str Aq.An, str Aq.Ae, str Aq.Af, .slice af Aq.Ao.length ag], .int .i64 most] K [] (fun v K' H' => ∃ ar_0 : Option Addr, ∃ cr_0 : Nat, ∃ ar_1 : Option Addr, ∃ cr_1 : Nat, ∃ ar_2 : Option Addr, ∃ cr_2 : Nat, v = .tuple #[.agg #[str r.1.Ae, str r.1.Af, .slice ar_0 r.1.Ag.length cr_0, .slice ar_1 r.1.Vary.length cr_1, .slice ar_2 r.1.Ah.length cr_2, .int .i64 r.1.TTL, .int .i64 r.1.Ai, .int .i64 r.1.Aj, .bool r.1.Ak, .bool r.1.Al], qc3 48 r.2] ∧ (0 < r.1.Ag.length → Has ar_0) ∧ (0 < r.1.Vary.length → Has ar_1) ∧ (0 < r.1.Ah.length → Has ar_2) ∧ H' = [OwnL Jc.enc ar_0 41 2 cr_0 r.1.Ag, OwnL eS ar_1 9 1 cr_1 r.1.Vary, OwnL eS ar_2 9 1 cr_2 r.1.Ah]) := by
 obtain ⟨ae, bX, aj, hG⟩ := hX
 subst bX
 refine Fn.enter Tryz.func37 Tryz.call37 rfl fun F => ?_
 unfold Jej at hm
 refine qar ?_
 intro b4
 refine qai rfl fun b6 => ?_
 refine cb hm fun ce bV hm => cgx (Jef bV :) ?_
 refine qa7 rfl ?_
 refine cs rfl rfl hm ?_ ?_ <;> intro cj hm
 refine qak rfl rfl ?_
 refine qas rfl ?_
 refine qaa r0 rfl ⟨rfl, rfl, (nl rfl), ?_⟩
 refine ro (qab r0 rfl (nl rfl) ?_)
 refine qcp Jc.enc 41 2 ?_
 refine qcp eS 9 1 ?_
 refine qcp eS 9 1 ?_
 exact eE hm
 refine ro (qab r1 rfl (nl rfl) (fa rfl (ro (ld r1 rfl rfl (fa rfl (ro (ld r1 rfl rfl (qak rfl rfl (cT (cT ?_))))))))))
 refine cT ?_
 refine qom (enc := Jk.enc) [str ([] : Str), str ([] : Str), str ([] : Str), str ([] : Str), .slice none 0 0, .int .i64 0, str ([] : Str), str ([] : Str), .slice none 0 0, .slice none 0 0, .slice none 0 0, .int .i64 0, .int .i64 0, .int .i64 0, .bool false, .bool false, .slice none 0 0] (List.replicate 512 (⟨0, 0, ([] : Str), false⟩ : Jk)) (by kernel_rfl) rfl ?_
 refine cT (cT (cT ?_))
 refine qrv ?_
 intro bY
 obtain ⟨s0, bb, hm⟩ := bnd hm
 refine qjd Jc.enc 41 2 ?_
 refine qjd eS 9 1 ?_
 refine qjd eS 9 1 ?_
 refine qjd Jk.enc 128 4 ?_
 refine lD (σ := (Int × Jh) × Option Addr × Nat × Option Addr × Nat × Option Addr × Nat × Option Addr × Nat) ([7,9,10,11] ++ rg 26 17) [5, 6, 7] (fun _ => []) (fun (t0, aX, ba, aY, a6, aV, a8, aW, aZ) => [(9, .int .i64 t0.1)]) (fun (t0, aX, ba, aY, a6, aV, a8, aW, aZ) => [Cells bY 131 ((str Aq.Am) :: (str Aq.An) :: (str Aq.Ae) :: (str Aq.Af) :: (.slice af Aq.Ao.length ag) :: (.int .i64 t0.2.most) :: (str t0.2.result.Ae) :: (str t0.2.result.Af) :: (.slice aX t0.2.result.Ag.length ba) :: (.slice aY t0.2.result.Vary.length a6) :: (.slice aV t0.2.result.Ah.length a8) :: (.int .i64 t0.2.result.TTL) :: (.int .i64 t0.2.result.Ai) :: (.int .i64 t0.2.result.Aj) :: (.bool t0.2.result.Ak) :: (.bool t0.2.result.Al) :: (.slice aW t0.2.stack.length aZ) :: (t0.2.Ap.map Jk.enc).flatten), OwnL Jc.enc aX 41 2 ba t0.2.result.Ag, OwnL eS aY 9 1 a6 t0.2.result.Vary, OwnL eS aV 9 1 a8 t0.2.result.Ah, OwnL Jk.enc aW 128 4 aZ t0.2.stack]) (fun (t0, aX, ba, aY, a6, aV, a8, aW, aZ) => (0 < t0.2.result.Ag.length → Has aX) ∧ (0 < t0.2.result.Vary.length → Has aY) ∧ (0 < t0.2.result.Ah.length → Has aV) ∧ (0 < t0.2.stack.length → Has aW) ∧ t0.2.Ap.length = 512) (fun i0 (t0, aX, ba, aY, a6, aV, a8, aW, aZ) => JcQ code Aq i0 t0.1 t0.2 = some s0) (fun (t0, aX, ba, aY, a6, aV, a8, aW, aZ) => s0 = Fl.go t0) (fun i0 => i0) n ((0, (⟨Aq, most, (⟨Aq.Ae, Aq.Af, [], [], [], (-1), 0, 0, false, false⟩ : Jq), [], (List.replicate 512 (⟨0, 0, ([] : Str), false⟩ : Jk))⟩ : Jh)), none, 0, none, 0, none, 0, none, 0) bb (And.intro ⟨⟨(fun h => by simp at h), (fun h => by simp at h), (fun h => by simp at h), (fun h => by simp at h), List.length_replicate⟩, ⟨rfl, trivial⟩, _, (ss [4,3,2,1,0,0,0,0] rfl)⟩ (And.intro ?_ ?_))
 clear bb
 rintro i0 ⟨⟨ac, bU⟩, bn, bo, bD, bB, bw, bm, bC, bc⟩ ⟨bf, bt, bp, bv, bA⟩ bb j0
 dsimp only at bb ⊢
 cases i0 with
 | zero => rw [JcQ.eq_1] at bb; cases bb
 | succ i0 =>
  rw [JcQ.eq_2] at bb
  refine cs rfl rfl bb ?_ ?_ <;> intro bZ bb
  refine qam rfl ?_
  obtain ⟨cm, bO, bF, bb⟩ := ixb bb
  refine RStep.ofN (qae rfl rfl (qea ae.rd bF) bO (qaw rfl bO bF) (ro (qao ((ac).toNat) _ ae.rd rfl (mp bF) rfl ?_)))
  refine cb bb fun ca bW bb => ckx (JdL bW :) ?_
  rintro _ _ _ ⟨bQ, bM, bT, bN, bP, bL, bJ, bK, rfl, bI, bS, bR, bG, bH, rfl⟩
  refine qa7 rfl ?_
  refine cs rfl rfl bb ?_ ?_ <;> intro cd bb
  refine qak rfl rfl ?_
  refine qaa r5 rfl ⟨rfl, rfl, (nl rfl), ?_⟩
  refine ro (qab r0 rfl (nl rfl) ?_)
  refine qcp Jc.enc 41 2 ?_
  refine qcp eS 9 1 ?_
  refine qcp eS 9 1 ?_
  exact eE (er bb hm)
  exact eR bb (_, (_, _), _, _, _, _, _, _, _, _)
  refine cT ?_
  exact eM bb (_, _, _, _, _, _, _, _, _)
 rintro ⟨t0, aX, ba, aY, a6, aV, a8, aW, aZ⟩ ⟨bj, bh, bg, bu, bz⟩ rfl j0
 replace hm := elg hm
 refine qah (fa rfl (ro (qab r0 rfl (nl rfl) ?_)))
 refine qaa r5 rfl ⟨rfl, rfl, (nl rfl), ?_⟩
 exact ro (qab r0 rfl (nl rfl) (eE hm))

def qd1 (a : Ju) (r' : Jq) : Option (Str) :=
  ((if decide (r'.Af ≠ ([] : Str)) then
  some true
  else
  some (a.HasQuery && decide (r'.Af = a.Af))) : Option (Bool)).bind fun aV =>
  if aV then
  (chk (r'.Ae.length + ([63] : Str).length ≤ lim)).bind fun _ =>
  (chk ((r'.Ae ++ ([63] : Str)).length + r'.Af.length ≤ lim)).bind fun _ =>
  some ((r'.Ae ++ ([63] : Str)) ++ r'.Af)
  else
  some r'.Ae
theorem qhh {a : Ju} {r' : Jq} {af : Option Addr} {ag : Nat} {aN : Option Addr} {aO : Nat} {aP : Option Addr} {aQ : Nat} {K : Hp} {r : Str}
    (hm : qd1 a r' = some r) (hX : RdC Jc.enc K af ag 2 r'.Ag ∧ RdC eS K aN aO 1 r'.Vary ∧ RdC eS K aP aQ 1 r'.Ah) :
    Fn Tryz.prog 38 [.agg #[str a.An, str a.Ae, str a.Af, .bool a.HasQuery], .agg #[str r'.Ae, str r'.Af, .slice af r'.Ag.length ag, .slice aN r'.Vary.length aO, .slice aP r'.Ah.length aQ, .int .i64 r'.TTL, .int .i64 r'.Ai, .int .i64 r'.Aj, .bool r'.Ak, .bool r'.Al]] K [] (fun v K' H' => v = str r ∧ H' = []) := by
 obtain ⟨aj, a8, a6⟩ := hX
 refine Fn.enter Tryz.func38 Tryz.call38 rfl fun F => ?_
 unfold qd1 at hm
 refine qar ?_
 intro b2
 refine qar ?_
 intro b3
 obtain ⟨aZ, aX, hm⟩ := bnd hm
 refine jR (σ := Bool) (rg 5 14) (fun aY => [(18, .bool aY)]) (fun aY => aY = aZ) ?_ ?_
 refine qaj rfl ?_
 refine fa rfl (ro (ld r0 rfl rfl (qbq ?_)))
 refine cS aX (fun aW aX => ?_) fun aW aX => ?_
 refine ct aW (ct aW (ct aW (ct aW ?_)))
 exact eM aX _
 refine fa rfl (cf aW (ro (ld r1 rfl rfl (cf aW ?_))))
 refine qaf ?_ ?_ <;> intro aV
 refine fa rfl (ct aV (ro (ld r0 rfl rfl (ct aV (fa rfl (ct aV (ro (ld r1 rfl rfl (ct aV ?_)))))))))
 refine qaq (cf aW (ct aV (cf aW ?_)))
 exact eMq aX _ ⟨bq (qc8 (b := decide (r'.Af = a.Af)) aV), trivial⟩
 refine cf aV (cf aV (cf aV (cf aV (cf aW (cf aV (cf aW ?_))))))
 exact eMq aX _ ⟨bq (((qbh aV)).symm), trivial⟩
 rintro aY rfl bc
 refine cs rfl rfl hm ?_ ?_ <;> intro bf hm
 refine fa rfl (ro (ld r0 rfl rfl ?_))
 obtain ⟨ba, hm⟩ := qax hm
 refine qby ba ?_
 refine fa rfl (ro (ld r0 rfl rfl ?_))
 obtain ⟨bb, hm⟩ := qax hm
 refine qby bb ?_
 exact eE hm
 refine fa rfl (ro (ld r0 rfl rfl ?_))
 exact eE hm

def JcE (s : (List Str)) : Option ((List Str)) :=
  (chk (([] : List Str).length + s.length ≤ lim)).bind fun _ =>
  some (([] : List Str) ++ s)
theorem JdM {s : (List Str)} {aa : Option Addr} {ab : Nat} {n0 : Nat} {K : Hp} {r : (List Str)}
    (hm : JcE s = some r) (hX : RdC eS K aa ab 1 s ∧ n0 = s.length) :
    Fn Tryz.prog 39 [.slice aa n0 ab] K [] (fun v K' H' => ∃ ar_0 : Option Addr, ∃ cr_0 : Nat, v = .slice ar_0 r.length cr_0 ∧ (0 < r.length → Has ar_0) ∧ H' = [OwnL eS ar_0 9 1 cr_0 r]) := by
 obtain ⟨ae, aV⟩ := hX
 subst aV
 refine Fn.enter Tryz.func39 Tryz.call39 rfl fun F => ?_
 unfold JcE at hm
 rcases Classical.em (aa = none) with hz | hz
 subst hz
 obtain rfl := RdC.none_nil ae
 obtain ⟨_, hm⟩ := qax hm
 obtain rfl := si hm
 refine qma rfl ?_
 refine qac rfl (cT ?_)
 refine qcp eS 9 1 ?_
 exact en lr ⟨none, 0, rfl, (fun h => by simp at h), rfl⟩ (pf rfl)
 refine qml hz rfl ?_
 refine qac rfl (cF ?_)
 refine bsO (len := 0) (enc := eS) (l := ([] : List Str)) (cl := []) qca rfl rfl (fun _ _ => rfl) rfl rfl rfl ?_ fun b5 => ?_
 · conv => whnf
   first | done | rfl
 obtain ⟨h7, hm⟩ := qax hm
 refine apE rfl r0 qca (quv rfl ae.rd rfl) h7 ?_
 intro a7 c7 o7
 exact eE hm

def qdn (c : UInt8) : Option (Bool) :=
  some ((decide ((c.toNat : Int) < 32) && decide ((c.toNat : Int) ≠ 9)) || decide ((c.toNat : Int) = 127))
theorem qgn {c : UInt8} {K : Hp} {r : Bool}
    (hm : qdn c = some r)  :
    Fn Tryz.prog 147 [.int .u8 (c.toNat : Int)] K [] (fun v K' H' => v = .bool r ∧ H' = []) := by
 refine Fn.enter Tryz.func147 Tryz.call147 rfl fun F => ?_
 unfold qdn at hm
 refine qaj rfl ?_
 refine qaf ?_ ?_ <;> intro aV
 refine ct aV (qbb (ct aV ?_))
 refine qaf ?_ ?_ <;> intro aW
 refine ct aW (ct aW ?_)
 exact bE (((qco (qc1 aV aW))).symm) (eE hm)
 refine cf aW (qag (cf aW ?_))
 exact bE (qid (b := decide ((c.toNat : Int) = 127)) (qc2 aV aW)) (eE hm)
 refine cf aV (cf aV (cF (cF (qag (cF ?_)))))
 exact bE (qid (b := decide ((c.toNat : Int) = 127)) (qbh aV)) (eE hm)

def syntax_clean_L0 : List UInt8 → Nat → Option (Fl (Bool) (Unit))
  | [], _ => some (Fl.go ())
  | e0 :: aW, i0 =>
    (qdn e0).bind fun aV =>
    if aV then
    some (Fl.ret false)
    else
    syntax_clean_L0 aW (i0 + 1)
def qee (s : Str) : Option (Bool) :=
  (chk (s.length ≤ qa1)).bind fun _ =>
  (syntax_clean_L0 s 0).bind fun s0 => s0.el some fun t0 =>
  some true
theorem qhx {s : Str} {K : Hp} {r : Bool}
    (hm : qee s = some r)  :
    Fn Tryz.prog 95 [str s] K [] (fun v K' H' => v = .bool r ∧ H' = []) := by
 refine Fn.enter Tryz.func95 Tryz.call95 rfl fun F => ?_
 unfold qee at hm
 refine ro (qa4 rfl ?_)
 obtain ⟨aY, hm⟩ := qax hm
 obtain ⟨s0, aV, hm⟩ := bnd hm
 refine lD (σ := (Unit)) ([2,3] ++ rg 6 8) [0] (fun i0 => [(6, .int .i64 (i0 : Int))]) (fun _ => []) (fun _ => []) (fun _ => True) (fun i0 _ => syntax_clean_L0 (s.drop i0) i0 = some s0) (fun t0 => s0 = Fl.go t0) (fun i0 => s.length - i0) 0 () aV (And.intro qe (And.intro ?_ ?_))
 clear aV
 rintro i0 _ _ aV j0
 conv at aV => whnf
 refine qac rfl ?_
 refine qaf ?_ ?_ <;> intro w0
 obtain ⟨e0, aW, aZ⟩ := ltx w0
 rw [aZ, syntax_clean_L0.eq_2] at aV
 refine qam rfl ?_
 refine qa0 rfl (nn _) aW ?_
 refine cb aV fun a6 aX aV => cg0 (qgn aX :) ?_
 refine cs rfl rfl aV ?_ ?_ <;> intro a8 aV
 exact eE (er aV hm)
 refine qan (qbu aW aY) ?_
 exact eR aV (_, ())
 rw [lty w0, syntax_clean_L0.eq_1] at aV
 refine cT ?_
 exact eM aV _
 rintro t0 _ rfl j0
 replace hm := elg hm
 exact eE hm

def syntax_parts_L0 (s : Str) (separator : UInt8) : Nat → (List Str) → Int → Bool → Int → Option ((List Str) × Int × Bool × Int)
  | 0, _, _, _, _ => none
  | aY + 1, ac, aX, aW, aV =>
    if decide (aV < (s.length : Int)) then
    (if aW then (ix s aV).bind fun ba =>
    some (decide ((ba.toNat : Int) = 92)) else some false).bind fun aZ =>
    if aZ then
    (chk (InI (aV + 1))).bind fun _ =>
    (chk (InI ((aV + 1) + 1))).bind fun _ =>
    syntax_parts_L0 s separator aY ac aX aW ((aV + 1) + 1)
    else
    (ix s aV).bind fun bc =>
    if decide ((bc.toNat : Int) = 34) then
    (chk (InI (aV + 1))).bind fun _ =>
    syntax_parts_L0 s separator aY ac aX (!aW) (aV + 1)
    else
    (if (!aW) then (ix s aV).bind fun bb =>
    some (decide ((bb.toNat : Int) = (separator.toNat : Int))) else some false).bind fun a6 =>
    if a6 then
    (chk (0 ≤ aX ∧ aX ≤ aV ∧ aV ≤ (s.length : Int))).bind fun _ =>
    (qmm (subL s aX aV) ([32, 9] : Str)).bind fun a8 =>
    (chk (ac.length + [a8].length ≤ lim)).bind fun _ =>
    (chk (InI (aV + 1))).bind fun _ =>
    (chk (InI (aV + 1))).bind fun _ =>
    syntax_parts_L0 s separator aY (ac ++ [a8]) (aV + 1) aW (aV + 1)
    else
    (chk (InI (aV + 1))).bind fun _ =>
    syntax_parts_L0 s separator aY ac aX aW (aV + 1)
    else
    some (ac, aX, aW, aV)
def qef (n : Nat) (s : Str) (separator : UInt8) : Option ((List Str) × Err) :=
  (qee s).bind fun aW =>
  if (!aW) then
  some ([], (some 2))
  else
  (syntax_parts_L0 s separator n [] 0 false 0).bind fun t0 =>
  if t0.2.2.1 then
  some ([], (some 2))
  else
  (chk (0 ≤ t0.2.1 ∧ t0.2.1 ≤ (s.length : Int) ∧ (s.length : Int) ≤ (s.length : Int))).bind fun _ =>
  (qmm (subL s t0.2.1 (s.length : Int)) ([32, 9] : Str)).bind fun aV =>
  (chk (t0.1.length + [aV].length ≤ lim)).bind fun _ =>
  some ((t0.1 ++ [aV]), none)
theorem qhy {n : Nat} {s : Str} {separator : UInt8} {K : Hp} {r : (List Str) × Err}
    (hm : qef n s separator = some r)  :
    Fn Tryz.prog 87 [str s, .int .u8 (separator.toNat : Int)] K [] (fun v K' H' => ∃ ar_0 : Option Addr, ∃ cr_0 : Nat, v = .tuple #[.slice ar_0 r.1.length cr_0, qc3 48 r.2] ∧ (0 < r.1.length → Has ar_0) ∧ H' = [OwnL eS ar_0 9 1 cr_0 r.1]) := by
 refine Fn.enter Tryz.func87 Tryz.call87 rfl fun F => ?_
 unfold qef at hm
 refine cb hm fun bP bG hm => cg0 (qhx bG :) ?_
 refine qav ?_
 refine cs rfl rfl hm ?_ ?_ <;> intro cu hm
 refine qas rfl ?_
 refine qcp eS 9 1 ?_
 exact eE hm
 obtain ⟨s0, aW, hm⟩ := bnd hm
 refine qjd eS 9 1 ?_
 refine lD (σ := ((List Str) × Int × Bool × Int) × Option Addr × Nat) ([6,7,8,9] ++ rg 14 43) [1] (fun _ => []) (fun (t0, aY, aZ) => [(6, .slice aY t0.1.length aZ), (7, .int .i64 t0.2.1), (8, .bool t0.2.2.1), (9, .int .i64 t0.2.2.2)]) (fun (t0, aY, aZ) => [OwnL eS aY 9 1 aZ t0.1]) (fun (t0, aY, aZ) => (0 < t0.1.length → Has aY) ∧ True) (fun i0 (t0, aY, aZ) => syntax_parts_L0 s separator i0 t0.1 t0.2.1 t0.2.2.1 t0.2.2.2 = some s0) (fun (t0, aY, aZ) => t0 = s0) (fun i0 => i0) n ((_, _, _, _), _, _) aW (And.intro qe (And.intro ?_ ?_))
 clear aW
 rintro i0 ⟨⟨ac, bg, bH, bj⟩, bv, bu⟩ ⟨bo, _⟩ aW j0
 dsimp only at aW ⊢
 cases i0 with
 | zero => rw [syntax_parts_L0.eq_1] at aW; cases aW
 | succ i0 =>
  rw [syntax_parts_L0.eq_2] at aW
  refine ro (qa4 rfl ?_)
  refine cs rfl rfl aW ?_ ?_ <;> intro bZ aW
  refine qam rfl ?_
  refine qam rfl ?_
  obtain ⟨bm, a6, aW⟩ := bnd aW
  refine jR (σ := Bool) (rg 20 8) (fun ba => [(20, .bool ba)]) (fun ba => ba = bm) ?_ ?_
  replace a6 := bsm a6
  refine qaj rfl ?_
  obtain ⟨cn, bf, a6⟩ := bnd a6
  refine cS bf (fun aX bf => ?_) fun aX bf => ?_
  refine ct aX (ct aX ?_)
  obtain ⟨ca, bM, bw, bf⟩ := ixb bf
  refine qa0 rfl bM bw (ct aX (qag (ct aX ?_)))
  exact eMq a6 _ ⟨bq (si bf), trivial⟩
  refine cf aX (cf aX (cf aX (cf aX ?_)))
  exact eMq a6 _ ⟨bq (si bf), trivial⟩
  rintro ba rfl bI
  refine CStep.ownLe r0 fun cd => ?_
  refine cs rfl rfl aW ?_ ?_ <;> intro bW aW
  refine ci aW fun aW => ?_
  refine ci aW fun aW => ?_
  exact eR aW (_, (_, _, _, _), _, _)
  obtain ⟨bX, bD, bK, aW⟩ := ixb aW
  refine qa0 rfl bD bK (qag ?_)
  refine CStep.ownLe r0 fun cr => ?_
  refine cs rfl rfl aW ?_ ?_ <;> intro bV aW
  refine qav ?_
  refine ci aW fun aW => ?_
  exact eR aW (_, (_, _, _, _), _, _)
  obtain ⟨bh, a8, aW⟩ := bnd aW
  refine jR (σ := Bool) (rg 37 10) (fun bb => [(37, .bool bb)]) (fun bb => bb = bh) ?_ ?_
  replace a8 := bsm a8
  refine qaj rfl ?_
  refine qav ?_
  obtain ⟨bQ, bc, a8⟩ := bnd a8
  refine cS bc (fun aV bc => ?_) fun aV bc => ?_
  refine ct aV (ct aV ?_)
  obtain ⟨cp, bC, bB, bc⟩ := ixb bc
  refine qa0 rfl bC bB (ct aV (ct aV (qag (ct aV ?_))))
  exact eMq a8 _ ⟨bq (si bc), trivial⟩
  refine cf aV (cf aV (cf aV (cf aV (cf aV ?_))))
  exact eMq a8 _ ⟨bq (si bc), trivial⟩
  rintro bb rfl bz
  refine CStep.ownLe r0 fun ce => ?_
  refine cs rfl rfl aW ?_ ?_ <;> intro cj aW
  obtain ⟨bF, aW⟩ := qax aW
  refine RStep.ofN (qek (lo := (some bg)) (hi := (some bj)) rfl bF ?_)
  refine cb aW fun bt bO aW => cg0 (qm5 bO) ?_
  refine bsO (len := 1) (enc := eS) (l := [bt]) (cl := [str bt]) qca rfl rfl (fun _ _ => rfl) rfl rfl rfl ?_ fun cm => ?_
  · conv => whnf
    refine cT ?_
    first | done | rfl
  obtain ⟨bL, aW⟩ := qax aW
  refine apE rfl r1 qca (qaz rfl r0 rfl (fun _ => rfl) (fun _ => rfl)) bL ?_
  intro bT bR cq
  refine ci aW fun aW => ?_
  refine ci aW fun aW => ?_
  exact eR aW (_, (_, _, _, _), _, _)
  refine ci aW fun aW => ?_
  exact eR aW (_, (_, _, _, _), _, _)
  refine cT ?_
  exact eM aW (_, _, _)
 rintro ⟨t0, aY, aZ⟩ ⟨bp, _⟩ rfl j0
 refine cs rfl rfl hm ?_ ?_ <;> intro bS hm
 refine qas rfl ?_
 refine qcp eS 9 1 ?_
 exact eE hm
 obtain ⟨bJ, hm⟩ := qax hm
 refine RStep.ofN (qek (lo := (some t0.2.1)) (hi := none) rfl bJ ?_)
 refine cb hm fun bn bA hm => cg0 (qm5 bA) ?_
 refine bsO (len := 1) (enc := eS) (l := [bn]) (cl := [str bn]) qca rfl rfl (fun _ _ => rfl) rfl rfl rfl ?_ fun cw => ?_
 · conv => whnf
   refine cT ?_
   first | done | rfl
 obtain ⟨bN, hm⟩ := qax hm
 refine apE rfl r1 qca (qaz rfl r0 rfl (fun _ => rfl) (fun _ => rfl)) bN ?_
 intro cy bU bY
 exact eE hm

def syntax_List_L0 : List Str → Nat → (List Str) → Option ((List Str))
  | [], _, ac => some ac
  | e0 :: aV, i0, ac =>
    if decide (e0 ≠ ([] : Str)) then
    (chk (ac.length + [e0].length ≤ lim)).bind fun _ =>
    syntax_List_L0 aV (i0 + 1) (ac ++ [e0])
    else
    syntax_List_L0 aV (i0 + 1) ac
def qfa (n : Nat) (s : Str) : Option ((List Str) × Err) :=
  (qef n s (44 : UInt8)).bind fun aV =>
  if aV.2.isSome then
  some ([], aV.2)
  else
  (chk (aV.1.length ≤ qa1)).bind fun _ =>
  (syntax_List_L0 aV.1 0 []).bind fun t0 =>
  some (t0, none)
theorem qiz {n : Nat} {s : Str} {K : Hp} {r : (List Str) × Err}
    (hm : qfa n s = some r)  :
    Fn Tryz.prog 52 [str s] K [] (fun v K' H' => ∃ ar_0 : Option Addr, ∃ cr_0 : Nat, v = .tuple #[.slice ar_0 r.1.length cr_0, qc3 48 r.2] ∧ (0 < r.1.length → Has ar_0) ∧ H' = [OwnL eS ar_0 9 1 cr_0 r.1]) := by
 refine Fn.enter Tryz.func52 Tryz.call52 rfl fun F => ?_
 unfold qfa at hm
 refine cb hm fun a8 bm hm => ck0 (qhy bm :) ?_
 rintro _ _ _ ⟨a6, bc, rfl, aY, rfl⟩
 refine qa7 rfl ?_
 refine cs rfl rfl hm ?_ ?_ <;> intro bv hm
 refine qcp eS 9 1 ?_
 exact eE hm
 refine ro (qal rfl ?_)
 obtain ⟨bf, hm⟩ := qax hm
 obtain ⟨s0, aX, hm⟩ := bnd hm
 refine qjd eS 9 1 ?_
 refine lD (σ := ((List Str)) × Option Addr × Nat) ([6,8] ++ rg 19 11) [1, 2] (fun i0 => [(19, .int .i64 (i0 : Int))]) (fun (t0, aV, aW) => [(6, .slice aV t0.length aW)]) (fun (t0, aV, aW) => [OwnL eS aV 9 1 aW t0]) (fun (t0, aV, aW) => (0 < t0.length → Has aV) ∧ True) (fun i0 (t0, aV, aW) => syntax_List_L0 (a8.1.drop i0) i0 t0 = some s0) (fun (t0, aV, aW) => t0 = s0) (fun i0 => a8.1.length - i0) 0 (_, _, _) aX (And.intro qe (And.intro ?_ ?_))
 clear aX
 rintro i0 ⟨ac, bh, bg⟩ ⟨ba, _⟩ aX j0
 conv at aX => whnf
 refine qac rfl ?_
 refine qaf ?_ ?_ <;> intro w0
 obtain ⟨e0, aZ, bn⟩ := ltx w0
 rw [bn, syntax_List_L0.eq_2] at aX
 refine qam rfl ?_
 refine RStep.ofN (qae rfl rfl (qcz aY aZ) (nn _) (qfh rfl aZ) (ro (qb2 (i := i0) (o := 0) r1 rfl aZ rfl rfl (qbq ?_))))
 refine cs rfl rfl aX ?_ ?_ <;> intro bo aX
 refine bsO (len := 1) (enc := eS) (l := [e0]) (cl := [str e0]) qca rfl rfl (fun _ _ => rfl) rfl rfl rfl ?_ fun bp => ?_
 · conv => whnf
   refine cT ?_
   first | done | rfl
 obtain ⟨bj, aX⟩ := qax aX
 refine apE rfl r1 qca (qaz rfl r0 rfl (fun _ => rfl) (fun _ => rfl)) bj ?_
 intro bt bu bw
 refine qan (qbu aZ bf) ?_
 exact eR aX (_, _, _, _)
 refine qan (qbu aZ bf) ?_
 exact eR aX (_, _, _, _)
 rw [lty w0, syntax_List_L0.eq_1] at aX
 refine cT ?_
 exact eM aX (_, _, _)
 rintro ⟨t0, aV, aW⟩ ⟨bb, _⟩ rfl j0
 exact eE hm

def Jcz : List Str → Nat → (List Str) → Option ((List Str))
  | [], _, aV => some aV
  | e2 :: aX, i2, aV =>
    (JbK e2).bind fun aW =>
    (chk (aV.length + [aW].length ≤ lim)).bind fun _ =>
    Jcz aX (i2 + 1) (aV ++ [aW])
def Jce (n : Nat) : List Str → Nat → (List Str) → Option ((List Str))
  | [], _, ac => some ac
  | e0 :: aW, i0, ac =>
    (qfa n e0).bind fun aV =>
    if aV.2.isSome then
    Jce n aW (i0 + 1) ac
    else
    (chk (aV.1.length ≤ qa1)).bind fun _ =>
    (Jcz aV.1 0 ac).bind fun t2 =>
    Jce n aW (i0 + 1) t2
def Jcf (t0 : (List Str)) : List Jc → Nat → (List Jc) → Option ((List Jc))
  | [], _, aV => some aV
  | e4 :: aW, i4, aV =>
    (JbK e4.Name).bind fun aY =>
    (JQ t0 aY).bind fun aX =>
    if (!aX) then
    (chk (aV.length + [e4].length ≤ lim)).bind fun _ =>
    Jcf t0 aW (i4 + 1) (aV ++ [e4])
    else
    Jcf t0 aW (i4 + 1) aV
def Jd2 (n : Nat) (f : (List Jc)) : Option ((List Jc)) :=
  (Jdx f ([99, 111, 110, 110, 101, 99, 116, 105, 111, 110] : Str)).bind fun aV =>
  (chk (aV.length ≤ qa1)).bind fun _ =>
  (Jce n aV 0 ([([99, 111, 110, 110, 101, 99, 116, 105, 111, 110] : Str), ([107, 101, 101, 112, 45, 97, 108, 105, 118, 101] : Str), ([112, 114, 111, 120, 121, 45, 99, 111, 110, 110, 101, 99, 116, 105, 111, 110] : Str), ([112, 114, 111, 120, 121, 45, 97, 117, 116, 104, 101, 110, 116, 105, 99, 97, 116, 101] : Str), ([112, 114, 111, 120, 121, 45, 97, 117, 116, 104, 111, 114, 105, 122, 97, 116, 105, 111, 110] : Str), ([116, 101] : Str), ([116, 114, 97, 105, 108, 101, 114] : Str), ([116, 114, 97, 110, 115, 102, 101, 114, 45, 101, 110, 99, 111, 100, 105, 110, 103] : Str), ([117, 112, 103, 114, 97, 100, 101] : Str)])).bind fun t0 =>
  (chk (f.length ≤ qa1)).bind fun _ =>
  (Jcf t0 f 0 []).bind fun t4 =>
  some t4
theorem Jez {n : Nat} {f : (List Jc)} {aa : Option Addr} {ab : Nat} {n0 : Nat} {K : Hp} {r : (List Jc)}
    (hm : Jd2 n f = some r) (hX : RdC Jc.enc K aa ab 2 f ∧ n0 = f.length) :
    Fn Tryz.prog 22 [.slice aa n0 ab] K [] (fun v K' H' => ∃ ar_0 : Option Addr, ∃ cr_0 : Nat, v = .slice ar_0 r.length cr_0 ∧ (0 < r.length → Has ar_0) ∧ H' = [OwnL Jc.enc ar_0 41 2 cr_0 r]) := by
 obtain ⟨ae, bV⟩ := hX
 subst bV
 refine Fn.enter Tryz.func22 Tryz.call22 rfl fun F => ?_
 unfold Jd2 at hm
 refine bsO (len := 9) (enc := eS) (l := [([99, 111, 110, 110, 101, 99, 116, 105, 111, 110] : Str), ([107, 101, 101, 112, 45, 97, 108, 105, 118, 101] : Str), ([112, 114, 111, 120, 121, 45, 99, 111, 110, 110, 101, 99, 116, 105, 111, 110] : Str), ([112, 114, 111, 120, 121, 45, 97, 117, 116, 104, 101, 110, 116, 105, 99, 97, 116, 101] : Str), ([112, 114, 111, 120, 121, 45, 97, 117, 116, 104, 111, 114, 105, 122, 97, 116, 105, 111, 110] : Str), ([116, 101] : Str), ([116, 114, 97, 105, 108, 101, 114] : Str), ([116, 114, 97, 110, 115, 102, 101, 114, 45, 101, 110, 99, 111, 100, 105, 110, 103] : Str), ([117, 112, 103, 114, 97, 100, 101] : Str)]) (cl := [str ([99, 111, 110, 110, 101, 99, 116, 105, 111, 110] : Str), str ([107, 101, 101, 112, 45, 97, 108, 105, 118, 101] : Str), str ([112, 114, 111, 120, 121, 45, 99, 111, 110, 110, 101, 99, 116, 105, 111, 110] : Str), str ([112, 114, 111, 120, 121, 45, 97, 117, 116, 104, 101, 110, 116, 105, 99, 97, 116, 101] : Str), str ([112, 114, 111, 120, 121, 45, 97, 117, 116, 104, 111, 114, 105, 122, 97, 116, 105, 111, 110] : Str), str ([116, 101] : Str), str ([116, 114, 97, 105, 108, 101, 114] : Str), str ([116, 114, 97, 110, 115, 102, 101, 114, 45, 101, 110, 99, 111, 100, 105, 110, 103] : Str), str ([117, 112, 103, 114, 97, 100, 101] : Str)]) qca rfl rfl (fun _ _ => rfl) rfl rfl rfl ?_ fun cq => ?_
 · conv => whnf
   refine cT (cT (cT (cT (cT (cT (cT (cT ?_)))))))
   refine cT ?_
   first | done | rfl
 refine cb hm fun bp bR hm => ckx (JcX bR :) ?_
 rintro _ _ _ ⟨bw, bF, rfl, bh, rfl⟩
 refine ro (qal rfl ?_)
 obtain ⟨bL, hm⟩ := qax hm
 obtain ⟨s0, a8, hm⟩ := bnd hm
 refine lD (σ := ((List Str)) × Option Addr × Nat) ([3,5,6,7,9] ++ rg 17 24) [0, 2] (fun i0 => [(17, .int .i64 (i0 : Int))]) (fun (t0, aV, aZ) => [(3, .slice aV t0.length aZ)]) (fun (t0, aV, aZ) => [OwnL eS aV 9 1 aZ t0]) (fun (t0, aV, aZ) => (0 < t0.length → Has aV) ∧ True) (fun i0 (t0, aV, aZ) => Jce n (bp.drop i0) i0 t0 = some s0) (fun (t0, aV, aZ) => t0 = s0) (fun i0 => bp.length - i0) 0 (_, _, _) a8 (And.intro qe (And.intro ?_ ?_))
 clear a8
 rintro i0 ⟨ac, bC, bu⟩ ⟨bo, _⟩ a8 j0
 conv at a8 => whnf
 refine qac rfl ?_
 refine qaf ?_ ?_ <;> intro w0
 obtain ⟨e0, bg, bX⟩ := ltx w0
 rw [bX, Jce.eq_2] at a8
 refine qam rfl ?_
 refine RStep.ofN (qae rfl rfl (qcz bh bg) (nn _) (qfh rfl bg) (ro (qb2 (i := i0) (o := 0) r1 rfl bg rfl rfl ?_)))
 refine cb a8 fun bG bW a8 => ck0 (qiz bW :) ?_
 rintro _ _ _ ⟨bA, bt, rfl, bj, rfl⟩
 refine qa7 rfl ?_
 refine cs rfl rfl a8 ?_ ?_ <;> intro cp a8
 refine cT (qan (qbu bg bL) ?_)
 exact eR a8 (_, _, _, _)
 refine ro (qal rfl ?_)
 obtain ⟨cd, a8⟩ := qax a8
 obtain ⟨s2, bb, a8⟩ := bnd a8
 refine lD (σ := ((List Str)) × Option Addr × Nat) ([3,9] ++ rg 30 10) [0, 2, 3] (fun i2 => [(30, .int .i64 (i2 : Int))]) (fun (t2, aW, a6) => [(3, .slice aW t2.length a6)]) (fun (t2, aW, a6) => [OwnL eS aW 9 1 a6 t2]) (fun (t2, aW, a6) => (0 < t2.length → Has aW) ∧ True) (fun i2 (t2, aW, a6) => Jcz (bG.1.drop i2) i2 t2 = some s2) (fun (t2, aW, a6) => t2 = s2) (fun i2 => bG.1.length - i2) 0 (_, _, _) bb (And.intro qe (And.intro ?_ ?_))
 clear bb
 rintro i2 ⟨cj, bK, bn⟩ ⟨bD, _⟩ bb j2
 conv at bb => whnf
 refine qac rfl ?_
 refine qaf ?_ ?_ <;> intro w2
 obtain ⟨e2, bm, bQ⟩ := ltx w2
 rw [bQ, Jcz.eq_2] at bb
 refine qam rfl ?_
 refine RStep.ofN (qae rfl rfl (qcz bj bm) (nn _) (qfh rfl bm) (ro (qb2 (i := i2) (o := 0) r1 rfl bm rfl rfl ?_)))
 refine cb bb fun bB cm bb => cg0 (Jbs cm :) ?_
 refine bsO (len := 1) (enc := eS) (l := [bB]) (cl := [str bB]) qca rfl rfl (fun _ _ => rfl) rfl rfl rfl ?_ fun cA => ?_
 · conv => whnf
   refine cT ?_
   first | done | rfl
 obtain ⟨bZ, bb⟩ := qax bb
 refine apE rfl r1 qca (qaz rfl r0 rfl (fun _ => rfl) (fun _ => rfl)) bZ ?_
 intro cr cC cG
 refine qan (qbu bm cd) ?_
 exact eR bb (_, _, _, _)
 rw [lty w2, Jcz.eq_1] at bb
 refine cT ?_
 exact eM bb (_, _, _)
 rintro ⟨t2, aW, a6⟩ ⟨bv, _⟩ rfl j2
 refine qan (qbu bg bL) ?_
 exact eR a8 (_, _, _, _)
 rw [lty w0, Jce.eq_1] at a8
 refine cT ?_
 exact eM a8 (_, _, _)
 rintro ⟨t0, aV, aZ⟩ ⟨bI, _⟩ rfl j0
 refine ro (qal rfl ?_)
 obtain ⟨bM, hm⟩ := qax hm
 obtain ⟨s4, ba, hm⟩ := bnd hm
 refine qjd Jc.enc 41 2 ?_
 refine lD (σ := ((List Jc)) × Option Addr × Nat) ([10,12] ++ rg 43 15) [1, 2, 3] (fun i4 => [(43, .int .i64 (i4 : Int))]) (fun (t4, aX, aY) => [(10, .slice aX t4.length aY)]) (fun (t4, aX, aY) => [OwnL Jc.enc aX 41 2 aY t4]) (fun (t4, aX, aY) => (0 < t4.length → Has aX) ∧ True) (fun i4 (t4, aX, aY) => Jcf t0 (f.drop i4) i4 t4 = some s4) (fun (t4, aX, aY) => t4 = s4) (fun i4 => f.length - i4) 0 (_, _, _) ba (And.intro qe (And.intro ?_ ?_))
 clear ba
 rintro i4 ⟨bT, bP, bz⟩ ⟨bH, _⟩ ba j4
 conv at ba => whnf
 refine qac rfl ?_
 refine qaf ?_ ?_ <;> intro w4
 obtain ⟨e4, bf, bY⟩ := ltx w4
 rw [bY, Jcf.eq_2] at ba
 refine qam rfl ?_
 refine RStep.ofN (qae rfl rfl (qea ae.rd bf) (nn _) (qbp bf) (ro (qao i4 _ ae.rd rfl (mp bf) rfl ?_)))
 refine qai rfl fun cD => ?_
 refine qaa r0 rfl ⟨rfl, rfl, (nl rfl), ?_⟩
 refine fa rfl (ro (ld r0 rfl rfl ?_))
 refine cb ba fun bU ca ba => cg0 (Jbs ca :) ?_
 refine cb ba fun cn ce ba => ck0 (Fn.lend Tryz.call53 (fun bJ bO bc => (JY (v' := bU) ce ⟨bc, rfl⟩)) (by exact fun _ _ _ _ h => h)) ?_
 rintro _ _ _ ⟨_, rfl, rfl, rfl⟩
 refine qav ?_
 refine cs rfl rfl ba ?_ ?_ <;> intro cu ba
 refine ro (qab r1 rfl (nl rfl) ?_)
 refine bsO (len := 1) (enc := Jc.enc) (l := [e4]) (cl := [str e4.Name, str e4.Value]) qhu rfl rfl (fun _ _ => rfl) rfl rfl rfl ?_ fun cz => ?_
 · conv => whnf
   refine cT ?_
   first | done | rfl
 obtain ⟨bS, ba⟩ := qax ba
 refine apE rfl r3 qhu (qaz rfl r0 rfl (fun _ => rfl) (fun _ => rfl)) bS ?_
 intro cB cw cy
 refine qan (qbu bf bM) ?_
 exact eR ba (_, _, _, _)
 refine qan (qbu bf bM) ?_
 exact eR ba (_, _, _, _)
 rw [lty w4, Jcf.eq_1] at ba
 refine cT ?_
 exact eM ba (_, _, _)
 rintro ⟨t4, aX, aY⟩ ⟨bN, _⟩ rfl j4
 exact eE hm

def Jb0 (x9 : Str) : List Jc → Nat → (List Jc) → Option ((List Jc))
  | [], _, ac => some ac
  | e0 :: aV, i0, ac =>
    (JbK e0.Name).bind fun aW =>
    if decide (aW ≠ x9) then
    (chk (ac.length + [e0].length ≤ lim)).bind fun _ =>
    Jb0 x9 aV (i0 + 1) (ac ++ [e0])
    else
    Jb0 x9 aV (i0 + 1) ac
def JdS (f : (List Jc)) (name : Str) : Option ((List Jc)) :=
  (JbK name).bind fun x9 =>
  (chk (f.length ≤ qa1)).bind fun _ =>
  (Jb0 x9 f 0 []).bind fun t0 =>
  some t0
theorem Jeu {f : (List Jc)} {name : Str} {aa : Option Addr} {ab : Nat} {n0 : Nat} {K : Hp} {r : (List Jc)}
    (hm : JdS f name = some r) (hX : RdC Jc.enc K aa ab 2 f ∧ n0 = f.length) :
    Fn Tryz.prog 72 [.slice aa n0 ab, str name] K [] (fun v K' H' => ∃ ar_0 : Option Addr, ∃ cr_0 : Nat, v = .slice ar_0 r.length cr_0 ∧ (0 < r.length → Has ar_0) ∧ H' = [OwnL Jc.enc ar_0 41 2 cr_0 r]) := by
 obtain ⟨ae, bg⟩ := hX
 subst bg
 refine Fn.enter Tryz.func72 Tryz.call72 rfl fun F => ?_
 unfold JdS at hm
 refine cb hm fun x9 q9 hm => cg0 (Jbs q9 :) ?_
 refine ro (qal rfl ?_)
 obtain ⟨a8, hm⟩ := qax hm
 obtain ⟨s0, aX, hm⟩ := bnd hm
 refine qjd Jc.enc 41 2 ?_
 refine lD (σ := ((List Jc)) × Option Addr × Nat) ([5,7] ++ rg 12 14) [1] (fun i0 => [(12, .int .i64 (i0 : Int))]) (fun (t0, aV, aW) => [(5, .slice aV t0.length aW)]) (fun (t0, aV, aW) => [OwnL Jc.enc aV 41 2 aW t0]) (fun (t0, aV, aW) => (0 < t0.length → Has aV) ∧ True) (fun i0 (t0, aV, aW) => Jb0 x9 (f.drop i0) i0 t0 = some s0) (fun (t0, aV, aW) => t0 = s0) (fun i0 => f.length - i0) 0 (_, _, _) aX (And.intro qe (And.intro ?_ ?_))
 clear aX
 rintro i0 ⟨ac, bb, ba⟩ ⟨aZ, _⟩ aX j0
 conv at aX => whnf
 refine qac rfl ?_
 refine qaf ?_ ?_ <;> intro w0
 obtain ⟨e0, aY, bh⟩ := ltx w0
 rw [bh, Jb0.eq_2] at aX
 refine qam rfl ?_
 refine RStep.ofN (qae rfl rfl (qea ae.rd aY) (nn _) (qbp aY) (ro (qao i0 _ ae.rd rfl (mp aY) rfl ?_)))
 refine qai rfl fun b7 => ?_
 refine qaa r0 rfl ⟨rfl, rfl, (nl rfl), ?_⟩
 refine fa rfl (ro (ld r0 rfl rfl ?_))
 refine cb aX fun bo bc aX => cg0 (Jbs bc :) ?_
 refine qbq (cs rfl rfl aX ?_ ?_) <;> intro bm aX
 refine ro (qab r0 rfl (nl rfl) ?_)
 refine bsO (len := 1) (enc := Jc.enc) (l := [e0]) (cl := [str e0.Name, str e0.Value]) qhu rfl rfl (fun _ _ => rfl) rfl rfl rfl ?_ fun bj => ?_
 · conv => whnf
   refine cT ?_
   first | done | rfl
 obtain ⟨bf, aX⟩ := qax aX
 refine apE rfl r2 qhu (qaz rfl r0 rfl (fun _ => rfl) (fun _ => rfl)) bf ?_
 intro bp bt bn
 refine qan (qbu aY a8) ?_
 exact eR aX (_, _, _, _)
 refine qan (qbu aY a8) ?_
 exact eR aX (_, _, _, _)
 rw [lty w0, Jb0.eq_1] at aX
 refine cT ?_
 exact eM aX (_, _, _)
 rintro ⟨t0, aV, aW⟩ ⟨a6, _⟩ rfl j0
 exact eE hm

def qb6 (x : Jc) : Option (Bool) :=
  (qdh x.Name).bind fun x5 =>
  (JaB x5 ([113, 117, 97, 121, 45] : Str)).bind fun x6 =>
  some x6
theorem qc5 {x : Jc} {K : Hp} {r : Bool}
    (hm : qb6 x = some r)  :
    Fn Tryz.prog 74 [.agg #[str x.Name, str x.Value]] K [] (fun v K' H' => v = .bool r ∧ H' = []) := by
 refine Fn.enter Tryz.func74 Tryz.call74 rfl fun F => ?_
 unfold qb6 at hm
 refine qar ?_
 intro b1
 refine fa rfl (ro (ld r0 rfl rfl ?_))
 refine cb hm fun x5 q5 hm => cg0 (qeb q5 :) ?_
 refine cb hm fun x6 q6 hm => cg0 (Jbh q6 :) ?_
 exact eE hm

def JV : List Jc → Nat → Option (Fl (Int) (Unit))
  | [], _ => some (Fl.go ())
  | e0 :: aV, i0 =>
    (qb6 e0).bind fun aW =>
    if aW then
    some (Fl.ret (i0 : Int))
    else
    JV aV (i0 + 1)
def JaQ (s : (List Jc)) : Option (Int) :=
  (chk (s.length ≤ qa1)).bind fun _ =>
  (JV s 0).bind fun s0 => s0.el some fun t0 =>
  some (-1)
theorem Jcb {s : (List Jc)} {aa : Option Addr} {ab : Nat} {n0 : Nat} {K : Hp} {r : Int}
    (hm : JaQ s = some r) (hX : RdC Jc.enc K aa ab 2 s ∧ n0 = s.length) :
    Fn Tryz.prog 127 [.slice aa n0 ab, .func (.func 74) #[] #[]] K [] (fun v K' H' => v = .int .i64 r ∧ H' = []) := by
 obtain ⟨ae, aX⟩ := hX
 subst aX
 refine Fn.enter Tryz.func127 Tryz.call127 rfl fun F => ?_
 unfold JaQ at hm
 refine ro (qal rfl ?_)
 obtain ⟨aY, hm⟩ := qax hm
 obtain ⟨s0, aV, hm⟩ := bnd hm
 refine lD (σ := (Unit)) ([4,5] ++ rg 8 11) [0] (fun i0 => [(8, .int .i64 (i0 : Int))]) (fun _ => []) (fun _ => []) (fun _ => True) (fun i0 _ => JV (s.drop i0) i0 = some s0) (fun t0 => s0 = Fl.go t0) (fun i0 => s.length - i0) 0 () aV (And.intro qe (And.intro ?_ ?_))
 clear aV
 rintro i0 _ _ aV j0
 conv at aV => whnf
 refine qac rfl ?_
 refine qaf ?_ ?_ <;> intro w0
 obtain ⟨e0, aW, aZ⟩ := ltx w0
 rw [aZ, JV.eq_2] at aV
 refine qam rfl ?_
 refine RStep.ofN (qae rfl rfl (qea ae.rd aW) (nn _) (qbp aW) (ro (qao i0 _ ae.rd rfl (mp aW) rfl ?_)))
 refine cb aV fun ba a6 aV => cg0 (qc5 a6 :) ?_
 refine cs rfl rfl aV ?_ ?_ <;> intro a8 aV
 exact eE (er aV hm)
 refine qan (qbu aW aY) ?_
 exact eR aV (_, ())
 rw [lty w0, JV.eq_1] at aV
 refine cT ?_
 exact eM aV _
 rintro t0 _ rfl j0
 replace hm := elg hm
 exact eE hm

def JK (s : (List Jc)) : Nat → Int → Int → (List Jc) → Option (Int × Int × (List Jc))
  | 0, _, _, _ => none
  | aX + 1, ac, aV, aW =>
    if decide (aV < (s.length : Int)) then
    (ix aW aV).bind fun aY =>
    (qb6 aY).bind fun aZ =>
    if (!aZ) then
    (ix aW ac).bind fun a6 =>
    (chk (InI (ac + 1))).bind fun _ =>
    (chk (InI (aV + 1))).bind fun _ =>
    JK s aX (ac + 1) (aV + 1) (aW.set ((ac).toNat) aY)
    else
    (chk (InI (aV + 1))).bind fun _ =>
    JK s aX ac (aV + 1) aW
    else
    some (ac, aV, aW)
def Jaz (n : Nat) (s : (List Jc)) : Option ((List Jc)) :=
  (JaQ s).bind fun aV =>
  if decide (aV = (-1)) then
  some s
  else
  (chk (InI (aV + 1))).bind fun _ =>
  (JK s n aV (aV + 1) s).bind fun t0 =>
  (chk (0 ≤ t0.1 ∧ t0.1 ≤ (t0.2.2.length : Int) ∧ (t0.2.2.length : Int) ≤ (t0.2.2.length : Int))).bind fun _ =>
  (chk (0 ≤ (0 : Int) ∧ (0 : Int) ≤ t0.1 ∧ t0.1 ≤ ((SL.clr t0.2.2 (Int.toNat t0.1) (⟨([] : Str), ([] : Str)⟩ : Jc)).length : Int))).bind fun _ =>
  some (subL (SL.clr t0.2.2 (Int.toNat t0.1) (⟨([] : Str), ([] : Str)⟩ : Jc)) (0 : Int) t0.1)
theorem JbX {n : Nat} {s : (List Jc)} {aa : Option Addr} {ab : Nat} {n0 : Nat} {K : Hp} {r : (List Jc)}
    (hm : Jaz n s = some r) (hX : (0 < s.length → Has aa) ∧ n0 = s.length) :
    Fn Tryz.prog 73 [.slice aa n0 ab, .func (.func 74) #[] #[]] K [OwnL Jc.enc aa 41 2 ab s] (fun v K' H' => ∃ ar_0 : Option Addr, ∃ cr_0 : Nat, v = .slice ar_0 r.length cr_0 ∧ (0 < r.length → Has ar_0) ∧ H' = [OwnL Jc.enc ar_0 41 2 cr_0 r]) := by
 obtain ⟨ae, bt⟩ := hX
 subst bt
 refine Fn.enter Tryz.func73 Tryz.call73 rfl fun F => ?_
 unfold Jaz at hm
 refine cb hm fun bA bv hm => ck0 (Fn.lend Tryz.call127 (fun bh bn a6 => (Jcb bv ⟨a6, rfl⟩)) (by exact fun _ _ _ _ h => h)) ?_
 rintro _ _ _ ⟨_, rfl, rfl, rfl⟩
 refine qag (cs rfl rfl hm ?_ ?_) <;> intro bB hm
 exact eE hm
 refine ci hm fun hm => ?_
 obtain ⟨s0, aV, hm⟩ := bnd hm
 refine lD (σ := (Int × Int × (List Jc))) ([5,6,7] ++ rg 16 20) [1] (fun _ => []) (fun t0 => [(5, .int .i64 t0.1), (6, .int .i64 t0.2.1)]) (fun t0 => [OwnL Jc.enc aa 41 2 ab t0.2.2]) (fun t0 => (0 < t0.2.2.length → Has aa) ∧ s.length = t0.2.2.length) (fun i0 t0 => JK s i0 t0.1 t0.2.1 t0.2.2 = some s0) (fun t0 => t0 = s0) (fun i0 => i0) n (_, _, _) aV (And.intro qe (And.intro ?_ ?_))
 clear aV
 rintro i0 ⟨ac, aZ, bc⟩ ⟨aX, aW⟩ aV j0
 dsimp only at aV ⊢
 cases i0 with
 | zero => rw [JK.eq_1] at aV; cases aV
 | succ i0 =>
  rw [JK.eq_2] at aV
  refine ro (qal rfl ?_)
  refine cs rfl rfl aV ?_ ?_ <;> intro bC aV
  refine qam rfl ?_
  obtain ⟨bo, bg, bb, aV⟩ := ixb aV
  refine RStep.ofN (qae rfl rfl (qcz aX bb) bg (qaw aW bg bb) (ro (qj8 (i := (aZ).toNat) r0 rfl bb rfl rfl ?_)))
  refine qai rfl fun b7 => ?_
  refine qaa r0 rfl ⟨rfl, rfl, (nl rfl), ?_⟩
  refine ro (qab r0 rfl (nl rfl) ?_)
  refine cb aV fun bz bu aV => cg0 (qc5 bu :) ?_
  refine qav ?_
  refine cs rfl rfl aV ?_ ?_ <;> intro bw aV
  refine ro (qab r0 rfl (nl rfl) ?_)
  obtain ⟨bp, bj, bf, aV⟩ := ixb aV
  refine RStep.ofN (qae rfl rfl (qcz aX bf) bj (qaw aW bj bf) ?_)
  refine qe8 (o := 0) (y := bo) bp r1 rfl bf rfl (by (conv => whnf); exact ⟨rfl, rfl, (nl rfl), rfl, rfl, rfl⟩) ?_
  refine ci aV fun aV => ?_
  refine ci aV fun aV => ?_
  exact rd (i0, ((ac + 1), (aZ + 1), (bc.set ((ac).toNat) bo))) ⟨rfl, rfl, trivial⟩ rfl (sc [0,1] rfl) lr (Nat.lt_succ_self _) ⟨⟨(by first | simpa using aX | exact fun _ => ⟨_, _, rfl⟩), ((aW).trans List.length_set.symm)⟩, aV⟩
  refine ci aV fun aV => ?_
  exact eR aV (_, (_, _, _))
  refine cT ?_
  exact eM aV _
 rintro t0 ⟨a8, aY⟩ rfl j0
 obtain ⟨ba, hm⟩ := qax hm
 refine qtx (l := t0.2.2) (lo := (some t0.1)) (hi := none) aY r0 (by simp) rfl rfl ba ?_
 refine qve (lo := (Int.toNat t0.1)) (x := (⟨([] : Str), ([] : Str)⟩ : Jc)) r0 rfl rfl rfl rfl rfl (by decide) (qwl (css := t0.2.2) rfl ba) (qu6 (css := t0.2.2) rfl ba) ?_
 obtain ⟨bm, hm⟩ := qax hm
 refine qrc (l := (SL.clr t0.2.2 (Int.toNat t0.1) (⟨([] : Str), ([] : Str)⟩ : Jc))) (hi := (some t0.1)) ((aY).trans (qty ba).symm) r0 (by simp) rfl rfl bm ?_
 obtain rfl := si hm
 refine tkE t0.1 r0 ?_
 exact en lr ⟨aa, ab, rfl, (fun h => (fun h => a8 (qtz h)) (qic bm h)), rfl⟩ (pf rfl)

def tenant_upstream_L0 : Nat → Nat → (List Jc) → Option ((List Jc))
  | 0, _, ac => some ac
  | aW + 1, i0, ac =>
    (ix ([([104, 111, 115, 116] : Str), ([114, 97, 110, 103, 101] : Str), ([105, 102, 45, 114, 97, 110, 103, 101] : Str), ([105, 102, 45, 109, 97, 116, 99, 104] : Str), ([105, 102, 45, 110, 111, 110, 101, 45, 109, 97, 116, 99, 104] : Str), ([105, 102, 45, 109, 111, 100, 105, 102, 105, 101, 100, 45, 115, 105, 110, 99, 101] : Str), ([105, 102, 45, 117, 110, 109, 111, 100, 105, 102, 105, 101, 100, 45, 115, 105, 110, 99, 101] : Str)]) (i0 : Int)).bind fun aX =>
    (JdS ac aX).bind fun aV =>
    tenant_upstream_L0 aW (i0 + 1) aV
def tenant_upstream_L2 : List Jc → Nat → (List Jc) → Option ((List Jc))
  | [], _, aV => some aV
  | e2 :: aW, i2, aV =>
    (Jd6 aV e2.Name e2.Value).bind fun aX =>
    tenant_upstream_L2 aW (i2 + 1) aX
def qdb (n : Nat) (f : (List Jc)) (headers : (List Jc)) : Option ((List Jc)) :=
  (Jd2 n f).bind fun aW =>
  (chk (InI (7 : Int))).bind fun _ =>
  (tenant_upstream_L0 (7 : Int).toNat 0 aW).bind fun t0 =>
  (Jaz n t0).bind fun aV =>
  (chk (headers.length ≤ qa1)).bind fun _ =>
  (tenant_upstream_L2 headers 0 aV).bind fun t2 =>
  some t2
theorem qfo {n : Nat} {f : (List Jc)} {headers : (List Jc)} {aa : Option Addr} {ab : Nat} {n0 : Nat} {af : Option Addr} {ag : Nat} {n1 : Nat} {K : Hp} {r : (List Jc)}
    (hm : qdb n f headers = some r) (hX : RdC Jc.enc K aa ab 2 f ∧ n0 = f.length ∧ RdC Jc.enc K af ag 2 headers ∧ n1 = headers.length) :
    Fn Tryz.prog 41 [.slice aa n0 ab, .slice af n1 ag] K [] (fun v K' H' => ∃ ar_0 : Option Addr, ∃ cr_0 : Nat, v = .slice ar_0 r.length cr_0 ∧ (0 < r.length → Has ar_0) ∧ H' = [OwnL Jc.enc ar_0 41 2 cr_0 r]) := by
 obtain ⟨ae, bQ, aj, bX⟩ := hX
 subst bQ
 subst bX
 refine Fn.enter Tryz.func41 Tryz.call41 rfl fun F => ?_
 unfold qdb at hm
 refine cb hm fun ca bU hm => ckx (Jez bU :) ?_
 rintro _ _ _ ⟨bg, bj, rfl, bI, rfl⟩
 refine bsO (len := 7) (enc := eS) (l := [([104, 111, 115, 116] : Str), ([114, 97, 110, 103, 101] : Str), ([105, 102, 45, 114, 97, 110, 103, 101] : Str), ([105, 102, 45, 109, 97, 116, 99, 104] : Str), ([105, 102, 45, 110, 111, 110, 101, 45, 109, 97, 116, 99, 104] : Str), ([105, 102, 45, 109, 111, 100, 105, 102, 105, 101, 100, 45, 115, 105, 110, 99, 101] : Str), ([105, 102, 45, 117, 110, 109, 111, 100, 105, 102, 105, 101, 100, 45, 115, 105, 110, 99, 101] : Str)]) (cl := [str ([104, 111, 115, 116] : Str), str ([114, 97, 110, 103, 101] : Str), str ([105, 102, 45, 114, 97, 110, 103, 101] : Str), str ([105, 102, 45, 109, 97, 116, 99, 104] : Str), str ([105, 102, 45, 110, 111, 110, 101, 45, 109, 97, 116, 99, 104] : Str), str ([105, 102, 45, 109, 111, 100, 105, 102, 105, 101, 100, 45, 115, 105, 110, 99, 101] : Str), str ([105, 102, 45, 117, 110, 109, 111, 100, 105, 102, 105, 101, 100, 45, 115, 105, 110, 99, 101] : Str)]) qca rfl rfl (fun _ _ => rfl) rfl rfl rfl ?_ fun ce => ?_
 · conv => whnf
   refine cT (cT (cT (cT (cT (cT (cT ?_))))))
   first | done | rfl
 refine ro (qal rfl ?_)
 obtain ⟨bT, hm⟩ := qax hm
 obtain ⟨s0, aZ, hm⟩ := bnd hm
 refine lD (σ := ((List Jc)) × Option Addr × Nat) ([5,7] ++ rg 14 8) [0, 2] (fun i0 => [(14, .int .i64 (i0 : Int))]) (fun (t0, aV, aX) => [(5, .slice aV t0.length aX)]) (fun (t0, aV, aX) => [OwnL Jc.enc aV 41 2 aX t0]) (fun (t0, aV, aX) => (0 < t0.length → Has aV) ∧ True) (fun i0 (t0, aV, aX) => tenant_upstream_L0 ((7 : Int).toNat - i0) i0 t0 = some s0) (fun (t0, aV, aX) => t0 = s0) (fun i0 => (7 : Int).toNat - i0) 0 (_, _, _) aZ (And.intro qe (And.intro ?_ ?_))
 clear aZ
 rintro i0 ⟨ac, bu, bn⟩ ⟨bh, _⟩ aZ j0
 conv at aZ => whnf
 refine qac rfl ?_
 refine qaf ?_ ?_ <;> intro w0
 rw [ltn (n := (7 : Int)) w0, tenant_upstream_L0.eq_2] at aZ
 refine qam rfl ?_
 obtain ⟨bV, bD, bc, aZ⟩ := ixb aZ
 refine RStep.ofN (qae rfl rfl (qcz (fun _ => ⟨_, _, rfl⟩) bc) bD (qaw rfl bD bc) (ro (qb2 (i := ((i0 : Int)).toNat) (o := 0) r1 rfl bc rfl rfl ?_)))
 refine cb aZ fun cd bO aZ => ck0 (Fn.lend Tryz.call72 (fun bL bM ba => (Jeu (name := bV) bO ⟨ba, rfl⟩)) (by exact fun _ _ _ _ h => h)) ?_
 rintro _ _ _ ⟨_, rfl, bA, bF, rfl, bK, rfl⟩
 refine qan (qk5 w0 bT) ?_
 exact eR aZ (_, _, _, _)
 rw [lto (n := (7 : Int)) w0, tenant_upstream_L0.eq_1] at aZ
 refine cT ?_
 exact eM aZ (_, _, _)
 rintro ⟨t0, aV, aX⟩ ⟨bB, _⟩ rfl j0
 refine cb hm fun bZ bR hm => ckx (JbX bR :) ?_
 rintro _ _ _ ⟨bp, bm, rfl, bJ, rfl⟩
 refine ro (qal rfl ?_)
 obtain ⟨bS, hm⟩ := qax hm
 obtain ⟨s2, a6, hm⟩ := bnd hm
 refine lD (σ := ((List Jc)) × Option Addr × Nat) ([5,9] ++ rg 26 11) [1, 2] (fun i2 => [(26, .int .i64 (i2 : Int))]) (fun (t2, aW, aY) => [(5, .slice aW t2.length aY)]) (fun (t2, aW, aY) => [OwnL Jc.enc aW 41 2 aY t2]) (fun (t2, aW, aY) => (0 < t2.length → Has aW) ∧ True) (fun i2 (t2, aW, aY) => tenant_upstream_L2 (headers.drop i2) i2 t2 = some s2) (fun (t2, aW, aY) => t2 = s2) (fun i2 => headers.length - i2) 0 (_, _, _) a6 (And.intro qe (And.intro ?_ ?_))
 clear a6
 rintro i2 ⟨bW, bC, bf⟩ ⟨bv, _⟩ a6 j2
 conv at a6 => whnf
 refine qac rfl ?_
 refine qaf ?_ ?_ <;> intro w2
 obtain ⟨e2, bb, bN⟩ := ltx w2
 rw [bN, tenant_upstream_L2.eq_2] at a6
 refine qam rfl ?_
 refine RStep.ofN (qae rfl rfl (qea aj.rd bb) (nn _) (qbp bb) (ro (qao i2 _ aj.rd rfl (mp bb) rfl ?_)))
 refine qai rfl fun b9 => ?_
 refine qaa r0 rfl ⟨rfl, rfl, (nl rfl), ?_⟩
 refine fa rfl (ro (ld r0 rfl rfl (fa rfl (ro (ld r0 rfl rfl ?_)))))
 refine cb a6 fun bY bP a6 => ck0 (Fn.lend Tryz.call21 (fun bH bw a8 => (Jem (name := e2.Name) (value := e2.Value) bP ⟨a8, rfl⟩)) (by exact fun _ _ _ _ h => h)) ?_
 rintro _ _ _ ⟨_, rfl, bG, bz, rfl, bt, rfl⟩
 refine qan (qbu bb bS) ?_
 exact eR a6 (_, _, _, _)
 rw [lty w2, tenant_upstream_L2.eq_1] at a6
 refine cT ?_
 exact eM a6 (_, _, _)
 rintro ⟨t2, aW, aY⟩ ⟨bo, _⟩ rfl j2
 exact eE hm

def tags_good_L0 : List UInt8 → Nat → Option (Fl (Bool) (Unit))
  | [], _ => some (Fl.go ())
  | e0 :: aV, i0 =>
    (if decide ((e0.toNat : Int) < 33) then some true else some (decide ((e0.toNat : Int) > 126))).bind fun aW =>
    if aW then
    some (Fl.ret false)
    else
    tags_good_L0 aV (i0 + 1)
def qhz (s : Str) : Option (Bool) :=
  if (decide ((s.length : Int) < 1) || decide ((s.length : Int) > 32)) then
  some false
  else
  (chk (s.length ≤ qa1)).bind fun _ =>
  (tags_good_L0 s 0).bind fun s0 => s0.el some fun t0 =>
  some true
theorem qks {s : Str} {K : Hp} {r : Bool}
    (hm : qhz s = some r)  :
    Fn Tryz.prog 129 [str s] K [] (fun v K' H' => v = .bool r ∧ H' = []) := by
 refine Fn.enter Tryz.func129 Tryz.call129 rfl fun F => ?_
 unfold qhz at hm
 refine jR (σ := Unit) (rg 4 8) (fun _ => [(11, .bool (decide ((s.length : Int) < 1) || decide ((s.length : Int) > 32)))]) (fun a8 => True) ?_ ?_
 refine qaj rfl ?_
 refine ro (qa4 rfl ?_)
 refine qaf ?_ ?_ <;> intro aX
 refine ct aX (ct aX (ct aX ?_))
 exact eMt () ⟨bq (((qco aX)).symm), trivial⟩
 refine cf aX (ro (qa4 rfl (cf aX (cf aX ?_))))
 exact eMt () ⟨bq (qid (b := decide ((s.length : Int) > 32)) aX), trivial⟩
 rintro _ _ bc
 refine cs rfl rfl hm ?_ ?_ <;> intro bf hm
 exact eE hm
 refine ro (qa4 rfl ?_)
 obtain ⟨ba, hm⟩ := qax hm
 obtain ⟨s0, aW, hm⟩ := bnd hm
 refine lD (σ := (Unit)) ([2,3] ++ rg 14 14) [0] (fun i0 => [(14, .int .i64 (i0 : Int))]) (fun _ => []) (fun _ => []) (fun _ => True) (fun i0 _ => tags_good_L0 (s.drop i0) i0 = some s0) (fun t0 => s0 = Fl.go t0) (fun i0 => s.length - i0) 0 () aW (And.intro qe (And.intro ?_ ?_))
 clear aW
 rintro i0 _ _ aW j0
 conv at aW => whnf
 refine qac rfl ?_
 refine qaf ?_ ?_ <;> intro w0
 obtain ⟨e0, aZ, bb⟩ := ltx w0
 rw [bb, tags_good_L0.eq_2] at aW
 refine qam rfl ?_
 refine qaj rfl ?_
 refine qa0 rfl (nn _) aZ ?_
 obtain ⟨bg, aY, aW⟩ := bnd aW
 refine cS aY (fun aV aY => ?_) fun aV aY => ?_
 refine ct aV (ct aV (ct aV (ct aV (qac rfl (cT ?_)))))
 replace aW := ift (si aY).symm aW
 exact eE (er aW hm)
 refine cf aV (cf aV (qa0 rfl (nn _) aZ (cf aV (cf aV (qac rfl ?_)))))
 refine qaf ?_ ?_ <;> intro a6
 replace aW := ift ((si aY).symm.trans a6) aW
 exact eE (er aW hm)
 replace aW := qbd ((si aY).symm.trans a6) aW
 refine qan (qbu aZ ba) ?_
 exact eR aW (_, ())
 rw [lty w0, tags_good_L0.eq_1] at aW
 refine cT ?_
 exact eM aW _
 rintro t0 _ rfl j0
 replace hm := elg hm
 exact eE hm

def tags_Clean_L2 (s : Str) : Nat → Int → Option (Int)
  | 0, _ => none
  | aY + 1, aV =>
    (if decide (aV < (s.length : Int)) then (ix s aV).bind fun a6 =>
    some (decide ((a6.toNat : Int) ≠ 32)) else some false).bind fun aZ =>
    (if aZ then (ix s aV).bind fun aX =>
    some (decide ((aX.toNat : Int) ≠ 9)) else some false).bind fun aW =>
    if aW then
    (chk (InI (aV + 1))).bind fun _ =>
    tags_Clean_L2 s aY (aV + 1)
    else
    some aV
def tags_Clean_L0 (s : Str) (n : Nat) : Nat → (List Str) → Int → Option (Fl ((List Str) × Err) ((List Str) × Int))
  | 0, _, _ => none
  | aW + 1, ac, aV =>
    if decide (aV < (s.length : Int)) then
    (((ix s aV).bind fun a6 =>
    (if decide ((a6.toNat : Int) = 32) then some true else (ix s aV).bind fun aZ =>
    some (decide ((aZ.toNat : Int) = 9))).bind fun am =>
    some am) : Option (Bool)).bind fun aX =>
    if aX then
    (chk (InI (aV + 1))).bind fun _ =>
    tags_Clean_L0 s n aW ac (aV + 1)
    else
    (tags_Clean_L2 s n aV).bind fun t2 =>
    (chk (0 ≤ aV ∧ aV ≤ t2 ∧ t2 ≤ (s.length : Int))).bind fun _ =>
    (qhz (subL s aV t2)).bind fun a8 =>
    if (!a8) then
    some (Fl.ret ([], (some 2)))
    else
    (if decide ((ac.length : Int) < 16) then (JQ ac (subL s aV t2)).bind fun aY =>
    some (!aY) else some false).bind fun aH =>
    if aH then
    (chk (ac.length + [(subL s aV t2)].length ≤ lim)).bind fun _ =>
    tags_Clean_L0 s n aW (ac ++ [(subL s aV t2)]) t2
    else
    tags_Clean_L0 s n aW ac t2
    else
    some (Fl.go (ac, aV))
def qgo (n : Nat) (s : Str) : Option ((List Str) × Err) :=
  (tags_Clean_L0 s n n [] 0).bind fun s0 => s0.el some fun t0 =>
  (qif t0.1).bind fun aV =>
  some (aV, none)
theorem qjx {n : Nat} {s : Str} {K : Hp} {r : (List Str) × Err}
    (hm : qgo n s = some r)  :
    Fn Tryz.prog 76 [str s] K [] (fun v K' H' => ∃ ar_0 : Option Addr, ∃ cr_0 : Nat, v = .tuple #[.slice ar_0 r.1.length cr_0, qc3 48 r.2] ∧ (0 < r.1.length → Has ar_0) ∧ H' = [OwnL eS ar_0 9 1 cr_0 r.1]) := by
 refine Fn.enter Tryz.func76 Tryz.call76 rfl fun F => ?_
 unfold qgo at hm
 obtain ⟨s0, aV, hm⟩ := bnd hm
 refine qjd eS 9 1 ?_
 refine lD (σ := ((List Str) × Int) × Option Addr × Nat) (rg 2 63) [1] (fun _ => []) (fun (t0, aY, ba) => [(4, .slice aY t0.1.length ba), (5, .int .i64 t0.2)]) (fun (t0, aY, ba) => [OwnL eS aY 9 1 ba t0.1]) (fun (t0, aY, ba) => (0 < t0.1.length → Has aY) ∧ True) (fun i0 (t0, aY, ba) => tags_Clean_L0 s n i0 t0.1 t0.2 = some s0) (fun (t0, aY, ba) => s0 = Fl.go t0) (fun i0 => i0) n ((_, _), _, _) aV (And.intro qe (And.intro ?_ ?_))
 clear aV
 rintro i0 ⟨⟨ac, bf⟩, bA, bv⟩ ⟨bu, _⟩ aV j0
 dsimp only at aV ⊢
 cases i0 with
 | zero => rw [tags_Clean_L0.eq_1] at aV; cases aV
 | succ i0 =>
  rw [tags_Clean_L0.eq_2] at aV
  refine ro (qa4 rfl ?_)
  refine cs rfl rfl aV ?_ ?_ <;> intro bU aV
  refine qam rfl ?_
  obtain ⟨bt, bb, aV⟩ := bnd aV
  refine jR (σ := Bool) (rg 12 10) (fun bg => [(21, .bool bg)]) (fun bg => bg = bt) ?_ ?_
  refine qaj rfl ?_
  obtain ⟨cn, bD, bO, bb⟩ := ixb bb
  refine qa0 rfl bD bO (qag ?_)
  obtain ⟨am, bm, bb⟩ := bnd bb
  refine cS bm (fun a6 bm => ?_) fun a6 bm => ?_
  refine ct a6 (ct a6 (ct a6 (ct a6 ?_)))
  exact eMq bb _ ⟨bq (si bm), trivial⟩
  refine cf a6 (cf a6 ?_)
  obtain ⟨ce, bF, bP, bm⟩ := ixb bm
  refine qa0 rfl bF bP (cf a6 (qag (cf a6 ?_)))
  exact eMq bb _ ⟨bq (si bm), trivial⟩
  rintro bg rfl bJ
  refine cs rfl rfl aV ?_ ?_ <;> intro bY aV
  obtain ⟨bL, aV⟩ := qax aV
  refine qan bL (cT ?_)
  exact eR aV (_, (_, _), _, _)
  obtain ⟨s2, a8, aV⟩ := bnd aV
  refine lD (σ := (Int)) ([6] ++ rg 25 18) [0, 1] (fun _ => []) (fun t2 => [(6, .int .i64 t2)]) (fun _ => []) (fun _ => True) (fun i2 t2 => tags_Clean_L2 s i2 t2 = some s2) (fun t2 => t2 = s2) (fun i2 => i2) n _ a8 (And.intro qe (And.intro ?_ ?_))
  clear a8
  rintro i2 bT _ a8 j2
  conv at a8 => whnf
  cases i2 with
  | zero => rw [tags_Clean_L2.eq_1] at a8; cases a8
  | succ i2 =>
   rw [tags_Clean_L2.eq_2] at a8
   refine qaj rfl ?_
   refine ro (qa4 rfl ?_)
   obtain ⟨bV, bh, a8⟩ := bnd a8
   refine cS bh (fun aZ bh => ?_) fun aZ bh => ?_
   refine ct aZ (ct aZ ?_)
   obtain ⟨cm, bN, bS, bh⟩ := ixb bh
   refine qa0 rfl bN bS (ct aZ (qbb (ct aZ ?_)))
   obtain ⟨bK, bc, a8⟩ := bnd a8
   refine qaf ?_ ?_ <;> intro aX
   replace bc := ift ((si bh).symm.trans aX) bc
   refine ct aX (ct aX ?_)
   obtain ⟨bZ, bI, bG, bc⟩ := ixb bc
   refine qa0 rfl bI bG (ct aX (qbb (ct aX (qac rfl ?_))))
   refine qaf ?_ ?_ <;> intro bB
   replace a8 := ift ((si bc).symm.trans bB) a8
   refine qam rfl ?_
   refine ci a8 fun a8 => ?_
   exact eR a8 (_, _)
   replace a8 := qbd ((si bc).symm.trans bB) a8
   refine cT ?_
   exact eM a8 _
   replace bc := qbd ((si bh).symm.trans aX) bc
   refine cf aX (cf aX (cf aX (cf aX (qac rfl (cF ?_)))))
   replace a8 := qbd (si bc).symm a8
   refine cT ?_
   exact eM a8 _
   refine cf aZ (cf aZ (cf aZ (cf aZ ?_)))
   obtain ⟨bK, bc, a8⟩ := bnd a8
   replace bc := qbd (si bh).symm bc
   refine cF (cF (cF (cF (cF (qac rfl (cF ?_))))))
   replace a8 := qbd (si bc).symm a8
   refine cT ?_
   exact eM a8 _
  rintro t2 _ rfl j2
  obtain ⟨bR, aV⟩ := qax aV
  refine RStep.ofN (qek (lo := (some bf)) (hi := (some t2)) rfl bR ?_)
  refine cb aV fun cp bQ aV => cg0 (qks bQ :) ?_
  refine qav ?_
  refine cs rfl rfl aV ?_ ?_ <;> intro ca aV
  refine qas rfl ?_
  refine qcp eS 9 1 ?_
  exact eE (er aV hm)
  refine qaj rfl ?_
  refine ro (qal rfl ?_)
  obtain ⟨aH, bj, aV⟩ := bnd aV
  refine cS bj (fun aW bj => ?_) fun aW bj => ?_
  refine ct aW (ct aW ?_)
  refine cb bj fun bX bM bj => ck0 (Fn.lend Tryz.call53 (fun bz bw bo => (JY (v' := (subL s bf t2)) bM ⟨bo, rfl⟩)) (by exact fun _ _ _ _ h => h)) ?_
  rintro _ _ _ ⟨_, rfl, rfl, rfl⟩
  refine ct aW (qav (ct aW (qac rfl ?_)))
  refine qaf ?_ ?_ <;> intro bC
  replace aV := ift ((si bj).symm.trans (qgu (qob bC))) aV
  refine bsO (len := 1) (enc := eS) (l := [(subL s bf t2)]) (cl := [str (subL s bf t2)]) qca rfl rfl (fun _ _ => rfl) rfl rfl rfl ?_ fun cd => ?_
  · conv => whnf
    refine cT ?_
    first | done | rfl
  obtain ⟨bH, aV⟩ := qax aV
  refine apE rfl r1 qca (qaz rfl r0 rfl (fun _ => rfl) (fun _ => rfl)) bH ?_
  intro bW cr cq
  exact eR aV (_, (_, _), _, _)
  replace aV := qbd ((si bj).symm.trans (qdx (qkr bC))) aV
  exact eR aV (_, (_, _), _, _)
  refine cf aW (cf aW (cf aW (cf aW (qac rfl (cF ?_)))))
  replace aV := qbd (si bj).symm aV
  exact eR aV (_, (_, _), _, _)
  refine cT ?_
  exact eM aV (_, _, _)
 rintro ⟨t0, aY, ba⟩ ⟨bn, _⟩ rfl j0
 replace hm := elg hm
 refine cb hm fun cj bp hm => cg0 (qds bp rfl) ?_
 cases hm
 exact en lr ⟨aY, ba, (by rw [← (show _ = t0.1.length from Eq.symm ((Eq.trans (rfl) (qb9 bp).symm)))] <;> rfl), (fun h => bn (by rw [qb9 bp] at h; exact h)), rfl⟩ (pf rfl)

def tenant_words_L0 (n : Nat) : List Str → Nat → (List Str) → Option ((List Str))
  | [], _, ac => some ac
  | e0 :: aX, i0, ac =>
    (qgo n e0).bind fun aV =>
    (((if (aV.2.isNone && decide ((aV.1.length : Int) = 1)) then (ix aV.1 0).bind fun a8 =>
    some (decide (a8 = e0)) else some false).bind fun aY =>
    (if (aY && decide ((ac.length : Int) < 16)) then (JQ ac e0).bind fun a6 =>
    some (!a6) else some false).bind fun aZ =>
    some aZ) : Option (Bool)).bind fun aW =>
    if aW then
    (chk (ac.length + [e0].length ≤ lim)).bind fun _ =>
    tenant_words_L0 n aX (i0 + 1) (ac ++ [e0])
    else
    tenant_words_L0 n aX (i0 + 1) ac
def qeg (n : Nat) (list : (List Str)) : Option ((List Str)) :=
  (chk (list.length ≤ qa1)).bind fun _ =>
  (tenant_words_L0 n list 0 []).bind fun t0 =>
  (qif t0).bind fun aV =>
  some aV
theorem qh0 {n : Nat} {list : (List Str)} {aa : Option Addr} {ab : Nat} {n0 : Nat} {K : Hp} {r : (List Str)}
    (hm : qeg n list = some r) (hX : RdC eS K aa ab 1 list ∧ n0 = list.length) :
    Fn Tryz.prog 43 [.slice aa n0 ab] K [] (fun v K' H' => ∃ ar_0 : Option Addr, ∃ cr_0 : Nat, v = .slice ar_0 r.length cr_0 ∧ (0 < r.length → Has ar_0) ∧ H' = [OwnL eS ar_0 9 1 cr_0 r]) := by
 obtain ⟨ae, bJ⟩ := hX
 subst bJ
 refine Fn.enter Tryz.func43 Tryz.call43 rfl fun F => ?_
 unfold qeg at hm
 refine ro (qal rfl ?_)
 obtain ⟨bw, hm⟩ := qax hm
 obtain ⟨s0, bb, hm⟩ := bnd hm
 refine qjd eS 9 1 ?_
 refine lD (σ := ((List Str)) × Option Addr × Nat) ([3,5,6,7] ++ rg 10 39) [1] (fun i0 => [(10, .int .i64 (i0 : Int))]) (fun (t0, a6, a8) => [(3, .slice a6 t0.length a8)]) (fun (t0, a6, a8) => [OwnL eS a6 9 1 a8 t0]) (fun (t0, a6, a8) => (0 < t0.length → Has a6) ∧ True) (fun i0 (t0, a6, a8) => tenant_words_L0 n (list.drop i0) i0 t0 = some s0) (fun (t0, a6, a8) => t0 = s0) (fun i0 => list.length - i0) 0 (_, _, _) bb (And.intro qe (And.intro ?_ ?_))
 clear bb
 rintro i0 ⟨ac, bC, bA⟩ ⟨bu, _⟩ bb j0
 conv at bb => whnf
 refine qac rfl ?_
 refine qaf ?_ ?_ <;> intro w0
 obtain ⟨e0, bj, bK⟩ := ltx w0
 rw [bK, tenant_words_L0.eq_2] at bb
 refine qam rfl ?_
 refine RStep.ofN (qae rfl rfl (qea ae.rd bj) (nn _) (qbp bj) (ro (qb1 i0 0 _ _ ae.rd rfl (mp bj) rfl rfl ?_)))
 refine cb bb fun bV bM bb => ck0 (qjx bM :) ?_
 rintro _ _ _ ⟨bv, bz, rfl, bm, rfl⟩
 obtain ⟨bo, aV, bb⟩ := bnd bb
 refine jR (σ := Bool) (rg 19 25) (fun bf => [(43, .bool bf)]) (fun bf => bf = bo) ?_ ?_
 refine qaj rfl ?_
 refine qe7 rfl ?_
 refine qaf ?_ ?_ <;> intro aY
 refine ct aY (ro (qal rfl (ct aY (qag (ct aY ?_)))))
 obtain ⟨bH, bc, aV⟩ := bnd aV
 refine qaf ?_ ?_ <;> intro aW
 replace bc := ift (qc1 aY aW) bc
 refine ct aW ?_
 obtain ⟨bQ, bF, bn, bc⟩ := ixb bc
 refine RStep.ofN (qae rfl rfl (qcz bm bn) bF (qaw rfl bF bn) (ct aW (ro (qb2 (i := (0 : Int).toNat) (o := 0) r0 rfl bn rfl rfl (ct aW (ct aW (qaq (ct aW ?_))))))))
 refine qaf ?_ ?_ <;> intro aZ
 refine ct aZ (ro (qal rfl (ct aZ (ct aZ ?_))))
 obtain ⟨bt, ba, aV⟩ := bnd aV
 refine qaf ?_ ?_ <;> intro aX
 replace ba := ift (qc1 ((si bc).symm.trans aZ) aX) ba
 refine ct aX (ct aX ?_)
 refine cb ba fun bS bG ba => ck0 (Fn.lend Tryz.call53 (fun bB bD bh => (JY (v' := e0) bG ⟨bh, rfl⟩)) (by exact fun _ _ _ _ h => h)) ?_
 rintro _ _ _ ⟨_, rfl, rfl, rfl⟩
 refine ct aX (qav (ct aX ?_))
 exact eMq aV _ ⟨bq (si ba), trivial⟩
 replace ba := qbd (qc2 ((si bc).symm.trans aZ) aX) ba
 refine cf aX (cf aX (cf aX (cf aX ?_)))
 exact eMq aV _ ⟨bq (si ba), trivial⟩
 refine cf aZ (cf aZ (cf aZ ?_))
 obtain ⟨bt, ba, aV⟩ := bnd aV
 replace ba := qbd (qbh ((si bc).symm.trans aZ)) ba
 refine cF (cF (cF (cF (cF ?_))))
 exact eMq aV _ ⟨bq (si ba), trivial⟩
 replace bc := qbd (qc2 aY aW) bc
 refine cf aW (cf aW (cf aW (cf aW (cf aW (cF (cF (cF ?_)))))))
 refine cF ?_
 obtain ⟨bt, ba, aV⟩ := bnd aV
 replace ba := qbd (qbh (si bc).symm) ba
 refine cF (cF (cF (cF (cF ?_))))
 exact eMq aV _ ⟨bq (si ba), trivial⟩
 refine cf aY (cf aY (cf aY ?_))
 obtain ⟨bH, bc, aV⟩ := bnd aV
 replace bc := qbd (qbh aY) bc
 refine cF (cF (cF (cF (cF (cF (cF (cF ?_)))))))
 refine cF (cF ?_)
 obtain ⟨bt, ba, aV⟩ := bnd aV
 replace ba := qbd (qbh (si bc).symm) ba
 refine cF (cF (cF (cF (cF ?_))))
 exact eMq aV _ ⟨bq (si ba), trivial⟩
 rintro bf rfl bL
 refine cs rfl rfl bb ?_ ?_ <;> intro bN bb
 refine bsO (len := 1) (enc := eS) (l := [e0]) (cl := [str e0]) qca rfl rfl (fun _ _ => rfl) rfl rfl rfl ?_ fun bT => ?_
 · conv => whnf
   refine cT ?_
   first | done | rfl
 obtain ⟨bI, bb⟩ := qax bb
 refine apE rfl r2 qca (qaz rfl r0 rfl (fun _ => rfl) (fun _ => rfl)) bI ?_
 intro bU bO bP
 refine qan (qbu bj bw) ?_
 exact eR bb (_, _, _, _)
 refine qan (qbu bj bw) ?_
 exact eR bb (_, _, _, _)
 rw [lty w0, tenant_words_L0.eq_1] at bb
 refine cT ?_
 exact eM bb (_, _, _)
 rintro ⟨t0, a6, a8⟩ ⟨bg, _⟩ rfl j0
 refine cb hm fun bR bp hm => cg0 (qds bp rfl) ?_
 cases hm
 exact en lr ⟨a6, a8, (by rw [← (show _ = t0.length from Eq.symm ((Eq.trans (rfl) (qb9 bp).symm)))] <;> rfl), (fun h => bg (by rw [qb9 bp] at h; exact h)), rfl⟩ (pf rfl)

def qbw (n : Nat) (d : JJ) (r' : Jal) : Option (Jaj × Err) :=
  (Jdx r'.Ao ([104, 111, 115, 116] : Str)).bind fun am =>
  if decide ((am.length : Int) ≠ 1) then
  some ((⟨0, 0, 0, (⟨([] : Str), ([] : Str), ([] : Str), false⟩ : Ju), (⟨([] : Str), ([] : Str), ([] : Str), false⟩ : Ju), [], [], [], false, false⟩ : Jaj), (some 8))
  else
  (ix am 0).bind fun bh =>
  (qdh bh).bind fun aX =>
  if (!(mget d.sites aX).isSome) then
  some ((⟨0, 0, 0, (⟨([] : Str), ([] : Str), ([] : Str), false⟩ : Ju), (⟨([] : Str), ([] : Str), ([] : Str), false⟩ : Ju), [], [], [], false, false⟩ : Jaj), (some 8))
  else
  (Jcr n aX r'.Target).bind fun aW =>
  if aW.2.isSome then
  some ((⟨0, 0, 0, (⟨([] : Str), ([] : Str), ([] : Str), false⟩ : Ju), (⟨([] : Str), ([] : Str), ([] : Str), false⟩ : Ju), [], [], [], false, false⟩ : Jaj), (some 27))
  else
  (Jej n (((mget d.sites aX).getD (⟨0, []⟩ : JH)).code) (⟨r'.Am, aW.1.An, aW.1.Ae, aW.1.Af, r'.Ao⟩ : J5) 10000).bind fun aV =>
  if aV.2.isSome then
  some ((⟨0, 0, 0, (⟨([] : Str), ([] : Str), ([] : Str), false⟩ : Ju), (⟨([] : Str), ([] : Str), ([] : Str), false⟩ : Ju), [], [], [], false, false⟩ : Jaj), aV.2)
  else
  (qd1 aW.1 aV.1).bind fun bc =>
  (Jcr n aX bc).bind fun a8 =>
  if a8.2.isSome then
  some ((⟨0, 0, 0, (⟨([] : Str), ([] : Str), ([] : Str), false⟩ : Ju), (⟨([] : Str), ([] : Str), ([] : Str), false⟩ : Ju), [], [], [], false, false⟩ : Jaj), (some 27))
  else
  (JcE aV.1.Vary).bind fun bg =>
  (qif bg).bind fun bf =>
  (qdb n r'.Ao aV.1.Ag).bind fun aZ =>
  (qe0 bf).bind fun aY =>
  (qeg n aV.1.Ah).bind fun a6 =>
  if aV.1.Ak then
  some ((⟨((mget d.sites aX).getD (⟨0, []⟩ : JH)).tenant, aV.1.TTL, aV.1.Ai, aW.1, a8.1, aZ, aY, a6, true, aV.1.Al⟩ : Jaj), none)
  else
  (if (decide (r'.Am ≠ ([71, 69, 84] : Str)) && decide (r'.Am ≠ ([72, 69, 65, 68] : Str))) then some true else (Jdx r'.Ao ([97, 117, 116, 104, 111, 114, 105, 122, 97, 116, 105, 111, 110] : Str)).bind fun ba =>
  some (decide ((ba.length : Int) > 0))).bind fun bb =>
  some ((⟨((mget d.sites aX).getD (⟨0, []⟩ : JH)).tenant, aV.1.TTL, aV.1.Ai, aW.1, a8.1, aZ, aY, a6, bb, aV.1.Al⟩ : Jaj), none)
theorem qdg {n : Nat} {d : JJ} {r' : Jal} {b0 : Nat} {az : Nat} {aE : List (Str × EnD JH)} {af : Option Addr} {ag : Nat} {K : Hp} {r : Jaj × Err}
    (hm : qbw n d r' = some r) (hX : MR JH.R K aE d.sites ∧ RdC Jc.enc K af ag 2 r'.Ao ∧ GG K) :
    Fn Tryz.prog 13 [.pointer (some ⟨b0, 0, none⟩), .agg #[str r'.Am, str r'.Target, .slice af r'.Ao.length ag]] K [Cells b0 78 [.map (some az)], qhl strK vAg az aE] (fun v K' H' => ∃ ar_0 : Option Addr, ∃ cr_0 : Nat, ∃ ar_1 : Option Addr, ∃ cr_1 : Nat, ∃ ar_2 : Option Addr, ∃ cr_2 : Nat, v = .tuple #[.agg #[.int .i64 r.1.Tenant, .int .i64 r.1.TTL, .int .i64 r.1.Ai, str r.1.Asked.An, str r.1.Asked.Ae, str r.1.Asked.Af, .bool r.1.Asked.HasQuery, str r.1.Cache.An, str r.1.Cache.Ae, str r.1.Cache.Af, .bool r.1.Cache.HasQuery, .slice ar_0 r.1.Ao.length cr_0, .slice ar_1 r.1.Vary.length cr_1, .slice ar_2 r.1.Ah.length cr_2, .bool r.1.Ak, .bool r.1.Al], qc3 48 r.2] ∧ (0 < r.1.Ao.length → Has ar_0) ∧ (0 < r.1.Vary.length → Has ar_1) ∧ (0 < r.1.Ah.length → Has ar_2) ∧ H' = [OwnL Jc.enc ar_0 41 2 cr_0 r.1.Ao, OwnL eS ar_1 9 1 cr_1 r.1.Vary, OwnL eS ar_2 9 1 cr_2 r.1.Ah, Cells b0 78 [.map (some az)], qhl strK vAg az aE]) := by
 obtain ⟨aJ, aj, hG⟩ := hX
 refine Fn.enter Tryz.func13 Tryz.call13 rfl fun F => ?_
 unfold qbw at hm
 refine qar ?_
 intro b3
 refine qai rfl fun b4 => ?_
 refine qdw rfl ?_
 refine qac rfl (cF (fa rfl (ro (ld r1 rfl rfl ?_))))
 refine cb hm fun am cp hm => ckx (JcX cp :) ?_
 rintro _ _ _ ⟨bX, ca, rfl, bB, rfl⟩
 refine ro (qal rfl (qbb ?_))
 refine cs rfl rfl hm ?_ ?_ <;> intro cA hm
 refine qak rfl rfl ?_
 refine qas rfl ?_
 refine qaa r1 rfl ⟨rfl, rfl, (nl rfl), ?_⟩
 refine ro (qab r0 rfl (nl rfl) ?_)
 refine qcp Jc.enc 41 2 ?_
 refine qcp eS 9 1 ?_
 refine qcp eS 9 1 ?_
 exact eE hm
 obtain ⟨cG, cd, bH, hm⟩ := ixb hm
 refine RStep.ofN (qae rfl rfl (qcz bB bH) cd (qaw rfl cd bH) (ro (qb2 (i := (0 : Int).toNat) (o := 0) r0 rfl bH rfl rfl ?_)))
 refine cb hm fun cJ cj hm => cg0 (qeb cj :) ?_
 refine qah (fa rfl (ro (ld r3 rfl rfl (ro (qjl (kenc := strK) (R := JH.R) (zs := [.int .i64 0, .slice none 0 0]) (z := (⟨0, []⟩ : JH)) r4 rfl rfl (qmb rfl) aJ (⟨none, 0, rfl, RdC.nil⟩) fun cw bM => ?_)))))
 obtain ⟨bR, bY, rfl, bQ⟩ := bM
 refine qai rfl fun b8 => ?_
 refine qaa r0 rfl ⟨rfl, rfl, (nl rfl), ?_⟩
 refine qav ?_
 refine cs rfl rfl hm ?_ ?_ <;> intro cL hm
 refine qak rfl rfl ?_
 refine qas rfl ?_
 refine qaa r2 rfl ⟨rfl, rfl, (nl rfl), ?_⟩
 refine ro (qab r0 rfl (nl rfl) ?_)
 refine qcp Jc.enc 41 2 ?_
 refine qcp eS 9 1 ?_
 refine qcp eS 9 1 ?_
 exact eE hm
 refine fa rfl (ro (ld r3 rfl rfl ?_))
 refine cb hm fun cP cy hm => cgx (JcB cy :) ?_
 refine qai rfl fun cB => ?_
 refine qaa r0 rfl ⟨rfl, rfl, (nl rfl), ?_⟩
 refine qa7 rfl ?_
 refine cs rfl rfl hm ?_ ?_ <;> intro cR hm
 refine qak rfl rfl ?_
 refine qas rfl ?_
 refine qaa r3 rfl ⟨rfl, rfl, (nl rfl), ?_⟩
 refine ro (qab r0 rfl (nl rfl) ?_)
 refine qcp Jc.enc 41 2 ?_
 refine qcp eS 9 1 ?_
 refine qcp eS 9 1 ?_
 exact eE hm
 refine fa rfl (ro (ld r1 rfl rfl (fa rfl (ro (ld r4 rfl rfl (fa rfl (ro (ld r0 rfl rfl (fa rfl (ro (ld r0 rfl rfl ?_)))))))))))
 refine fa rfl (ro (ld r0 rfl rfl (fa rfl (ro (ld r4 rfl rfl (qak rfl rfl (cT (cT (cT ?_)))))))))
 refine cT (cT ?_)
 refine cb hm fun cM cn hm => ckx (JeC cn :) ?_
 rintro _ _ _ ⟨bP, bN, bV, bU, bZ, bO, rfl, bS, bT, bW, rfl⟩
 refine qai rfl fun cO => ?_
 refine qaa r0 rfl ⟨rfl, rfl, (nl rfl), ?_⟩
 refine qa7 rfl ?_
 refine cs rfl rfl hm ?_ ?_ <;> intro cN hm
 refine qak rfl rfl ?_
 refine qaa r7 rfl ⟨rfl, rfl, (nl rfl), ?_⟩
 refine ro (qab r0 rfl (nl rfl) ?_)
 refine qcp Jc.enc 41 2 ?_
 refine qcp eS 9 1 ?_
 refine qcp eS 9 1 ?_
 exact eE hm
 refine ro (qab r4 rfl (nl rfl) (ro (qab r0 rfl (nl rfl) ?_)))
 refine fF Tryz.call38 r1 fun bA a8 bC => ?_
 refine fF Tryz.call38 r1 fun bz a6 bF => ?_
 refine fF Tryz.call38 r1 fun bD aZ bG => ?_
 refine cb hm fun cH ce hm => cgx (qhh ce :) ?_
 refine cb hm fun cI cr hm => cgx (JcB cr :) ?_
 refine qai rfl fun cC => ?_
 refine qaa r0 rfl ⟨rfl, rfl, (nl rfl), ?_⟩
 refine qa7 rfl ?_
 refine cs rfl rfl hm ?_ ?_ <;> intro cD hm
 refine qak rfl rfl ?_
 refine qas rfl ?_
 refine qaa r5 rfl ⟨rfl, rfl, (nl rfl), ?_⟩
 refine ro (qab r0 rfl (nl rfl) ?_)
 refine qcp Jc.enc 41 2 ?_
 refine qcp eS 9 1 ?_
 refine qcp eS 9 1 ?_
 exact eE hm
 refine fa rfl (ro (ld r1 rfl rfl ?_))
 refine cb hm fun cK cq hm => ckx (JdM cq :) ?_
 rintro _ _ _ ⟨bn, bj, rfl, bm, rfl⟩
 refine cb hm fun cQ bw hm => cg0 (qds bw rfl) ?_
 refine qba ⟨⟨[], false⟩, _, [(_, _), (_, _), (_, _), (_, _), (_, _)], []⟩ (by kernel_rfl) ⟨Hp.Le.refl _, (sc [4,2,2,1,3] rfl), ci0⟩ ?_
 refine fa rfl (qap m0 rfl rfl (fa rfl (qap m1 rfl rfl (fa rfl (qap m1 rfl rfl (qcg m2 rfl (nl rfl) (qcg m3 rfl (nl rfl) ?_)))))))
 refine fa rfl (qap m4 rfl rfl (fa rfl (qap m1 rfl rfl ?_)))
 refine cb hm fun cm bJ hm => ckx (qfo bJ :) ?_
 rintro _ _ _ ⟨bb, bf, rfl, bg, rfl⟩
 refine qk (sc [5,3,3,2,4] rfl) ?_
 refine cb hm fun cu bo hm => cg0 (qg2 bo (Eq.trans (rfl) (qb9 bw).symm)) ?_
 refine qk (sc [5,3,3,2,4] rfl) ?_
 refine fa rfl (qap m1 rfl rfl ?_)
 refine cb hm fun cz bI hm => ckx (qh0 bI :) ?_
 rintro _ _ _ ⟨bc, bh, rfl, ba, rfl⟩
 refine qk (sc [6,4,4,3,5] rfl) ?_
 refine fa rfl (qap m1 rfl rfl (fa rfl (qap m1 rfl rfl ?_)))
 refine cS hm (fun aV hm => ?_) fun aV hm => ?_
 refine ct aV (ct aV (ct aV (ct aV (ct aV (cT (cT (cT ?_)))))))
 refine cT (cT (cT (qak rfl rfl (cT (cT (cT (cT ?_)))))))
 refine cT (cT (cT (cT (cT (cT ?_)))))
 refine qaa r8 rfl ⟨rfl, rfl, (nl rfl), ?_⟩
 refine qk (sc [7,5,5,4,5] rfl) ?_
 obtain rfl := si hm
 exact ro (qab r0 rfl (nl rfl) (en ((a8.trans a6).trans aZ) ⟨bb, bf, bn, bj, bc, bh, rfl, bg, (fun h => (fun h => bm (by rw [qb9 bw] at h; exact h)) (qdk bo h)), ba, rfl⟩ (sc [3,2,1,7,7,7] rfl)))
 refine fa rfl (cf aV (qap m4 rfl rfl (cf aV (qbq (cf aV ?_)))))
 refine qaf ?_ ?_ <;> intro aX
 refine fa rfl (ct aX (qap m4 rfl rfl (ct aX (qbq (cf aV (ct aX (cf aV ?_)))))))
 obtain ⟨bL, aY, hm⟩ := bnd hm
 refine qaf ?_ ?_ <;> intro aW
 replace aY := ift (qc1 aX aW) aY
 refine ct aW (ct aW (ct aW (ct aW (ct aW (qak rfl rfl (cT (cT ?_)))))))
 refine cT (cT (cT (cT (cT (cT (cT (cT ?_)))))))
 refine qaa r8 rfl ⟨rfl, rfl, (nl rfl), ?_⟩
 refine qk (sc [7,5,5,4,5] rfl) ?_
 obtain rfl := si hm
 exact ro (qab r0 rfl (nl rfl) (en ((a8.trans a6).trans aZ) ⟨bb, bf, bn, bj, bc, bh, (by rw [← ((si aY).symm).symm] <;> rfl), bg, (fun h => (fun h => bm (by rw [qb9 bw] at h; exact h)) (qdk bo h)), ba, rfl⟩ (sc [3,2,1,7,7,7] rfl)))
 replace aY := qbd (qc2 aX aW) aY
 refine fa rfl (cf aW (qap m4 rfl rfl (cf aW ?_)))
 refine cb aY fun bK bp aY => ckx (JcX bp :) ?_
 rintro _ _ _ ⟨bu, bv, rfl, bt, rfl⟩
 refine qk (sc [7,5,5,4,6] rfl) ?_
 refine cf aW (qci rfl (cf aW (cf aW (qak rfl rfl (cT (cT (cT ?_)))))))
 refine cT (cT (cT (cT (cT (cT (cT ?_))))))
 refine qaa r9 rfl ⟨rfl, rfl, (nl rfl), ?_⟩
 refine qk (sc [8,6,6,5,6] rfl) ?_
 obtain rfl := si hm
 exact ro (qab r0 rfl (nl rfl) (en ((a8.trans a6).trans aZ) ⟨bb, bf, bn, bj, bc, bh, (by rw [← (si aY)] <;> rfl), bg, (fun h => (fun h => bm (by rw [qb9 bw] at h; exact h)) (qdk bo h)), ba, rfl⟩ (sc [4,3,2,8,8,8] rfl)))
 refine cf aX (cf aX (cf aV (cf aX (cf aV ?_))))
 obtain ⟨bL, aY, hm⟩ := bnd hm
 replace aY := qbd (qbh aX) aY
 refine cF (fa rfl (cF (qap m4 rfl rfl (cF ?_))))
 refine cb aY fun bK bp aY => ckx (JcX bp :) ?_
 rintro _ _ _ ⟨bu, bv, rfl, bt, rfl⟩
 refine qk (sc [7,5,5,4,6] rfl) ?_
 refine cF (qci rfl (cF (cF (qak rfl rfl (cT (cT (cT ?_)))))))
 refine cT (cT (cT (cT (cT (cT (cT ?_))))))
 refine qaa r9 rfl ⟨rfl, rfl, (nl rfl), ?_⟩
 refine qk (sc [8,6,6,5,6] rfl) ?_
 obtain rfl := si hm
 exact ro (qab r0 rfl (nl rfl) (en ((a8.trans a6).trans aZ) ⟨bb, bf, bn, bj, bc, bh, (by rw [← (si aY)] <;> rfl), bg, (fun h => (fun h => bm (by rw [qb9 bw] at h; exact h)) (qdk bo h)), ba, rfl⟩ (sc [4,3,2,8,8,8] rfl)))

def JdE (n : Nat) (a : Ju) : Option (Bool) :=
  if ((!a.HasQuery) && decide (a.Af ≠ ([] : Str))) then
  some false
  else
  if a.HasQuery then
  (chk (([63] : Str).length + a.Af.length ≤ lim)).bind fun _ =>
  (chk (a.Ae.length + (([63] : Str) ++ a.Af).length ≤ lim)).bind fun _ =>
  (Jcr n a.An (a.Ae ++ (([63] : Str) ++ a.Af))).bind fun aV =>
  some (aV.2.isNone && (decide (a.An = aV.1.An) && (decide (a.Ae = aV.1.Ae) && (decide (a.Af = aV.1.Af) && (a.HasQuery == aV.1.HasQuery)))))
  else
  (Jcr n a.An a.Ae).bind fun aV =>
  some (aV.2.isNone && (decide (a.An = aV.1.An) && (decide (a.Ae = aV.1.Ae) && (decide (a.Af = aV.1.Af) && (a.HasQuery == aV.1.HasQuery)))))
theorem Jer {n : Nat} {a : Ju} {K : Hp} {r : Bool}
    (hm : JdE n a = some r) (hG : GG K) :
    Fn Tryz.prog 30 [.agg #[str a.An, str a.Ae, str a.Af, .bool a.HasQuery]] K [] (fun v K' H' => v = .bool r ∧ H' = []) := by
 refine Fn.enter Tryz.func30 Tryz.call30 rfl fun F => ?_
 unfold JdE at hm
 refine qar ?_
 intro b1
 refine jR (σ := Unit) (rg 6 8) (fun _ => [(13, .bool ((!a.HasQuery) && decide (a.Af ≠ ([] : Str))))]) (fun a8 => True) ?_ ?_
 refine qaj rfl ?_
 refine fa rfl (ro (ld r0 rfl rfl (qav ?_)))
 refine qaf ?_ ?_ <;> intro aW
 refine fa rfl (ct aW (ro (ld r0 rfl rfl (ct aW (qbq (ct aW ?_))))))
 exact eMt () ⟨bq (qc8 (b := decide (a.Af ≠ ([] : Str))) (qgu (qob aW))), trivial⟩
 refine cf aW (cf aW (cf aW ?_))
 exact eMt () ⟨bq (((qbh (qdx (qkr aW)))).symm), trivial⟩
 rintro _ _ ba
 refine cs rfl rfl hm ?_ ?_ <;> intro bc hm
 exact eE hm
 refine fa rfl (ro (ld r0 rfl rfl (fa rfl (ro (ld r0 rfl rfl ?_)))))
 refine cs rfl rfl hm ?_ ?_ <;> intro bb hm
 refine fa rfl (ro (ld r0 rfl rfl ?_))
 obtain ⟨aZ, hm⟩ := qax hm
 refine qby aZ ?_
 obtain ⟨a6, hm⟩ := qax hm
 refine qby a6 ?_
 refine fa rfl (ro (ld r0 rfl rfl ?_))
 refine cb hm fun aX aY hm => cgx (JcB aY :) ?_
 refine qai rfl fun b4 => ?_
 refine qaa r0 rfl ⟨rfl, rfl, (nl rfl), ?_⟩
 refine qaj rfl ?_
 refine qe7 rfl ?_
 refine qaf ?_ ?_ <;> intro aV
 refine ro (qab r1 rfl (nl rfl) (ct aV (ro (qab r0 rfl (nl rfl) (ct aV ?_)))))
 refine qpu (b := (decide (a.An = aX.1.An) && (decide (a.Ae = aX.1.Ae) && (decide (a.Af = aX.1.Af) && (a.HasQuery == aX.1.HasQuery))))) rfl (by kernel_rfl) (by kernel_rfl) (by kernel_rfl) rfl ?_
 refine ct aV ?_
 exact bE (qc8 (b := (decide (a.An = aX.1.An) && (decide (a.Ae = aX.1.Ae) && (decide (a.Af = aX.1.Af) && (a.HasQuery == aX.1.HasQuery))))) aV) (eE hm)
 refine cf aV (cf aV (cf aV ?_))
 exact bE (((qbh aV)).symm) (eE hm)
 refine fa rfl (ro (ld r0 rfl rfl ?_))
 refine cb hm fun aX aY hm => cgx (JcB aY :) ?_
 refine qai rfl fun b4 => ?_
 refine qaa r0 rfl ⟨rfl, rfl, (nl rfl), ?_⟩
 refine qaj rfl ?_
 refine qe7 rfl ?_
 refine qaf ?_ ?_ <;> intro aV
 refine ro (qab r1 rfl (nl rfl) (ct aV (ro (qab r0 rfl (nl rfl) (ct aV ?_)))))
 refine qpu (b := (decide (a.An = aX.1.An) && (decide (a.Ae = aX.1.Ae) && (decide (a.Af = aX.1.Af) && (a.HasQuery == aX.1.HasQuery))))) rfl (by kernel_rfl) (by kernel_rfl) (by kernel_rfl) rfl ?_
 refine ct aV ?_
 exact bE (qc8 (b := (decide (a.An = aX.1.An) && (decide (a.Ae = aX.1.Ae) && (decide (a.Af = aX.1.Af) && (a.HasQuery == aX.1.HasQuery))))) aV) (eE hm)
 refine cf aV (cf aV (cf aV ?_))
 exact bE (((qbh aV)).symm) (eE hm)

def Jdr (n : Nat) (a : Ju) : Option (Str × Err) :=
  (JdE n a).bind fun x5 =>
  if (!x5) then
  some (([] : Str), (some 2))
  else
  (Jdj a).bind fun x9 =>
  some (x9, none)
theorem Jek {n : Nat} {a : Ju} {K : Hp} {r : Str × Err}
    (hm : Jdr n a = some r) (hG : GG K) :
    Fn Tryz.prog 57 [.agg #[str a.An, str a.Ae, str a.Af, .bool a.HasQuery]] K [] (fun v K' H' => v = .tuple #[str r.1, qc3 48 r.2] ∧ H' = []) := by
 refine Fn.enter Tryz.func57 Tryz.call57 rfl fun F => ?_
 unfold Jdr at hm
 refine qar ?_
 intro b1
 refine ro (qab r0 rfl (nl rfl) ?_)
 refine cb hm fun x5 q5 hm => cgx (Jer q5 :) ?_
 refine qav ?_
 refine cs rfl rfl hm ?_ ?_ <;> intro w6 hm
 refine qas rfl ?_
 exact eE hm
 refine ro (qab r0 rfl (nl rfl) ?_)
 refine cb hm fun x9 q9 hm => cg0 (JdN q9 :) ?_
 exact eE hm

def qfb (n : Nat) (p : Jaj) : Option (Str) :=
  (Jdr n p.Cache).bind fun x8 =>
  if x8.2.isSome then
  (qol p.Tenant).bind fun aV =>
  (chk (aV.length + ([32] : Str).length ≤ lim)).bind fun _ =>
  (chk ((aV ++ ([32] : Str)).length + ([] : Str).length ≤ lim)).bind fun _ =>
  some ((aV ++ ([32] : Str)) ++ ([] : Str))
  else
  (qol p.Tenant).bind fun aV =>
  (chk (aV.length + ([32] : Str).length ≤ lim)).bind fun _ =>
  (chk ((aV ++ ([32] : Str)).length + x8.1.length ≤ lim)).bind fun _ =>
  some ((aV ++ ([32] : Str)) ++ x8.1)
theorem qi0 {n : Nat} {p : Jaj} {aa : Option Addr} {ab : Nat} {ah : Option Addr} {al : Nat} {ao : Option Addr} {av : Nat} {K : Hp} {r : Str}
    (hm : qfb n p = some r) (hX : RdC Jc.enc K aa ab 2 p.Ao ∧ RdC eS K ah al 1 p.Vary ∧ RdC eS K ao av 1 p.Ah ∧ GG K) :
    Fn Tryz.prog 31 [.agg #[.int .i64 p.Tenant, .int .i64 p.TTL, .int .i64 p.Ai, str p.Asked.An, str p.Asked.Ae, str p.Asked.Af, .bool p.Asked.HasQuery, str p.Cache.An, str p.Cache.Ae, str p.Cache.Af, .bool p.Cache.HasQuery, .slice aa p.Ao.length ab, .slice ah p.Vary.length al, .slice ao p.Ah.length av, .bool p.Ak, .bool p.Al]] K [] (fun v K' H' => v = str r ∧ H' = []) := by
 obtain ⟨ae, aY, aZ, hG⟩ := hX
 refine Fn.enter Tryz.func31 Tryz.call31 rfl fun F => ?_
 unfold qfb at hm
 refine qar ?_
 intro b1
 refine fa rfl (ro (qab r0 rfl (nl rfl) ?_))
 refine cb hm fun x8 q8 hm => cgx (Jek q8 :) ?_
 refine qa7 rfl ?_
 refine cs rfl rfl hm ?_ ?_ <;> intro a8 hm
 refine fa rfl (ro (ld r0 rfl rfl ?_))
 refine cb hm fun a6 aV hm => cg0 (qm6 aV (gg4 hG)) ?_
 obtain ⟨aX, hm⟩ := qax hm
 refine qby aX ?_
 obtain ⟨aW, hm⟩ := qax hm
 refine qby aW ?_
 exact eE hm
 refine fa rfl (ro (ld r0 rfl rfl ?_))
 refine cb hm fun a6 aV hm => cg0 (qm6 aV (gg4 hG)) ?_
 obtain ⟨aX, hm⟩ := qax hm
 refine qby aX ?_
 obtain ⟨aW, hm⟩ := qax hm
 refine qby aW ?_
 exact eE hm
