/- Functions of the program: mirrors, and that a call returns what the mirror says. Printed by gen.py. -/
import Derived.Test.YtiaaooopklhobaaGreatDoorG5
set_option linter.unusedVariables false
set_option linter.unusedSimpArgs false
open Go Go.SL Go.Proofs
noncomputable section
set_option maxRecDepth 1000000
set_option maxHeartbeats 8000000
def Jck (m : Jh) (atZ : Int) (x : Jf) : Option (Int × Err × Jh) :=
  (chk (InI (m.result.Aj + 1))).bind fun _ =>
  if decide ((m.result.Aj + 1) > m.most) then
  some (0, (some 13), (⟨m.Aq, m.most, (⟨m.result.Ae, m.result.Af, m.result.Ag, m.result.Vary, m.result.Ah, m.result.TTL, m.result.Ai, (m.result.Aj + 1), m.result.Ak, m.result.Al⟩ : Jq), m.stack, m.Ap⟩ : Jh))
  else
  (chk (InI (atZ + 1))).bind fun _ =>
  if decide (x.Op = 1) then
  (JbQ x.N).bind fun bv =>
  (J3 (⟨m.Aq, m.most, (⟨m.result.Ae, m.result.Af, m.result.Ag, m.result.Vary, m.result.Ah, m.result.TTL, m.result.Ai, (m.result.Aj + 1), m.result.Ak, m.result.Al⟩ : Jq), m.stack, m.Ap⟩ : Jh) bv false).bind fun bj =>
  some ((atZ + 1), bj.1, (⟨m.Aq, bj.2.most, bj.2.result, bj.2.stack, bj.2.Ap⟩ : Jh))
  else
  if decide (x.Op = 2) then
  (Jaz x.S).bind fun bt =>
  (J3 (⟨m.Aq, m.most, (⟨m.result.Ae, m.result.Af, m.result.Ag, m.result.Vary, m.result.Ah, m.result.TTL, m.result.Ai, (m.result.Aj + 1), m.result.Ak, m.result.Al⟩ : Jq), m.stack, m.Ap⟩ : Jh) bt false).bind fun bh =>
  some ((atZ + 1), bh.1, (⟨m.Aq, bh.2.most, bh.2.result, bh.2.stack, bh.2.Ap⟩ : Jh))
  else
  if decide (x.Op = 3) then
  (ix m.Ap x.N).bind fun br =>
  (J3 (⟨m.Aq, m.most, (⟨m.result.Ae, m.result.Af, m.result.Ag, m.result.Vary, m.result.Ah, m.result.TTL, m.result.Ai, (m.result.Aj + 1), m.result.Ak, m.result.Al⟩ : Jq), m.stack, m.Ap⟩ : Jh) br false).bind fun bg =>
  some ((atZ + 1), bg.1, (⟨m.Aq, bg.2.most, bg.2.result, bg.2.stack, bg.2.Ap⟩ : Jh))
  else
  if decide (x.Op = 5) then
  (Jcx x.S m.Aq).bind fun bu =>
  (J3 (⟨m.Aq, m.most, (⟨m.result.Ae, m.result.Af, m.result.Ag, m.result.Vary, m.result.Ah, m.result.TTL, m.result.Ai, (m.result.Aj + 1), m.result.Ak, m.result.Al⟩ : Jq), m.stack, m.Ap⟩ : Jh) bu false).bind fun bl =>
  some ((atZ + 1), bl.1, (⟨m.Aq, bl.2.most, bl.2.result, bl.2.stack, bl.2.Ap⟩ : Jh))
  else
  if decide (x.Op = 4) then
  (J8 (⟨m.Aq, m.most, (⟨m.result.Ae, m.result.Af, m.result.Ag, m.result.Vary, m.result.Ah, m.result.TTL, m.result.Ai, (m.result.Aj + 1), m.result.Ak, m.result.Al⟩ : Jq), m.stack, m.Ap⟩ : Jh)).bind fun bd =>
  (ix bd.2.Ap x.N).bind fun bw =>
  some ((atZ + 1), none, (⟨m.Aq, bd.2.most, bd.2.result, bd.2.stack, (bd.2.Ap.set ((x.N).toNat) bd.1)⟩ : Jh))
  else
  if decide (x.Op = 6) then
  (J8 (⟨m.Aq, m.most, (⟨m.result.Ae, m.result.Af, m.result.Ag, m.result.Vary, m.result.Ah, m.result.TTL, m.result.Ai, (m.result.Aj + 1), m.result.Ak, m.result.Al⟩ : Jq), m.stack, m.Ap⟩ : Jh)).bind fun bc =>
  (JdQ x.S bc.1 m.Aq).bind fun bm =>
  if (!bm.2) then
  some (0, (some 9), (⟨m.Aq, bc.2.most, bc.2.result, bc.2.stack, bc.2.Ap⟩ : Jh))
  else
  (J3 (⟨m.Aq, bc.2.most, bc.2.result, bc.2.stack, bc.2.Ap⟩ : Jh) bm.1 true).bind fun aZ =>
  some ((atZ + 1), aZ.1, (⟨m.Aq, aZ.2.most, aZ.2.result, aZ.2.stack, aZ.2.Ap⟩ : Jh))
  else
  if decide (x.Op = 7) then
  (J8 (⟨m.Aq, m.most, (⟨m.result.Ae, m.result.Af, m.result.Ag, m.result.Vary, m.result.Ah, m.result.TTL, m.result.Ai, (m.result.Aj + 1), m.result.Ak, m.result.Al⟩ : Jq), m.stack, m.Ap⟩ : Jh)).bind fun ba =>
  (J8 (⟨m.Aq, ba.2.most, ba.2.result, ba.2.stack, ba.2.Ap⟩ : Jh)).bind fun aV =>
  (Jdh x.S aV.1 ba.1).bind fun bf =>
  if (!bf.2) then
  some (0, (some 9), (⟨m.Aq, aV.2.most, aV.2.result, aV.2.stack, aV.2.Ap⟩ : Jh))
  else
  (J3 (⟨m.Aq, aV.2.most, aV.2.result, aV.2.stack, aV.2.Ap⟩ : Jh) bf.1 true).bind fun aX =>
  some ((atZ + 1), aX.1, (⟨m.Aq, aX.2.most, aX.2.result, aX.2.stack, aX.2.Ap⟩ : Jh))
  else
  if decide (x.Op = 8) then
  (J8 (⟨m.Aq, m.most, (⟨m.result.Ae, m.result.Af, m.result.Ag, m.result.Vary, m.result.Ah, m.result.TTL, m.result.Ai, (m.result.Aj + 1), m.result.Ak, m.result.Al⟩ : Jq), m.stack, m.Ap⟩ : Jh)).bind fun aU =>
  if decide (aU.1.kind ≠ 3) then
  some (0, (some 9), (⟨m.Aq, aU.2.most, aU.2.result, aU.2.stack, aU.2.Ap⟩ : Jh))
  else
  (JaQ (!aU.1.As)).bind fun bn =>
  (J3 (⟨m.Aq, aU.2.most, aU.2.result, aU.2.stack, aU.2.Ap⟩ : Jh) bn false).bind fun aY =>
  some ((atZ + 1), aY.1, (⟨m.Aq, aY.2.most, aY.2.result, aY.2.stack, aY.2.Ap⟩ : Jh))
  else
  if decide (x.Op = 9) then
  some (x.N, none, (⟨m.Aq, m.most, (⟨m.result.Ae, m.result.Af, m.result.Ag, m.result.Vary, m.result.Ah, m.result.TTL, m.result.Ai, (m.result.Aj + 1), m.result.Ak, m.result.Al⟩ : Jq), m.stack, m.Ap⟩ : Jh))
  else
  if decide (x.Op = 10) then
  (J8 (⟨m.Aq, m.most, (⟨m.result.Ae, m.result.Af, m.result.Ag, m.result.Vary, m.result.Ah, m.result.TTL, m.result.Ai, (m.result.Aj + 1), m.result.Ak, m.result.Al⟩ : Jq), m.stack, m.Ap⟩ : Jh)).bind fun aT =>
  if decide (aT.1.kind ≠ 3) then
  some (0, (some 9), (⟨m.Aq, aT.2.most, aT.2.result, aT.2.stack, aT.2.Ap⟩ : Jh))
  else
  if (!aT.1.As) then
  some (x.N, none, (⟨m.Aq, aT.2.most, aT.2.result, aT.2.stack, aT.2.Ap⟩ : Jh))
  else
  some ((atZ + 1), none, (⟨m.Aq, aT.2.most, aT.2.result, aT.2.stack, aT.2.Ap⟩ : Jh))
  else
  if decide (x.Op = 11) then
  (if (decide (x.S ≠ ([112, 97, 115, 115] : Str)) && decide (x.S ≠ ([116, 111, 107, 101, 110] : Str))) then (Jam x.S ([118, 97, 114, 121, 58] : Str)).bind fun bo =>
  some (!bo) else some false).bind fun bp =>
  ((if bp then
  (J8 (⟨m.Aq, m.most, (⟨m.result.Ae, m.result.Af, m.result.Ag, m.result.Vary, m.result.Ah, m.result.TTL, m.result.Ai, (m.result.Aj + 1), m.result.Ak, m.result.Al⟩ : Jq), m.stack, m.Ap⟩ : Jh)).bind fun aW =>
  some (aW.1.kind, aW.1.n, aW.1.s, aW.1.As, (⟨m.Aq, aW.2.most, aW.2.result, aW.2.stack, aW.2.Ap⟩ : Jh))
  else
  some (0, 0, ([] : Str), false, (⟨m.Aq, m.most, (⟨m.result.Ae, m.result.Af, m.result.Ag, m.result.Vary, m.result.Ah, m.result.TTL, m.result.Ai, (m.result.Aj + 1), m.result.Ak, m.result.Al⟩ : Jq), m.stack, m.Ap⟩ : Jh)) : Option (Int × Int × Str × Bool × Jh))).bind fun aS =>
  (Jcj aS.2.2.2.2.result x.S (⟨aS.1, aS.2.1, aS.2.2.1, aS.2.2.2.1⟩ : Ji)).bind fun bb =>
  if bb.1.isSome then
  some (0, bb.1, (⟨m.Aq, aS.2.2.2.2.most, bb.2, aS.2.2.2.2.stack, aS.2.2.2.2.Ap⟩ : Jh))
  else
  if decide (x.S = ([100, 101, 110, 121] : Str)) then
  some ((-1), none, (⟨m.Aq, aS.2.2.2.2.most, bb.2, aS.2.2.2.2.stack, aS.2.2.2.2.Ap⟩ : Jh))
  else
  some ((atZ + 1), none, (⟨m.Aq, aS.2.2.2.2.most, bb.2, aS.2.2.2.2.stack, aS.2.2.2.2.Ap⟩ : Jh))
  else
  if decide (x.Op = 12) then
  some ((-1), none, (⟨m.Aq, m.most, (⟨m.result.Ae, m.result.Af, m.result.Ag, m.result.Vary, m.result.Ah, m.result.TTL, m.result.Ai, (m.result.Aj + 1), m.result.Ak, m.result.Al⟩ : Jq), m.stack, m.Ap⟩ : Jh))
  else
  some ((atZ + 1), none, (⟨m.Aq, m.most, (⟨m.result.Ae, m.result.Af, m.result.Ag, m.result.Vary, m.result.Ah, m.result.TTL, m.result.Ai, (m.result.Aj + 1), m.result.Ak, m.result.Al⟩ : Jq), m.stack, m.Ap⟩ : Jh))
theorem Jdy {m : Jh} {atZ : Int} {x : Jf} {b0 : Nat} {aa : Option Addr} {ab : Nat} {ah : Option Addr} {ak : Nat} {am : Option Addr} {ar : Nat} {aw : Option Addr} {ay : Nat} {ax : Option Addr} {az : Nat} {K : Hp} {r : Int × Err × Jh}
    (hm : Jck m atZ x = some r) (hX : RdC Jc.enc K aa ab 2 m.Aq.Ao ∧ (0 < m.result.Ag.length → Has ah) ∧ (0 < m.result.Vary.length → Has am) ∧ (0 < m.result.Ah.length → Has aw) ∧ (0 < m.stack.length → Has ax) ∧ m.Ap.length = 512 ∧ GG K) :
    Fn Tryz.prog 69 [.pointer (some ⟨b0, 0, none⟩), .int .i64 atZ, .agg #[.int .i64 x.Op, .int .i64 x.N, str x.S]] K [Cells b0 131 ((str m.Aq.Am) :: (str m.Aq.An) :: (str m.Aq.Ae) :: (str m.Aq.Af) :: (.slice aa m.Aq.Ao.length ab) :: (.int .i64 m.most) :: (str m.result.Ae) :: (str m.result.Af) :: (.slice ah m.result.Ag.length ak) :: (.slice am m.result.Vary.length ar) :: (.slice aw m.result.Ah.length ay) :: (.int .i64 m.result.TTL) :: (.int .i64 m.result.Ai) :: (.int .i64 m.result.Aj) :: (.bool m.result.Ak) :: (.bool m.result.Al) :: (.slice ax m.stack.length az) :: (m.Ap.map Ji.enc).flatten), qau Jc.enc ah 41 2 ak m.result.Ag, qau eS am 9 1 ar m.result.Vary, qau eS aw 9 1 ay m.result.Ah, qau Ji.enc ax 128 4 az m.stack] (fun v K' H' => ∃ ar_0 : Option Addr, ∃ cr_0 : Nat, ∃ ar_1 : Option Addr, ∃ cr_1 : Nat, ∃ ar_2 : Option Addr, ∃ cr_2 : Nat, ∃ ar_3 : Option Addr, ∃ cr_3 : Nat, v = .tuple #[.int .i64 r.1, qcy 48 r.2.1] ∧ (0 < r.2.2.result.Ag.length → Has ar_0) ∧ (0 < r.2.2.result.Vary.length → Has ar_1) ∧ (0 < r.2.2.result.Ah.length → Has ar_2) ∧ (0 < r.2.2.stack.length → Has ar_3) ∧ r.2.2.Ap.length = 512 ∧ H' = [Cells b0 131 ((str m.Aq.Am) :: (str m.Aq.An) :: (str m.Aq.Ae) :: (str m.Aq.Af) :: (.slice aa m.Aq.Ao.length ab) :: (.int .i64 r.2.2.most) :: (str r.2.2.result.Ae) :: (str r.2.2.result.Af) :: (.slice ar_0 r.2.2.result.Ag.length cr_0) :: (.slice ar_1 r.2.2.result.Vary.length cr_1) :: (.slice ar_2 r.2.2.result.Ah.length cr_2) :: (.int .i64 r.2.2.result.TTL) :: (.int .i64 r.2.2.result.Ai) :: (.int .i64 r.2.2.result.Aj) :: (.bool r.2.2.result.Ak) :: (.bool r.2.2.result.Al) :: (.slice ar_3 r.2.2.stack.length cr_3) :: (r.2.2.Ap.map Ji.enc).flatten), qau Jc.enc ar_0 41 2 cr_0 r.2.2.result.Ag, qau eS ar_1 9 1 cr_1 r.2.2.result.Vary, qau eS ar_2 9 1 cr_2 r.2.2.result.Ah, qau Ji.enc ar_3 128 4 cr_3 r.2.2.stack]) := by
 obtain ⟨ae, fK, fA, gm, fl, bI, hG⟩ := hX
 refine Fn.enter Tryz.func69 Tryz.call69 rfl fun F => ?_
 unfold Jck at hm
 refine qar ?_
 intro b5
 refine qag (fa rfl (fa rfl (ro (ld r1 rfl rfl ?_))))
 obtain ⟨gV, hm⟩ := qax hm
 refine qam gV (qag (fa rfl (fa rfl ?_)))
 refine qmi (cs' := (str m.Aq.Am) :: (str m.Aq.An) :: (str m.Aq.Ae) :: (str m.Aq.Af) :: (.slice aa m.Aq.Ao.length ab) :: (.int .i64 m.most) :: (str m.result.Ae) :: (str m.result.Af) :: (.slice ah m.result.Ag.length ak) :: (.slice am m.result.Vary.length ar) :: (.slice aw m.result.Ah.length ay) :: (.int .i64 m.result.TTL) :: (.int .i64 m.result.Ai) :: (.int .i64 (m.result.Aj + 1)) :: (.bool m.result.Ak) :: (.bool m.result.Al) :: (.slice ax m.stack.length az) :: (m.Ap.map Ji.enc).flatten) r1 rfl rfl (by exact rfl) (by exact nl rfl) (by exact rfl) ?_
 refine qa3 ⟨⟨[], false⟩, _, [(_, _)], []⟩ (by kernel_rfl) ⟨Hp.Le.refl _, (pf rfl), ci0⟩ ?_
 refine qag (fa rfl (fa rfl (qap m0 rfl rfl (qag (fa rfl (qap m0 rfl rfl ?_))))))
 refine cs rfl rfl hm ?_ ?_ <;> intro iB hm
 refine qas rfl ?_
 exact eE hm
 obtain ⟨gN, hm⟩ := qax hm
 refine qam gN (fa rfl (ro (ld r1 rfl rfl ?_)))
 refine qal rfl ?_
 refine qaf (cs rfl rfl hm ?_ ?_) <;> intro iP hm
 refine fa rfl (ro (ld r1 rfl rfl ?_))
 refine cb hm fun iE gM hm => cg0 (Jbj gM :) ?_
 refine cb hm fun iD hZ hm => ckx (J6 hZ :) ?_
 rintro _ _ _ ⟨gg, fT, fk, fI, fM, fP, gE, fG, rfl, fE, fb, fH, gC, fD, rfl⟩
 exact eE hm
 refine qaf (cs rfl rfl hm ?_ ?_) <;> intro iG hm
 refine fa rfl (ro (ld r1 rfl rfl ?_))
 refine cb hm fun iK gU hm => cg0 (Jac gU :) ?_
 refine cb hm fun iy gK hm => ckx (J6 gK :) ?_
 rintro _ _ _ ⟨gB, fZ, gz, gD, gA, gf, fC, gw, rfl, fw, gq, gr, fj, gd, rfl⟩
 exact eE hm
 refine qaf (cs rfl rfl hm ?_ ?_) <;> intro iz hm
 refine qa3 ⟨⟨[], true⟩, _, [], []⟩ (by kernel_rfl) ⟨Hp.Le.refl _, (pf rfl), ci0⟩ ?_
 refine fa rfl ?_
 refine ld r1 rfl rfl ?_
 refine qag (fa rfl ?_)
 obtain ⟨iC, fe, fS, hm⟩ := ixb hm
 refine qbv (sz := 4) rfl rfl fe (qqt bI fe fS) ?_
 refine qrs (enc := Ji.enc) (sz := 4) r0 rfl (by exact rfl) fS (by exact rfl) ?_
 refine cb hm fun iN g9 hm => ckx (J6 g9 :) ?_
 rintro _ _ _ ⟨gj, fX, fp, gc, fu, gi, gp, gy, rfl, fY, gb, fN, fJ, ff, rfl⟩
 refine qk (pf rfl) ?_
 exact eE hm
 refine qaf (cs rfl rfl hm ?_ ?_) <;> intro iw hm
 refine qa3 ⟨⟨[], false⟩, _, [(_, _)], [(b0, [str m.Aq.Am, str m.Aq.An, str m.Aq.Ae, str m.Aq.Af, .slice aa m.Aq.Ao.length ab])]⟩ (by kernel_rfl) ⟨Hp.Le.refl _, (sc [1] rfl), (ci1 r0 (by exact rfl))⟩ ?_
 refine fa rfl (qap m0 rfl rfl (qag (fa rfl ?_)))
 refine qmk m0 rfl (nl rfl) ?_
 refine cb hm fun iF ic hm => cgx (JdF ic :) ?_
 refine ⟨⟨lr, (sc [1] rfl), (ci1 r0 (by exact rfl))⟩, ?_⟩
 refine cb hm fun iv ij hm => ckx (J6 ij :) ?_
 rintro _ _ _ ⟨gv, eZ, fc, f8, gn, fg, ga, fU, rfl, gl, fL, gu, fy, fq, rfl⟩
 refine ⟨⟨lr, (sc [5] rfl), (ci1 r0 (by exact rfl))⟩, ?_⟩
 exact eE hm
 refine qaf (cs rfl rfl hm ?_ ?_) <;> intro ir hm
 refine qa3 ⟨⟨[], false⟩, _, [(_, _)], []⟩ (by kernel_rfl) ⟨Hp.Le.refl _, (sc [1] rfl), ci0⟩ ?_
 refine fa rfl (qap m0 rfl rfl ?_)
 refine cb hm fun bh hO hm => ckx (J9 hO :) ?_
 rintro _ _ _ ⟨bp, bl, bt, bn, bv, bu, br, bm, rfl, bF, bD, bG, bH, bo, rfl⟩
 refine qk (sc [5] rfl) ?_
 refine qag (fa rfl ?_)
 obtain ⟨iA, fo, gt, hm⟩ := ixb hm
 refine qbv (sz := 4) rfl rfl fo (qqt bo fo gt) ?_
 refine qrt (sz := 4) (enc := Ji.enc) (y := bh.1) (cs' := (str m.Aq.Am) :: (str m.Aq.An) :: (str m.Aq.Ae) :: (str m.Aq.Af) :: (.slice aa m.Aq.Ao.length ab) :: (.int .i64 bh.2.most) :: (str bh.2.result.Ae) :: (str bh.2.result.Af) :: (.slice bp bh.2.result.Ag.length bl) :: (.slice bt bh.2.result.Vary.length bn) :: (.slice bv bh.2.result.Ah.length bu) :: (.int .i64 bh.2.result.TTL) :: (.int .i64 bh.2.result.Ai) :: (.int .i64 bh.2.result.Aj) :: (.bool bh.2.result.Ak) :: (.bool bh.2.result.Al) :: (.slice br bh.2.stack.length bm) :: ((bh.2.Ap.set ((x.N).toNat) bh.1).map Ji.enc).flatten) r0 rfl (by exact rfl) gt rfl (fun _ => rfl) (fun _ => rfl) (by exact rfl) (by decide) ?_
 refine qk (sc [5] rfl) ?_
 cases hm
 exact en lr ⟨bp, bl, bt, bn, bv, bu, br, bm, rfl, bF, bD, bG, bH, (List.length_set.trans bo), rfl⟩ (sc [0,0,0,0,0,1] rfl)
 refine qaf (cs rfl rfl hm ?_ ?_) <;> intro iH hm
 refine qe2 ⟨⟨[], false⟩, _, [(_, _)], [(b0, [str m.Aq.Am, str m.Aq.An, str m.Aq.Ae, str m.Aq.Af, .slice aa m.Aq.Ao.length ab])]⟩ 15 rfl (by kernel_rfl) ⟨Hp.Le.refl _, (sc [1] rfl), (ci1 r0 (by exact rfl))⟩ ?_
 refine fa rfl (qap m0 rfl rfl ?_)
 intro gS
 refine cb hm fun iL gY hm => ckx (J9 gY :) ?_
 rintro _ _ _ ⟨fO, fm, fV, fQ, fv, ge, gx, fR, rfl, fh, gh, eY, fB, gk, rfl⟩
 refine ⟨⟨lr, (sc [5] rfl), (ci1 r0 (by exact rfl))⟩, ?_⟩
 refine ⟨_, .cons r7 .nil, ⟨lr, (sc [5] rfl), (ci1 r0 (by exact rfl))⟩, ?_⟩
 refine qag (fa rfl ?_)
 refine qmk m0 rfl (nl rfl) ?_
 intro iq
 refine cb hm fun g8 cD hm => cgx (Jem cD :) ?_
 refine ⟨⟨lr, (sc [5] rfl), (ci1 r0 (by exact rfl))⟩, ?_⟩
 refine ⟨_, .cons r7 .nil, ⟨lr, (sc [5] rfl), (ci1 r0 (by exact rfl))⟩, ?_⟩
 refine qki rfl ?_
 intro b9
 intro gW
 refine qaa r0 rfl ⟨rfl, rfl, (nl rfl), ?_⟩
 refine ⟨⟨lr, (sc [6] rfl), (ci1 r1 (by exact rfl))⟩, ?_⟩
 refine ⟨_, .cons r8 .nil, ⟨lr, (sc [6] rfl), (ci1 r1 (by exact rfl))⟩, ?_⟩
 refine qaw ?_
 refine cs rfl rfl hm ?_ ?_ <;> intro ia hm
 refine qas rfl ?_
 exact eE hm
 refine ro (qab r0 rfl (nl rfl) ?_)
 refine cb hm fun gZ cN hm => ckx (J6 cN :) ?_
 rintro _ _ _ ⟨cI, eJ, cy, dY, dc, dy, co, dE, rfl, eL, bZ, eO, cn, ej, rfl⟩
 exact eE hm
 refine qaf (cs rfl rfl hm ?_ ?_) <;> intro hU hm
 refine cb hm fun gT bY hm => ckx (J9 bY :) ?_
 rintro _ _ _ ⟨d5, di, eH, dk, dt, ei, dZ, dv, rfl, dC, dS, dm, bT, cR, rfl⟩
 refine qai rfl fun iu => ?_
 refine qaa r0 rfl ⟨rfl, rfl, (nl rfl), ?_⟩
 refine qe2 ⟨⟨[], false⟩, _, [(_, _), (_, _)], []⟩ 12 rfl (by kernel_rfl) ⟨Hp.Le.refl _, (sc [6,0] rfl), ci0⟩ ?_
 refine fa rfl (qap m0 rfl rfl ?_)
 intro gS
 refine cb hm fun im dN hm => ckx (J9 dN :) ?_
 rintro _ _ _ ⟨eC, eh, cM, bU, bO, dh, cQ, dX, rfl, cL, cr, cm, cj, bP, rfl⟩
 refine ⟨⟨lr, (sc [6,5] rfl), ci0⟩, ?_⟩
 refine ⟨_, .cons r8 .nil, ⟨lr, (sc [6,5] rfl), ci0⟩, ?_⟩
 refine qbx m1 rfl (nl rfl) ?_
 intro iM
 refine cb hm fun gG eu hm => cgx (Jd8 eu :) ?_
 refine ⟨⟨lr, (sc [6,5] rfl), ci0⟩, ?_⟩
 refine ⟨_, .cons r8 .nil, ⟨lr, (sc [6,5] rfl), ci0⟩, ?_⟩
 refine qki rfl ?_
 intro iO
 intro ii
 refine qaa r0 rfl ⟨rfl, rfl, (nl rfl), ?_⟩
 refine ⟨⟨lr, (sc [7,6] rfl), ci0⟩, ?_⟩
 refine ⟨_, .cons r9 .nil, ⟨lr, (sc [7,6] rfl), ci0⟩, ?_⟩
 refine qaw ?_
 refine cs rfl rfl hm ?_ ?_ <;> intro hY hm
 refine qas rfl ?_
 exact eE hm
 refine ro (qab r0 rfl (nl rfl) ?_)
 refine cb hm fun hE dI hm => ckx (J6 dI :) ?_
 rintro _ _ _ ⟨eD, bL, cO, cJ, cw, eG, ca, dO, rfl, dL, d8, dD, cW, eW, rfl⟩
 exact eE hm
 refine qaf (cs rfl rfl hm ?_ ?_) <;> intro gF hm
 refine cb hm fun g7 cB hm => ckx (J9 cB :) ?_
 rintro _ _ _ ⟨bQ, cG, dJ, ey, bK, cA, cY, bM, rfl, cC, d7, dz, cE, dG, rfl⟩
 refine qai rfl fun iJ => ?_
 refine qaa r0 rfl ⟨rfl, rfl, (nl rfl), ?_⟩
 refine fa rfl (ro (ld r0 rfl rfl (qa6 ?_)))
 refine cs rfl rfl hm ?_ ?_ <;> intro hS hm
 refine qas rfl ?_
 exact eE hm
 refine fa rfl (ro (ld r0 rfl rfl (qaw ?_)))
 refine cb hm fun ig dP hm => cg0 (JaA dP :) ?_
 refine cb hm fun gQ bR hm => ckx (J6 bR :) ?_
 rintro _ _ _ ⟨cK, eV, eF, dU, dK, eg, dn, dW, rfl, dT, cX, d4, cV, dq, rfl⟩
 exact eE hm
 refine qaf (cs rfl rfl hm ?_ ?_) <;> intro gX hm
 refine fa rfl (ro (ld r1 rfl rfl ?_))
 exact eE hm
 refine qaf (cs rfl rfl hm ?_ ?_) <;> intro io hm
 refine cb hm fun gR ee hm => ckx (J9 ee :) ?_
 rintro _ _ _ ⟨eK, dA, bX, eT, dp, bW, eQ, cZ, rfl, d9, dg, eX, dM, dV, rfl⟩
 refine qai rfl fun iI => ?_
 refine qaa r0 rfl ⟨rfl, rfl, (nl rfl), ?_⟩
 refine fa rfl (ro (ld r0 rfl rfl (qa6 ?_)))
 refine cs rfl rfl hm ?_ ?_ <;> intro gJ hm
 refine qas rfl ?_
 exact eE hm
 refine fa rfl (ro (ld r0 rfl rfl (qaw ?_)))
 refine cs rfl rfl hm ?_ ?_ <;> intro ie hm
 refine fa rfl (ro (ld r6 rfl rfl ?_))
 exact eE hm
 exact eE hm
 refine qaf (cs rfl rfl hm ?_ ?_) <;> intro ib hm
 refine qaj rfl rfl ?_
 refine qai rfl fun gP => ?_
 refine qaa r0 rfl ⟨rfl, rfl, (nl rfl), ?_⟩
 obtain ⟨bN, bd, hm⟩ := bnd hm
 refine jR (σ := Bool) (rg 168 14) (fun bj => [(181, .bool bj)]) (fun bj => bj = bN) ?_ ?_
 replace bd := bsm bd
 refine qah rfl ?_
 refine fa rfl (ro (ld r2 rfl rfl (qbp ?_)))
 refine qae ?_ ?_ <;> intro aV
 refine fa rfl (ct aV (ro (ld r2 rfl rfl (ct aV (qbp (ct aV ?_))))))
 obtain ⟨bS, bf, bd⟩ := bnd bd
 refine qae ?_ ?_ <;> intro aU
 replace bf := ift (qct aV aU) bf
 refine fa rfl (ct aU (ro (ld r2 rfl rfl (ct aU ?_))))
 refine cb bf fun gL cz bf => cg0 (JaB cz :) ?_
 refine ct aU (qaw (ct aU ?_))
 exact eMq bd _ ⟨bq (si bf), trivial⟩
 replace bf := qa7 (qcu aV aU) bf
 refine cf aU (cf aU (cf aU (cf aU ?_)))
 exact eMq bd _ ⟨bq (si bf), trivial⟩
 refine cf aV (cf aV (cf aV ?_))
 obtain ⟨bS, bf, bd⟩ := bnd bd
 replace bf := qa7 (qa9 aV) bf
 refine cF (cF (cF (cF (cF ?_))))
 exact eMq bd _ ⟨bq (si bf), trivial⟩
 rintro bj rfl ip
 obtain ⟨ep, bg, hm⟩ := bnd hm
 refine jD (σ := (Int × Int × Str × Bool × Jh) × Option Addr × Nat × Option Addr × Nat × Option Addr × Nat × Option Addr × Nat) [182,183] [2, 7] (fun (aS, aW, bb, aZ, bc, aX, ba, aT, aY) => []) (fun (aS, aW, bb, aZ, bc, aX, ba, aT, aY) => [Cells b0 131 ((str m.Aq.Am) :: (str m.Aq.An) :: (str m.Aq.Ae) :: (str m.Aq.Af) :: (.slice aa m.Aq.Ao.length ab) :: (.int .i64 aS.2.2.2.2.most) :: (str aS.2.2.2.2.result.Ae) :: (str aS.2.2.2.2.result.Af) :: (.slice aW aS.2.2.2.2.result.Ag.length bb) :: (.slice aZ aS.2.2.2.2.result.Vary.length bc) :: (.slice aX aS.2.2.2.2.result.Ah.length ba) :: (.int .i64 aS.2.2.2.2.result.TTL) :: (.int .i64 aS.2.2.2.2.result.Ai) :: (.int .i64 aS.2.2.2.2.result.Aj) :: (.bool aS.2.2.2.2.result.Ak) :: (.bool aS.2.2.2.2.result.Al) :: (.slice aT aS.2.2.2.2.stack.length aY) :: (aS.2.2.2.2.Ap.map Ji.enc).flatten), qau Jc.enc aW 41 2 bb aS.2.2.2.2.result.Ag, qau eS aZ 9 1 bc aS.2.2.2.2.result.Vary, qau eS aX 9 1 ba aS.2.2.2.2.result.Ah, qau Ji.enc aT 128 4 aY aS.2.2.2.2.stack, Cells gP 128 [.int .i64 aS.1, .int .i64 aS.2.1, str aS.2.2.1, .bool aS.2.2.2.1]]) (fun (aS, aW, bb, aZ, bc, aX, ba, aT, aY) => (0 < aS.2.2.2.2.result.Ag.length → Has aW) ∧ (0 < aS.2.2.2.2.result.Vary.length → Has aZ) ∧ (0 < aS.2.2.2.2.result.Ah.length → Has aX) ∧ (0 < aS.2.2.2.2.stack.length → Has aT) ∧ aS.2.2.2.2.Ap.length = 512 ∧ aS = ep) (And.intro ?_ ?_)
 refine cs rfl rfl bg ?_ ?_ <;> intro hP bg
 refine cb bg fun gO cP bg => ckx (J9 cP :) ?_
 rintro _ _ _ ⟨dx, dw, bJ, dF, de, ew, cu, d3, rfl, ce, dB, df, bV, dj, rfl⟩
 refine qaa r5 rfl ⟨rfl, rfl, (nl rfl), ?_⟩
 exact eM bg (_, _, _, _, _, _, _, _, _)
 exact eM bg (_, _, _, _, _, _, _, _, _)
 rintro ⟨aS, aW, bb, aZ, bc, aX, ba, aT, aY⟩ ⟨bw, bB, bz, bA, bC, rfl⟩ gI
 refine qa3 ⟨⟨[], false⟩, _, [(_, _), (_, _)], []⟩ (by kernel_rfl) ⟨Hp.Le.refl _, (sc [6,5] rfl), ci0⟩ ?_
 refine qag (fa rfl (fa rfl (qap m0 rfl rfl (qbx m1 rfl (nl rfl) ?_))))
 refine cb hm fun ik ef hm => ckx (Jdx (aN := [str m.Aq.Am, str m.Aq.An, str m.Aq.Ae, str m.Aq.Af, .slice aa m.Aq.Ao.length ab, .int .i64 aS.2.2.2.2.most]) (aP := (.slice aT aS.2.2.2.2.stack.length aY) :: (aS.2.2.2.2.Ap.map Ji.enc).flatten) ef :) ?_
 rintro _ _ _ ⟨cH, dQ, eA, dR, d6, du, rfl, eP, cU, dH, rfl⟩
 refine qk (sc [6,5] rfl) ?_
 refine qa5 rfl ?_
 refine cs rfl rfl hm ?_ ?_ <;> intro gH hm
 exact eE hm
 refine fa rfl (ro (ld r6 rfl rfl (qaq ?_)))
 refine cs rfl rfl hm ?_ ?_ <;> intro hJ hm
 exact eE hm
 exact eE hm
 refine qaf (cs rfl rfl hm ?_ ?_) <;> intro il hm
 exact eE hm
 exact eE hm

def Jcz (code : (List Jf)) (Aq : JU) : Nat → Int → Jh → Option (Fl (Jq × Err) (Int × Jh))
  | 0, _, _ => none
  | aU + 1, ac, aS =>
    if decide (ac ≥ 0) then
    (ix code ac).bind fun aV =>
    (Jck (⟨Aq, aS.most, aS.result, aS.stack, aS.Ap⟩ : Jh) ac aV).bind fun aT =>
    if aT.2.1.isSome then
    some (Fl.ret ((⟨([] : Str), ([] : Str), [], [], [], 0, 0, 0, false, false⟩ : Jq), aT.2.1))
    else
    Jcz code Aq aU aT.1 (⟨Aq, aT.2.2.most, aT.2.2.result, aT.2.2.stack, aT.2.2.Ap⟩ : Jh)
    else
    some (Fl.go (ac, (⟨Aq, aS.most, aS.result, aS.stack, aS.Ap⟩ : Jh)))
def Jea (n : Nat) (code : (List Jf)) (Aq : JU) (most : Int) : Option (Jq × Err) :=
  (Jdf code).bind fun aS =>
  if aS.isSome then
  some ((⟨([] : Str), ([] : Str), [], [], [], 0, 0, 0, false, false⟩ : Jq), (some 2))
  else
  (Jcz code Aq n 0 (⟨Aq, most, (⟨Aq.Ae, Aq.Af, [], [], [], (-1), 0, 0, false, false⟩ : Jq), [], (List.replicate 512 (⟨0, 0, ([] : Str), false⟩ : Ji))⟩ : Jh)).bind fun s0 => s0.el some fun t0 =>
  some (t0.2.result, none)
theorem Jes {n : Nat} {code : (List Jf)} {Aq : JU} {most : Int} {aa : Option Addr} {ab : Nat} {n0 : Nat} {af : Option Addr} {ag : Nat} {K : Hp} {r : Jq × Err}
    (hm : Jea n code Aq most = some r) (hX : RdC Jf.enc K aa ab 3 code ∧ n0 = code.length ∧ RdC Jc.enc K af ag 2 Aq.Ao ∧ GG K) :
    Fn Tryz.prog 37 [.slice aa n0 ab, .agg #[str Aq.Am, str Aq.An, str Aq.Ae, str Aq.Af, .slice af Aq.Ao.length ag], .int .i64 most] K [] (fun v K' H' => ∃ ar_0 : Option Addr, ∃ cr_0 : Nat, ∃ ar_1 : Option Addr, ∃ cr_1 : Nat, ∃ ar_2 : Option Addr, ∃ cr_2 : Nat, v = .tuple #[.agg #[str r.1.Ae, str r.1.Af, .slice ar_0 r.1.Ag.length cr_0, .slice ar_1 r.1.Vary.length cr_1, .slice ar_2 r.1.Ah.length cr_2, .int .i64 r.1.TTL, .int .i64 r.1.Ai, .int .i64 r.1.Aj, .bool r.1.Ak, .bool r.1.Al], qcy 48 r.2] ∧ (0 < r.1.Ag.length → Has ar_0) ∧ (0 < r.1.Vary.length → Has ar_1) ∧ (0 < r.1.Ah.length → Has ar_2) ∧ H' = [qau Jc.enc ar_0 41 2 cr_0 r.1.Ag, qau eS ar_1 9 1 cr_1 r.1.Vary, qau eS ar_2 9 1 cr_2 r.1.Ah]) := by
 obtain ⟨ae, bT, ai, hG⟩ := hX
 subst bT
 refine Fn.enter Tryz.func37 Tryz.call37 rfl fun F => ?_
 unfold Jea at hm
 refine qar ?_
 intro b4
 refine qai rfl fun b6 => ?_
 refine cb hm fun bY bR hm => cgx (Jd6 bR :) ?_
 refine qa5 rfl ?_
 refine cs rfl rfl hm ?_ ?_ <;> intro bZ hm
 refine qaj rfl rfl ?_
 refine qas rfl ?_
 refine qaa r0 rfl ⟨rfl, rfl, (nl rfl), ?_⟩
 refine ro (qab r0 rfl (nl rfl) ?_)
 refine qcg Jc.enc 41 2 ?_
 refine qcg eS 9 1 ?_
 refine qcg eS 9 1 ?_
 exact eE hm
 refine ro (qab r1 rfl (nl rfl) (fa rfl (ro (ld r1 rfl rfl (fa rfl (ro (ld r1 rfl rfl (qaj rfl rfl (cT (cT ?_))))))))))
 refine cT ?_
 refine qlh (enc := Ji.enc) [str ([] : Str), str ([] : Str), str ([] : Str), str ([] : Str), .slice none 0 0, .int .i64 0, str ([] : Str), str ([] : Str), .slice none 0 0, .slice none 0 0, .slice none 0 0, .int .i64 0, .int .i64 0, .int .i64 0, .bool false, .bool false, .slice none 0 0] (List.replicate 512 (⟨0, 0, ([] : Str), false⟩ : Ji)) (by kernel_rfl) rfl ?_
 refine cT (cT (cT ?_))
 refine qnu ?_
 intro bU
 obtain ⟨s0, ba, hm⟩ := bnd hm
 refine qgy Jc.enc 41 2 ?_
 refine qgy eS 9 1 ?_
 refine qgy eS 9 1 ?_
 refine qgy Ji.enc 128 4 ?_
 refine lD (σ := (Int × Jh) × Option Addr × Nat × Option Addr × Nat × Option Addr × Nat × Option Addr × Nat) ([7,9,10,11] ++ rg 26 17) [5, 6, 7] (fun _ => []) (fun (t0, aU, aZ, aV, aX, aS, aY, aT, aW) => [(9, .int .i64 t0.1)]) (fun (t0, aU, aZ, aV, aX, aS, aY, aT, aW) => [Cells bU 131 ((str Aq.Am) :: (str Aq.An) :: (str Aq.Ae) :: (str Aq.Af) :: (.slice af Aq.Ao.length ag) :: (.int .i64 t0.2.most) :: (str t0.2.result.Ae) :: (str t0.2.result.Af) :: (.slice aU t0.2.result.Ag.length aZ) :: (.slice aV t0.2.result.Vary.length aX) :: (.slice aS t0.2.result.Ah.length aY) :: (.int .i64 t0.2.result.TTL) :: (.int .i64 t0.2.result.Ai) :: (.int .i64 t0.2.result.Aj) :: (.bool t0.2.result.Ak) :: (.bool t0.2.result.Al) :: (.slice aT t0.2.stack.length aW) :: (t0.2.Ap.map Ji.enc).flatten), qau Jc.enc aU 41 2 aZ t0.2.result.Ag, qau eS aV 9 1 aX t0.2.result.Vary, qau eS aS 9 1 aY t0.2.result.Ah, qau Ji.enc aT 128 4 aW t0.2.stack]) (fun (t0, aU, aZ, aV, aX, aS, aY, aT, aW) => (0 < t0.2.result.Ag.length → Has aU) ∧ (0 < t0.2.result.Vary.length → Has aV) ∧ (0 < t0.2.result.Ah.length → Has aS) ∧ (0 < t0.2.stack.length → Has aT) ∧ t0.2.Ap.length = 512) (fun i0 (t0, aU, aZ, aV, aX, aS, aY, aT, aW) => Jcz code Aq i0 t0.1 t0.2 = some s0) (fun (t0, aU, aZ, aV, aX, aS, aY, aT, aW) => s0 = Fl.go t0) (fun i0 => i0) n ((0, (⟨Aq, most, (⟨Aq.Ae, Aq.Af, [], [], [], (-1), 0, 0, false, false⟩ : Jq), [], (List.replicate 512 (⟨0, 0, ([] : Str), false⟩ : Ji))⟩ : Jh)), none, 0, none, 0, none, 0, none, 0) ba (And.intro ⟨⟨(fun h => by simp at h), (fun h => by simp at h), (fun h => by simp at h), (fun h => by simp at h), List.length_replicate⟩, ⟨rfl, trivial⟩, _, (ss [4,3,2,1,0,0,0,0] rfl)⟩ (And.intro ?_ ?_))
 clear ba
 rintro i0 ⟨⟨ac, bQ⟩, bj, bl, bz, bv, br, bh, bw, bb⟩ ⟨bc, bn, bm, bp, bu⟩ ba j0
 dsimp only at ba ⊢
 cases i0 with
 | zero => rw [Jcz.eq_1] at ba; cases ba
 | succ i0 =>
  rw [Jcz.eq_2] at ba
  refine cs rfl rfl ba ?_ ?_ <;> intro bV ba
  refine qal rfl ?_
  obtain ⟨ca, bK, bA, ba⟩ := ixb ba
  refine RStep.ofN (qad rfl rfl (qfy ae.rd bA) bK (qaz rfl bK bA) (ro (qan ((ac).toNat) _ ae.rd rfl (mp bA) rfl ?_)))
  refine cb ba fun bW bS ba => ckx (Jdy bS :) ?_
  rintro _ _ _ ⟨bM, bI, bP, bJ, bL, bH, bF, bG, rfl, bD, bO, bN, bB, bC, rfl⟩
  refine qa5 rfl ?_
  refine cs rfl rfl ba ?_ ?_ <;> intro bX ba
  refine qaj rfl rfl ?_
  refine qaa r5 rfl ⟨rfl, rfl, (nl rfl), ?_⟩
  refine ro (qab r0 rfl (nl rfl) ?_)
  refine qcg Jc.enc 41 2 ?_
  refine qcg eS 9 1 ?_
  refine qcg eS 9 1 ?_
  exact eE (er ba hm)
  exact eR ba (_, (_, _), _, _, _, _, _, _, _, _)
  refine cT ?_
  exact eM ba (_, _, _, _, _, _, _, _, _)
 rintro ⟨t0, aU, aZ, aV, aX, aS, aY, aT, aW⟩ ⟨bg, bf, bd, bo, bt⟩ rfl j0
 replace hm := elg hm
 refine qag (fa rfl (ro (qab r0 rfl (nl rfl) ?_)))
 refine qaa r5 rfl ⟨rfl, rfl, (nl rfl), ?_⟩
 exact ro (qab r0 rfl (nl rfl) (eE hm))

def qdj (a : Jl) (r' : Jq) : Option (Str) :=
  ((if decide (r'.Af ≠ ([] : Str)) then
  some true
  else
  some (a.HasQuery && decide (r'.Af = a.Af))) : Option (Bool)).bind fun aS =>
  if aS then
  (chk (r'.Ae.length + ([63] : Str).length ≤ lim)).bind fun _ =>
  (chk ((r'.Ae ++ ([63] : Str)).length + r'.Af.length ≤ lim)).bind fun _ =>
  some ((r'.Ae ++ ([63] : Str)) ++ r'.Af)
  else
  some r'.Ae
theorem qfv {a : Jl} {r' : Jq} {af : Option Addr} {ag : Nat} {aH : Option Addr} {aI : Nat} {aJ : Option Addr} {aK : Nat} {K : Hp} {r : Str}
    (hm : qdj a r' = some r) (hX : RdC Jc.enc K af ag 2 r'.Ag ∧ RdC eS K aH aI 1 r'.Vary ∧ RdC eS K aJ aK 1 r'.Ah) :
    Fn Tryz.prog 38 [.agg #[str a.An, str a.Ae, str a.Af, .bool a.HasQuery], .agg #[str r'.Ae, str r'.Af, .slice af r'.Ag.length ag, .slice aH r'.Vary.length aI, .slice aJ r'.Ah.length aK, .int .i64 r'.TTL, .int .i64 r'.Ai, .int .i64 r'.Aj, .bool r'.Ak, .bool r'.Al]] K [] (fun v K' H' => v = str r ∧ H' = []) := by
 obtain ⟨ai, aY, aX⟩ := hX
 refine Fn.enter Tryz.func38 Tryz.call38 rfl fun F => ?_
 unfold qdj at hm
 refine qar ?_
 intro b2
 refine qar ?_
 intro b3
 obtain ⟨aW, aU, hm⟩ := bnd hm
 refine jR (σ := Bool) (rg 5 14) (fun aV => [(18, .bool aV)]) (fun aV => aV = aW) ?_ ?_
 refine qah rfl ?_
 refine fa rfl (ro (ld r0 rfl rfl (qbp ?_)))
 refine cS aU (fun aT aU => ?_) fun aT aU => ?_
 refine ct aT (ct aT (ct aT (ct aT ?_)))
 exact eM aU _
 refine fa rfl (cf aT (ro (ld r1 rfl rfl (cf aT ?_))))
 refine qae ?_ ?_ <;> intro aS
 refine fa rfl (ct aS (ro (ld r0 rfl rfl (ct aS (fa rfl (ct aS (ro (ld r1 rfl rfl (ct aS ?_)))))))))
 refine qaq (cf aT (ct aS (cf aT ?_)))
 exact eMq aU _ ⟨bq (qcr (b := decide (r'.Af = a.Af)) aS), trivial⟩
 refine cf aS (cf aS (cf aS (cf aS (cf aT (cf aS (cf aT ?_))))))
 exact eMq aU _ ⟨bq (((qa9 aS)).symm), trivial⟩
 rintro aV rfl bb
 refine cs rfl rfl hm ?_ ?_ <;> intro bc hm
 refine fa rfl (ro (ld r0 rfl rfl ?_))
 obtain ⟨aZ, hm⟩ := qax hm
 refine qbd aZ ?_
 refine fa rfl (ro (ld r0 rfl rfl ?_))
 obtain ⟨ba, hm⟩ := qax hm
 refine qbd ba ?_
 exact eE hm
 refine fa rfl (ro (ld r0 rfl rfl ?_))
 exact eE hm

def Jcl (s : (List Str)) : Option ((List Str)) :=
  (chk (([] : List Str).length + s.length ≤ lim)).bind fun _ =>
  some (([] : List Str) ++ s)
theorem Jdz {s : (List Str)} {aa : Option Addr} {ab : Nat} {n0 : Nat} {K : Hp} {r : (List Str)}
    (hm : Jcl s = some r) (hX : RdC eS K aa ab 1 s ∧ n0 = s.length) :
    Fn Tryz.prog 39 [.slice aa n0 ab] K [] (fun v K' H' => ∃ ar_0 : Option Addr, ∃ cr_0 : Nat, v = .slice ar_0 r.length cr_0 ∧ (0 < r.length → Has ar_0) ∧ H' = [qau eS ar_0 9 1 cr_0 r]) := by
 obtain ⟨ae, aS⟩ := hX
 subst aS
 refine Fn.enter Tryz.func39 Tryz.call39 rfl fun F => ?_
 unfold Jcl at hm
 rcases Classical.em (aa = none) with hz | hz
 subst hz
 obtain rfl := RdC.none_nil ae
 obtain ⟨_, hm⟩ := qax hm
 obtain rfl := si hm
 refine qjc rfl ?_
 refine qac rfl (cT ?_)
 refine qcg eS 9 1 ?_
 exact en lr ⟨none, 0, rfl, (fun h => by simp at h), rfl⟩ (pf rfl)
 refine qjn hz rfl ?_
 refine qac rfl (cF ?_)
 refine bsO (len := 0) (enc := eS) (l := ([] : List Str)) (cl := []) qbr rfl rfl (fun _ _ => rfl) rfl rfl rfl ?_ fun b5 => ?_
 · conv => whnf
   first | done | rfl
 obtain ⟨h7, hm⟩ := qax hm
 refine apE rfl r0 qbr (qqc rfl ae.rd rfl) h7 ?_
 intro a7 c7 o7
 exact eE hm

def qck (c : UInt8) : Option (Bool) :=
  some ((decide ((c.toNat : Int) < 32) && decide ((c.toNat : Int) ≠ 9)) || decide ((c.toNat : Int) = 127))
theorem qfa {c : UInt8} {K : Hp} {r : Bool}
    (hm : qck c = some r)  :
    Fn Tryz.prog 147 [.int .u8 (c.toNat : Int)] K [] (fun v K' H' => v = .bool r ∧ H' = []) := by
 refine Fn.enter Tryz.func147 Tryz.call147 rfl fun F => ?_
 unfold qck at hm
 refine qah rfl ?_
 refine qae ?_ ?_ <;> intro aS
 refine ct aS (qa6 (ct aS ?_))
 refine qae ?_ ?_ <;> intro aT
 refine ct aT (ct aT ?_)
 exact bE (((qcj (qct aS aT))).symm) (eE hm)
 refine cf aT (qaf (cf aT ?_))
 exact bE (qg2 (b := decide ((c.toNat : Int) = 127)) (qcu aS aT)) (eE hm)
 refine cf aS (cf aS (cF (cF (qaf (cF ?_)))))
 exact bE (qg2 (b := decide ((c.toNat : Int) = 127)) (qa9 aS)) (eE hm)

def syntax_clean_L0 : List UInt8 → Nat → Option (Fl (Bool) (Unit))
  | [], _ => some (Fl.go ())
  | e0 :: aS, i0 =>
    (qck e0).bind fun al =>
    if al then
    some (Fl.ret false)
    else
    syntax_clean_L0 aS (i0 + 1)
def qca (s : Str) : Option (Bool) :=
  (chk (s.length ≤ qbg)).bind fun _ =>
  (syntax_clean_L0 s 0).bind fun s0 => s0.el some fun t0 =>
  some true
theorem qdr {s : Str} {K : Hp} {r : Bool}
    (hm : qca s = some r)  :
    Fn Tryz.prog 95 [str s] K [] (fun v K' H' => v = .bool r ∧ H' = []) := by
 refine Fn.enter Tryz.func95 Tryz.call95 rfl fun F => ?_
 unfold qca at hm
 refine ro (qa0 rfl ?_)
 obtain ⟨aV, hm⟩ := qax hm
 obtain ⟨s0, aS, hm⟩ := bnd hm
 refine lD (σ := (Unit)) ([2,3] ++ rg 6 8) [0] (fun i0 => [(6, .int .i64 (i0 : Int))]) (fun _ => []) (fun _ => []) (fun _ => True) (fun i0 _ => syntax_clean_L0 (s.drop i0) i0 = some s0) (fun t0 => s0 = Fl.go t0) (fun i0 => s.length - i0) 0 () aS (And.intro qe (And.intro ?_ ?_))
 clear aS
 rintro i0 _ _ aS j0
 conv at aS => whnf
 refine qac rfl ?_
 refine qae ?_ ?_ <;> intro w0
 obtain ⟨e0, aT, aW⟩ := ltx w0
 rw [aW, syntax_clean_L0.eq_2] at aS
 refine qal rfl ?_
 refine qay rfl (nn _) aT ?_
 refine cb aS fun al aU aS => cg0 (qfa aU :) ?_
 refine cs rfl rfl aS ?_ ?_ <;> intro aX aS
 exact eE (er aS hm)
 refine qam (qbj aT aV) ?_
 exact eR aS (_, ())
 rw [lty w0, syntax_clean_L0.eq_1] at aS
 refine cT ?_
 exact eM aS _
 rintro t0 _ rfl j0
 replace hm := elg hm
 exact eE hm

def syntax_parts_L0 (s : Str) (separator : UInt8) : Nat → (List Str) → Int → Bool → Int → Option ((List Str) × Int × Bool × Int)
  | 0, _, _, _, _ => none
  | aV + 1, ac, aU, aT, aS =>
    if decide (aS < (s.length : Int)) then
    (if aT then (ix s aS).bind fun aZ =>
    some (decide ((aZ.toNat : Int) = 92)) else some false).bind fun aW =>
    if aW then
    (chk (InI (aS + 1))).bind fun _ =>
    (chk (InI ((aS + 1) + 1))).bind fun _ =>
    syntax_parts_L0 s separator aV ac aU aT ((aS + 1) + 1)
    else
    (ix s aS).bind fun bb =>
    if decide ((bb.toNat : Int) = 34) then
    (chk (InI (aS + 1))).bind fun _ =>
    syntax_parts_L0 s separator aV ac aU (!aT) (aS + 1)
    else
    (if (!aT) then (ix s aS).bind fun ba =>
    some (decide ((ba.toNat : Int) = (separator.toNat : Int))) else some false).bind fun aX =>
    if aX then
    (chk (0 ≤ aU ∧ aU ≤ aS ∧ aS ≤ (s.length : Int))).bind fun _ =>
    (qjo (subL s aU aS) ([32, 9] : Str)).bind fun aY =>
    (chk (ac.length + [aY].length ≤ lim)).bind fun _ =>
    (chk (InI (aS + 1))).bind fun _ =>
    (chk (InI (aS + 1))).bind fun _ =>
    syntax_parts_L0 s separator aV (ac ++ [aY]) (aS + 1) aT (aS + 1)
    else
    (chk (InI (aS + 1))).bind fun _ =>
    syntax_parts_L0 s separator aV ac aU aT (aS + 1)
    else
    some (ac, aU, aT, aS)
def qds (n : Nat) (s : Str) (separator : UInt8) : Option ((List Str) × Err) :=
  (qca s).bind fun aT =>
  if (!aT) then
  some ([], (some 2))
  else
  (syntax_parts_L0 s separator n [] 0 false 0).bind fun t0 =>
  if t0.2.2.1 then
  some ([], (some 2))
  else
  (chk (0 ≤ t0.2.1 ∧ t0.2.1 ≤ (s.length : Int) ∧ (s.length : Int) ≤ (s.length : Int))).bind fun _ =>
  (qjo (subL s t0.2.1 (s.length : Int)) ([32, 9] : Str)).bind fun aS =>
  (chk (t0.1.length + [aS].length ≤ lim)).bind fun _ =>
  some ((t0.1 ++ [aS]), none)
theorem qf5 {n : Nat} {s : Str} {separator : UInt8} {K : Hp} {r : (List Str) × Err}
    (hm : qds n s separator = some r)  :
    Fn Tryz.prog 87 [str s, .int .u8 (separator.toNat : Int)] K [] (fun v K' H' => ∃ ar_0 : Option Addr, ∃ cr_0 : Nat, v = .tuple #[.slice ar_0 r.1.length cr_0, qcy 48 r.2] ∧ (0 < r.1.length → Has ar_0) ∧ H' = [qau eS ar_0 9 1 cr_0 r.1]) := by
 refine Fn.enter Tryz.func87 Tryz.call87 rfl fun F => ?_
 unfold qds at hm
 refine cb hm fun bL bB hm => cg0 (qdr bB :) ?_
 refine qaw ?_
 refine cs rfl rfl hm ?_ ?_ <;> intro co hm
 refine qas rfl ?_
 refine qcg eS 9 1 ?_
 exact eE hm
 obtain ⟨s0, aT, hm⟩ := bnd hm
 refine qgy eS 9 1 ?_
 refine lD (σ := ((List Str) × Int × Bool × Int) × Option Addr × Nat) ([6,7,8,9] ++ rg 14 43) [1] (fun _ => []) (fun (t0, aV, aW) => [(6, .slice aV t0.1.length aW), (7, .int .i64 t0.2.1), (8, .bool t0.2.2.1), (9, .int .i64 t0.2.2.2)]) (fun (t0, aV, aW) => [qau eS aV 9 1 aW t0.1]) (fun (t0, aV, aW) => (0 < t0.1.length → Has aV) ∧ True) (fun i0 (t0, aV, aW) => syntax_parts_L0 s separator i0 t0.1 t0.2.1 t0.2.2.1 t0.2.2.2 = some s0) (fun (t0, aV, aW) => t0 = s0) (fun i0 => i0) n ((_, _, _, _), _, _) aT (And.intro qe (And.intro ?_ ?_))
 clear aT
 rintro i0 ⟨⟨ac, bd, bC, bg⟩, bp, bo⟩ ⟨bl, _⟩ aT j0
 dsimp only at aT ⊢
 cases i0 with
 | zero => rw [syntax_parts_L0.eq_1] at aT; cases aT
 | succ i0 =>
  rw [syntax_parts_L0.eq_2] at aT
  refine ro (qa0 rfl ?_)
  refine cs rfl rfl aT ?_ ?_ <;> intro bV aT
  refine qal rfl ?_
  refine qal rfl ?_
  obtain ⟨bh, aX, aT⟩ := bnd aT
  refine jR (σ := Bool) (rg 20 8) (fun aZ => [(20, .bool aZ)]) (fun aZ => aZ = bh) ?_ ?_
  replace aX := bsm aX
  refine qah rfl ?_
  obtain ⟨ce, bc, aX⟩ := bnd aX
  refine cS bc (fun aU bc => ?_) fun aU bc => ?_
  refine ct aU (ct aU ?_)
  obtain ⟨bW, bI, br, bc⟩ := ixb bc
  refine qay rfl bI br (ct aU (qaf (ct aU ?_)))
  exact eMq aX _ ⟨bq (si bc), trivial⟩
  refine cf aU (cf aU (cf aU (cf aU ?_)))
  exact eMq aX _ ⟨bq (si bc), trivial⟩
  rintro aZ rfl bD
  refine CStep.ownLe r0 fun bX => ?_
  refine cs rfl rfl aT ?_ ?_ <;> intro bS aT
  refine ci aT fun aT => ?_
  refine ci aT fun aT => ?_
  exact eR aT (_, (_, _, _, _), _, _)
  obtain ⟨bT, bz, bG, aT⟩ := ixb aT
  refine qay rfl bz bG (qaf ?_)
  refine CStep.ownLe r0 fun cn => ?_
  refine cs rfl rfl aT ?_ ?_ <;> intro bR aT
  refine qaw ?_
  refine ci aT fun aT => ?_
  exact eR aT (_, (_, _, _, _), _, _)
  obtain ⟨bf, aY, aT⟩ := bnd aT
  refine jR (σ := Bool) (rg 37 10) (fun ba => [(37, .bool ba)]) (fun ba => ba = bf) ?_ ?_
  replace aY := bsm aY
  refine qah rfl ?_
  refine qaw ?_
  obtain ⟨bM, bb, aY⟩ := bnd aY
  refine cS bb (fun aS bb => ?_) fun aS bb => ?_
  refine ct aS (ct aS ?_)
  obtain ⟨cj, bw, bv, bb⟩ := ixb bb
  refine qay rfl bw bv (ct aS (ct aS (qaf (ct aS ?_))))
  exact eMq aY _ ⟨bq (si bb), trivial⟩
  refine cf aS (cf aS (cf aS (cf aS (cf aS ?_))))
  exact eMq aY _ ⟨bq (si bb), trivial⟩
  rintro ba rfl bt
  refine CStep.ownLe r0 fun bY => ?_
  refine cs rfl rfl aT ?_ ?_ <;> intro bZ aT
  obtain ⟨bA, aT⟩ := qax aT
  refine RStep.ofN (qdy (lo := (some bd)) (hi := (some bg)) rfl bA ?_)
  refine cb aT fun bn bK aT => cg0 (qj5 bK) ?_
  refine bsO (len := 1) (enc := eS) (l := [bn]) (cl := [str bn]) qbr rfl rfl (fun _ _ => rfl) rfl rfl rfl ?_ fun ca => ?_
  · conv => whnf
    refine cT ?_
    first | done | rfl
  obtain ⟨bH, aT⟩ := qax aT
  refine apE rfl r1 qbr (qat rfl r0 rfl (fun _ => rfl) (fun _ => rfl)) bH ?_
  intro bP bN cm
  refine ci aT fun aT => ?_
  refine ci aT fun aT => ?_
  exact eR aT (_, (_, _, _, _), _, _)
  refine ci aT fun aT => ?_
  exact eR aT (_, (_, _, _, _), _, _)
  refine cT ?_
  exact eM aT (_, _, _)
 rintro ⟨t0, aV, aW⟩ ⟨bm, _⟩ rfl j0
 refine cs rfl rfl hm ?_ ?_ <;> intro bO hm
 refine qas rfl ?_
 refine qcg eS 9 1 ?_
 exact eE hm
 obtain ⟨bF, hm⟩ := qax hm
 refine RStep.ofN (qdy (lo := (some t0.2.1)) (hi := none) rfl bF ?_)
 refine cb hm fun bj bu hm => cg0 (qj5 bu) ?_
 refine bsO (len := 1) (enc := eS) (l := [bj]) (cl := [str bj]) qbr rfl rfl (fun _ _ => rfl) rfl rfl rfl ?_ fun cr => ?_
 · conv => whnf
   refine cT ?_
   first | done | rfl
 obtain ⟨bJ, hm⟩ := qax hm
 refine apE rfl r1 qbr (qat rfl r0 rfl (fun _ => rfl) (fun _ => rfl)) bJ ?_
 intro cu bQ bU
 exact eE hm

def syntax_List_L0 : List Str → Nat → (List Str) → Option ((List Str))
  | [], _, ac => some ac
  | e0 :: aS, i0, ac =>
    if decide (e0 ≠ ([] : Str)) then
    (chk (ac.length + [e0].length ≤ lim)).bind fun _ =>
    syntax_List_L0 aS (i0 + 1) (ac ++ [e0])
    else
    syntax_List_L0 aS (i0 + 1) ac
def qd9 (n : Nat) (s : Str) : Option ((List Str) × Err) :=
  (qds n s (44 : UInt8)).bind fun aS =>
  if aS.2.isSome then
  some ([], aS.2)
  else
  (chk (aS.1.length ≤ qbg)).bind fun _ =>
  (syntax_List_L0 aS.1 0 []).bind fun t0 =>
  some (t0, none)
theorem qgz {n : Nat} {s : Str} {K : Hp} {r : (List Str) × Err}
    (hm : qd9 n s = some r)  :
    Fn Tryz.prog 52 [str s] K [] (fun v K' H' => ∃ ar_0 : Option Addr, ∃ cr_0 : Nat, v = .tuple #[.slice ar_0 r.1.length cr_0, qcy 48 r.2] ∧ (0 < r.1.length → Has ar_0) ∧ H' = [qau eS ar_0 9 1 cr_0 r.1]) := by
 refine Fn.enter Tryz.func52 Tryz.call52 rfl fun F => ?_
 unfold qd9 at hm
 refine cb hm fun aY bh hm => ck0 (qf5 bh :) ?_
 rintro _ _ _ ⟨aX, bb, rfl, aV, rfl⟩
 refine qa5 rfl ?_
 refine cs rfl rfl hm ?_ ?_ <;> intro bp hm
 refine qcg eS 9 1 ?_
 exact eE hm
 refine ro (qak rfl ?_)
 obtain ⟨bc, hm⟩ := qax hm
 obtain ⟨s0, aU, hm⟩ := bnd hm
 refine qgy eS 9 1 ?_
 refine lD (σ := ((List Str)) × Option Addr × Nat) ([6,8] ++ rg 19 11) [1, 2] (fun i0 => [(19, .int .i64 (i0 : Int))]) (fun (t0, aS, aT) => [(6, .slice aS t0.length aT)]) (fun (t0, aS, aT) => [qau eS aS 9 1 aT t0]) (fun (t0, aS, aT) => (0 < t0.length → Has aS) ∧ True) (fun i0 (t0, aS, aT) => syntax_List_L0 (aY.1.drop i0) i0 t0 = some s0) (fun (t0, aS, aT) => t0 = s0) (fun i0 => aY.1.length - i0) 0 (_, _, _) aU (And.intro qe (And.intro ?_ ?_))
 clear aU
 rintro i0 ⟨ac, bf, bd⟩ ⟨aZ, _⟩ aU j0
 conv at aU => whnf
 refine qac rfl ?_
 refine qae ?_ ?_ <;> intro w0
 obtain ⟨e0, aW, bj⟩ := ltx w0
 rw [bj, syntax_List_L0.eq_2] at aU
 refine qal rfl ?_
 refine RStep.ofN (qad rfl rfl (qcm aV aW) (nn _) (qef rfl aW) (ro (qby (i := i0) (o := 0) r1 rfl aW rfl rfl (qbp ?_))))
 refine cs rfl rfl aU ?_ ?_ <;> intro bl aU
 refine bsO (len := 1) (enc := eS) (l := [e0]) (cl := [str e0]) qbr rfl rfl (fun _ _ => rfl) rfl rfl rfl ?_ fun bm => ?_
 · conv => whnf
   refine cT ?_
   first | done | rfl
 obtain ⟨bg, aU⟩ := qax aU
 refine apE rfl r1 qbr (qat rfl r0 rfl (fun _ => rfl) (fun _ => rfl)) bg ?_
 intro bn bo br
 refine qam (qbj aW bc) ?_
 exact eR aU (_, _, _, _)
 refine qam (qbj aW bc) ?_
 exact eR aU (_, _, _, _)
 rw [lty w0, syntax_List_L0.eq_1] at aU
 refine cT ?_
 exact eM aU (_, _, _)
 rintro ⟨t0, aS, aT⟩ ⟨ba, _⟩ rfl j0
 exact eE hm

def Jcd : List Str → Nat → (List Str) → Option ((List Str))
  | [], _, aS => some aS
  | e2 :: aU, i2, aS =>
    (JaI e2).bind fun aT =>
    (chk (aS.length + [aT].length ≤ lim)).bind fun _ =>
    Jcd aU (i2 + 1) (aS ++ [aT])
def JbR (n : Nat) : List Str → Nat → (List Str) → Option ((List Str))
  | [], _, ac => some ac
  | e0 :: aT, i0, ac =>
    (qd9 n e0).bind fun aS =>
    if aS.2.isSome then
    JbR n aT (i0 + 1) ac
    else
    (chk (aS.1.length ≤ qbg)).bind fun _ =>
    (Jcd aS.1 0 ac).bind fun t2 =>
    JbR n aT (i0 + 1) t2
def JbS (t0 : (List Str)) : List Jc → Nat → (List Jc) → Option ((List Jc))
  | [], _, aS => some aS
  | e4 :: aT, i4, aS =>
    (JaI e4.Name).bind fun aV =>
    (JK t0 aV).bind fun aU =>
    if (!aU) then
    (chk (aS.length + [e4].length ≤ lim)).bind fun _ =>
    JbS t0 aT (i4 + 1) (aS ++ [e4])
    else
    JbS t0 aT (i4 + 1) aS
def JdS (n : Nat) (f : (List Jc)) : Option ((List Jc)) :=
  (Jcu f ([99, 111, 110, 110, 101, 99, 116, 105, 111, 110] : Str)).bind fun aS =>
  (chk (aS.length ≤ qbg)).bind fun _ =>
  (JbR n aS 0 ([([99, 111, 110, 110, 101, 99, 116, 105, 111, 110] : Str), ([107, 101, 101, 112, 45, 97, 108, 105, 118, 101] : Str), ([112, 114, 111, 120, 121, 45, 99, 111, 110, 110, 101, 99, 116, 105, 111, 110] : Str), ([112, 114, 111, 120, 121, 45, 97, 117, 116, 104, 101, 110, 116, 105, 99, 97, 116, 101] : Str), ([112, 114, 111, 120, 121, 45, 97, 117, 116, 104, 111, 114, 105, 122, 97, 116, 105, 111, 110] : Str), ([116, 101] : Str), ([116, 114, 97, 105, 108, 101, 114] : Str), ([116, 114, 97, 110, 115, 102, 101, 114, 45, 101, 110, 99, 111, 100, 105, 110, 103] : Str), ([117, 112, 103, 114, 97, 100, 101] : Str)])).bind fun t0 =>
  (chk (f.length ≤ qbg)).bind fun _ =>
  (JbS t0 f 0 []).bind fun t4 =>
  some t4
theorem Jeo {n : Nat} {f : (List Jc)} {aa : Option Addr} {ab : Nat} {n0 : Nat} {K : Hp} {r : (List Jc)}
    (hm : JdS n f = some r) (hX : RdC Jc.enc K aa ab 2 f ∧ n0 = f.length) :
    Fn Tryz.prog 22 [.slice aa n0 ab] K [] (fun v K' H' => ∃ ar_0 : Option Addr, ∃ cr_0 : Nat, v = .slice ar_0 r.length cr_0 ∧ (0 < r.length → Has ar_0) ∧ H' = [qau Jc.enc ar_0 41 2 cr_0 r]) := by
 obtain ⟨ae, bR⟩ := hX
 subst bR
 refine Fn.enter Tryz.func22 Tryz.call22 rfl fun F => ?_
 unfold JdS at hm
 refine bsO (len := 9) (enc := eS) (l := [([99, 111, 110, 110, 101, 99, 116, 105, 111, 110] : Str), ([107, 101, 101, 112, 45, 97, 108, 105, 118, 101] : Str), ([112, 114, 111, 120, 121, 45, 99, 111, 110, 110, 101, 99, 116, 105, 111, 110] : Str), ([112, 114, 111, 120, 121, 45, 97, 117, 116, 104, 101, 110, 116, 105, 99, 97, 116, 101] : Str), ([112, 114, 111, 120, 121, 45, 97, 117, 116, 104, 111, 114, 105, 122, 97, 116, 105, 111, 110] : Str), ([116, 101] : Str), ([116, 114, 97, 105, 108, 101, 114] : Str), ([116, 114, 97, 110, 115, 102, 101, 114, 45, 101, 110, 99, 111, 100, 105, 110, 103] : Str), ([117, 112, 103, 114, 97, 100, 101] : Str)]) (cl := [str ([99, 111, 110, 110, 101, 99, 116, 105, 111, 110] : Str), str ([107, 101, 101, 112, 45, 97, 108, 105, 118, 101] : Str), str ([112, 114, 111, 120, 121, 45, 99, 111, 110, 110, 101, 99, 116, 105, 111, 110] : Str), str ([112, 114, 111, 120, 121, 45, 97, 117, 116, 104, 101, 110, 116, 105, 99, 97, 116, 101] : Str), str ([112, 114, 111, 120, 121, 45, 97, 117, 116, 104, 111, 114, 105, 122, 97, 116, 105, 111, 110] : Str), str ([116, 101] : Str), str ([116, 114, 97, 105, 108, 101, 114] : Str), str ([116, 114, 97, 110, 115, 102, 101, 114, 45, 101, 110, 99, 111, 100, 105, 110, 103] : Str), str ([117, 112, 103, 114, 97, 100, 101] : Str)]) qbr rfl rfl (fun _ _ => rfl) rfl rfl rfl ?_ fun cm => ?_
 · conv => whnf
   refine cT (cT (cT (cT (cT (cT (cT (cT ?_)))))))
   refine cT ?_
   first | done | rfl
 refine cb hm fun bm bN hm => ckx (Jcn bN :) ?_
 rintro _ _ _ ⟨br, bA, rfl, bf, rfl⟩
 refine ro (qak rfl ?_)
 obtain ⟨bH, hm⟩ := qax hm
 obtain ⟨s0, aY, hm⟩ := bnd hm
 refine lD (σ := ((List Str)) × Option Addr × Nat) ([3,5,6,7,9] ++ rg 17 24) [0, 2] (fun i0 => [(17, .int .i64 (i0 : Int))]) (fun (t0, aS, aW) => [(3, .slice aS t0.length aW)]) (fun (t0, aS, aW) => [qau eS aS 9 1 aW t0]) (fun (t0, aS, aW) => (0 < t0.length → Has aS) ∧ True) (fun i0 (t0, aS, aW) => JbR n (bm.drop i0) i0 t0 = some s0) (fun (t0, aS, aW) => t0 = s0) (fun i0 => bm.length - i0) 0 (_, _, _) aY (And.intro qe (And.intro ?_ ?_))
 clear aY
 rintro i0 ⟨ac, bw, bo⟩ ⟨bl, _⟩ aY j0
 conv at aY => whnf
 refine qac rfl ?_
 refine qae ?_ ?_ <;> intro w0
 obtain ⟨e0, bd, bT⟩ := ltx w0
 rw [bT, JbR.eq_2] at aY
 refine qal rfl ?_
 refine RStep.ofN (qad rfl rfl (qcm bf bd) (nn _) (qef rfl bd) (ro (qby (i := i0) (o := 0) r1 rfl bd rfl rfl ?_)))
 refine cb aY fun bB bS aY => ck0 (qgz bS :) ?_
 rintro _ _ _ ⟨bu, bn, rfl, bg, rfl⟩
 refine qa5 rfl ?_
 refine cs rfl rfl aY ?_ ?_ <;> intro cj aY
 refine cT (qam (qbj bd bH) ?_)
 exact eR aY (_, _, _, _)
 refine ro (qak rfl ?_)
 obtain ⟨bX, aY⟩ := qax aY
 obtain ⟨s2, ba, aY⟩ := bnd aY
 refine lD (σ := ((List Str)) × Option Addr × Nat) ([3,9] ++ rg 30 10) [0, 2, 3] (fun i2 => [(30, .int .i64 (i2 : Int))]) (fun (t2, aT, aX) => [(3, .slice aT t2.length aX)]) (fun (t2, aT, aX) => [qau eS aT 9 1 aX t2]) (fun (t2, aT, aX) => (0 < t2.length → Has aT) ∧ True) (fun i2 (t2, aT, aX) => Jcd (bB.1.drop i2) i2 t2 = some s2) (fun (t2, aT, aX) => t2 = s2) (fun i2 => bB.1.length - i2) 0 (_, _, _) ba (And.intro qe (And.intro ?_ ?_))
 clear ba
 rintro i2 ⟨bZ, bG, bj⟩ ⟨bz, _⟩ ba j2
 conv at ba => whnf
 refine qac rfl ?_
 refine qae ?_ ?_ <;> intro w2
 obtain ⟨e2, bh, bM⟩ := ltx w2
 rw [bM, Jcd.eq_2] at ba
 refine qal rfl ?_
 refine RStep.ofN (qad rfl rfl (qcm bg bh) (nn _) (qef rfl bh) (ro (qby (i := i2) (o := 0) r1 rfl bh rfl rfl ?_)))
 refine cb ba fun bv ca ba => cg0 (JaK ca :) ?_
 refine bsO (len := 1) (enc := eS) (l := [bv]) (cl := [str bv]) qbr rfl rfl (fun _ _ => rfl) rfl rfl rfl ?_ fun cy => ?_
 · conv => whnf
   refine cT ?_
   first | done | rfl
 obtain ⟨bV, ba⟩ := qax ba
 refine apE rfl r1 qbr (qat rfl r0 rfl (fun _ => rfl) (fun _ => rfl)) bV ?_
 intro cn cA cC
 refine qam (qbj bh bX) ?_
 exact eR ba (_, _, _, _)
 rw [lty w2, Jcd.eq_1] at ba
 refine cT ?_
 exact eM ba (_, _, _)
 rintro ⟨t2, aT, aX⟩ ⟨bp, _⟩ rfl j2
 refine qam (qbj bd bH) ?_
 exact eR aY (_, _, _, _)
 rw [lty w0, JbR.eq_1] at aY
 refine cT ?_
 exact eM aY (_, _, _)
 rintro ⟨t0, aS, aW⟩ ⟨bD, _⟩ rfl j0
 refine ro (qak rfl ?_)
 obtain ⟨bI, hm⟩ := qax hm
 obtain ⟨s4, aZ, hm⟩ := bnd hm
 refine qgy Jc.enc 41 2 ?_
 refine lD (σ := ((List Jc)) × Option Addr × Nat) ([10,12] ++ rg 43 15) [1, 2, 3] (fun i4 => [(43, .int .i64 (i4 : Int))]) (fun (t4, aU, aV) => [(10, .slice aU t4.length aV)]) (fun (t4, aU, aV) => [qau Jc.enc aU 41 2 aV t4]) (fun (t4, aU, aV) => (0 < t4.length → Has aU) ∧ True) (fun i4 (t4, aU, aV) => JbS t0 (f.drop i4) i4 t4 = some s4) (fun (t4, aU, aV) => t4 = s4) (fun i4 => f.length - i4) 0 (_, _, _) aZ (And.intro qe (And.intro ?_ ?_))
 clear aZ
 rintro i4 ⟨bP, bL, bt⟩ ⟨bC, _⟩ aZ j4
 conv at aZ => whnf
 refine qac rfl ?_
 refine qae ?_ ?_ <;> intro w4
 obtain ⟨e4, bc, bU⟩ := ltx w4
 rw [bU, JbS.eq_2] at aZ
 refine qal rfl ?_
 refine RStep.ofN (qad rfl rfl (qfy ae.rd bc) (nn _) (qbm bc) (ro (qan i4 _ ae.rd rfl (mp bc) rfl ?_)))
 refine qai rfl fun cB => ?_
 refine qaa r0 rfl ⟨rfl, rfl, (nl rfl), ?_⟩
 refine fa rfl (ro (ld r0 rfl rfl ?_))
 refine cb aZ fun bQ bW aZ => cg0 (JaK bW :) ?_
 refine cb aZ fun ce bY aZ => ck0 (Fn.lend Tryz.call53 (fun bF bK bb => (JM (v' := bQ) bY ⟨bb, rfl⟩)) (by exact fun _ _ _ _ h => h)) ?_
 rintro _ _ _ ⟨_, rfl, rfl, rfl⟩
 refine qaw ?_
 refine cs rfl rfl aZ ?_ ?_ <;> intro co aZ
 refine ro (qab r1 rfl (nl rfl) ?_)
 refine bsO (len := 1) (enc := Jc.enc) (l := [e4]) (cl := [str e4.Name, str e4.Value]) qf2 rfl rfl (fun _ _ => rfl) rfl rfl rfl ?_ fun cw => ?_
 · conv => whnf
   refine cT ?_
   first | done | rfl
 obtain ⟨bO, aZ⟩ := qax aZ
 refine apE rfl r3 qf2 (qat rfl r0 rfl (fun _ => rfl) (fun _ => rfl)) bO ?_
 intro cz cr cu
 refine qam (qbj bc bI) ?_
 exact eR aZ (_, _, _, _)
 refine qam (qbj bc bI) ?_
 exact eR aZ (_, _, _, _)
 rw [lty w4, JbS.eq_1] at aZ
 refine cT ?_
 exact eM aZ (_, _, _)
 rintro ⟨t4, aU, aV⟩ ⟨bJ, _⟩ rfl j4
 exact eE hm

def Jby (x9 : Str) : List Jc → Nat → (List Jc) → Option ((List Jc))
  | [], _, ac => some ac
  | e0 :: aS, i0, ac =>
    (JaI e0.Name).bind fun aT =>
    if decide (aT ≠ x9) then
    (chk (ac.length + [e0].length ≤ lim)).bind fun _ =>
    Jby x9 aS (i0 + 1) (ac ++ [e0])
    else
    Jby x9 aS (i0 + 1) ac
def JdH (f : (List Jc)) (name : Str) : Option ((List Jc)) :=
  (JaI name).bind fun x9 =>
  (chk (f.length ≤ qbg)).bind fun _ =>
  (Jby x9 f 0 []).bind fun t0 =>
  some t0
theorem Jek {f : (List Jc)} {name : Str} {aa : Option Addr} {ab : Nat} {n0 : Nat} {K : Hp} {r : (List Jc)}
    (hm : JdH f name = some r) (hX : RdC Jc.enc K aa ab 2 f ∧ n0 = f.length) :
    Fn Tryz.prog 72 [.slice aa n0 ab, str name] K [] (fun v K' H' => ∃ ar_0 : Option Addr, ∃ cr_0 : Nat, v = .slice ar_0 r.length cr_0 ∧ (0 < r.length → Has ar_0) ∧ H' = [qau Jc.enc ar_0 41 2 cr_0 r]) := by
 obtain ⟨ae, bd⟩ := hX
 subst bd
 refine Fn.enter Tryz.func72 Tryz.call72 rfl fun F => ?_
 unfold JdH at hm
 refine cb hm fun x9 q9 hm => cg0 (JaK q9 :) ?_
 refine ro (qak rfl ?_)
 obtain ⟨aY, hm⟩ := qax hm
 obtain ⟨s0, aU, hm⟩ := bnd hm
 refine qgy Jc.enc 41 2 ?_
 refine lD (σ := ((List Jc)) × Option Addr × Nat) ([5,7] ++ rg 12 14) [1] (fun i0 => [(12, .int .i64 (i0 : Int))]) (fun (t0, aS, aT) => [(5, .slice aS t0.length aT)]) (fun (t0, aS, aT) => [qau Jc.enc aS 41 2 aT t0]) (fun (t0, aS, aT) => (0 < t0.length → Has aS) ∧ True) (fun i0 (t0, aS, aT) => Jby x9 (f.drop i0) i0 t0 = some s0) (fun (t0, aS, aT) => t0 = s0) (fun i0 => f.length - i0) 0 (_, _, _) aU (And.intro qe (And.intro ?_ ?_))
 clear aU
 rintro i0 ⟨ac, ba, aZ⟩ ⟨aW, _⟩ aU j0
 conv at aU => whnf
 refine qac rfl ?_
 refine qae ?_ ?_ <;> intro w0
 obtain ⟨e0, aV, bf⟩ := ltx w0
 rw [bf, Jby.eq_2] at aU
 refine qal rfl ?_
 refine RStep.ofN (qad rfl rfl (qfy ae.rd aV) (nn _) (qbm aV) (ro (qan i0 _ ae.rd rfl (mp aV) rfl ?_)))
 refine qai rfl fun b7 => ?_
 refine qaa r0 rfl ⟨rfl, rfl, (nl rfl), ?_⟩
 refine fa rfl (ro (ld r0 rfl rfl ?_))
 refine cb aU fun bl bb aU => cg0 (JaK bb :) ?_
 refine qbp (cs rfl rfl aU ?_ ?_) <;> intro bh aU
 refine ro (qab r0 rfl (nl rfl) ?_)
 refine bsO (len := 1) (enc := Jc.enc) (l := [e0]) (cl := [str e0.Name, str e0.Value]) qf2 rfl rfl (fun _ _ => rfl) rfl rfl rfl ?_ fun bg => ?_
 · conv => whnf
   refine cT ?_
   first | done | rfl
 obtain ⟨bc, aU⟩ := qax aU
 refine apE rfl r2 qf2 (qat rfl r0 rfl (fun _ => rfl) (fun _ => rfl)) bc ?_
 intro bm bn bj
 refine qam (qbj aV aY) ?_
 exact eR aU (_, _, _, _)
 refine qam (qbj aV aY) ?_
 exact eR aU (_, _, _, _)
 rw [lty w0, Jby.eq_1] at aU
 refine cT ?_
 exact eM aU (_, _, _)
 rintro ⟨t0, aS, aT⟩ ⟨aX, _⟩ rfl j0
 exact eE hm

def qb2 (x : Jc) : Option (Bool) :=
  (qc6 x.Name).bind fun x5 =>
  (Jam x5 ([113, 117, 97, 121, 45] : Str)).bind fun x6 =>
  some x6
theorem qcv {x : Jc} {K : Hp} {r : Bool}
    (hm : qb2 x = some r)  :
    Fn Tryz.prog 74 [.agg #[str x.Name, str x.Value]] K [] (fun v K' H' => v = .bool r ∧ H' = []) := by
 refine Fn.enter Tryz.func74 Tryz.call74 rfl fun F => ?_
 unfold qb2 at hm
 refine qar ?_
 intro b1
 refine fa rfl (ro (ld r0 rfl rfl ?_))
 refine cb hm fun x5 q5 hm => cg0 (qdo q5 :) ?_
 refine cb hm fun x6 q6 hm => cg0 (JaB q6 :) ?_
 exact eE hm

def JJ : List Jc → Nat → Option (Fl (Int) (Unit))
  | [], _ => some (Fl.go ())
  | e0 :: aS, i0 =>
    (qb2 e0).bind fun aT =>
    if aT then
    some (Fl.ret (i0 : Int))
    else
    JJ aS (i0 + 1)
def Jaa (s : (List Jc)) : Option (Int) :=
  (chk (s.length ≤ qbg)).bind fun _ =>
  (JJ s 0).bind fun s0 => s0.el some fun t0 =>
  some (-1)
theorem JbM {s : (List Jc)} {aa : Option Addr} {ab : Nat} {n0 : Nat} {K : Hp} {r : Int}
    (hm : Jaa s = some r) (hX : RdC Jc.enc K aa ab 2 s ∧ n0 = s.length) :
    Fn Tryz.prog 127 [.slice aa n0 ab, .func (.func 74) #[] #[]] K [] (fun v K' H' => v = .int .i64 r ∧ H' = []) := by
 obtain ⟨ae, aU⟩ := hX
 subst aU
 refine Fn.enter Tryz.func127 Tryz.call127 rfl fun F => ?_
 unfold Jaa at hm
 refine ro (qak rfl ?_)
 obtain ⟨aV, hm⟩ := qax hm
 obtain ⟨s0, aS, hm⟩ := bnd hm
 refine lD (σ := (Unit)) ([4,5] ++ rg 8 11) [0] (fun i0 => [(8, .int .i64 (i0 : Int))]) (fun _ => []) (fun _ => []) (fun _ => True) (fun i0 _ => JJ (s.drop i0) i0 = some s0) (fun t0 => s0 = Fl.go t0) (fun i0 => s.length - i0) 0 () aS (And.intro qe (And.intro ?_ ?_))
 clear aS
 rintro i0 _ _ aS j0
 conv at aS => whnf
 refine qac rfl ?_
 refine qae ?_ ?_ <;> intro w0
 obtain ⟨e0, aT, aW⟩ := ltx w0
 rw [aW, JJ.eq_2] at aS
 refine qal rfl ?_
 refine RStep.ofN (qad rfl rfl (qfy ae.rd aT) (nn _) (qbm aT) (ro (qan i0 _ ae.rd rfl (mp aT) rfl ?_)))
 refine cb aS fun aZ aX aS => cg0 (qcv aX :) ?_
 refine cs rfl rfl aS ?_ ?_ <;> intro aY aS
 exact eE (er aS hm)
 refine qam (qbj aT aV) ?_
 exact eR aS (_, ())
 rw [lty w0, JJ.eq_1] at aS
 refine cT ?_
 exact eM aS _
 rintro t0 _ rfl j0
 replace hm := elg hm
 exact eE hm

def JC (s : (List Jc)) : Nat → Int → Int → (List Jc) → Option (Int × Int × (List Jc))
  | 0, _, _, _ => none
  | aU + 1, ac, aS, aT =>
    if decide (aS < (s.length : Int)) then
    (ix aT aS).bind fun aV =>
    (qb2 aV).bind fun aW =>
    if (!aW) then
    (ix aT ac).bind fun aX =>
    (chk (InI (ac + 1))).bind fun _ =>
    (chk (InI (aS + 1))).bind fun _ =>
    JC s aU (ac + 1) (aS + 1) (aT.set ((ac).toNat) aV)
    else
    (chk (InI (aS + 1))).bind fun _ =>
    JC s aU ac (aS + 1) aT
    else
    some (ac, aS, aT)
def J4 (n : Nat) (s : (List Jc)) : Option ((List Jc)) :=
  (Jaa s).bind fun aS =>
  if decide (aS = (-1)) then
  some s
  else
  (chk (InI (aS + 1))).bind fun _ =>
  (JC s n aS (aS + 1) s).bind fun t0 =>
  (chk (0 ≤ t0.1 ∧ t0.1 ≤ (t0.2.2.length : Int) ∧ (t0.2.2.length : Int) ≤ (t0.2.2.length : Int))).bind fun _ =>
  (chk (0 ≤ (0 : Int) ∧ (0 : Int) ≤ t0.1 ∧ t0.1 ≤ ((SL.clr t0.2.2 (Int.toNat t0.1) (⟨([] : Str), ([] : Str)⟩ : Jc)).length : Int))).bind fun _ =>
  some (subL (SL.clr t0.2.2 (Int.toNat t0.1) (⟨([] : Str), ([] : Str)⟩ : Jc)) (0 : Int) t0.1)
theorem Jbo {n : Nat} {s : (List Jc)} {aa : Option Addr} {ab : Nat} {n0 : Nat} {K : Hp} {r : (List Jc)}
    (hm : J4 n s = some r) (hX : (0 < s.length → Has aa) ∧ n0 = s.length) :
    Fn Tryz.prog 73 [.slice aa n0 ab, .func (.func 74) #[] #[]] K [qau Jc.enc aa 41 2 ab s] (fun v K' H' => ∃ ar_0 : Option Addr, ∃ cr_0 : Nat, v = .slice ar_0 r.length cr_0 ∧ (0 < r.length → Has ar_0) ∧ H' = [qau Jc.enc ar_0 41 2 cr_0 r]) := by
 obtain ⟨ae, bn⟩ := hX
 subst bn
 refine Fn.enter Tryz.func73 Tryz.call73 rfl fun F => ?_
 unfold J4 at hm
 refine cb hm fun bu bp hm => ck0 (Fn.lend Tryz.call127 (fun bf bj aX => (JbM bp ⟨aX, rfl⟩)) (by exact fun _ _ _ _ h => h)) ?_
 rintro _ _ _ ⟨_, rfl, rfl, rfl⟩
 refine qaf (cs rfl rfl hm ?_ ?_) <;> intro bv hm
 exact eE hm
 refine ci hm fun hm => ?_
 obtain ⟨s0, aS, hm⟩ := bnd hm
 refine lD (σ := (Int × Int × (List Jc))) ([5,6,7] ++ rg 16 20) [1] (fun _ => []) (fun t0 => [(5, .int .i64 t0.1), (6, .int .i64 t0.2.1)]) (fun t0 => [qau Jc.enc aa 41 2 ab t0.2.2]) (fun t0 => (0 < t0.2.2.length → Has aa) ∧ s.length = t0.2.2.length) (fun i0 t0 => JC s i0 t0.1 t0.2.1 t0.2.2 = some s0) (fun t0 => t0 = s0) (fun i0 => i0) n (_, _, _) aS (And.intro qe (And.intro ?_ ?_))
 clear aS
 rintro i0 ⟨ac, aW, bb⟩ ⟨aU, aT⟩ aS j0
 dsimp only at aS ⊢
 cases i0 with
 | zero => rw [JC.eq_1] at aS; cases aS
 | succ i0 =>
  rw [JC.eq_2] at aS
  refine ro (qak rfl ?_)
  refine cs rfl rfl aS ?_ ?_ <;> intro bw aS
  refine qal rfl ?_
  obtain ⟨bl, bd, ba, aS⟩ := ixb aS
  refine RStep.ofN (qad rfl rfl (qcm aU ba) bd (qaz aT bd ba) (ro (qh0 (i := (aW).toNat) r0 rfl ba rfl rfl ?_)))
  refine qai rfl fun b7 => ?_
  refine qaa r0 rfl ⟨rfl, rfl, (nl rfl), ?_⟩
  refine ro (qab r0 rfl (nl rfl) ?_)
  refine cb aS fun bt bo aS => cg0 (qcv bo :) ?_
  refine qaw ?_
  refine cs rfl rfl aS ?_ ?_ <;> intro br aS
  refine ro (qab r0 rfl (nl rfl) ?_)
  obtain ⟨bm, bg, bc, aS⟩ := ixb aS
  refine RStep.ofN (qad rfl rfl (qcm aU bc) bg (qaz aT bg bc) ?_)
  refine qd8 (o := 0) (y := bl) bm r1 rfl bc rfl (by (conv => whnf); exact ⟨rfl, rfl, (nl rfl), rfl, rfl, rfl⟩) ?_
  refine ci aS fun aS => ?_
  refine ci aS fun aS => ?_
  exact rd (i0, ((ac + 1), (aW + 1), (bb.set ((ac).toNat) bl))) ⟨rfl, rfl, trivial⟩ rfl (sc [0,1] rfl) lr (Nat.lt_succ_self _) ⟨⟨(by first | simpa using aU | exact fun _ => ⟨_, _, rfl⟩), ((aT).trans List.length_set.symm)⟩, aS⟩
  refine ci aS fun aS => ?_
  exact eR aS (_, (_, _, _))
  refine cT ?_
  exact eM aS _
 rintro t0 ⟨aY, aV⟩ rfl j0
 obtain ⟨aZ, hm⟩ := qax hm
 refine qpp (l := t0.2.2) (lo := (some t0.1)) (hi := none) aV r0 (by simp) rfl rfl aZ ?_
 refine qqw (lo := (Int.toNat t0.1)) (x := (⟨([] : Str), ([] : Str)⟩ : Jc)) r0 rfl rfl rfl rfl rfl (by decide) (qrq (css := t0.2.2) rfl aZ) (qqo (css := t0.2.2) rfl aZ) ?_
 obtain ⟨bh, hm⟩ := qax hm
 refine qnd (l := (SL.clr t0.2.2 (Int.toNat t0.1) (⟨([] : Str), ([] : Str)⟩ : Jc))) (hi := (some t0.1)) ((aV).trans (qpq aZ).symm) r0 (by simp) rfl rfl bh ?_
 obtain rfl := si hm
 refine tkE t0.1 r0 ?_
 exact en lr ⟨aa, ab, rfl, (fun h => (fun h => aY (qpr h)) (qgl bh h)), rfl⟩ (pf rfl)

def tenant_upstream_L0 : Nat → Nat → (List Jc) → Option ((List Jc))
  | 0, _, ac => some ac
  | aT + 1, i0, ac =>
    (ix ([([104, 111, 115, 116] : Str), ([114, 97, 110, 103, 101] : Str), ([105, 102, 45, 114, 97, 110, 103, 101] : Str), ([105, 102, 45, 109, 97, 116, 99, 104] : Str), ([105, 102, 45, 110, 111, 110, 101, 45, 109, 97, 116, 99, 104] : Str), ([105, 102, 45, 109, 111, 100, 105, 102, 105, 101, 100, 45, 115, 105, 110, 99, 101] : Str), ([105, 102, 45, 117, 110, 109, 111, 100, 105, 102, 105, 101, 100, 45, 115, 105, 110, 99, 101] : Str)]) (i0 : Int)).bind fun aU =>
    (JdH ac aU).bind fun aS =>
    tenant_upstream_L0 aT (i0 + 1) aS
def tenant_upstream_L2 : List Jc → Nat → (List Jc) → Option ((List Jc))
  | [], _, aS => some aS
  | e2 :: aT, i2, aS =>
    (JdW aS e2.Name e2.Value).bind fun aU =>
    tenant_upstream_L2 aT (i2 + 1) aU
def qc1 (n : Nat) (f : (List Jc)) (headers : (List Jc)) : Option ((List Jc)) :=
  (JdS n f).bind fun aT =>
  (chk (InI (7 : Int))).bind fun _ =>
  (tenant_upstream_L0 (7 : Int).toNat 0 aT).bind fun t0 =>
  (J4 n t0).bind fun aS =>
  (chk (headers.length ≤ qbg)).bind fun _ =>
  (tenant_upstream_L2 headers 0 aS).bind fun t2 =>
  some t2
theorem qei {n : Nat} {f : (List Jc)} {headers : (List Jc)} {aa : Option Addr} {ab : Nat} {n0 : Nat} {af : Option Addr} {ag : Nat} {n1 : Nat} {K : Hp} {r : (List Jc)}
    (hm : qc1 n f headers = some r) (hX : RdC Jc.enc K aa ab 2 f ∧ n0 = f.length ∧ RdC Jc.enc K af ag 2 headers ∧ n1 = headers.length) :
    Fn Tryz.prog 41 [.slice aa n0 ab, .slice af n1 ag] K [] (fun v K' H' => ∃ ar_0 : Option Addr, ∃ cr_0 : Nat, v = .slice ar_0 r.length cr_0 ∧ (0 < r.length → Has ar_0) ∧ H' = [qau Jc.enc ar_0 41 2 cr_0 r]) := by
 obtain ⟨ae, bM, ai, bT⟩ := hX
 subst bM
 subst bT
 refine Fn.enter Tryz.func41 Tryz.call41 rfl fun F => ?_
 unfold qc1 at hm
 refine cb hm fun bW bQ hm => ckx (Jeo bQ :) ?_
 rintro _ _ _ ⟨bd, bg, rfl, bD, rfl⟩
 refine bsO (len := 7) (enc := eS) (l := [([104, 111, 115, 116] : Str), ([114, 97, 110, 103, 101] : Str), ([105, 102, 45, 114, 97, 110, 103, 101] : Str), ([105, 102, 45, 109, 97, 116, 99, 104] : Str), ([105, 102, 45, 110, 111, 110, 101, 45, 109, 97, 116, 99, 104] : Str), ([105, 102, 45, 109, 111, 100, 105, 102, 105, 101, 100, 45, 115, 105, 110, 99, 101] : Str), ([105, 102, 45, 117, 110, 109, 111, 100, 105, 102, 105, 101, 100, 45, 115, 105, 110, 99, 101] : Str)]) (cl := [str ([104, 111, 115, 116] : Str), str ([114, 97, 110, 103, 101] : Str), str ([105, 102, 45, 114, 97, 110, 103, 101] : Str), str ([105, 102, 45, 109, 97, 116, 99, 104] : Str), str ([105, 102, 45, 110, 111, 110, 101, 45, 109, 97, 116, 99, 104] : Str), str ([105, 102, 45, 109, 111, 100, 105, 102, 105, 101, 100, 45, 115, 105, 110, 99, 101] : Str), str ([105, 102, 45, 117, 110, 109, 111, 100, 105, 102, 105, 101, 100, 45, 115, 105, 110, 99, 101] : Str)]) qbr rfl rfl (fun _ _ => rfl) rfl rfl rfl ?_ fun bY => ?_
 · conv => whnf
   refine cT (cT (cT (cT (cT (cT (cT ?_))))))
   first | done | rfl
 refine ro (qak rfl ?_)
 obtain ⟨bP, hm⟩ := qax hm
 obtain ⟨s0, aW, hm⟩ := bnd hm
 refine lD (σ := ((List Jc)) × Option Addr × Nat) ([5,7] ++ rg 14 8) [0, 2] (fun i0 => [(14, .int .i64 (i0 : Int))]) (fun (t0, aS, aU) => [(5, .slice aS t0.length aU)]) (fun (t0, aS, aU) => [qau Jc.enc aS 41 2 aU t0]) (fun (t0, aS, aU) => (0 < t0.length → Has aS) ∧ True) (fun i0 (t0, aS, aU) => tenant_upstream_L0 ((7 : Int).toNat - i0) i0 t0 = some s0) (fun (t0, aS, aU) => t0 = s0) (fun i0 => (7 : Int).toNat - i0) 0 (_, _, _) aW (And.intro qe (And.intro ?_ ?_))
 clear aW
 rintro i0 ⟨ac, bo, bj⟩ ⟨bf, _⟩ aW j0
 conv at aW => whnf
 refine qac rfl ?_
 refine qae ?_ ?_ <;> intro w0
 rw [ltn (n := (7 : Int)) w0, tenant_upstream_L0.eq_2] at aW
 refine qal rfl ?_
 obtain ⟨bR, bz, bb, aW⟩ := ixb aW
 refine RStep.ofN (qad rfl rfl (qcm (fun _ => ⟨_, _, rfl⟩) bb) bz (qaz rfl bz bb) (ro (qby (i := ((i0 : Int)).toNat) (o := 0) r1 rfl bb rfl rfl ?_)))
 refine cb aW fun bX bK aW => ck0 (Fn.lend Tryz.call72 (fun bH bI aZ => (Jek (name := bR) bK ⟨aZ, rfl⟩)) (by exact fun _ _ _ _ h => h)) ?_
 rintro _ _ _ ⟨_, rfl, bu, bA, rfl, bG, rfl⟩
 refine qam (qio w0 bP) ?_
 exact eR aW (_, _, _, _)
 rw [lto (n := (7 : Int)) w0, tenant_upstream_L0.eq_1] at aW
 refine cT ?_
 exact eM aW (_, _, _)
 rintro ⟨t0, aS, aU⟩ ⟨bv, _⟩ rfl j0
 refine cb hm fun bV bN hm => ckx (Jbo bN :) ?_
 rintro _ _ _ ⟨bm, bh, rfl, bF, rfl⟩
 refine ro (qak rfl ?_)
 obtain ⟨bO, hm⟩ := qax hm
 obtain ⟨s2, aX, hm⟩ := bnd hm
 refine lD (σ := ((List Jc)) × Option Addr × Nat) ([5,9] ++ rg 26 11) [1, 2] (fun i2 => [(26, .int .i64 (i2 : Int))]) (fun (t2, aT, aV) => [(5, .slice aT t2.length aV)]) (fun (t2, aT, aV) => [qau Jc.enc aT 41 2 aV t2]) (fun (t2, aT, aV) => (0 < t2.length → Has aT) ∧ True) (fun i2 (t2, aT, aV) => tenant_upstream_L2 (headers.drop i2) i2 t2 = some s2) (fun (t2, aT, aV) => t2 = s2) (fun i2 => headers.length - i2) 0 (_, _, _) aX (And.intro qe (And.intro ?_ ?_))
 clear aX
 rintro i2 ⟨bS, bw, bc⟩ ⟨bp, _⟩ aX j2
 conv at aX => whnf
 refine qac rfl ?_
 refine qae ?_ ?_ <;> intro w2
 obtain ⟨e2, ba, bJ⟩ := ltx w2
 rw [bJ, tenant_upstream_L2.eq_2] at aX
 refine qal rfl ?_
 refine RStep.ofN (qad rfl rfl (qfy ai.rd ba) (nn _) (qbm ba) (ro (qan i2 _ ai.rd rfl (mp ba) rfl ?_)))
 refine qai rfl fun b9 => ?_
 refine qaa r0 rfl ⟨rfl, rfl, (nl rfl), ?_⟩
 refine fa rfl (ro (ld r0 rfl rfl (fa rfl (ro (ld r0 rfl rfl ?_)))))
 refine cb aX fun bU bL aX => ck0 (Fn.lend Tryz.call21 (fun bC br aY => (Jed (name := e2.Name) (value := e2.Value) bL ⟨aY, rfl⟩)) (by exact fun _ _ _ _ h => h)) ?_
 rintro _ _ _ ⟨_, rfl, bB, bt, rfl, bn, rfl⟩
 refine qam (qbj ba bO) ?_
 exact eR aX (_, _, _, _)
 rw [lty w2, tenant_upstream_L2.eq_1] at aX
 refine cT ?_
 exact eM aX (_, _, _)
 rintro ⟨t2, aT, aV⟩ ⟨bl, _⟩ rfl j2
 exact eE hm

def tags_good_L0 : List UInt8 → Nat → Option (Fl (Bool) (Unit))
  | [], _ => some (Fl.go ())
  | e0 :: aS, i0 =>
    (if decide ((e0.toNat : Int) < 33) then some true else some (decide ((e0.toNat : Int) > 126))).bind fun aT =>
    if aT then
    some (Fl.ret false)
    else
    tags_good_L0 aS (i0 + 1)
def qf6 (s : Str) : Option (Bool) :=
  if (decide ((s.length : Int) < 1) || decide ((s.length : Int) > 32)) then
  some false
  else
  (chk (s.length ≤ qbg)).bind fun _ =>
  (tags_good_L0 s 0).bind fun s0 => s0.el some fun t0 =>
  some true
theorem qic {s : Str} {K : Hp} {r : Bool}
    (hm : qf6 s = some r)  :
    Fn Tryz.prog 129 [str s] K [] (fun v K' H' => v = .bool r ∧ H' = []) := by
 refine Fn.enter Tryz.func129 Tryz.call129 rfl fun F => ?_
 unfold qf6 at hm
 refine jR (σ := Unit) (rg 4 8) (fun _ => [(11, .bool (decide ((s.length : Int) < 1) || decide ((s.length : Int) > 32)))]) (fun aY => True) ?_ ?_
 refine qah rfl ?_
 refine ro (qa0 rfl ?_)
 refine qae ?_ ?_ <;> intro aU
 refine ct aU (ct aU (ct aU ?_))
 exact eMt () ⟨bq (((qcj aU)).symm), trivial⟩
 refine cf aU (ro (qa0 rfl (cf aU (cf aU ?_))))
 exact eMt () ⟨bq (qg2 (b := decide ((s.length : Int) > 32)) aU), trivial⟩
 rintro _ _ bb
 refine cs rfl rfl hm ?_ ?_ <;> intro bc hm
 exact eE hm
 refine ro (qa0 rfl ?_)
 obtain ⟨aZ, hm⟩ := qax hm
 obtain ⟨s0, aT, hm⟩ := bnd hm
 refine lD (σ := (Unit)) ([2,3] ++ rg 14 14) [0] (fun i0 => [(14, .int .i64 (i0 : Int))]) (fun _ => []) (fun _ => []) (fun _ => True) (fun i0 _ => tags_good_L0 (s.drop i0) i0 = some s0) (fun t0 => s0 = Fl.go t0) (fun i0 => s.length - i0) 0 () aT (And.intro qe (And.intro ?_ ?_))
 clear aT
 rintro i0 _ _ aT j0
 conv at aT => whnf
 refine qac rfl ?_
 refine qae ?_ ?_ <;> intro w0
 obtain ⟨e0, aW, ba⟩ := ltx w0
 rw [ba, tags_good_L0.eq_2] at aT
 refine qal rfl ?_
 refine qah rfl ?_
 refine qay rfl (nn _) aW ?_
 obtain ⟨bd, aV, aT⟩ := bnd aT
 refine cS aV (fun aS aV => ?_) fun aS aV => ?_
 refine ct aS (ct aS (ct aS (ct aS (qac rfl (cT ?_)))))
 replace aT := ift (si aV).symm aT
 exact eE (er aT hm)
 refine cf aS (cf aS (qay rfl (nn _) aW (cf aS (cf aS (qac rfl ?_)))))
 refine qae ?_ ?_ <;> intro aX
 replace aT := ift ((si aV).symm.trans aX) aT
 exact eE (er aT hm)
 replace aT := qa7 ((si aV).symm.trans aX) aT
 refine qam (qbj aW aZ) ?_
 exact eR aT (_, ())
 rw [lty w0, tags_good_L0.eq_1] at aT
 refine cT ?_
 exact eM aT _
 rintro t0 _ rfl j0
 replace hm := elg hm
 exact eE hm

def tags_Clean_L2 (s : Str) : Nat → Int → Option (Int)
  | 0, _ => none
  | aV + 1, aS =>
    (if decide (aS < (s.length : Int)) then (ix s aS).bind fun aX =>
    some (decide ((aX.toNat : Int) ≠ 32)) else some false).bind fun aW =>
    (if aW then (ix s aS).bind fun aU =>
    some (decide ((aU.toNat : Int) ≠ 9)) else some false).bind fun aT =>
    if aT then
    (chk (InI (aS + 1))).bind fun _ =>
    tags_Clean_L2 s aV (aS + 1)
    else
    some aS
def tags_Clean_L0 (s : Str) (n : Nat) : Nat → (List Str) → Int → Option (Fl ((List Str) × Err) ((List Str) × Int))
  | 0, _, _ => none
  | aT + 1, ac, aS =>
    if decide (aS < (s.length : Int)) then
    (((ix s aS).bind fun aY =>
    (if decide ((aY.toNat : Int) = 32) then some true else (ix s aS).bind fun aW =>
    some (decide ((aW.toNat : Int) = 9))).bind fun aX =>
    some aX) : Option (Bool)).bind fun aU =>
    if aU then
    (chk (InI (aS + 1))).bind fun _ =>
    tags_Clean_L0 s n aT ac (aS + 1)
    else
    (tags_Clean_L2 s n aS).bind fun t2 =>
    (chk (0 ≤ aS ∧ aS ≤ t2 ∧ t2 ≤ (s.length : Int))).bind fun _ =>
    (qf6 (subL s aS t2)).bind fun aZ =>
    if (!aZ) then
    some (Fl.ret ([], (some 2)))
    else
    (if decide ((ac.length : Int) < 16) then (JK ac (subL s aS t2)).bind fun aV =>
    some (!aV) else some false).bind fun ba =>
    if ba then
    (chk (ac.length + [(subL s aS t2)].length ≤ lim)).bind fun _ =>
    tags_Clean_L0 s n aT (ac ++ [(subL s aS t2)]) t2
    else
    tags_Clean_L0 s n aT ac t2
    else
    some (Fl.go (ac, aS))
def qfb (n : Nat) (s : Str) : Option ((List Str) × Err) :=
  (tags_Clean_L0 s n n [] 0).bind fun s0 => s0.el some fun t0 =>
  (qgn t0.1).bind fun aS =>
  some (aS, none)
theorem qhp {n : Nat} {s : Str} {K : Hp} {r : (List Str) × Err}
    (hm : qfb n s = some r)  :
    Fn Tryz.prog 76 [str s] K [] (fun v K' H' => ∃ ar_0 : Option Addr, ∃ cr_0 : Nat, v = .tuple #[.slice ar_0 r.1.length cr_0, qcy 48 r.2] ∧ (0 < r.1.length → Has ar_0) ∧ H' = [qau eS ar_0 9 1 cr_0 r.1]) := by
 refine Fn.enter Tryz.func76 Tryz.call76 rfl fun F => ?_
 unfold qfb at hm
 obtain ⟨s0, aS, hm⟩ := bnd hm
 refine qgy eS 9 1 ?_
 refine lD (σ := ((List Str) × Int) × Option Addr × Nat) (rg 2 63) [1] (fun _ => []) (fun (t0, aV, aZ) => [(4, .slice aV t0.1.length aZ), (5, .int .i64 t0.2)]) (fun (t0, aV, aZ) => [qau eS aV 9 1 aZ t0.1]) (fun (t0, aV, aZ) => (0 < t0.1.length → Has aV) ∧ True) (fun i0 (t0, aV, aZ) => tags_Clean_L0 s n i0 t0.1 t0.2 = some s0) (fun (t0, aV, aZ) => s0 = Fl.go t0) (fun i0 => i0) n ((_, _), _, _) aS (And.intro qe (And.intro ?_ ?_))
 clear aS
 rintro i0 ⟨⟨ac, bc⟩, bu, bp⟩ ⟨bo, _⟩ aS j0
 dsimp only at aS ⊢
 cases i0 with
 | zero => rw [tags_Clean_L0.eq_1] at aS; cases aS
 | succ i0 =>
  rw [tags_Clean_L0.eq_2] at aS
  refine ro (qa0 rfl ?_)
  refine cs rfl rfl aS ?_ ?_ <;> intro bQ aS
  refine qal rfl ?_
  obtain ⟨bn, ba, aS⟩ := bnd aS
  refine jR (σ := Bool) (rg 12 10) (fun bd => [(21, .bool bd)]) (fun bd => bd = bn) ?_ ?_
  refine qah rfl ?_
  obtain ⟨cm, bz, bK, ba⟩ := ixb ba
  refine qay rfl bz bK (qaf ?_)
  obtain ⟨bW, bh, ba⟩ := bnd ba
  refine cS bh (fun aX bh => ?_) fun aX bh => ?_
  refine ct aX (ct aX (ct aX (ct aX ?_)))
  exact eMq ba _ ⟨bq (si bh), trivial⟩
  refine cf aX (cf aX ?_)
  obtain ⟨ca, bA, bL, bh⟩ := ixb bh
  refine qay rfl bA bL (cf aX (qaf (cf aX ?_)))
  exact eMq ba _ ⟨bq (si bh), trivial⟩
  rintro bd rfl bF
  refine cs rfl rfl aS ?_ ?_ <;> intro bV aS
  obtain ⟨bH, aS⟩ := qax aS
  refine qam bH (cT ?_)
  exact eR aS (_, (_, _), _, _)
  obtain ⟨s2, aY, aS⟩ := bnd aS
  refine lD (σ := (Int)) ([6] ++ rg 25 18) [0, 1] (fun _ => []) (fun t2 => [(6, .int .i64 t2)]) (fun _ => []) (fun _ => True) (fun i2 t2 => tags_Clean_L2 s i2 t2 = some s2) (fun t2 => t2 = s2) (fun i2 => i2) n _ aY (And.intro qe (And.intro ?_ ?_))
  clear aY
  rintro i2 bP _ aY j2
  conv at aY => whnf
  cases i2 with
  | zero => rw [tags_Clean_L2.eq_1] at aY; cases aY
  | succ i2 =>
   rw [tags_Clean_L2.eq_2] at aY
   refine qah rfl ?_
   refine ro (qa0 rfl ?_)
   obtain ⟨bS, bf, aY⟩ := bnd aY
   refine cS bf (fun aW bf => ?_) fun aW bf => ?_
   refine ct aW (ct aW ?_)
   obtain ⟨cj, bJ, bO, bf⟩ := ixb bf
   refine qay rfl bJ bO (ct aW (qa6 (ct aW ?_)))
   obtain ⟨bG, bb, aY⟩ := bnd aY
   refine qae ?_ ?_ <;> intro aU
   replace bb := ift ((si bf).symm.trans aU) bb
   refine ct aU (ct aU ?_)
   obtain ⟨bX, bD, bB, bb⟩ := ixb bb
   refine qay rfl bD bB (ct aU (qa6 (ct aU (qac rfl ?_))))
   refine qae ?_ ?_ <;> intro bv
   replace aY := ift ((si bb).symm.trans bv) aY
   refine qal rfl ?_
   refine ci aY fun aY => ?_
   exact eR aY (_, _)
   replace aY := qa7 ((si bb).symm.trans bv) aY
   refine cT ?_
   exact eM aY _
   replace bb := qa7 ((si bf).symm.trans aU) bb
   refine cf aU (cf aU (cf aU (cf aU (qac rfl (cF ?_)))))
   replace aY := qa7 (si bb).symm aY
   refine cT ?_
   exact eM aY _
   refine cf aW (cf aW (cf aW (cf aW ?_)))
   obtain ⟨bG, bb, aY⟩ := bnd aY
   replace bb := qa7 (si bf).symm bb
   refine cF (cF (cF (cF (cF (qac rfl (cF ?_))))))
   replace aY := qa7 (si bb).symm aY
   refine cT ?_
   exact eM aY _
  rintro t2 _ rfl j2
  obtain ⟨bN, aS⟩ := qax aS
  refine RStep.ofN (qdy (lo := (some bc)) (hi := (some t2)) rfl bN ?_)
  refine cb aS fun cn bM aS => cg0 (qic bM :) ?_
  refine qaw ?_
  refine cs rfl rfl aS ?_ ?_ <;> intro bY aS
  refine qas rfl ?_
  refine qcg eS 9 1 ?_
  exact eE (er aS hm)
  refine qah rfl ?_
  refine ro (qak rfl ?_)
  obtain ⟨bR, bg, aS⟩ := bnd aS
  refine cS bg (fun aT bg => ?_) fun aT bg => ?_
  refine ct aT (ct aT ?_)
  refine cb bg fun bU bI bg => ck0 (Fn.lend Tryz.call53 (fun bt br bl => (JM (v' := (subL s bc t2)) bI ⟨bl, rfl⟩)) (by exact fun _ _ _ _ h => h)) ?_
  rintro _ _ _ ⟨_, rfl, rfl, rfl⟩
  refine ct aT (qaw (ct aT (qac rfl ?_)))
  refine qae ?_ ?_ <;> intro bw
  replace aS := ift ((si bg).symm.trans (qfh (qla bw))) aS
  refine bsO (len := 1) (enc := eS) (l := [(subL s bc t2)]) (cl := [str (subL s bc t2)]) qbr rfl rfl (fun _ _ => rfl) rfl rfl rfl ?_ fun bZ => ?_
  · conv => whnf
    refine cT ?_
    first | done | rfl
  obtain ⟨bC, aS⟩ := qax aS
  refine apE rfl r1 qbr (qat rfl r0 rfl (fun _ => rfl) (fun _ => rfl)) bC ?_
  intro bT cr co
  exact eR aS (_, (_, _), _, _)
  replace aS := qa7 ((si bg).symm.trans (qdg (qib bw))) aS
  exact eR aS (_, (_, _), _, _)
  refine cf aT (cf aT (cf aT (cf aT (qac rfl (cF ?_)))))
  replace aS := qa7 (si bg).symm aS
  exact eR aS (_, (_, _), _, _)
  refine cT ?_
  exact eM aS (_, _, _)
 rintro ⟨t0, aV, aZ⟩ ⟨bj, _⟩ rfl j0
 replace hm := elg hm
 refine cb hm fun ce bm hm => cg0 (qdd bm rfl) ?_
 cases hm
 exact en lr ⟨aV, aZ, (by rw [← (show _ = t0.1.length from Eq.symm ((Eq.trans (rfl) (qb5 bm).symm)))] <;> rfl), (fun h => bj (by rw [qb5 bm] at h; exact h)), rfl⟩ (pf rfl)

def tenant_words_L0 (n : Nat) : List Str → Nat → (List Str) → Option ((List Str))
  | [], _, ac => some ac
  | e0 :: aU, i0, ac =>
    (qfb n e0).bind fun aS =>
    (((if (aS.2.isNone && decide ((aS.1.length : Int) = 1)) then (ix aS.1 0).bind fun aY =>
    some (decide (aY = e0)) else some false).bind fun aV =>
    (if (aV && decide ((ac.length : Int) < 16)) then (JK ac e0).bind fun aX =>
    some (!aX) else some false).bind fun aW =>
    some aW) : Option (Bool)).bind fun aT =>
    if aT then
    (chk (ac.length + [e0].length ≤ lim)).bind fun _ =>
    tenant_words_L0 n aU (i0 + 1) (ac ++ [e0])
    else
    tenant_words_L0 n aU (i0 + 1) ac
def qdt (n : Nat) (list : (List Str)) : Option ((List Str)) :=
  (chk (list.length ≤ qbg)).bind fun _ =>
  (tenant_words_L0 n list 0 []).bind fun t0 =>
  (qgn t0).bind fun aS =>
  some aS
theorem qf7 {n : Nat} {list : (List Str)} {aa : Option Addr} {ab : Nat} {n0 : Nat} {K : Hp} {r : (List Str)}
    (hm : qdt n list = some r) (hX : RdC eS K aa ab 1 list ∧ n0 = list.length) :
    Fn Tryz.prog 43 [.slice aa n0 ab] K [] (fun v K' H' => ∃ ar_0 : Option Addr, ∃ cr_0 : Nat, v = .slice ar_0 r.length cr_0 ∧ (0 < r.length → Has ar_0) ∧ H' = [qau eS ar_0 9 1 cr_0 r]) := by
 obtain ⟨ae, bF⟩ := hX
 subst bF
 refine Fn.enter Tryz.func43 Tryz.call43 rfl fun F => ?_
 unfold qdt at hm
 refine ro (qak rfl ?_)
 obtain ⟨br, hm⟩ := qax hm
 obtain ⟨s0, ba, hm⟩ := bnd hm
 refine qgy eS 9 1 ?_
 refine lD (σ := ((List Str)) × Option Addr × Nat) ([3,5,6,7] ++ rg 10 39) [1] (fun i0 => [(10, .int .i64 (i0 : Int))]) (fun (t0, aX, aY) => [(3, .slice aX t0.length aY)]) (fun (t0, aX, aY) => [qau eS aX 9 1 aY t0]) (fun (t0, aX, aY) => (0 < t0.length → Has aX) ∧ True) (fun i0 (t0, aX, aY) => tenant_words_L0 n (list.drop i0) i0 t0 = some s0) (fun (t0, aX, aY) => t0 = s0) (fun i0 => list.length - i0) 0 (_, _, _) ba (And.intro qe (And.intro ?_ ?_))
 clear ba
 rintro i0 ⟨ac, bw, bu⟩ ⟨bo, _⟩ ba j0
 conv at ba => whnf
 refine qac rfl ?_
 refine qae ?_ ?_ <;> intro w0
 obtain ⟨e0, bg, bG⟩ := ltx w0
 rw [bG, tenant_words_L0.eq_2] at ba
 refine qal rfl ?_
 refine RStep.ofN (qad rfl rfl (qfy ae.rd bg) (nn _) (qbm bg) (ro (qci i0 0 _ _ ae.rd rfl (mp bg) rfl rfl ?_)))
 refine cb ba fun bR bI ba => ck0 (qhp bI :) ?_
 rintro _ _ _ ⟨bp, bt, rfl, bh, rfl⟩
 obtain ⟨bl, aS, ba⟩ := bnd ba
 refine jR (σ := Bool) (rg 19 25) (fun bc => [(43, .bool bc)]) (fun bc => bc = bl) ?_ ?_
 refine qah rfl ?_
 refine qew rfl ?_
 refine qae ?_ ?_ <;> intro aV
 refine ct aV (ro (qak rfl (ct aV (qaf (ct aV ?_)))))
 obtain ⟨bC, bb, aS⟩ := bnd aS
 refine qae ?_ ?_ <;> intro aT
 replace bb := ift (qct aV aT) bb
 refine ct aT ?_
 obtain ⟨bM, bA, bj, bb⟩ := ixb bb
 refine RStep.ofN (qad rfl rfl (qcm bh bj) bA (qaz rfl bA bj) (ct aT (ro (qby (i := (0 : Int).toNat) (o := 0) r0 rfl bj rfl rfl (ct aT (ct aT (qaq (ct aT ?_))))))))
 refine qae ?_ ?_ <;> intro aW
 refine ct aW (ro (qak rfl (ct aW (ct aW ?_))))
 obtain ⟨bn, aZ, aS⟩ := bnd aS
 refine qae ?_ ?_ <;> intro aU
 replace aZ := ift (qct ((si bb).symm.trans aW) aU) aZ
 refine ct aU (ct aU ?_)
 refine cb aZ fun bO bB aZ => ck0 (Fn.lend Tryz.call53 (fun bv bz bf => (JM (v' := e0) bB ⟨bf, rfl⟩)) (by exact fun _ _ _ _ h => h)) ?_
 rintro _ _ _ ⟨_, rfl, rfl, rfl⟩
 refine ct aU (qaw (ct aU ?_))
 exact eMq aS _ ⟨bq (si aZ), trivial⟩
 replace aZ := qa7 (qcu ((si bb).symm.trans aW) aU) aZ
 refine cf aU (cf aU (cf aU (cf aU ?_)))
 exact eMq aS _ ⟨bq (si aZ), trivial⟩
 refine cf aW (cf aW (cf aW ?_))
 obtain ⟨bn, aZ, aS⟩ := bnd aS
 replace aZ := qa7 (qa9 ((si bb).symm.trans aW)) aZ
 refine cF (cF (cF (cF (cF ?_))))
 exact eMq aS _ ⟨bq (si aZ), trivial⟩
 replace bb := qa7 (qcu aV aT) bb
 refine cf aT (cf aT (cf aT (cf aT (cf aT (cF (cF (cF ?_)))))))
 refine cF ?_
 obtain ⟨bn, aZ, aS⟩ := bnd aS
 replace aZ := qa7 (qa9 (si bb).symm) aZ
 refine cF (cF (cF (cF (cF ?_))))
 exact eMq aS _ ⟨bq (si aZ), trivial⟩
 refine cf aV (cf aV (cf aV ?_))
 obtain ⟨bC, bb, aS⟩ := bnd aS
 replace bb := qa7 (qa9 aV) bb
 refine cF (cF (cF (cF (cF (cF (cF (cF ?_)))))))
 refine cF (cF ?_)
 obtain ⟨bn, aZ, aS⟩ := bnd aS
 replace aZ := qa7 (qa9 (si bb).symm) aZ
 refine cF (cF (cF (cF (cF ?_))))
 exact eMq aS _ ⟨bq (si aZ), trivial⟩
 rintro bc rfl bH
 refine cs rfl rfl ba ?_ ?_ <;> intro bJ ba
 refine bsO (len := 1) (enc := eS) (l := [e0]) (cl := [str e0]) qbr rfl rfl (fun _ _ => rfl) rfl rfl rfl ?_ fun bP => ?_
 · conv => whnf
   refine cT ?_
   first | done | rfl
 obtain ⟨bD, ba⟩ := qax ba
 refine apE rfl r2 qbr (qat rfl r0 rfl (fun _ => rfl) (fun _ => rfl)) bD ?_
 intro bQ bK bL
 refine qam (qbj bg br) ?_
 exact eR ba (_, _, _, _)
 refine qam (qbj bg br) ?_
 exact eR ba (_, _, _, _)
 rw [lty w0, tenant_words_L0.eq_1] at ba
 refine cT ?_
 exact eM ba (_, _, _)
 rintro ⟨t0, aX, aY⟩ ⟨bd, _⟩ rfl j0
 refine cb hm fun bN bm hm => cg0 (qdd bm rfl) ?_
 cases hm
 exact en lr ⟨aX, aY, (by rw [← (show _ = t0.length from Eq.symm ((Eq.trans (rfl) (qb5 bm).symm)))] <;> rfl), (fun h => bd (by rw [qb5 bm] at h; exact h)), rfl⟩ (pf rfl)

def qbs (n : Nat) (d : JG) (r' : Jaq) : Option (Jx × Err) :=
  (Jcu r'.Ao ([104, 111, 115, 116] : Str)).bind fun bb =>
  if decide ((bb.length : Int) ≠ 1) then
  some ((⟨0, 0, 0, (⟨([] : Str), ([] : Str), ([] : Str), false⟩ : Jl), (⟨([] : Str), ([] : Str), ([] : Str), false⟩ : Jl), [], [], [], false, false⟩ : Jx), (some 8))
  else
  (ix bb 0).bind fun bg =>
  (qc6 bg).bind fun aU =>
  if (!(mget d.sites aU).isSome) then
  some ((⟨0, 0, 0, (⟨([] : Str), ([] : Str), ([] : Str), false⟩ : Jl), (⟨([] : Str), ([] : Str), ([] : Str), false⟩ : Jl), [], [], [], false, false⟩ : Jx), (some 8))
  else
  (Jay n aU r'.Target).bind fun aT =>
  if aT.2.isSome then
  some ((⟨0, 0, 0, (⟨([] : Str), ([] : Str), ([] : Str), false⟩ : Jl), (⟨([] : Str), ([] : Str), ([] : Str), false⟩ : Jl), [], [], [], false, false⟩ : Jx), (some 27))
  else
  (Jea n (((mget d.sites aU).getD (⟨0, []⟩ : Jy)).code) (⟨r'.Am, aT.1.An, aT.1.Ae, aT.1.Af, r'.Ao⟩ : JU) 10000).bind fun aS =>
  if aS.2.isSome then
  some ((⟨0, 0, 0, (⟨([] : Str), ([] : Str), ([] : Str), false⟩ : Jl), (⟨([] : Str), ([] : Str), ([] : Str), false⟩ : Jl), [], [], [], false, false⟩ : Jx), aS.2)
  else
  (qdj aT.1 aS.1).bind fun bc =>
  (Jay n aU bc).bind fun aY =>
  if aY.2.isSome then
  some ((⟨0, 0, 0, (⟨([] : Str), ([] : Str), ([] : Str), false⟩ : Jl), (⟨([] : Str), ([] : Str), ([] : Str), false⟩ : Jl), [], [], [], false, false⟩ : Jx), (some 27))
  else
  (Jcl aS.1.Vary).bind fun bf =>
  (qgn bf).bind fun bd =>
  (qc1 n r'.Ao aS.1.Ag).bind fun aW =>
  (qd5 bd).bind fun aV =>
  (qdt n aS.1.Ah).bind fun aX =>
  if aS.1.Ak then
  some ((⟨((mget d.sites aU).getD (⟨0, []⟩ : Jy)).tenant, aS.1.TTL, aS.1.Ai, aT.1, aY.1, aW, aV, aX, true, aS.1.Al⟩ : Jx), none)
  else
  (if (decide (r'.Am ≠ ([71, 69, 84] : Str)) && decide (r'.Am ≠ ([72, 69, 65, 68] : Str))) then some true else (Jcu r'.Ao ([97, 117, 116, 104, 111, 114, 105, 122, 97, 116, 105, 111, 110] : Str)).bind fun aZ =>
  some (decide ((aZ.length : Int) > 0))).bind fun ba =>
  some ((⟨((mget d.sites aU).getD (⟨0, []⟩ : Jy)).tenant, aS.1.TTL, aS.1.Ai, aT.1, aY.1, aW, aV, aX, ba, aS.1.Al⟩ : Jx), none)
theorem qc5 {n : Nat} {d : JG} {r' : Jaq} {b0 : Nat} {aE : Nat} {aG : List (Str × EnD Jy)} {af : Option Addr} {ag : Nat} {K : Hp} {r : Jx × Err}
    (hm : qbs n d r' = some r) (hX : MR Jy.R K aG d.sites ∧ RdC Jc.enc K af ag 2 r'.Ao ∧ GG K) :
    Fn Tryz.prog 13 [.pointer (some ⟨b0, 0, none⟩), .agg #[str r'.Am, str r'.Target, .slice af r'.Ao.length ag]] K [Cells b0 78 [.map (some aE)], qk9 qk8 vAg aE aG] (fun v K' H' => ∃ ar_0 : Option Addr, ∃ cr_0 : Nat, ∃ ar_1 : Option Addr, ∃ cr_1 : Nat, ∃ ar_2 : Option Addr, ∃ cr_2 : Nat, v = .tuple #[.agg #[.int .i64 r.1.Tenant, .int .i64 r.1.TTL, .int .i64 r.1.Ai, str r.1.Asked.An, str r.1.Asked.Ae, str r.1.Asked.Af, .bool r.1.Asked.HasQuery, str r.1.Cache.An, str r.1.Cache.Ae, str r.1.Cache.Af, .bool r.1.Cache.HasQuery, .slice ar_0 r.1.Ao.length cr_0, .slice ar_1 r.1.Vary.length cr_1, .slice ar_2 r.1.Ah.length cr_2, .bool r.1.Ak, .bool r.1.Al], qcy 48 r.2] ∧ (0 < r.1.Ao.length → Has ar_0) ∧ (0 < r.1.Vary.length → Has ar_1) ∧ (0 < r.1.Ah.length → Has ar_2) ∧ H' = [qau Jc.enc ar_0 41 2 cr_0 r.1.Ao, qau eS ar_1 9 1 cr_1 r.1.Vary, qau eS ar_2 9 1 cr_2 r.1.Ah, Cells b0 78 [.map (some aE)], qk9 qk8 vAg aE aG]) := by
 obtain ⟨bv, ai, hG⟩ := hX
 refine Fn.enter Tryz.func13 Tryz.call13 rfl fun F => ?_
 unfold qbs at hm
 refine qar ?_
 intro b3
 refine qai rfl fun b4 => ?_
 refine qg9 rfl ?_
 refine qac rfl (cF (fa rfl (ro (ld r1 rfl rfl ?_))))
 refine cb hm fun cE cm hm => ckx (Jcn cm :) ?_
 rintro _ _ _ ⟨bU, bX, rfl, bw, rfl⟩
 refine ro (qak rfl (qa6 ?_))
 refine cs rfl rfl hm ?_ ?_ <;> intro cz hm
 refine qaj rfl rfl ?_
 refine qas rfl ?_
 refine qaa r1 rfl ⟨rfl, rfl, (nl rfl), ?_⟩
 refine ro (qab r0 rfl (nl rfl) ?_)
 refine qcg Jc.enc 41 2 ?_
 refine qcg eS 9 1 ?_
 refine qcg eS 9 1 ?_
 exact eE hm
 obtain ⟨cD, bY, bD, hm⟩ := ixb hm
 refine RStep.ofN (qad rfl rfl (qcm bw bD) bY (qaz rfl bY bD) (ro (qby (i := (0 : Int).toNat) (o := 0) r0 rfl bD rfl rfl ?_)))
 refine cb hm fun cI ca hm => cg0 (qdo ca :) ?_
 refine qag (fa rfl (ro (ld r3 rfl rfl (ro (qhm (kenc := qk8) (R := Jy.R) (zs := [.int .i64 0, .slice none 0 0]) (z := (⟨0, []⟩ : Jy)) r4 rfl rfl (qjd rfl) bv (⟨none, 0, rfl, RdC.nil⟩) fun cu bJ => ?_)))))
 obtain ⟨bO, bV, rfl, bN⟩ := bJ
 refine qai rfl fun b8 => ?_
 refine qaa r0 rfl ⟨rfl, rfl, (nl rfl), ?_⟩
 refine qaw ?_
 refine cs rfl rfl hm ?_ ?_ <;> intro cK hm
 refine qaj rfl rfl ?_
 refine qas rfl ?_
 refine qaa r2 rfl ⟨rfl, rfl, (nl rfl), ?_⟩
 refine ro (qab r0 rfl (nl rfl) ?_)
 refine qcg Jc.enc 41 2 ?_
 refine qcg eS 9 1 ?_
 refine qcg eS 9 1 ?_
 exact eE hm
 refine fa rfl (ro (ld r3 rfl rfl ?_))
 refine cb hm fun cO cw hm => cgx (Jcg cw :) ?_
 refine qai rfl fun cA => ?_
 refine qaa r0 rfl ⟨rfl, rfl, (nl rfl), ?_⟩
 refine qa5 rfl ?_
 refine cs rfl rfl hm ?_ ?_ <;> intro cQ hm
 refine qaj rfl rfl ?_
 refine qas rfl ?_
 refine qaa r3 rfl ⟨rfl, rfl, (nl rfl), ?_⟩
 refine ro (qab r0 rfl (nl rfl) ?_)
 refine qcg Jc.enc 41 2 ?_
 refine qcg eS 9 1 ?_
 refine qcg eS 9 1 ?_
 exact eE hm
 refine fa rfl (ro (ld r1 rfl rfl (fa rfl (ro (ld r4 rfl rfl (fa rfl (ro (ld r0 rfl rfl (fa rfl (ro (ld r0 rfl rfl ?_)))))))))))
 refine fa rfl (ro (ld r0 rfl rfl (fa rfl (ro (ld r4 rfl rfl (qaj rfl rfl (cT (cT (cT ?_)))))))))
 refine cT (cT ?_)
 refine cb hm fun cL cj hm => ckx (Jes cj :) ?_
 rintro _ _ _ ⟨bM, bK, bS, bR, bW, bL, rfl, bP, bQ, bT, rfl⟩
 refine qai rfl fun cN => ?_
 refine qaa r0 rfl ⟨rfl, rfl, (nl rfl), ?_⟩
 refine qa5 rfl ?_
 refine cs rfl rfl hm ?_ ?_ <;> intro cM hm
 refine qaj rfl rfl ?_
 refine qaa r7 rfl ⟨rfl, rfl, (nl rfl), ?_⟩
 refine ro (qab r0 rfl (nl rfl) ?_)
 refine qcg Jc.enc 41 2 ?_
 refine qcg eS 9 1 ?_
 refine qcg eS 9 1 ?_
 exact eE hm
 refine ro (qab r4 rfl (nl rfl) (ro (qab r0 rfl (nl rfl) ?_)))
 refine fF Tryz.call38 r1 fun bu aY bz => ?_
 refine fF Tryz.call38 r1 fun bt aX bB => ?_
 refine fF Tryz.call38 r1 fun bA aW bC => ?_
 refine cb hm fun cG bZ hm => cgx (qfv bZ :) ?_
 refine cb hm fun cH co hm => cgx (Jcg co :) ?_
 refine qai rfl fun cB => ?_
 refine qaa r0 rfl ⟨rfl, rfl, (nl rfl), ?_⟩
 refine qa5 rfl ?_
 refine cs rfl rfl hm ?_ ?_ <;> intro cC hm
 refine qaj rfl rfl ?_
 refine qas rfl ?_
 refine qaa r5 rfl ⟨rfl, rfl, (nl rfl), ?_⟩
 refine ro (qab r0 rfl (nl rfl) ?_)
 refine qcg Jc.enc 41 2 ?_
 refine qcg eS 9 1 ?_
 refine qcg eS 9 1 ?_
 exact eE hm
 refine fa rfl (ro (ld r1 rfl rfl ?_))
 refine cb hm fun cJ cn hm => ckx (Jdz cn :) ?_
 rintro _ _ _ ⟨bj, bg, rfl, bh, rfl⟩
 refine cb hm fun cP br hm => cg0 (qdd br rfl) ?_
 refine qa3 ⟨⟨[], false⟩, _, [(_, _), (_, _), (_, _), (_, _), (_, _)], []⟩ (by kernel_rfl) ⟨Hp.Le.refl _, (sc [4,2,2,1,3] rfl), ci0⟩ ?_
 refine fa rfl (qap m0 rfl rfl (fa rfl (qap m1 rfl rfl (fa rfl (qap m1 rfl rfl (qbx m2 rfl (nl rfl) (qbx m3 rfl (nl rfl) ?_)))))))
 refine fa rfl (qap m4 rfl rfl (fa rfl (qap m1 rfl rfl ?_)))
 refine cb hm fun ce bG hm => ckx (qei bG :) ?_
 rintro _ _ _ ⟨ba, bc, rfl, bd, rfl⟩
 refine qk (sc [5,3,3,2,4] rfl) ?_
 refine cb hm fun cr bl hm => cg0 (qfl bl (Eq.trans (rfl) (qb5 br).symm)) ?_
 refine qk (sc [5,3,3,2,4] rfl) ?_
 refine fa rfl (qap m1 rfl rfl ?_)
 refine cb hm fun cy bF hm => ckx (qf7 bF :) ?_
 rintro _ _ _ ⟨bb, bf, rfl, aZ, rfl⟩
 refine qk (sc [6,4,4,3,5] rfl) ?_
 refine fa rfl (qap m1 rfl rfl (fa rfl (qap m1 rfl rfl ?_)))
 refine cS hm (fun aS hm => ?_) fun aS hm => ?_
 refine ct aS (ct aS (ct aS (ct aS (ct aS (cT (cT (cT ?_)))))))
 refine cT (cT (cT (qaj rfl rfl (cT (cT (cT (cT ?_)))))))
 refine cT (cT (cT (cT (cT (cT ?_)))))
 refine qaa r8 rfl ⟨rfl, rfl, (nl rfl), ?_⟩
 refine qk (sc [7,5,5,4,5] rfl) ?_
 obtain rfl := si hm
 exact ro (qab r0 rfl (nl rfl) (en ((aY.trans aX).trans aW) ⟨ba, bc, bj, bg, bb, bf, rfl, bd, (fun h => (fun h => bh (by rw [qb5 br] at h; exact h)) (qc9 bl h)), aZ, rfl⟩ (sc [3,2,1,7,7,7] rfl)))
 refine fa rfl (cf aS (qap m4 rfl rfl (cf aS (qbp (cf aS ?_)))))
 refine qae ?_ ?_ <;> intro aU
 refine fa rfl (ct aU (qap m4 rfl rfl (ct aU (qbp (cf aS (ct aU (cf aS ?_)))))))
 obtain ⟨bI, aV, hm⟩ := bnd hm
 refine qae ?_ ?_ <;> intro aT
 replace aV := ift (qct aU aT) aV
 refine ct aT (ct aT (ct aT (ct aT (ct aT (qaj rfl rfl (cT (cT ?_)))))))
 refine cT (cT (cT (cT (cT (cT (cT (cT ?_)))))))
 refine qaa r8 rfl ⟨rfl, rfl, (nl rfl), ?_⟩
 refine qk (sc [7,5,5,4,5] rfl) ?_
 obtain rfl := si hm
 exact ro (qab r0 rfl (nl rfl) (en ((aY.trans aX).trans aW) ⟨ba, bc, bj, bg, bb, bf, (by rw [← ((si aV).symm).symm] <;> rfl), bd, (fun h => (fun h => bh (by rw [qb5 br] at h; exact h)) (qc9 bl h)), aZ, rfl⟩ (sc [3,2,1,7,7,7] rfl)))
 replace aV := qa7 (qcu aU aT) aV
 refine fa rfl (cf aT (qap m4 rfl rfl (cf aT ?_)))
 refine cb aV fun bH bm aV => ckx (Jcn bm :) ?_
 rintro _ _ _ ⟨bo, bp, rfl, bn, rfl⟩
 refine qk (sc [7,5,5,4,6] rfl) ?_
 refine cf aT (qcc rfl (cf aT (cf aT (qaj rfl rfl (cT (cT (cT ?_)))))))
 refine cT (cT (cT (cT (cT (cT (cT ?_))))))
 refine qaa r9 rfl ⟨rfl, rfl, (nl rfl), ?_⟩
 refine qk (sc [8,6,6,5,6] rfl) ?_
 obtain rfl := si hm
 exact ro (qab r0 rfl (nl rfl) (en ((aY.trans aX).trans aW) ⟨ba, bc, bj, bg, bb, bf, (by rw [← (si aV)] <;> rfl), bd, (fun h => (fun h => bh (by rw [qb5 br] at h; exact h)) (qc9 bl h)), aZ, rfl⟩ (sc [4,3,2,8,8,8] rfl)))
 refine cf aU (cf aU (cf aS (cf aU (cf aS ?_))))
 obtain ⟨bI, aV, hm⟩ := bnd hm
 replace aV := qa7 (qa9 aU) aV
 refine cF (fa rfl (cF (qap m4 rfl rfl (cF ?_))))
 refine cb aV fun bH bm aV => ckx (Jcn bm :) ?_
 rintro _ _ _ ⟨bo, bp, rfl, bn, rfl⟩
 refine qk (sc [7,5,5,4,6] rfl) ?_
 refine cF (qcc rfl (cF (cF (qaj rfl rfl (cT (cT (cT ?_)))))))
 refine cT (cT (cT (cT (cT (cT (cT ?_))))))
 refine qaa r9 rfl ⟨rfl, rfl, (nl rfl), ?_⟩
 refine qk (sc [8,6,6,5,6] rfl) ?_
 obtain rfl := si hm
 exact ro (qab r0 rfl (nl rfl) (en ((aY.trans aX).trans aW) ⟨ba, bc, bj, bg, bb, bf, (by rw [← (si aV)] <;> rfl), bd, (fun h => (fun h => bh (by rw [qb5 br] at h; exact h)) (qc9 bl h)), aZ, rfl⟩ (sc [4,3,2,8,8,8] rfl)))

def Jbk (n : Nat) (a : Jl) : Option (Bool) :=
  if ((!a.HasQuery) && decide (a.Af ≠ ([] : Str))) then
  some false
  else
  if a.HasQuery then
  (chk (([63] : Str).length + a.Af.length ≤ lim)).bind fun _ =>
  (chk (a.Ae.length + (([63] : Str) ++ a.Af).length ≤ lim)).bind fun _ =>
  (Jay n a.An (a.Ae ++ (([63] : Str) ++ a.Af))).bind fun aS =>
  some (aS.2.isNone && (decide (a.An = aS.1.An) && (decide (a.Ae = aS.1.Ae) && (decide (a.Af = aS.1.Af) && (a.HasQuery == aS.1.HasQuery)))))
  else
  (Jay n a.An a.Ae).bind fun aS =>
  some (aS.2.isNone && (decide (a.An = aS.1.An) && (decide (a.Ae = aS.1.Ae) && (decide (a.Af = aS.1.Af) && (a.HasQuery == aS.1.HasQuery)))))
theorem JcR {n : Nat} {a : Jl} {K : Hp} {r : Bool}
    (hm : Jbk n a = some r) (hG : GG K) :
    Fn Tryz.prog 30 [.agg #[str a.An, str a.Ae, str a.Af, .bool a.HasQuery]] K [] (fun v K' H' => v = .bool r ∧ H' = []) := by
 refine Fn.enter Tryz.func30 Tryz.call30 rfl fun F => ?_
 unfold Jbk at hm
 refine qar ?_
 intro b1
 refine jR (σ := Unit) (rg 6 8) (fun _ => [(13, .bool ((!a.HasQuery) && decide (a.Af ≠ ([] : Str))))]) (fun aY => True) ?_ ?_
 refine qah rfl ?_
 refine fa rfl (ro (ld r0 rfl rfl (qaw ?_)))
 refine qae ?_ ?_ <;> intro aT
 refine fa rfl (ct aT (ro (ld r0 rfl rfl (ct aT (qbp (ct aT ?_))))))
 exact eMt () ⟨bq (qcr (b := decide (a.Af ≠ ([] : Str))) (qfh (qla aT))), trivial⟩
 refine cf aT (cf aT (cf aT ?_))
 exact eMt () ⟨bq (((qa9 (qdg (qib aT)))).symm), trivial⟩
 rintro _ _ aZ
 refine cs rfl rfl hm ?_ ?_ <;> intro bb hm
 exact eE hm
 refine fa rfl (ro (ld r0 rfl rfl (fa rfl (ro (ld r0 rfl rfl ?_)))))
 refine cs rfl rfl hm ?_ ?_ <;> intro ba hm
 refine fa rfl (ro (ld r0 rfl rfl ?_))
 obtain ⟨aW, hm⟩ := qax hm
 refine qbd aW ?_
 obtain ⟨aX, hm⟩ := qax hm
 refine qbd aX ?_
 refine fa rfl (ro (ld r0 rfl rfl ?_))
 refine cb hm fun aU aV hm => cgx (Jcg aV :) ?_
 refine qai rfl fun b4 => ?_
 refine qaa r0 rfl ⟨rfl, rfl, (nl rfl), ?_⟩
 refine qah rfl ?_
 refine qew rfl ?_
 refine qae ?_ ?_ <;> intro aS
 refine ro (qab r1 rfl (nl rfl) (ct aS (ro (qab r0 rfl (nl rfl) (ct aS ?_)))))
 refine qkm (b := (decide (a.An = aU.1.An) && (decide (a.Ae = aU.1.Ae) && (decide (a.Af = aU.1.Af) && (a.HasQuery == aU.1.HasQuery))))) rfl (by kernel_rfl) (by kernel_rfl) (by kernel_rfl) rfl ?_
 refine ct aS ?_
 exact bE (qcr (b := (decide (a.An = aU.1.An) && (decide (a.Ae = aU.1.Ae) && (decide (a.Af = aU.1.Af) && (a.HasQuery == aU.1.HasQuery))))) aS) (eE hm)
 refine cf aS (cf aS (cf aS ?_))
 exact bE (((qa9 aS)).symm) (eE hm)
 refine fa rfl (ro (ld r0 rfl rfl ?_))
 refine cb hm fun aU aV hm => cgx (Jcg aV :) ?_
 refine qai rfl fun b4 => ?_
 refine qaa r0 rfl ⟨rfl, rfl, (nl rfl), ?_⟩
 refine qah rfl ?_
 refine qew rfl ?_
 refine qae ?_ ?_ <;> intro aS
 refine ro (qab r1 rfl (nl rfl) (ct aS (ro (qab r0 rfl (nl rfl) (ct aS ?_)))))
 refine qkm (b := (decide (a.An = aU.1.An) && (decide (a.Ae = aU.1.Ae) && (decide (a.Af = aU.1.Af) && (a.HasQuery == aU.1.HasQuery))))) rfl (by kernel_rfl) (by kernel_rfl) (by kernel_rfl) rfl ?_
 refine ct aS ?_
 exact bE (qcr (b := (decide (a.An = aU.1.An) && (decide (a.Ae = aU.1.Ae) && (decide (a.Af = aU.1.Af) && (a.HasQuery == aU.1.HasQuery))))) aS) (eE hm)
 refine cf aS (cf aS (cf aS ?_))
 exact bE (((qa9 aS)).symm) (eE hm)

def JcJ (n : Nat) (a : Jl) : Option (Str × Err) :=
  (Jbk n a).bind fun x5 =>
  if (!x5) then
  some (([] : Str), (some 2))
  else
  (JbA a).bind fun x9 =>
  some (x9, none)
theorem Jeb {n : Nat} {a : Jl} {K : Hp} {r : Str × Err}
    (hm : JcJ n a = some r) (hG : GG K) :
    Fn Tryz.prog 57 [.agg #[str a.An, str a.Ae, str a.Af, .bool a.HasQuery]] K [] (fun v K' H' => v = .tuple #[str r.1, qcy 48 r.2] ∧ H' = []) := by
 refine Fn.enter Tryz.func57 Tryz.call57 rfl fun F => ?_
 unfold JcJ at hm
 refine qar ?_
 intro b1
 refine ro (qab r0 rfl (nl rfl) ?_)
 refine cb hm fun x5 q5 hm => cgx (JcR q5 :) ?_
 refine qaw ?_
 refine cs rfl rfl hm ?_ ?_ <;> intro w6 hm
 refine qas rfl ?_
 exact eE hm
 refine ro (qab r0 rfl (nl rfl) ?_)
 refine cb hm fun x9 q9 hm => cg0 (JdC q9 :) ?_
 exact eE hm

def qbl (n : Nat) (p : Jx) : Option (Str) :=
  (JcJ n p.Cache).bind fun x8 =>
  if x8.2.isSome then
  (qjs p.Tenant).bind fun aS =>
  (chk (aS.length + ([32] : Str).length ≤ lim)).bind fun _ =>
  (chk ((aS ++ ([32] : Str)).length + ([] : Str).length ≤ lim)).bind fun _ =>
  some ((aS ++ ([32] : Str)) ++ ([] : Str))
  else
  (qjs p.Tenant).bind fun aS =>
  (chk (aS.length + ([32] : Str).length ≤ lim)).bind fun _ =>
  (chk ((aS ++ ([32] : Str)).length + x8.1.length ≤ lim)).bind fun _ =>
  some ((aS ++ ([32] : Str)) ++ x8.1)
theorem qbw {n : Nat} {p : Jx} {aa : Option Addr} {ab : Nat} {ah : Option Addr} {ak : Nat} {am : Option Addr} {ar : Nat} {K : Hp} {r : Str}
    (hm : qbl n p = some r) (hX : RdC Jc.enc K aa ab 2 p.Ao ∧ RdC eS K ah ak 1 p.Vary ∧ RdC eS K am ar 1 p.Ah ∧ GG K) :
    Fn Tryz.prog 31 [.agg #[.int .i64 p.Tenant, .int .i64 p.TTL, .int .i64 p.Ai, str p.Asked.An, str p.Asked.Ae, str p.Asked.Af, .bool p.Asked.HasQuery, str p.Cache.An, str p.Cache.Ae, str p.Cache.Af, .bool p.Cache.HasQuery, .slice aa p.Ao.length ab, .slice ah p.Vary.length ak, .slice am p.Ah.length ar, .bool p.Ak, .bool p.Al]] K [] (fun v K' H' => v = str r ∧ H' = []) := by
 obtain ⟨ae, aV, aW, hG⟩ := hX
 refine Fn.enter Tryz.func31 Tryz.call31 rfl fun F => ?_
 unfold qbl at hm
 refine qar ?_
 intro b1
 refine fa rfl (ro (qab r0 rfl (nl rfl) ?_))
 refine cb hm fun x8 q8 hm => cgx (Jeb q8 :) ?_
 refine qa5 rfl ?_
 refine cs rfl rfl hm ?_ ?_ <;> intro aY hm
 refine fa rfl (ro (ld r0 rfl rfl ?_))
 refine cb hm fun aX aS hm => cg0 (qj6 aS (gg4 hG)) ?_
 obtain ⟨aU, hm⟩ := qax hm
 refine qbd aU ?_
 obtain ⟨aT, hm⟩ := qax hm
 refine qbd aT ?_
 exact eE hm
 refine fa rfl (ro (ld r0 rfl rfl ?_))
 refine cb hm fun aX aS hm => cg0 (qj6 aS (gg4 hG)) ?_
 obtain ⟨aU, hm⟩ := qax hm
 refine qbd aU ?_
 obtain ⟨aT, hm⟩ := qax hm
 refine qbd aT ?_
 exact eE hm
