/- Functions of the program: mirrors, and that a call returns what the mirror says. Printed by gen.py. -/
import Derived.Test.YtiaaooopklhobaaGreatDoorG5
set_option linter.unusedVariables false
set_option linter.unusedSimpArgs false
open Go Go.SL Go.Proofs
noncomputable section
set_option maxRecDepth 1000000
set_option maxHeartbeats 8000000
def Jcf (m : Jh) (atZ : Int) (x : Jf) : Option (Int × Err × Jh) :=
  (chk (InI (m.result.Aj + 1))).bind fun _ =>
  if decide ((m.result.Aj + 1) > m.most) then
  some (0, (some 13), (⟨m.Aq, m.most, (⟨m.result.Ae, m.result.Af, m.result.Ag, m.result.Vary, m.result.Ah, m.result.TTL, m.result.Ai, (m.result.Aj + 1), m.result.Ak, m.result.Al⟩ : Jp), m.stack, m.Ap⟩ : Jh))
  else
  (chk (InI (atZ + 1))).bind fun _ =>
  if decide (x.Op = 1) then
  (JbL x.N).bind fun bt =>
  (J5 (⟨m.Aq, m.most, (⟨m.result.Ae, m.result.Af, m.result.Ag, m.result.Vary, m.result.Ah, m.result.TTL, m.result.Ai, (m.result.Aj + 1), m.result.Ak, m.result.Al⟩ : Jp), m.stack, m.Ap⟩ : Jh) bt false).bind fun bg =>
  some ((atZ + 1), bg.1, (⟨m.Aq, bg.2.most, bg.2.result, bg.2.stack, bg.2.Ap⟩ : Jh))
  else
  if decide (x.Op = 2) then
  (Jay x.S).bind fun bp =>
  (J5 (⟨m.Aq, m.most, (⟨m.result.Ae, m.result.Af, m.result.Ag, m.result.Vary, m.result.Ah, m.result.TTL, m.result.Ai, (m.result.Aj + 1), m.result.Ak, m.result.Al⟩ : Jp), m.stack, m.Ap⟩ : Jh) bp false).bind fun bf =>
  some ((atZ + 1), bf.1, (⟨m.Aq, bf.2.most, bf.2.result, bf.2.stack, bf.2.Ap⟩ : Jh))
  else
  if decide (x.Op = 3) then
  (ix m.Ap x.N).bind fun bo =>
  (J5 (⟨m.Aq, m.most, (⟨m.result.Ae, m.result.Af, m.result.Ag, m.result.Vary, m.result.Ah, m.result.TTL, m.result.Ai, (m.result.Aj + 1), m.result.Ak, m.result.Al⟩ : Jp), m.stack, m.Ap⟩ : Jh) bo false).bind fun bd =>
  some ((atZ + 1), bd.1, (⟨m.Aq, bd.2.most, bd.2.result, bd.2.stack, bd.2.Ap⟩ : Jh))
  else
  if decide (x.Op = 5) then
  (Jct x.S m.Aq).bind fun br =>
  (J5 (⟨m.Aq, m.most, (⟨m.result.Ae, m.result.Af, m.result.Ag, m.result.Vary, m.result.Ah, m.result.TTL, m.result.Ai, (m.result.Aj + 1), m.result.Ak, m.result.Al⟩ : Jp), m.stack, m.Ap⟩ : Jh) br false).bind fun bh =>
  some ((atZ + 1), bh.1, (⟨m.Aq, bh.2.most, bh.2.result, bh.2.stack, bh.2.Ap⟩ : Jh))
  else
  if decide (x.Op = 4) then
  (Jaa (⟨m.Aq, m.most, (⟨m.result.Ae, m.result.Af, m.result.Ag, m.result.Vary, m.result.Ah, m.result.TTL, m.result.Ai, (m.result.Aj + 1), m.result.Ak, m.result.Al⟩ : Jp), m.stack, m.Ap⟩ : Jh)).bind fun bb =>
  (ix bb.2.Ap x.N).bind fun bu =>
  some ((atZ + 1), none, (⟨m.Aq, bb.2.most, bb.2.result, bb.2.stack, (bb.2.Ap.set ((x.N).toNat) bb.1)⟩ : Jh))
  else
  if decide (x.Op = 6) then
  (Jaa (⟨m.Aq, m.most, (⟨m.result.Ae, m.result.Af, m.result.Ag, m.result.Vary, m.result.Ah, m.result.TTL, m.result.Ai, (m.result.Aj + 1), m.result.Ak, m.result.Al⟩ : Jp), m.stack, m.Ap⟩ : Jh)).bind fun ba =>
  (JdT x.S ba.1 m.Aq).bind fun bj =>
  if (!bj.2) then
  some (0, (some 9), (⟨m.Aq, ba.2.most, ba.2.result, ba.2.stack, ba.2.Ap⟩ : Jh))
  else
  (J5 (⟨m.Aq, ba.2.most, ba.2.result, ba.2.stack, ba.2.Ap⟩ : Jh) bj.1 true).bind fun aZ =>
  some ((atZ + 1), aZ.1, (⟨m.Aq, aZ.2.most, aZ.2.result, aZ.2.stack, aZ.2.Ap⟩ : Jh))
  else
  if decide (x.Op = 7) then
  (Jaa (⟨m.Aq, m.most, (⟨m.result.Ae, m.result.Af, m.result.Ag, m.result.Vary, m.result.Ah, m.result.TTL, m.result.Ai, (m.result.Aj + 1), m.result.Ak, m.result.Al⟩ : Jp), m.stack, m.Ap⟩ : Jh)).bind fun a6 =>
  (Jaa (⟨m.Aq, a6.2.most, a6.2.result, a6.2.stack, a6.2.Ap⟩ : Jh)).bind fun aV =>
  (Jdg x.S aV.1 a6.1).bind fun bc =>
  if (!bc.2) then
  some (0, (some 9), (⟨m.Aq, aV.2.most, aV.2.result, aV.2.stack, aV.2.Ap⟩ : Jh))
  else
  (J5 (⟨m.Aq, aV.2.most, aV.2.result, aV.2.stack, aV.2.Ap⟩ : Jh) bc.1 true).bind fun aX =>
  some ((atZ + 1), aX.1, (⟨m.Aq, aX.2.most, aX.2.result, aX.2.stack, aX.2.Ap⟩ : Jh))
  else
  if decide (x.Op = 8) then
  (Jaa (⟨m.Aq, m.most, (⟨m.result.Ae, m.result.Af, m.result.Ag, m.result.Vary, m.result.Ah, m.result.TTL, m.result.Ai, (m.result.Aj + 1), m.result.Ak, m.result.Al⟩ : Jp), m.stack, m.Ap⟩ : Jh)).bind fun aU =>
  if decide (aU.1.kind ≠ 3) then
  some (0, (some 9), (⟨m.Aq, aU.2.most, aU.2.result, aU.2.stack, aU.2.Ap⟩ : Jh))
  else
  (JaO (!aU.1.As)).bind fun bl =>
  (J5 (⟨m.Aq, aU.2.most, aU.2.result, aU.2.stack, aU.2.Ap⟩ : Jh) bl false).bind fun aY =>
  some ((atZ + 1), aY.1, (⟨m.Aq, aY.2.most, aY.2.result, aY.2.stack, aY.2.Ap⟩ : Jh))
  else
  if decide (x.Op = 9) then
  some (x.N, none, (⟨m.Aq, m.most, (⟨m.result.Ae, m.result.Af, m.result.Ag, m.result.Vary, m.result.Ah, m.result.TTL, m.result.Ai, (m.result.Aj + 1), m.result.Ak, m.result.Al⟩ : Jp), m.stack, m.Ap⟩ : Jh))
  else
  if decide (x.Op = 10) then
  (Jaa (⟨m.Aq, m.most, (⟨m.result.Ae, m.result.Af, m.result.Ag, m.result.Vary, m.result.Ah, m.result.TTL, m.result.Ai, (m.result.Aj + 1), m.result.Ak, m.result.Al⟩ : Jp), m.stack, m.Ap⟩ : Jh)).bind fun aT =>
  if decide (aT.1.kind ≠ 3) then
  some (0, (some 9), (⟨m.Aq, aT.2.most, aT.2.result, aT.2.stack, aT.2.Ap⟩ : Jh))
  else
  if (!aT.1.As) then
  some (x.N, none, (⟨m.Aq, aT.2.most, aT.2.result, aT.2.stack, aT.2.Ap⟩ : Jh))
  else
  some ((atZ + 1), none, (⟨m.Aq, aT.2.most, aT.2.result, aT.2.stack, aT.2.Ap⟩ : Jh))
  else
  if decide (x.Op = 11) then
  (if (decide (x.S ≠ ([112, 97, 115, 115] : Str)) && decide (x.S ≠ ([116, 111, 107, 101, 110] : Str))) then (Jao x.S ([118, 97, 114, 121, 58] : Str)).bind fun bm =>
  some (!bm) else some false).bind fun bn =>
  ((if bn then
  (Jaa (⟨m.Aq, m.most, (⟨m.result.Ae, m.result.Af, m.result.Ag, m.result.Vary, m.result.Ah, m.result.TTL, m.result.Ai, (m.result.Aj + 1), m.result.Ak, m.result.Al⟩ : Jp), m.stack, m.Ap⟩ : Jh)).bind fun aW =>
  some (aW.1.kind, aW.1.n, aW.1.s, aW.1.As, (⟨m.Aq, aW.2.most, aW.2.result, aW.2.stack, aW.2.Ap⟩ : Jh))
  else
  some (0, 0, ([] : Str), false, (⟨m.Aq, m.most, (⟨m.result.Ae, m.result.Af, m.result.Ag, m.result.Vary, m.result.Ah, m.result.TTL, m.result.Ai, (m.result.Aj + 1), m.result.Ak, m.result.Al⟩ : Jp), m.stack, m.Ap⟩ : Jh)) : Option (Int × Int × Str × Bool × Jh))).bind fun aS =>
  (Jce aS.2.2.2.2.result x.S (⟨aS.1, aS.2.1, aS.2.2.1, aS.2.2.2.1⟩ : Ji)).bind fun a8 =>
  if a8.1.isSome then
  some (0, a8.1, (⟨m.Aq, aS.2.2.2.2.most, a8.2, aS.2.2.2.2.stack, aS.2.2.2.2.Ap⟩ : Jh))
  else
  if decide (x.S = ([100, 101, 110, 121] : Str)) then
  some ((-1), none, (⟨m.Aq, aS.2.2.2.2.most, a8.2, aS.2.2.2.2.stack, aS.2.2.2.2.Ap⟩ : Jh))
  else
  some ((atZ + 1), none, (⟨m.Aq, aS.2.2.2.2.most, a8.2, aS.2.2.2.2.stack, aS.2.2.2.2.Ap⟩ : Jh))
  else
  if decide (x.Op = 12) then
  some ((-1), none, (⟨m.Aq, m.most, (⟨m.result.Ae, m.result.Af, m.result.Ag, m.result.Vary, m.result.Ah, m.result.TTL, m.result.Ai, (m.result.Aj + 1), m.result.Ak, m.result.Al⟩ : Jp), m.stack, m.Ap⟩ : Jh))
  else
  some ((atZ + 1), none, (⟨m.Aq, m.most, (⟨m.result.Ae, m.result.Af, m.result.Ag, m.result.Vary, m.result.Ah, m.result.TTL, m.result.Ai, (m.result.Aj + 1), m.result.Ak, m.result.Al⟩ : Jp), m.stack, m.Ap⟩ : Jh))
theorem Jdz {m : Jh} {atZ : Int} {x : Jf} {b0 : Nat} {aa : Option Addr} {ab : Nat} {ah : Option Addr} {ak : Nat} {am : Option Addr} {ao : Nat} {aw : Option Addr} {az : Nat} {ax : Option Addr} {aA : Nat} {K : Hp} {r : Int × Err × Jh}
    (hm : Jcf m atZ x = some r) (hX : RdC Jc.enc K aa ab 2 m.Aq.Ao ∧ (0 < m.result.Ag.length → Has ah) ∧ (0 < m.result.Vary.length → Has am) ∧ (0 < m.result.Ah.length → Has aw) ∧ (0 < m.stack.length → Has ax) ∧ m.Ap.length = 512 ∧ GG K) :
    Fn Tryz.prog 69 [.pointer (some ⟨b0, 0, none⟩), .int .i64 atZ, .agg #[.int .i64 x.Op, .int .i64 x.N, str x.S]] K [Cells b0 131 ((str m.Aq.Am) :: (str m.Aq.An) :: (str m.Aq.Ae) :: (str m.Aq.Af) :: (.slice aa m.Aq.Ao.length ab) :: (.int .i64 m.most) :: (str m.result.Ae) :: (str m.result.Af) :: (.slice ah m.result.Ag.length ak) :: (.slice am m.result.Vary.length ao) :: (.slice aw m.result.Ah.length az) :: (.int .i64 m.result.TTL) :: (.int .i64 m.result.Ai) :: (.int .i64 m.result.Aj) :: (.bool m.result.Ak) :: (.bool m.result.Al) :: (.slice ax m.stack.length aA) :: (m.Ap.map Ji.enc).flatten), qas Jc.enc ah 41 2 ak m.result.Ag, qas eS am 9 1 ao m.result.Vary, qas eS aw 9 1 az m.result.Ah, qas Ji.enc ax 128 4 aA m.stack] (fun v K' H' => ∃ ar_0 : Option Addr, ∃ cr_0 : Nat, ∃ ar_1 : Option Addr, ∃ cr_1 : Nat, ∃ ar_2 : Option Addr, ∃ cr_2 : Nat, ∃ ar_3 : Option Addr, ∃ cr_3 : Nat, v = .tuple #[.int .i64 r.1, qcs 48 r.2.1] ∧ (0 < r.2.2.result.Ag.length → Has ar_0) ∧ (0 < r.2.2.result.Vary.length → Has ar_1) ∧ (0 < r.2.2.result.Ah.length → Has ar_2) ∧ (0 < r.2.2.stack.length → Has ar_3) ∧ r.2.2.Ap.length = 512 ∧ H' = [Cells b0 131 ((str m.Aq.Am) :: (str m.Aq.An) :: (str m.Aq.Ae) :: (str m.Aq.Af) :: (.slice aa m.Aq.Ao.length ab) :: (.int .i64 r.2.2.most) :: (str r.2.2.result.Ae) :: (str r.2.2.result.Af) :: (.slice ar_0 r.2.2.result.Ag.length cr_0) :: (.slice ar_1 r.2.2.result.Vary.length cr_1) :: (.slice ar_2 r.2.2.result.Ah.length cr_2) :: (.int .i64 r.2.2.result.TTL) :: (.int .i64 r.2.2.result.Ai) :: (.int .i64 r.2.2.result.Aj) :: (.bool r.2.2.result.Ak) :: (.bool r.2.2.result.Al) :: (.slice ar_3 r.2.2.stack.length cr_3) :: (r.2.2.Ap.map Ji.enc).flatten), qas Jc.enc ar_0 41 2 cr_0 r.2.2.result.Ag, qas eS ar_1 9 1 cr_1 r.2.2.result.Vary, qas eS ar_2 9 1 cr_2 r.2.2.result.Ah, qas Ji.enc ar_3 128 4 cr_3 r.2.2.stack]) := by
 obtain ⟨ae, ft, fg, f8, e5, bG, hG⟩ := hX
 refine Fn.enter Tryz.func69 Tryz.call69 rfl fun F => ?_
 unfold Jcf at hm
 refine qaq ?_
 intro b5
 refine qah (fa rfl (fa rfl (ro (ld r1 rfl rfl ?_))))
 obtain ⟨gH, hm⟩ := qaw hm
 refine qam gH (qah (fa rfl (fa rfl ?_)))
 refine ql2 (cs' := (str m.Aq.Am) :: (str m.Aq.An) :: (str m.Aq.Ae) :: (str m.Aq.Af) :: (.slice aa m.Aq.Ao.length ab) :: (.int .i64 m.most) :: (str m.result.Ae) :: (str m.result.Af) :: (.slice ah m.result.Ag.length ak) :: (.slice am m.result.Vary.length ao) :: (.slice aw m.result.Ah.length az) :: (.int .i64 m.result.TTL) :: (.int .i64 m.result.Ai) :: (.int .i64 (m.result.Aj + 1)) :: (.bool m.result.Ak) :: (.bool m.result.Al) :: (.slice ax m.stack.length aA) :: (m.Ap.map Ji.enc).flatten) r1 rfl rfl (by exact rfl) (by exact nl rfl) (by exact rfl) ?_
 refine qa4 ⟨⟨[], false⟩, _, [(_, _)], []⟩ (by kernel_rfl) ⟨Hp.Le.refl _, (pf rfl), ci0⟩ ?_
 refine qah (fa rfl (fa rfl (qao m0 rfl rfl (qah (fa rfl (qao m0 rfl rfl ?_))))))
 refine cs rfl rfl hm ?_ ?_ <;> intro ij hm
 refine qar rfl ?_
 exact eE hm
 obtain ⟨gz, hm⟩ := qaw hm
 refine qam gz (fa rfl (ro (ld r1 rfl rfl ?_)))
 refine qal rfl ?_
 refine qaf (cs rfl rfl hm ?_ ?_) <;> intro iB hm
 refine fa rfl (ro (ld r1 rfl rfl ?_))
 refine cb hm fun im gy hm => cg0 (Jbe gy :) ?_
 refine cb hm fun il gW hm => ckx (J8 gW :) ?_
 rintro _ _ _ ⟨fT, fE, eZ, fp, fv, fA, gp, fm, rfl, fl, eP, fo, gm, fk, rfl⟩
 exact eE hm
 refine qaf (cs rfl rfl hm ?_ ?_) <;> intro ip hm
 refine fa rfl (ro (ld r1 rfl rfl ?_))
 refine cb hm fun iv gG hm => cg0 (Jae gG :) ?_
 refine cb hm fun ie gw hm => ckx (J8 gw :) ?_
 rintro _ _ _ ⟨gl, fL, gj, gn, gk, fS, fj, gg, rfl, fe, gb, gc, eY, fQ, rfl⟩
 exact eE hm
 refine qaf (cs rfl rfl hm ?_ ?_) <;> intro ig hm
 refine qa4 ⟨⟨[], true⟩, _, [], []⟩ (by kernel_rfl) ⟨Hp.Le.refl _, (pf rfl), ci0⟩ ?_
 refine fa rfl ?_
 refine ld r1 rfl rfl ?_
 refine qah (fa rfl ?_)
 obtain ⟨ik, eT, fD, hm⟩ := ixb hm
 refine qbw (sz := 4) rfl rfl eT (qpu bG eT fD) ?_
 refine qqs (enc := Ji.enc) (sz := 4) r0 rfl (by exact rfl) fD (by exact rfl) ?_
 refine cb hm fun iz gO hm => ckx (J8 gO :) ?_
 rintro _ _ _ ⟨fX, fJ, e8, fP, fb, fV, ga, gi, rfl, fK, fO, fw, fq, eV, rfl⟩
 refine qk (pf rfl) ?_
 exact eE hm
 refine qaf (cs rfl rfl hm ?_ ?_) <;> intro ic hm
 refine qa4 ⟨⟨[], false⟩, _, [(_, _)], [(b0, [str m.Aq.Am, str m.Aq.An, str m.Aq.Ae, str m.Aq.Af, .slice aa m.Aq.Ao.length ab])]⟩ (by kernel_rfl) ⟨Hp.Le.refl _, (sc [1] rfl), (ci1 r0 (by exact rfl))⟩ ?_
 refine fa rfl (qao m0 rfl rfl (qah (fa rfl ?_)))
 refine ql4 m0 rfl (nl rfl) ?_
 refine cb hm fun io gZ hm => cgx (JdF gZ :) ?_
 refine ⟨⟨lr, (sc [1] rfl), (ci1 r0 (by exact rfl))⟩, ?_⟩
 refine cb hm fun ib hE hm => ckx (J8 hE :) ?_
 rintro _ _ _ ⟨gf, eO, eQ, fM, f9, eW, fN, fG, rfl, fZ, fu, ge, ff, e9, rfl⟩
 refine ⟨⟨lr, (sc [5] rfl), (ci1 r0 (by exact rfl))⟩, ?_⟩
 exact eE hm
 refine qaf (cs rfl rfl hm ?_ ?_) <;> intro hZ hm
 refine qa4 ⟨⟨[], false⟩, _, [(_, _)], []⟩ (by kernel_rfl) ⟨Hp.Le.refl _, (sc [1] rfl), ci0⟩ ?_
 refine fa rfl (qao m0 rfl rfl ?_)
 refine cb hm fun bf gR hm => ckx (Jab gR :) ?_
 rintro _ _ _ ⟨bn, bh, bp, bl, bt, br, bo, bj, rfl, bC, bB, bD, bF, bm, rfl⟩
 refine qk (sc [5] rfl) ?_
 refine qah (fa rfl ?_)
 obtain ⟨ii, e7, gd, hm⟩ := ixb hm
 refine qbw (sz := 4) rfl rfl e7 (qpu bm e7 gd) ?_
 refine qqt (sz := 4) (enc := Ji.enc) (y := bf.1) (cs' := (str m.Aq.Am) :: (str m.Aq.An) :: (str m.Aq.Ae) :: (str m.Aq.Af) :: (.slice aa m.Aq.Ao.length ab) :: (.int .i64 bf.2.most) :: (str bf.2.result.Ae) :: (str bf.2.result.Af) :: (.slice bn bf.2.result.Ag.length bh) :: (.slice bp bf.2.result.Vary.length bl) :: (.slice bt bf.2.result.Ah.length br) :: (.int .i64 bf.2.result.TTL) :: (.int .i64 bf.2.result.Ai) :: (.int .i64 bf.2.result.Aj) :: (.bool bf.2.result.Ak) :: (.bool bf.2.result.Al) :: (.slice bo bf.2.stack.length bj) :: ((bf.2.Ap.set ((x.N).toNat) bf.1).map Ji.enc).flatten) r0 rfl (by exact rfl) gd rfl (fun _ => rfl) (fun _ => rfl) (by exact rfl) (by decide) ?_
 refine qk (sc [5] rfl) ?_
 cases hm
 exact en lr ⟨bn, bh, bp, bl, bt, br, bo, bj, rfl, bC, bB, bD, bF, (List.length_set.trans bm), rfl⟩ (sc [0,0,0,0,0,1] rfl)
 refine qaf (cs rfl rfl hm ?_ ?_) <;> intro iq hm
 refine qe1 ⟨⟨[], false⟩, _, [(_, _)], [(b0, [str m.Aq.Am, str m.Aq.An, str m.Aq.Ae, str m.Aq.Af, .slice aa m.Aq.Ao.length ab])]⟩ 15 rfl (by kernel_rfl) ⟨Hp.Le.refl _, (sc [1] rfl), (ci1 r0 (by exact rfl))⟩ ?_
 refine fa rfl (qao m0 rfl rfl ?_)
 intro gE
 refine cb hm fun iw gK hm => ckx (Jab gK :) ?_
 rintro _ _ _ ⟨fy, e6, fI, fB, fc, fR, gh, fC, rfl, eX, fU, eL, fh, fY, rfl⟩
 refine ⟨⟨lr, (sc [5] rfl), (ci1 r0 (by exact rfl))⟩, ?_⟩
 refine ⟨_, .cons r7 .nil, ⟨lr, (sc [5] rfl), (ci1 r0 (by exact rfl))⟩, ?_⟩
 refine qah (fa rfl ?_)
 refine ql4 m0 rfl (nl rfl) ?_
 intro hY
 refine cb hm fun gN cB hm => cgx (Jes cB :) ?_
 refine ⟨⟨lr, (sc [5] rfl), (ci1 r0 (by exact rfl))⟩, ?_⟩
 refine ⟨_, .cons r7 .nil, ⟨lr, (sc [5] rfl), (ci1 r0 (by exact rfl))⟩, ?_⟩
 refine qj9 rfl ?_
 intro b9
 intro gI
 refine qaa r0 rfl ⟨rfl, rfl, (nl rfl), ?_⟩
 refine ⟨⟨lr, (sc [6] rfl), (ci1 r1 (by exact rfl))⟩, ?_⟩
 refine ⟨_, .cons r8 .nil, ⟨lr, (sc [6] rfl), (ci1 r1 (by exact rfl))⟩, ?_⟩
 refine qau ?_
 refine cs rfl rfl hm ?_ ?_ <;> intro gX hm
 refine qar rfl ?_
 exact eE hm
 refine ro (qab r0 rfl (nl rfl) ?_)
 refine cb hm fun gL cL hm => ckx (J8 cL :) ?_
 rintro _ _ _ ⟨cG, ew, cu, dR, cY, dp, cm, dx, rfl, eA, bX, eC, cj, d8, rfl⟩
 exact eE hm
 refine qaf (cs rfl rfl hm ?_ ?_) <;> intro gU hm
 refine cb hm fun gF bW hm => ckx (Jab bW :) ?_
 rintro _ _ _ ⟨dV, c8, eu, dc, di, d7, dS, dk, rfl, dv, dL, de, bR, cP, rfl⟩
 refine qai rfl fun ia => ?_
 refine qaa r0 rfl ⟨rfl, rfl, (nl rfl), ?_⟩
 refine qe1 ⟨⟨[], false⟩, _, [(_, _), (_, _)], []⟩ 12 rfl (by kernel_rfl) ⟨Hp.Le.refl _, (sc [6,0] rfl), ci0⟩ ?_
 refine fa rfl (qao m0 rfl rfl ?_)
 intro gE
 refine cb hm fun hP dG hm => ckx (Jab dG :) ?_
 rintro _ _ _ ⟨ei, d6, cK, bS, bM, c6, cO, dQ, rfl, cJ, cn, ce, ca, bN, rfl⟩
 refine ⟨⟨lr, (sc [6,5] rfl), ci0⟩, ?_⟩
 refine ⟨_, .cons r8 .nil, ⟨lr, (sc [6,5] rfl), ci0⟩, ?_⟩
 refine qcc m1 rfl (nl rfl) ?_
 intro iy
 refine cb hm fun gr ee hm => cgx (Jec ee :) ?_
 refine ⟨⟨lr, (sc [6,5] rfl), ci0⟩, ?_⟩
 refine ⟨_, .cons r8 .nil, ⟨lr, (sc [6,5] rfl), ci0⟩, ?_⟩
 refine qj9 rfl ?_
 intro iA
 intro g9
 refine qaa r0 rfl ⟨rfl, rfl, (nl rfl), ?_⟩
 refine ⟨⟨lr, (sc [7,6] rfl), ci0⟩, ?_⟩
 refine ⟨_, .cons r9 .nil, ⟨lr, (sc [7,6] rfl), ci0⟩, ?_⟩
 refine qau ?_
 refine cs rfl rfl hm ?_ ?_ <;> intro gV hm
 refine qar rfl ?_
 exact eE hm
 refine ro (qab r0 rfl (nl rfl) ?_)
 refine cb hm fun gP dB hm => ckx (J8 dB :) ?_
 rintro _ _ _ ⟨ej, bJ, cM, cH, cr, ep, bY, dH, rfl, dE, dY, dw, cU, eJ, rfl⟩
 exact eE hm
 refine qaf (cs rfl rfl hm ?_ ?_) <;> intro gq hm
 refine cb hm fun gM cz hm => ckx (Jab cz :) ?_
 rintro _ _ _ ⟨bO, cD, dC, eg, bI, cy, cW, bK, rfl, cA, dX, dq, cC, dz, rfl⟩
 refine qai rfl fun iu => ?_
 refine qaa r0 rfl ⟨rfl, rfl, (nl rfl), ?_⟩
 refine fa rfl (ro (ld r0 rfl rfl (qa8 ?_)))
 refine cs rfl rfl hm ?_ ?_ <;> intro gT hm
 refine qar rfl ?_
 exact eE hm
 refine fa rfl (ro (ld r0 rfl rfl (qau ?_)))
 refine cb hm fun g8 dI hm => cg0 (Jaz dI :) ?_
 refine cb hm fun gC bP hm => ckx (J8 bP :) ?_
 rintro _ _ _ ⟨cI, eH, ek, dN, dD, d5, df, dP, rfl, dM, cV, dU, cR, dh, rfl⟩
 exact eE hm
 refine qaf (cs rfl rfl hm ?_ ?_) <;> intro gJ hm
 refine fa rfl (ro (ld r1 rfl rfl ?_))
 exact eE hm
 refine qaf (cs rfl rfl hm ?_ ?_) <;> intro hS hm
 refine cb hm fun gD d3 hm => ckx (Jab d3 :) ?_
 rintro _ _ _ ⟨ey, dt, bV, eG, dg, bU, eF, cX, rfl, dZ, c5, eK, dF, dO, rfl⟩
 refine qai rfl fun ir => ?_
 refine qaa r0 rfl ⟨rfl, rfl, (nl rfl), ?_⟩
 refine fa rfl (ro (ld r0 rfl rfl (qa8 ?_)))
 refine cs rfl rfl hm ?_ ?_ <;> intro gv hm
 refine qar rfl ?_
 exact eE hm
 refine fa rfl (ro (ld r0 rfl rfl (qau ?_)))
 refine cs rfl rfl hm ?_ ?_ <;> intro g7 hm
 refine fa rfl (ro (ld r6 rfl rfl ?_))
 exact eE hm
 exact eE hm
 refine qaf (cs rfl rfl hm ?_ ?_) <;> intro gY hm
 refine qag rfl rfl ?_
 refine qai rfl fun gB => ?_
 refine qaa r0 rfl ⟨rfl, rfl, (nl rfl), ?_⟩
 obtain ⟨bL, bb, hm⟩ := bnd hm
 refine jR (σ := Bool) (rg 168 14) (fun bg => [(181, .bool bg)]) (fun bg => bg = bL) ?_ ?_
 replace bb := bsm bb
 refine qaj rfl ?_
 refine fa rfl (ro (ld r2 rfl rfl (qbn ?_)))
 refine qae ?_ ?_ <;> intro aV
 refine fa rfl (ct aV (ro (ld r2 rfl rfl (ct aV (qbn (ct aV ?_))))))
 obtain ⟨bQ, bc, bb⟩ := bnd bb
 refine qae ?_ ?_ <;> intro aU
 replace bc := ift (qa5 aV aU) bc
 refine fa rfl (ct aU (ro (ld r2 rfl rfl (ct aU ?_))))
 refine cb bc fun gx cw bc => cg0 (JaA cw :) ?_
 refine ct aU (qau (ct aU ?_))
 exact eMq bb _ ⟨bq (si bc), trivial⟩
 replace bc := qba (qbs aV aU) bc
 refine cf aU (cf aU (cf aU (cf aU ?_)))
 exact eMq bb _ ⟨bq (si bc), trivial⟩
 refine cf aV (cf aV (cf aV ?_))
 obtain ⟨bQ, bc, bb⟩ := bnd bb
 replace bc := qba (qav aV) bc
 refine cF (cF (cF (cF (cF ?_))))
 exact eMq bb _ ⟨bq (si bc), trivial⟩
 rintro bg rfl hU
 obtain ⟨d9, bd, hm⟩ := bnd hm
 refine jD (σ := (Int × Int × Str × Bool × Jh) × Option Addr × Nat × Option Addr × Nat × Option Addr × Nat × Option Addr × Nat) [182,183] [2, 7] (fun (aS, aW, a8, aZ, ba, aX, a6, aT, aY) => []) (fun (aS, aW, a8, aZ, ba, aX, a6, aT, aY) => [Cells b0 131 ((str m.Aq.Am) :: (str m.Aq.An) :: (str m.Aq.Ae) :: (str m.Aq.Af) :: (.slice aa m.Aq.Ao.length ab) :: (.int .i64 aS.2.2.2.2.most) :: (str aS.2.2.2.2.result.Ae) :: (str aS.2.2.2.2.result.Af) :: (.slice aW aS.2.2.2.2.result.Ag.length a8) :: (.slice aZ aS.2.2.2.2.result.Vary.length ba) :: (.slice aX aS.2.2.2.2.result.Ah.length a6) :: (.int .i64 aS.2.2.2.2.result.TTL) :: (.int .i64 aS.2.2.2.2.result.Ai) :: (.int .i64 aS.2.2.2.2.result.Aj) :: (.bool aS.2.2.2.2.result.Ak) :: (.bool aS.2.2.2.2.result.Al) :: (.slice aT aS.2.2.2.2.stack.length aY) :: (aS.2.2.2.2.Ap.map Ji.enc).flatten), qas Jc.enc aW 41 2 a8 aS.2.2.2.2.result.Ag, qas eS aZ 9 1 ba aS.2.2.2.2.result.Vary, qas eS aX 9 1 a6 aS.2.2.2.2.result.Ah, qas Ji.enc aT 128 4 aY aS.2.2.2.2.stack, Cells gB 128 [.int .i64 aS.1, .int .i64 aS.2.1, str aS.2.2.1, .bool aS.2.2.2.1]]) (fun (aS, aW, a8, aZ, ba, aX, a6, aT, aY) => (0 < aS.2.2.2.2.result.Ag.length → Has aW) ∧ (0 < aS.2.2.2.2.result.Vary.length → Has aZ) ∧ (0 < aS.2.2.2.2.result.Ah.length → Has aX) ∧ (0 < aS.2.2.2.2.stack.length → Has aT) ∧ aS.2.2.2.2.Ap.length = 512 ∧ aS = d9) (And.intro ?_ ?_)
 refine cs rfl rfl bd ?_ ?_ <;> intro gS bd
 refine cb bd fun gA cN bd => ckx (Jab cN :) ?_
 rintro _ _ _ ⟨dn, dm, bH, dy, cZ, ef, co, dT, rfl, bZ, du, c4, bT, c9, rfl⟩
 refine qaa r5 rfl ⟨rfl, rfl, (nl rfl), ?_⟩
 exact eM bd (_, _, _, _, _, _, _, _, _)
 exact eM bd (_, _, _, _, _, _, _, _, _)
 rintro ⟨aS, aW, a8, aZ, ba, aX, a6, aT, aY⟩ ⟨bu, bz, bv, bw, bA, rfl⟩ gu
 refine qa4 ⟨⟨[], false⟩, _, [(_, _), (_, _)], []⟩ (by kernel_rfl) ⟨Hp.Le.refl _, (sc [6,5] rfl), ci0⟩ ?_
 refine qah (fa rfl (fa rfl (qao m0 rfl rfl (qcc m1 rfl (nl rfl) ?_))))
 refine cb hm fun hJ d4 hm => ckx (Jdy (aN := [str m.Aq.Am, str m.Aq.An, str m.Aq.Ae, str m.Aq.Af, .slice aa m.Aq.Ao.length ab, .int .i64 aS.2.2.2.2.most]) (aP := (.slice aT aS.2.2.2.2.stack.length aY) :: (aS.2.2.2.2.Ap.map Ji.enc).flatten) d4 :) ?_
 rintro _ _ _ ⟨cE, dJ, eh, dK, dW, dj, rfl, eD, cQ, dA, rfl⟩
 refine qk (sc [6,5] rfl) ?_
 refine qa6 rfl ?_
 refine cs rfl rfl hm ?_ ?_ <;> intro gt hm
 exact eE hm
 refine fa rfl (ro (ld r6 rfl rfl (qap ?_)))
 refine cs rfl rfl hm ?_ ?_ <;> intro gQ hm
 exact eE hm
 exact eE hm
 refine qaf (cs rfl rfl hm ?_ ?_) <;> intro hO hm
 exact eE hm
 exact eE hm

def Jcv (code : (List Jf)) (Aq : JV) : Nat → Int → Jh → Option (Fl (Jp × Err) (Int × Jh))
  | 0, _, _ => none
  | aU + 1, ac, aS =>
    if decide (ac ≥ 0) then
    (ix code ac).bind fun aV =>
    (Jcf (⟨Aq, aS.most, aS.result, aS.stack, aS.Ap⟩ : Jh) ac aV).bind fun aT =>
    if aT.2.1.isSome then
    some (Fl.ret ((⟨([] : Str), ([] : Str), [], [], [], 0, 0, 0, false, false⟩ : Jp), aT.2.1))
    else
    Jcv code Aq aU aT.1 (⟨Aq, aT.2.2.most, aT.2.2.result, aT.2.2.stack, aT.2.2.Ap⟩ : Jh)
    else
    some (Fl.go (ac, (⟨Aq, aS.most, aS.result, aS.stack, aS.Ap⟩ : Jh)))
def JdI (n : Nat) (code : (List Jf)) (Aq : JV) (most : Int) : Option (Jp × Err) :=
  (Jde code).bind fun aS =>
  if aS.isSome then
  some ((⟨([] : Str), ([] : Str), [], [], [], 0, 0, 0, false, false⟩ : Jp), (some 2))
  else
  (Jcv code Aq n 0 (⟨Aq, most, (⟨Aq.Ae, Aq.Af, [], [], [], (-1), 0, 0, false, false⟩ : Jp), [], (List.replicate 512 (⟨0, 0, ([] : Str), false⟩ : Ji))⟩ : Jh)).bind fun s0 => s0.el some fun t0 =>
  some (t0.2.result, none)
theorem Jey {n : Nat} {code : (List Jf)} {Aq : JV} {most : Int} {aa : Option Addr} {ab : Nat} {n0 : Nat} {af : Option Addr} {ag : Nat} {K : Hp} {r : Jp × Err}
    (hm : JdI n code Aq most = some r) (hX : RdC Jf.enc K aa ab 3 code ∧ n0 = code.length ∧ RdC Jc.enc K af ag 2 Aq.Ao ∧ GG K) :
    Fn Tryz.prog 37 [.slice aa n0 ab, .agg #[str Aq.Am, str Aq.An, str Aq.Ae, str Aq.Af, .slice af Aq.Ao.length ag], .int .i64 most] K [] (fun v K' H' => ∃ ar_0 : Option Addr, ∃ cr_0 : Nat, ∃ ar_1 : Option Addr, ∃ cr_1 : Nat, ∃ ar_2 : Option Addr, ∃ cr_2 : Nat, v = .tuple #[.agg #[str r.1.Ae, str r.1.Af, .slice ar_0 r.1.Ag.length cr_0, .slice ar_1 r.1.Vary.length cr_1, .slice ar_2 r.1.Ah.length cr_2, .int .i64 r.1.TTL, .int .i64 r.1.Ai, .int .i64 r.1.Aj, .bool r.1.Ak, .bool r.1.Al], qcs 48 r.2] ∧ (0 < r.1.Ag.length → Has ar_0) ∧ (0 < r.1.Vary.length → Has ar_1) ∧ (0 < r.1.Ah.length → Has ar_2) ∧ H' = [qas Jc.enc ar_0 41 2 cr_0 r.1.Ag, qas eS ar_1 9 1 cr_1 r.1.Vary, qas eS ar_2 9 1 cr_2 r.1.Ah]) := by
 obtain ⟨ae, bR, ai, hG⟩ := hX
 subst bR
 refine Fn.enter Tryz.func37 Tryz.call37 rfl fun F => ?_
 unfold JdI at hm
 refine qaq ?_
 intro b4
 refine qai rfl fun b6 => ?_
 refine cb hm fun bW bP hm => cgx (Jea bP :) ?_
 refine qa6 rfl ?_
 refine cs rfl rfl hm ?_ ?_ <;> intro bX hm
 refine qag rfl rfl ?_
 refine qar rfl ?_
 refine qaa r0 rfl ⟨rfl, rfl, (nl rfl), ?_⟩
 refine ro (qab r0 rfl (nl rfl) ?_)
 refine qcj Jc.enc 41 2 ?_
 refine qcj eS 9 1 ?_
 refine qcj eS 9 1 ?_
 exact eE hm
 refine ro (qab r1 rfl (nl rfl) (fa rfl (ro (ld r1 rfl rfl (fa rfl (ro (ld r1 rfl rfl (qag rfl rfl (cT (cT ?_))))))))))
 refine cT ?_
 refine qkz (enc := Ji.enc) [str ([] : Str), str ([] : Str), str ([] : Str), str ([] : Str), .slice none 0 0, .int .i64 0, str ([] : Str), str ([] : Str), .slice none 0 0, .slice none 0 0, .slice none 0 0, .int .i64 0, .int .i64 0, .int .i64 0, .bool false, .bool false, .slice none 0 0] (List.replicate 512 (⟨0, 0, ([] : Str), false⟩ : Ji)) (by kernel_rfl) rfl ?_
 refine cT (cT (cT ?_))
 refine qm8 ?_
 intro bS
 obtain ⟨s0, a6, hm⟩ := bnd hm
 refine qhd Jc.enc 41 2 ?_
 refine qhd eS 9 1 ?_
 refine qhd eS 9 1 ?_
 refine qhd Ji.enc 128 4 ?_
 refine lD (σ := (Int × Jh) × Option Addr × Nat × Option Addr × Nat × Option Addr × Nat × Option Addr × Nat) ([7,9,10,11] ++ rg 26 17) [5, 6, 7] (fun _ => []) (fun (t0, aU, aZ, aV, aX, aS, aY, aT, aW) => [(9, .int .i64 t0.1)]) (fun (t0, aU, aZ, aV, aX, aS, aY, aT, aW) => [Cells bS 131 ((str Aq.Am) :: (str Aq.An) :: (str Aq.Ae) :: (str Aq.Af) :: (.slice af Aq.Ao.length ag) :: (.int .i64 t0.2.most) :: (str t0.2.result.Ae) :: (str t0.2.result.Af) :: (.slice aU t0.2.result.Ag.length aZ) :: (.slice aV t0.2.result.Vary.length aX) :: (.slice aS t0.2.result.Ah.length aY) :: (.int .i64 t0.2.result.TTL) :: (.int .i64 t0.2.result.Ai) :: (.int .i64 t0.2.result.Aj) :: (.bool t0.2.result.Ak) :: (.bool t0.2.result.Al) :: (.slice aT t0.2.stack.length aW) :: (t0.2.Ap.map Ji.enc).flatten), qas Jc.enc aU 41 2 aZ t0.2.result.Ag, qas eS aV 9 1 aX t0.2.result.Vary, qas eS aS 9 1 aY t0.2.result.Ah, qas Ji.enc aT 128 4 aW t0.2.stack]) (fun (t0, aU, aZ, aV, aX, aS, aY, aT, aW) => (0 < t0.2.result.Ag.length → Has aU) ∧ (0 < t0.2.result.Vary.length → Has aV) ∧ (0 < t0.2.result.Ah.length → Has aS) ∧ (0 < t0.2.stack.length → Has aT) ∧ t0.2.Ap.length = 512) (fun i0 (t0, aU, aZ, aV, aX, aS, aY, aT, aW) => Jcv code Aq i0 t0.1 t0.2 = some s0) (fun (t0, aU, aZ, aV, aX, aS, aY, aT, aW) => s0 = Fl.go t0) (fun i0 => i0) n ((0, (⟨Aq, most, (⟨Aq.Ae, Aq.Af, [], [], [], (-1), 0, 0, false, false⟩ : Jp), [], (List.replicate 512 (⟨0, 0, ([] : Str), false⟩ : Ji))⟩ : Jh)), none, 0, none, 0, none, 0, none, 0) a6 (And.intro ⟨⟨(fun h => by simp at h), (fun h => by simp at h), (fun h => by simp at h), (fun h => by simp at h), List.length_replicate⟩, ⟨rfl, trivial⟩, _, (ss [4,3,2,1,0,0,0,0] rfl)⟩ (And.intro ?_ ?_))
 clear a6
 rintro i0 ⟨⟨ac, bO⟩, bg, bh, bv, bt, bo, bf, bu, a8⟩ ⟨ba, bl, bj, bn, br⟩ a6 j0
 dsimp only at a6 ⊢
 cases i0 with
 | zero => rw [Jcv.eq_1] at a6; cases a6
 | succ i0 =>
  rw [Jcv.eq_2] at a6
  refine cs rfl rfl a6 ?_ ?_ <;> intro bT a6
  refine qal rfl ?_
  obtain ⟨bY, bI, bw, a6⟩ := ixb a6
  refine RStep.ofN (qad rfl rfl (qfs ae.rd bw) bI (qax rfl bI bw) (ro (qan ((ac).toNat) _ ae.rd rfl (mp bw) rfl ?_)))
  refine cb a6 fun bU bQ a6 => ckx (Jdz bQ :) ?_
  rintro _ _ _ ⟨bK, bG, bN, bH, bJ, bF, bC, bD, rfl, bB, bM, bL, bz, bA, rfl⟩
  refine qa6 rfl ?_
  refine cs rfl rfl a6 ?_ ?_ <;> intro bV a6
  refine qag rfl rfl ?_
  refine qaa r5 rfl ⟨rfl, rfl, (nl rfl), ?_⟩
  refine ro (qab r0 rfl (nl rfl) ?_)
  refine qcj Jc.enc 41 2 ?_
  refine qcj eS 9 1 ?_
  refine qcj eS 9 1 ?_
  exact eE (er a6 hm)
  exact eR a6 (_, (_, _), _, _, _, _, _, _, _, _)
  refine cT ?_
  exact eM a6 (_, _, _, _, _, _, _, _, _)
 rintro ⟨t0, aU, aZ, aV, aX, aS, aY, aT, aW⟩ ⟨bd, bc, bb, bm, bp⟩ rfl j0
 replace hm := elg hm
 refine qah (fa rfl (ro (qab r0 rfl (nl rfl) ?_)))
 refine qaa r5 rfl ⟨rfl, rfl, (nl rfl), ?_⟩
 exact ro (qab r0 rfl (nl rfl) (eE hm))

def qcf (a : Jl) (r' : Jp) : Option (Str) :=
  ((if decide (r'.Af ≠ ([] : Str)) then
  some true
  else
  some (a.HasQuery && decide (r'.Af = a.Af))) : Option (Bool)).bind fun aS =>
  if aS then
  (chk (r'.Ae.length + ([63] : Str).length ≤ lim)).bind fun _ =>
  (chk ((r'.Ae ++ ([63] : Str)).length + r'.Af.length ≤ lim)).bind fun _ =>
  some ((r'.Ae ++ ([63] : Str)) ++ r'.Af)
  else
  some r'.Ae
theorem qfv {a : Jl} {r' : Jp} {af : Option Addr} {ag : Nat} {aH : Option Addr} {aI : Nat} {aJ : Option Addr} {aK : Nat} {K : Hp} {r : Str}
    (hm : qcf a r' = some r) (hX : RdC Jc.enc K af ag 2 r'.Ag ∧ RdC eS K aH aI 1 r'.Vary ∧ RdC eS K aJ aK 1 r'.Ah) :
    Fn Tryz.prog 38 [.agg #[str a.An, str a.Ae, str a.Af, .bool a.HasQuery], .agg #[str r'.Ae, str r'.Af, .slice af r'.Ag.length ag, .slice aH r'.Vary.length aI, .slice aJ r'.Ah.length aK, .int .i64 r'.TTL, .int .i64 r'.Ai, .int .i64 r'.Aj, .bool r'.Ak, .bool r'.Al]] K [] (fun v K' H' => v = str r ∧ H' = []) := by
 obtain ⟨ai, aY, aX⟩ := hX
 refine Fn.enter Tryz.func38 Tryz.call38 rfl fun F => ?_
 unfold qcf at hm
 refine qaq ?_
 intro b2
 refine qaq ?_
 intro b3
 obtain ⟨aW, aU, hm⟩ := bnd hm
 refine jR (σ := Bool) (rg 5 14) (fun aV => [(18, .bool aV)]) (fun aV => aV = aW) ?_ ?_
 refine qaj rfl ?_
 refine fa rfl (ro (ld r0 rfl rfl (qbn ?_)))
 refine cS aU (fun aT aU => ?_) fun aT aU => ?_
 refine ct aT (ct aT (ct aT (ct aT ?_)))
 exact eM aU _
 refine fa rfl (cf aT (ro (ld r1 rfl rfl (cf aT ?_))))
 refine qae ?_ ?_ <;> intro aS
 refine fa rfl (ct aS (ro (ld r0 rfl rfl (ct aS (fa rfl (ct aS (ro (ld r1 rfl rfl (ct aS ?_)))))))))
 refine qap (cf aT (ct aS (cf aT ?_)))
 exact eMq aU _ ⟨bq (qcw (b := decide (r'.Af = a.Af)) aS), trivial⟩
 refine cf aS (cf aS (cf aS (cf aS (cf aT (cf aS (cf aT ?_))))))
 exact eMq aU _ ⟨bq (((qav aS)).symm), trivial⟩
 rintro aV rfl a8
 refine cs rfl rfl hm ?_ ?_ <;> intro ba hm
 refine fa rfl (ro (ld r0 rfl rfl ?_))
 obtain ⟨aZ, hm⟩ := qaw hm
 refine qbt aZ ?_
 refine fa rfl (ro (ld r0 rfl rfl ?_))
 obtain ⟨a6, hm⟩ := qaw hm
 refine qbt a6 ?_
 exact eE hm
 refine fa rfl (ro (ld r0 rfl rfl ?_))
 exact eE hm

def Jby (s : (List Str)) : Option ((List Str)) :=
  (chk (([] : List Str).length + s.length ≤ lim)).bind fun _ =>
  some (([] : List Str) ++ s)
theorem JdA {s : (List Str)} {aa : Option Addr} {ab : Nat} {n0 : Nat} {K : Hp} {r : (List Str)}
    (hm : Jby s = some r) (hX : RdC eS K aa ab 1 s ∧ n0 = s.length) :
    Fn Tryz.prog 39 [.slice aa n0 ab] K [] (fun v K' H' => ∃ ar_0 : Option Addr, ∃ cr_0 : Nat, v = .slice ar_0 r.length cr_0 ∧ (0 < r.length → Has ar_0) ∧ H' = [qas eS ar_0 9 1 cr_0 r]) := by
 obtain ⟨ae, aS⟩ := hX
 subst aS
 refine Fn.enter Tryz.func39 Tryz.call39 rfl fun F => ?_
 unfold Jby at hm
 rcases Classical.em (aa = none) with hz | hz
 subst hz
 obtain rfl := RdC.none_nil ae
 obtain ⟨_, hm⟩ := qaw hm
 obtain rfl := si hm
 refine qi7 rfl ?_
 refine qac rfl (cT ?_)
 refine qcj eS 9 1 ?_
 exact en lr ⟨none, 0, rfl, (fun h => by simp at h), rfl⟩ (pf rfl)
 refine qjj hz rfl ?_
 refine qac rfl (cF ?_)
 refine bsO (len := 0) (enc := eS) (l := ([] : List Str)) (cl := []) qb1 rfl rfl (fun _ _ => rfl) rfl rfl rfl ?_ fun b5 => ?_
 · conv => whnf
   first | done | rfl
 obtain ⟨h7, hm⟩ := qaw hm
 refine apE rfl r0 qb1 (qpf rfl ae.rd rfl) h7 ?_
 intro a7 c7 o7
 exact eE hm

def qdb (c : UInt8) : Option (Bool) :=
  some ((decide ((c.toNat : Int) < 32) && decide ((c.toNat : Int) ≠ 9)) || decide ((c.toNat : Int) = 127))
theorem qe8 {c : UInt8} {K : Hp} {r : Bool}
    (hm : qdb c = some r)  :
    Fn Tryz.prog 147 [.int .u8 (c.toNat : Int)] K [] (fun v K' H' => v = .bool r ∧ H' = []) := by
 refine Fn.enter Tryz.func147 Tryz.call147 rfl fun F => ?_
 unfold qdb at hm
 refine qaj rfl ?_
 refine qae ?_ ?_ <;> intro aS
 refine ct aS (qa8 (ct aS ?_))
 refine qae ?_ ?_ <;> intro aT
 refine ct aT (ct aT ?_)
 exact bE (((qbq (qa5 aS aT))).symm) (eE hm)
 refine cf aT (qaf (cf aT ?_))
 exact bE (qgx (b := decide ((c.toNat : Int) = 127)) (qbs aS aT)) (eE hm)
 refine cf aS (cf aS (cF (cF (qaf (cF ?_)))))
 exact bE (qgx (b := decide ((c.toNat : Int) = 127)) (qav aS)) (eE hm)

def syntax_clean_L0 : List UInt8 → Nat → Option (Fl (Bool) (Unit))
  | [], _ => some (Fl.go ())
  | e0 :: aS, i0 =>
    (qdb e0).bind fun al =>
    if al then
    some (Fl.ret false)
    else
    syntax_clean_L0 aS (i0 + 1)
def qdu (s : Str) : Option (Bool) :=
  (chk (s.length ≤ qbh)).bind fun _ =>
  (syntax_clean_L0 s 0).bind fun s0 => s0.el some fun t0 =>
  some true
theorem qf5 {s : Str} {K : Hp} {r : Bool}
    (hm : qdu s = some r)  :
    Fn Tryz.prog 95 [str s] K [] (fun v K' H' => v = .bool r ∧ H' = []) := by
 refine Fn.enter Tryz.func95 Tryz.call95 rfl fun F => ?_
 unfold qdu at hm
 refine ro (qa3 rfl ?_)
 obtain ⟨aV, hm⟩ := qaw hm
 obtain ⟨s0, aS, hm⟩ := bnd hm
 refine lD (σ := (Unit)) ([2,3] ++ rg 6 8) [0] (fun i0 => [(6, .int .i64 (i0 : Int))]) (fun _ => []) (fun _ => []) (fun _ => True) (fun i0 _ => syntax_clean_L0 (s.drop i0) i0 = some s0) (fun t0 => s0 = Fl.go t0) (fun i0 => s.length - i0) 0 () aS (And.intro qe (And.intro ?_ ?_))
 clear aS
 rintro i0 _ _ aS j0
 conv at aS => whnf
 refine qac rfl ?_
 refine qae ?_ ?_ <;> intro w0
 obtain ⟨e0, aT, aW⟩ := ltx w0
 rw [aW, syntax_clean_L0.eq_2] at aS
 refine qal rfl ?_
 refine qaz rfl (nn _) aT ?_
 refine cb aS fun al aU aS => cg0 (qe8 aU :) ?_
 refine cs rfl rfl aS ?_ ?_ <;> intro aX aS
 exact eE (er aS hm)
 refine qam (qbu aT aV) ?_
 exact eR aS (_, ())
 rw [lty w0, syntax_clean_L0.eq_1] at aS
 refine cT ?_
 exact eM aS _
 rintro t0 _ rfl j0
 replace hm := elg hm
 exact eE hm

def syntax_parts_L0 (s : Str) (separator : UInt8) : Nat → (List Str) → Int → Bool → Int → Option ((List Str) × Int × Bool × Int)
  | 0, _, _, _, _ => none
  | aV + 1, ac, aU, aT, aS =>
    if decide (aS < (s.length : Int)) then
    (if aT then (ix s aS).bind fun aZ =>
    some (decide ((aZ.toNat : Int) = 92)) else some false).bind fun aW =>
    if aW then
    (chk (InI (aS + 1))).bind fun _ =>
    (chk (InI ((aS + 1) + 1))).bind fun _ =>
    syntax_parts_L0 s separator aV ac aU aT ((aS + 1) + 1)
    else
    (ix s aS).bind fun a8 =>
    if decide ((a8.toNat : Int) = 34) then
    (chk (InI (aS + 1))).bind fun _ =>
    syntax_parts_L0 s separator aV ac aU (!aT) (aS + 1)
    else
    (if (!aT) then (ix s aS).bind fun a6 =>
    some (decide ((a6.toNat : Int) = (separator.toNat : Int))) else some false).bind fun aX =>
    if aX then
    (chk (0 ≤ aU ∧ aU ≤ aS ∧ aS ≤ (s.length : Int))).bind fun _ =>
    (qjk (subL s aU aS) ([32, 9] : Str)).bind fun aY =>
    (chk (ac.length + [aY].length ≤ lim)).bind fun _ =>
    (chk (InI (aS + 1))).bind fun _ =>
    (chk (InI (aS + 1))).bind fun _ =>
    syntax_parts_L0 s separator aV (ac ++ [aY]) (aS + 1) aT (aS + 1)
    else
    (chk (InI (aS + 1))).bind fun _ =>
    syntax_parts_L0 s separator aV ac aU aT (aS + 1)
    else
    some (ac, aU, aT, aS)
def qdv (n : Nat) (s : Str) (separator : UInt8) : Option ((List Str) × Err) :=
  (qdu s).bind fun aT =>
  if (!aT) then
  some ([], (some 2))
  else
  (syntax_parts_L0 s separator n [] 0 false 0).bind fun t0 =>
  if t0.2.2.1 then
  some ([], (some 2))
  else
  (chk (0 ≤ t0.2.1 ∧ t0.2.1 ≤ (s.length : Int) ∧ (s.length : Int) ≤ (s.length : Int))).bind fun _ =>
  (qjk (subL s t0.2.1 (s.length : Int)) ([32, 9] : Str)).bind fun aS =>
  (chk (t0.1.length + [aS].length ≤ lim)).bind fun _ =>
  some ((t0.1 ++ [aS]), none)
theorem qf6 {n : Nat} {s : Str} {separator : UInt8} {K : Hp} {r : (List Str) × Err}
    (hm : qdv n s separator = some r)  :
    Fn Tryz.prog 87 [str s, .int .u8 (separator.toNat : Int)] K [] (fun v K' H' => ∃ ar_0 : Option Addr, ∃ cr_0 : Nat, v = .tuple #[.slice ar_0 r.1.length cr_0, qcs 48 r.2] ∧ (0 < r.1.length → Has ar_0) ∧ H' = [qas eS ar_0 9 1 cr_0 r.1]) := by
 refine Fn.enter Tryz.func87 Tryz.call87 rfl fun F => ?_
 unfold qdv at hm
 refine cb hm fun bJ bz hm => cg0 (qf5 bz :) ?_
 refine qau ?_
 refine cs rfl rfl hm ?_ ?_ <;> intro cm hm
 refine qar rfl ?_
 refine qcj eS 9 1 ?_
 exact eE hm
 obtain ⟨s0, aT, hm⟩ := bnd hm
 refine qhd eS 9 1 ?_
 refine lD (σ := ((List Str) × Int × Bool × Int) × Option Addr × Nat) ([6,7,8,9] ++ rg 14 43) [1] (fun _ => []) (fun (t0, aV, aW) => [(6, .slice aV t0.1.length aW), (7, .int .i64 t0.2.1), (8, .bool t0.2.2.1), (9, .int .i64 t0.2.2.2)]) (fun (t0, aV, aW) => [qas eS aV 9 1 aW t0.1]) (fun (t0, aV, aW) => (0 < t0.1.length → Has aV) ∧ True) (fun i0 (t0, aV, aW) => syntax_parts_L0 s separator i0 t0.1 t0.2.1 t0.2.2.1 t0.2.2.2 = some s0) (fun (t0, aV, aW) => t0 = s0) (fun i0 => i0) n ((_, _, _, _), _, _) aT (And.intro qe (And.intro ?_ ?_))
 clear aT
 rintro i0 ⟨⟨ac, bb, bA, bd⟩, bn, bm⟩ ⟨bh, _⟩ aT j0
 dsimp only at aT ⊢
 cases i0 with
 | zero => rw [syntax_parts_L0.eq_1] at aT; cases aT
 | succ i0 =>
  rw [syntax_parts_L0.eq_2] at aT
  refine ro (qa3 rfl ?_)
  refine cs rfl rfl aT ?_ ?_ <;> intro bT aT
  refine qal rfl ?_
  refine qal rfl ?_
  obtain ⟨bf, aX, aT⟩ := bnd aT
  refine jR (σ := Bool) (rg 20 8) (fun aZ => [(20, .bool aZ)]) (fun aZ => aZ = bf) ?_ ?_
  replace aX := bsm aX
  refine qaj rfl ?_
  obtain ⟨bZ, ba, aX⟩ := bnd aX
  refine cS ba (fun aU ba => ?_) fun aU ba => ?_
  refine ct aU (ct aU ?_)
  obtain ⟨bU, bG, bo, ba⟩ := ixb ba
  refine qaz rfl bG bo (ct aU (qaf (ct aU ?_)))
  exact eMq aX _ ⟨bq (si ba), trivial⟩
  refine cf aU (cf aU (cf aU (cf aU ?_)))
  exact eMq aX _ ⟨bq (si ba), trivial⟩
  rintro aZ rfl bB
  refine CStep.ownLe r0 fun bV => ?_
  refine cs rfl rfl aT ?_ ?_ <;> intro bQ aT
  refine ci aT fun aT => ?_
  refine ci aT fun aT => ?_
  exact eR aT (_, (_, _, _, _), _, _)
  obtain ⟨bR, bv, bD, aT⟩ := ixb aT
  refine qaz rfl bv bD (qaf ?_)
  refine CStep.ownLe r0 fun cj => ?_
  refine cs rfl rfl aT ?_ ?_ <;> intro bP aT
  refine qau ?_
  refine ci aT fun aT => ?_
  exact eR aT (_, (_, _, _, _), _, _)
  obtain ⟨bc, aY, aT⟩ := bnd aT
  refine jR (σ := Bool) (rg 37 10) (fun a6 => [(37, .bool a6)]) (fun a6 => a6 = bc) ?_ ?_
  replace aY := bsm aY
  refine qaj rfl ?_
  refine qau ?_
  obtain ⟨bK, a8, aY⟩ := bnd aY
  refine cS a8 (fun aS a8 => ?_) fun aS a8 => ?_
  refine ct aS (ct aS ?_)
  obtain ⟨ca, bu, bt, a8⟩ := ixb a8
  refine qaz rfl bu bt (ct aS (ct aS (qaf (ct aS ?_))))
  exact eMq aY _ ⟨bq (si a8), trivial⟩
  refine cf aS (cf aS (cf aS (cf aS (cf aS ?_))))
  exact eMq aY _ ⟨bq (si a8), trivial⟩
  rintro a6 rfl bp
  refine CStep.ownLe r0 fun bW => ?_
  refine cs rfl rfl aT ?_ ?_ <;> intro bX aT
  obtain ⟨bw, aT⟩ := qaw aT
  refine RStep.ofN (qdz (lo := (some bb)) (hi := (some bd)) rfl bw ?_)
  refine cb aT fun bl bI aT => cg0 (qjw bI) ?_
  refine bsO (len := 1) (enc := eS) (l := [bl]) (cl := [str bl]) qb1 rfl rfl (fun _ _ => rfl) rfl rfl rfl ?_ fun bY => ?_
  · conv => whnf
    refine cT ?_
    first | done | rfl
  obtain ⟨bF, aT⟩ := qaw aT
  refine apE rfl r1 qb1 (qay rfl r0 rfl (fun _ => rfl) (fun _ => rfl)) bF ?_
  intro bN bL ce
  refine ci aT fun aT => ?_
  refine ci aT fun aT => ?_
  exact eR aT (_, (_, _, _, _), _, _)
  refine ci aT fun aT => ?_
  exact eR aT (_, (_, _, _, _), _, _)
  refine cT ?_
  exact eM aT (_, _, _)
 rintro ⟨t0, aV, aW⟩ ⟨bj, _⟩ rfl j0
 refine cs rfl rfl hm ?_ ?_ <;> intro bM hm
 refine qar rfl ?_
 refine qcj eS 9 1 ?_
 exact eE hm
 obtain ⟨bC, hm⟩ := qaw hm
 refine RStep.ofN (qdz (lo := (some t0.2.1)) (hi := none) rfl bC ?_)
 refine cb hm fun bg br hm => cg0 (qjw br) ?_
 refine bsO (len := 1) (enc := eS) (l := [bg]) (cl := [str bg]) qb1 rfl rfl (fun _ _ => rfl) rfl rfl rfl ?_ fun cn => ?_
 · conv => whnf
   refine cT ?_
   first | done | rfl
 obtain ⟨bH, hm⟩ := qaw hm
 refine apE rfl r1 qb1 (qay rfl r0 rfl (fun _ => rfl) (fun _ => rfl)) bH ?_
 intro co bO bS
 exact eE hm

def syntax_List_L0 : List Str → Nat → (List Str) → Option ((List Str))
  | [], _, ac => some ac
  | e0 :: aS, i0, ac =>
    if decide (e0 ≠ ([] : Str)) then
    (chk (ac.length + [e0].length ≤ lim)).bind fun _ =>
    syntax_List_L0 aS (i0 + 1) (ac ++ [e0])
    else
    syntax_List_L0 aS (i0 + 1) ac
def qd8 (n : Nat) (s : Str) : Option ((List Str) × Err) :=
  (qdv n s (44 : UInt8)).bind fun aS =>
  if aS.2.isSome then
  some ([], aS.2)
  else
  (chk (aS.1.length ≤ qbh)).bind fun _ =>
  (syntax_List_L0 aS.1 0 []).bind fun t0 =>
  some (t0, none)
theorem qgu {n : Nat} {s : Str} {K : Hp} {r : (List Str) × Err}
    (hm : qd8 n s = some r)  :
    Fn Tryz.prog 52 [str s] K [] (fun v K' H' => ∃ ar_0 : Option Addr, ∃ cr_0 : Nat, v = .tuple #[.slice ar_0 r.1.length cr_0, qcs 48 r.2] ∧ (0 < r.1.length → Has ar_0) ∧ H' = [qas eS ar_0 9 1 cr_0 r.1]) := by
 refine Fn.enter Tryz.func52 Tryz.call52 rfl fun F => ?_
 unfold qd8 at hm
 refine cb hm fun aY bf hm => ck0 (qf6 bf :) ?_
 rintro _ _ _ ⟨aX, a8, rfl, aV, rfl⟩
 refine qa6 rfl ?_
 refine cs rfl rfl hm ?_ ?_ <;> intro bn hm
 refine qcj eS 9 1 ?_
 exact eE hm
 refine ro (qak rfl ?_)
 obtain ⟨ba, hm⟩ := qaw hm
 obtain ⟨s0, aU, hm⟩ := bnd hm
 refine qhd eS 9 1 ?_
 refine lD (σ := ((List Str)) × Option Addr × Nat) ([6,8] ++ rg 19 11) [1, 2] (fun i0 => [(19, .int .i64 (i0 : Int))]) (fun (t0, aS, aT) => [(6, .slice aS t0.length aT)]) (fun (t0, aS, aT) => [qas eS aS 9 1 aT t0]) (fun (t0, aS, aT) => (0 < t0.length → Has aS) ∧ True) (fun i0 (t0, aS, aT) => syntax_List_L0 (aY.1.drop i0) i0 t0 = some s0) (fun (t0, aS, aT) => t0 = s0) (fun i0 => aY.1.length - i0) 0 (_, _, _) aU (And.intro qe (And.intro ?_ ?_))
 clear aU
 rintro i0 ⟨ac, bc, bb⟩ ⟨aZ, _⟩ aU j0
 conv at aU => whnf
 refine qac rfl ?_
 refine qae ?_ ?_ <;> intro w0
 obtain ⟨e0, aW, bg⟩ := ltx w0
 rw [bg, syntax_List_L0.eq_2] at aU
 refine qal rfl ?_
 refine RStep.ofN (qad rfl rfl (qcu aV aW) (nn _) (qff rfl aW) (ro (qbz (i := i0) (o := 0) r1 rfl aW rfl rfl (qbn ?_))))
 refine cs rfl rfl aU ?_ ?_ <;> intro bh aU
 refine bsO (len := 1) (enc := eS) (l := [e0]) (cl := [str e0]) qb1 rfl rfl (fun _ _ => rfl) rfl rfl rfl ?_ fun bj => ?_
 · conv => whnf
   refine cT ?_
   first | done | rfl
 obtain ⟨bd, aU⟩ := qaw aU
 refine apE rfl r1 qb1 (qay rfl r0 rfl (fun _ => rfl) (fun _ => rfl)) bd ?_
 intro bl bm bo
 refine qam (qbu aW ba) ?_
 exact eR aU (_, _, _, _)
 refine qam (qbu aW ba) ?_
 exact eR aU (_, _, _, _)
 rw [lty w0, syntax_List_L0.eq_1] at aU
 refine cT ?_
 exact eM aU (_, _, _)
 rintro ⟨t0, aS, aT⟩ ⟨a6, _⟩ rfl j0
 exact eE hm

def Jca : List Str → Nat → (List Str) → Option ((List Str))
  | [], _, aS => some aS
  | e2 :: aU, i2, aS =>
    (Ja1 e2).bind fun aT =>
    (chk (aS.length + [aT].length ≤ lim)).bind fun _ =>
    Jca aU (i2 + 1) (aS ++ [aT])
def JbM (n : Nat) : List Str → Nat → (List Str) → Option ((List Str))
  | [], _, ac => some ac
  | e0 :: aT, i0, ac =>
    (qd8 n e0).bind fun aS =>
    if aS.2.isSome then
    JbM n aT (i0 + 1) ac
    else
    (chk (aS.1.length ≤ qbh)).bind fun _ =>
    (Jca aS.1 0 ac).bind fun t2 =>
    JbM n aT (i0 + 1) t2
def JbN (t0 : (List Str)) : List Jc → Nat → (List Jc) → Option ((List Jc))
  | [], _, aS => some aS
  | e4 :: aT, i4, aS =>
    (Ja1 e4.Name).bind fun aV =>
    (JK t0 aV).bind fun aU =>
    if (!aU) then
    (chk (aS.length + [e4].length ≤ lim)).bind fun _ =>
    JbN t0 aT (i4 + 1) (aS ++ [e4])
    else
    JbN t0 aT (i4 + 1) aS
def JdV (n : Nat) (f : (List Jc)) : Option ((List Jc)) :=
  (JcI f ([99, 111, 110, 110, 101, 99, 116, 105, 111, 110] : Str)).bind fun aS =>
  (chk (aS.length ≤ qbh)).bind fun _ =>
  (JbM n aS 0 ([([99, 111, 110, 110, 101, 99, 116, 105, 111, 110] : Str), ([107, 101, 101, 112, 45, 97, 108, 105, 118, 101] : Str), ([112, 114, 111, 120, 121, 45, 99, 111, 110, 110, 101, 99, 116, 105, 111, 110] : Str), ([112, 114, 111, 120, 121, 45, 97, 117, 116, 104, 101, 110, 116, 105, 99, 97, 116, 101] : Str), ([112, 114, 111, 120, 121, 45, 97, 117, 116, 104, 111, 114, 105, 122, 97, 116, 105, 111, 110] : Str), ([116, 101] : Str), ([116, 114, 97, 105, 108, 101, 114] : Str), ([116, 114, 97, 110, 115, 102, 101, 114, 45, 101, 110, 99, 111, 100, 105, 110, 103] : Str), ([117, 112, 103, 114, 97, 100, 101] : Str)])).bind fun t0 =>
  (chk (f.length ≤ qbh)).bind fun _ =>
  (JbN t0 f 0 []).bind fun t4 =>
  some t4
theorem Jeu {n : Nat} {f : (List Jc)} {aa : Option Addr} {ab : Nat} {n0 : Nat} {K : Hp} {r : (List Jc)}
    (hm : JdV n f = some r) (hX : RdC Jc.enc K aa ab 2 f ∧ n0 = f.length) :
    Fn Tryz.prog 22 [.slice aa n0 ab] K [] (fun v K' H' => ∃ ar_0 : Option Addr, ∃ cr_0 : Nat, v = .slice ar_0 r.length cr_0 ∧ (0 < r.length → Has ar_0) ∧ H' = [qas Jc.enc ar_0 41 2 cr_0 r]) := by
 obtain ⟨ae, bP⟩ := hX
 subst bP
 refine Fn.enter Tryz.func22 Tryz.call22 rfl fun F => ?_
 unfold JdV at hm
 refine bsO (len := 9) (enc := eS) (l := [([99, 111, 110, 110, 101, 99, 116, 105, 111, 110] : Str), ([107, 101, 101, 112, 45, 97, 108, 105, 118, 101] : Str), ([112, 114, 111, 120, 121, 45, 99, 111, 110, 110, 101, 99, 116, 105, 111, 110] : Str), ([112, 114, 111, 120, 121, 45, 97, 117, 116, 104, 101, 110, 116, 105, 99, 97, 116, 101] : Str), ([112, 114, 111, 120, 121, 45, 97, 117, 116, 104, 111, 114, 105, 122, 97, 116, 105, 111, 110] : Str), ([116, 101] : Str), ([116, 114, 97, 105, 108, 101, 114] : Str), ([116, 114, 97, 110, 115, 102, 101, 114, 45, 101, 110, 99, 111, 100, 105, 110, 103] : Str), ([117, 112, 103, 114, 97, 100, 101] : Str)]) (cl := [str ([99, 111, 110, 110, 101, 99, 116, 105, 111, 110] : Str), str ([107, 101, 101, 112, 45, 97, 108, 105, 118, 101] : Str), str ([112, 114, 111, 120, 121, 45, 99, 111, 110, 110, 101, 99, 116, 105, 111, 110] : Str), str ([112, 114, 111, 120, 121, 45, 97, 117, 116, 104, 101, 110, 116, 105, 99, 97, 116, 101] : Str), str ([112, 114, 111, 120, 121, 45, 97, 117, 116, 104, 111, 114, 105, 122, 97, 116, 105, 111, 110] : Str), str ([116, 101] : Str), str ([116, 114, 97, 105, 108, 101, 114] : Str), str ([116, 114, 97, 110, 115, 102, 101, 114, 45, 101, 110, 99, 111, 100, 105, 110, 103] : Str), str ([117, 112, 103, 114, 97, 100, 101] : Str)]) qb1 rfl rfl (fun _ _ => rfl) rfl rfl rfl ?_ fun ce => ?_
 · conv => whnf
   refine cT (cT (cT (cT (cT (cT (cT (cT ?_)))))))
   refine cT ?_
   first | done | rfl
 refine cb hm fun bj bL hm => ckx (JcJ bL :) ?_
 rintro _ _ _ ⟨bo, bw, rfl, bc, rfl⟩
 refine ro (qak rfl ?_)
 obtain ⟨bF, hm⟩ := qaw hm
 obtain ⟨s0, aY, hm⟩ := bnd hm
 refine lD (σ := ((List Str)) × Option Addr × Nat) ([3,5,6,7,9] ++ rg 17 24) [0, 2] (fun i0 => [(17, .int .i64 (i0 : Int))]) (fun (t0, aS, aW) => [(3, .slice aS t0.length aW)]) (fun (t0, aS, aW) => [qas eS aS 9 1 aW t0]) (fun (t0, aS, aW) => (0 < t0.length → Has aS) ∧ True) (fun i0 (t0, aS, aW) => JbM n (bj.drop i0) i0 t0 = some s0) (fun (t0, aS, aW) => t0 = s0) (fun i0 => bj.length - i0) 0 (_, _, _) aY (And.intro qe (And.intro ?_ ?_))
 clear aY
 rintro i0 ⟨ac, bu, bm⟩ ⟨bh, _⟩ aY j0
 conv at aY => whnf
 refine qac rfl ?_
 refine qae ?_ ?_ <;> intro w0
 obtain ⟨e0, bb, bR⟩ := ltx w0
 rw [bR, JbM.eq_2] at aY
 refine qal rfl ?_
 refine RStep.ofN (qad rfl rfl (qcu bc bb) (nn _) (qff rfl bb) (ro (qbz (i := i0) (o := 0) r1 rfl bb rfl rfl ?_)))
 refine cb aY fun bz bQ aY => ck0 (qgu bQ :) ?_
 rintro _ _ _ ⟨br, bl, rfl, bd, rfl⟩
 refine qa6 rfl ?_
 refine cs rfl rfl aY ?_ ?_ <;> intro ca aY
 refine cT (qam (qbu bb bF) ?_)
 exact eR aY (_, _, _, _)
 refine ro (qak rfl ?_)
 obtain ⟨bV, aY⟩ := qaw aY
 obtain ⟨s2, a6, aY⟩ := bnd aY
 refine lD (σ := ((List Str)) × Option Addr × Nat) ([3,9] ++ rg 30 10) [0, 2, 3] (fun i2 => [(30, .int .i64 (i2 : Int))]) (fun (t2, aT, aX) => [(3, .slice aT t2.length aX)]) (fun (t2, aT, aX) => [qas eS aT 9 1 aX t2]) (fun (t2, aT, aX) => (0 < t2.length → Has aT) ∧ True) (fun i2 (t2, aT, aX) => Jca (bz.1.drop i2) i2 t2 = some s2) (fun (t2, aT, aX) => t2 = s2) (fun i2 => bz.1.length - i2) 0 (_, _, _) a6 (And.intro qe (And.intro ?_ ?_))
 clear a6
 rintro i2 ⟨bX, bD, bg⟩ ⟨bv, _⟩ a6 j2
 conv at a6 => whnf
 refine qac rfl ?_
 refine qae ?_ ?_ <;> intro w2
 obtain ⟨e2, bf, bK⟩ := ltx w2
 rw [bK, Jca.eq_2] at a6
 refine qal rfl ?_
 refine RStep.ofN (qad rfl rfl (qcu bd bf) (nn _) (qff rfl bf) (ro (qbz (i := i2) (o := 0) r1 rfl bf rfl rfl ?_)))
 refine cb a6 fun bt bY a6 => cg0 (JaI bY :) ?_
 refine bsO (len := 1) (enc := eS) (l := [bt]) (cl := [str bt]) qb1 rfl rfl (fun _ _ => rfl) rfl rfl rfl ?_ fun cu => ?_
 · conv => whnf
   refine cT ?_
   first | done | rfl
 obtain ⟨bT, a6⟩ := qaw a6
 refine apE rfl r1 qb1 (qay rfl r0 rfl (fun _ => rfl) (fun _ => rfl)) bT ?_
 intro cj cy cA
 refine qam (qbu bf bV) ?_
 exact eR a6 (_, _, _, _)
 rw [lty w2, Jca.eq_1] at a6
 refine cT ?_
 exact eM a6 (_, _, _)
 rintro ⟨t2, aT, aX⟩ ⟨bn, _⟩ rfl j2
 refine qam (qbu bb bF) ?_
 exact eR aY (_, _, _, _)
 rw [lty w0, JbM.eq_1] at aY
 refine cT ?_
 exact eM aY (_, _, _)
 rintro ⟨t0, aS, aW⟩ ⟨bB, _⟩ rfl j0
 refine ro (qak rfl ?_)
 obtain ⟨bG, hm⟩ := qaw hm
 obtain ⟨s4, aZ, hm⟩ := bnd hm
 refine qhd Jc.enc 41 2 ?_
 refine lD (σ := ((List Jc)) × Option Addr × Nat) ([10,12] ++ rg 43 15) [1, 2, 3] (fun i4 => [(43, .int .i64 (i4 : Int))]) (fun (t4, aU, aV) => [(10, .slice aU t4.length aV)]) (fun (t4, aU, aV) => [qas Jc.enc aU 41 2 aV t4]) (fun (t4, aU, aV) => (0 < t4.length → Has aU) ∧ True) (fun i4 (t4, aU, aV) => JbN t0 (f.drop i4) i4 t4 = some s4) (fun (t4, aU, aV) => t4 = s4) (fun i4 => f.length - i4) 0 (_, _, _) aZ (And.intro qe (And.intro ?_ ?_))
 clear aZ
 rintro i4 ⟨bN, bJ, bp⟩ ⟨bA, _⟩ aZ j4
 conv at aZ => whnf
 refine qac rfl ?_
 refine qae ?_ ?_ <;> intro w4
 obtain ⟨e4, ba, bS⟩ := ltx w4
 rw [bS, JbN.eq_2] at aZ
 refine qal rfl ?_
 refine RStep.ofN (qad rfl rfl (qfs ae.rd ba) (nn _) (qbo ba) (ro (qan i4 _ ae.rd rfl (mp ba) rfl ?_)))
 refine qai rfl fun cz => ?_
 refine qaa r0 rfl ⟨rfl, rfl, (nl rfl), ?_⟩
 refine fa rfl (ro (ld r0 rfl rfl ?_))
 refine cb aZ fun bO bU aZ => cg0 (JaI bU :) ?_
 refine cb aZ fun bZ bW aZ => ck0 (Fn.lend Tryz.call53 (fun bC bI a8 => (JM (v' := bO) bW ⟨a8, rfl⟩)) (by exact fun _ _ _ _ h => h)) ?_
 rintro _ _ _ ⟨_, rfl, rfl, rfl⟩
 refine qau ?_
 refine cs rfl rfl aZ ?_ ?_ <;> intro cm aZ
 refine ro (qab r1 rfl (nl rfl) ?_)
 refine bsO (len := 1) (enc := Jc.enc) (l := [e4]) (cl := [str e4.Name, str e4.Value]) qe6 rfl rfl (fun _ _ => rfl) rfl rfl rfl ?_ fun cr => ?_
 · conv => whnf
   refine cT ?_
   first | done | rfl
 obtain ⟨bM, aZ⟩ := qaw aZ
 refine apE rfl r3 qe6 (qay rfl r0 rfl (fun _ => rfl) (fun _ => rfl)) bM ?_
 intro cw cn co
 refine qam (qbu ba bG) ?_
 exact eR aZ (_, _, _, _)
 refine qam (qbu ba bG) ?_
 exact eR aZ (_, _, _, _)
 rw [lty w4, JbN.eq_1] at aZ
 refine cT ?_
 exact eM aZ (_, _, _)
 rintro ⟨t4, aU, aV⟩ ⟨bH, _⟩ rfl j4
 exact eE hm

def Jbt (x9 : Str) : List Jc → Nat → (List Jc) → Option ((List Jc))
  | [], _, ac => some ac
  | e0 :: aS, i0, ac =>
    (Ja1 e0.Name).bind fun aT =>
    if decide (aT ≠ x9) then
    (chk (ac.length + [e0].length ≤ lim)).bind fun _ =>
    Jbt x9 aS (i0 + 1) (ac ++ [e0])
    else
    Jbt x9 aS (i0 + 1) ac
def JdH (f : (List Jc)) (name : Str) : Option ((List Jc)) :=
  (Ja1 name).bind fun x9 =>
  (chk (f.length ≤ qbh)).bind fun _ =>
  (Jbt x9 f 0 []).bind fun t0 =>
  some t0
theorem Jep {f : (List Jc)} {name : Str} {aa : Option Addr} {ab : Nat} {n0 : Nat} {K : Hp} {r : (List Jc)}
    (hm : JdH f name = some r) (hX : RdC Jc.enc K aa ab 2 f ∧ n0 = f.length) :
    Fn Tryz.prog 72 [.slice aa n0 ab, str name] K [] (fun v K' H' => ∃ ar_0 : Option Addr, ∃ cr_0 : Nat, v = .slice ar_0 r.length cr_0 ∧ (0 < r.length → Has ar_0) ∧ H' = [qas Jc.enc ar_0 41 2 cr_0 r]) := by
 obtain ⟨ae, bb⟩ := hX
 subst bb
 refine Fn.enter Tryz.func72 Tryz.call72 rfl fun F => ?_
 unfold JdH at hm
 refine cb hm fun x9 q9 hm => cg0 (JaI q9 :) ?_
 refine ro (qak rfl ?_)
 obtain ⟨aY, hm⟩ := qaw hm
 obtain ⟨s0, aU, hm⟩ := bnd hm
 refine qhd Jc.enc 41 2 ?_
 refine lD (σ := ((List Jc)) × Option Addr × Nat) ([5,7] ++ rg 12 14) [1] (fun i0 => [(12, .int .i64 (i0 : Int))]) (fun (t0, aS, aT) => [(5, .slice aS t0.length aT)]) (fun (t0, aS, aT) => [qas Jc.enc aS 41 2 aT t0]) (fun (t0, aS, aT) => (0 < t0.length → Has aS) ∧ True) (fun i0 (t0, aS, aT) => Jbt x9 (f.drop i0) i0 t0 = some s0) (fun (t0, aS, aT) => t0 = s0) (fun i0 => f.length - i0) 0 (_, _, _) aU (And.intro qe (And.intro ?_ ?_))
 clear aU
 rintro i0 ⟨ac, a6, aZ⟩ ⟨aW, _⟩ aU j0
 conv at aU => whnf
 refine qac rfl ?_
 refine qae ?_ ?_ <;> intro w0
 obtain ⟨e0, aV, bc⟩ := ltx w0
 rw [bc, Jbt.eq_2] at aU
 refine qal rfl ?_
 refine RStep.ofN (qad rfl rfl (qfs ae.rd aV) (nn _) (qbo aV) (ro (qan i0 _ ae.rd rfl (mp aV) rfl ?_)))
 refine qai rfl fun b7 => ?_
 refine qaa r0 rfl ⟨rfl, rfl, (nl rfl), ?_⟩
 refine fa rfl (ro (ld r0 rfl rfl ?_))
 refine cb aU fun bh a8 aU => cg0 (JaI a8 :) ?_
 refine qbn (cs rfl rfl aU ?_ ?_) <;> intro bf aU
 refine ro (qab r0 rfl (nl rfl) ?_)
 refine bsO (len := 1) (enc := Jc.enc) (l := [e0]) (cl := [str e0.Name, str e0.Value]) qe6 rfl rfl (fun _ _ => rfl) rfl rfl rfl ?_ fun bd => ?_
 · conv => whnf
   refine cT ?_
   first | done | rfl
 obtain ⟨ba, aU⟩ := qaw aU
 refine apE rfl r2 qe6 (qay rfl r0 rfl (fun _ => rfl) (fun _ => rfl)) ba ?_
 intro bj bl bg
 refine qam (qbu aV aY) ?_
 exact eR aU (_, _, _, _)
 refine qam (qbu aV aY) ?_
 exact eR aU (_, _, _, _)
 rw [lty w0, Jbt.eq_1] at aU
 refine cT ?_
 exact eM aU (_, _, _)
 rintro ⟨t0, aS, aT⟩ ⟨aX, _⟩ rfl j0
 exact eE hm

def qb2 (x : Jc) : Option (Bool) :=
  (qco x.Name).bind fun x5 =>
  (Jao x5 ([113, 117, 97, 121, 45] : Str)).bind fun x6 =>
  some x6
theorem qcx {x : Jc} {K : Hp} {r : Bool}
    (hm : qb2 x = some r)  :
    Fn Tryz.prog 74 [.agg #[str x.Name, str x.Value]] K [] (fun v K' H' => v = .bool r ∧ H' = []) := by
 refine Fn.enter Tryz.func74 Tryz.call74 rfl fun F => ?_
 unfold qb2 at hm
 refine qaq ?_
 intro b1
 refine fa rfl (ro (ld r0 rfl rfl ?_))
 refine cb hm fun x5 q5 hm => cg0 (qdr q5 :) ?_
 refine cb hm fun x6 q6 hm => cg0 (JaA q6 :) ?_
 exact eE hm

def JJ : List Jc → Nat → Option (Fl (Int) (Unit))
  | [], _ => some (Fl.go ())
  | e0 :: aS, i0 =>
    (qb2 e0).bind fun aT =>
    if aT then
    some (Fl.ret (i0 : Int))
    else
    JJ aS (i0 + 1)
def Jac (s : (List Jc)) : Option (Int) :=
  (chk (s.length ≤ qbh)).bind fun _ =>
  (JJ s 0).bind fun s0 => s0.el some fun t0 =>
  some (-1)
theorem JbG {s : (List Jc)} {aa : Option Addr} {ab : Nat} {n0 : Nat} {K : Hp} {r : Int}
    (hm : Jac s = some r) (hX : RdC Jc.enc K aa ab 2 s ∧ n0 = s.length) :
    Fn Tryz.prog 127 [.slice aa n0 ab, .func (.func 74) #[] #[]] K [] (fun v K' H' => v = .int .i64 r ∧ H' = []) := by
 obtain ⟨ae, aU⟩ := hX
 subst aU
 refine Fn.enter Tryz.func127 Tryz.call127 rfl fun F => ?_
 unfold Jac at hm
 refine ro (qak rfl ?_)
 obtain ⟨aV, hm⟩ := qaw hm
 obtain ⟨s0, aS, hm⟩ := bnd hm
 refine lD (σ := (Unit)) ([4,5] ++ rg 8 11) [0] (fun i0 => [(8, .int .i64 (i0 : Int))]) (fun _ => []) (fun _ => []) (fun _ => True) (fun i0 _ => JJ (s.drop i0) i0 = some s0) (fun t0 => s0 = Fl.go t0) (fun i0 => s.length - i0) 0 () aS (And.intro qe (And.intro ?_ ?_))
 clear aS
 rintro i0 _ _ aS j0
 conv at aS => whnf
 refine qac rfl ?_
 refine qae ?_ ?_ <;> intro w0
 obtain ⟨e0, aT, aW⟩ := ltx w0
 rw [aW, JJ.eq_2] at aS
 refine qal rfl ?_
 refine RStep.ofN (qad rfl rfl (qfs ae.rd aT) (nn _) (qbo aT) (ro (qan i0 _ ae.rd rfl (mp aT) rfl ?_)))
 refine cb aS fun aZ aX aS => cg0 (qcx aX :) ?_
 refine cs rfl rfl aS ?_ ?_ <;> intro aY aS
 exact eE (er aS hm)
 refine qam (qbu aT aV) ?_
 exact eR aS (_, ())
 rw [lty w0, JJ.eq_1] at aS
 refine cT ?_
 exact eM aS _
 rintro t0 _ rfl j0
 replace hm := elg hm
 exact eE hm

def JC (s : (List Jc)) : Nat → Int → Int → (List Jc) → Option (Int × Int × (List Jc))
  | 0, _, _, _ => none
  | aU + 1, ac, aS, aT =>
    if decide (aS < (s.length : Int)) then
    (ix aT aS).bind fun aV =>
    (qb2 aV).bind fun aW =>
    if (!aW) then
    (ix aT ac).bind fun aX =>
    (chk (InI (ac + 1))).bind fun _ =>
    (chk (InI (aS + 1))).bind fun _ =>
    JC s aU (ac + 1) (aS + 1) (aT.set ((ac).toNat) aV)
    else
    (chk (InI (aS + 1))).bind fun _ =>
    JC s aU ac (aS + 1) aT
    else
    some (ac, aS, aT)
def J6 (n : Nat) (s : (List Jc)) : Option ((List Jc)) :=
  (Jac s).bind fun aS =>
  if decide (aS = (-1)) then
  some s
  else
  (chk (InI (aS + 1))).bind fun _ =>
  (JC s n aS (aS + 1) s).bind fun t0 =>
  (chk (0 ≤ t0.1 ∧ t0.1 ≤ (t0.2.2.length : Int) ∧ (t0.2.2.length : Int) ≤ (t0.2.2.length : Int))).bind fun _ =>
  (chk (0 ≤ (0 : Int) ∧ (0 : Int) ≤ t0.1 ∧ t0.1 ≤ ((SL.clr t0.2.2 (Int.toNat t0.1) (⟨([] : Str), ([] : Str)⟩ : Jc)).length : Int))).bind fun _ =>
  some (subL (SL.clr t0.2.2 (Int.toNat t0.1) (⟨([] : Str), ([] : Str)⟩ : Jc)) (0 : Int) t0.1)
theorem Jbi {n : Nat} {s : (List Jc)} {aa : Option Addr} {ab : Nat} {n0 : Nat} {K : Hp} {r : (List Jc)}
    (hm : J6 n s = some r) (hX : (0 < s.length → Has aa) ∧ n0 = s.length) :
    Fn Tryz.prog 73 [.slice aa n0 ab, .func (.func 74) #[] #[]] K [qas Jc.enc aa 41 2 ab s] (fun v K' H' => ∃ ar_0 : Option Addr, ∃ cr_0 : Nat, v = .slice ar_0 r.length cr_0 ∧ (0 < r.length → Has ar_0) ∧ H' = [qas Jc.enc ar_0 41 2 cr_0 r]) := by
 obtain ⟨ae, bl⟩ := hX
 subst bl
 refine Fn.enter Tryz.func73 Tryz.call73 rfl fun F => ?_
 unfold J6 at hm
 refine cb hm fun br bn hm => ck0 (Fn.lend Tryz.call127 (fun bc bg aX => (JbG bn ⟨aX, rfl⟩)) (by exact fun _ _ _ _ h => h)) ?_
 rintro _ _ _ ⟨_, rfl, rfl, rfl⟩
 refine qaf (cs rfl rfl hm ?_ ?_) <;> intro bt hm
 exact eE hm
 refine ci hm fun hm => ?_
 obtain ⟨s0, aS, hm⟩ := bnd hm
 refine lD (σ := (Int × Int × (List Jc))) ([5,6,7] ++ rg 16 20) [1] (fun _ => []) (fun t0 => [(5, .int .i64 t0.1), (6, .int .i64 t0.2.1)]) (fun t0 => [qas Jc.enc aa 41 2 ab t0.2.2]) (fun t0 => (0 < t0.2.2.length → Has aa) ∧ s.length = t0.2.2.length) (fun i0 t0 => JC s i0 t0.1 t0.2.1 t0.2.2 = some s0) (fun t0 => t0 = s0) (fun i0 => i0) n (_, _, _) aS (And.intro qe (And.intro ?_ ?_))
 clear aS
 rintro i0 ⟨ac, aW, a8⟩ ⟨aU, aT⟩ aS j0
 dsimp only at aS ⊢
 cases i0 with
 | zero => rw [JC.eq_1] at aS; cases aS
 | succ i0 =>
  rw [JC.eq_2] at aS
  refine ro (qak rfl ?_)
  refine cs rfl rfl aS ?_ ?_ <;> intro bu aS
  refine qal rfl ?_
  obtain ⟨bh, bb, a6, aS⟩ := ixb aS
  refine RStep.ofN (qad rfl rfl (qcu aU a6) bb (qax aT bb a6) (ro (qhy (i := (aW).toNat) r0 rfl a6 rfl rfl ?_)))
  refine qai rfl fun b7 => ?_
  refine qaa r0 rfl ⟨rfl, rfl, (nl rfl), ?_⟩
  refine ro (qab r0 rfl (nl rfl) ?_)
  refine cb aS fun bp bm aS => cg0 (qcx bm :) ?_
  refine qau ?_
  refine cs rfl rfl aS ?_ ?_ <;> intro bo aS
  refine ro (qab r0 rfl (nl rfl) ?_)
  obtain ⟨bj, bd, ba, aS⟩ := ixb aS
  refine RStep.ofN (qad rfl rfl (qcu aU ba) bd (qax aT bd ba) ?_)
  refine qex (o := 0) (y := bh) bj r1 rfl ba rfl (by (conv => whnf); exact ⟨rfl, rfl, (nl rfl), rfl, rfl, rfl⟩) ?_
  refine ci aS fun aS => ?_
  refine ci aS fun aS => ?_
  exact rd (i0, ((ac + 1), (aW + 1), (a8.set ((ac).toNat) bh))) ⟨rfl, rfl, trivial⟩ rfl (sc [0,1] rfl) lr (Nat.lt_succ_self _) ⟨⟨(by first | simpa using aU | exact fun _ => ⟨_, _, rfl⟩), ((aT).trans List.length_set.symm)⟩, aS⟩
  refine ci aS fun aS => ?_
  exact eR aS (_, (_, _, _))
  refine cT ?_
  exact eM aS _
 rintro t0 ⟨aY, aV⟩ rfl j0
 obtain ⟨aZ, hm⟩ := qaw hm
 refine qos (l := t0.2.2) (lo := (some t0.1)) (hi := none) aV r0 (by simp) rfl rfl aZ ?_
 refine qpx (lo := (Int.toNat t0.1)) (x := (⟨([] : Str), ([] : Str)⟩ : Jc)) r0 rfl rfl rfl rfl rfl (by decide) (qqq (css := t0.2.2) rfl aZ) (qpp (css := t0.2.2) rfl aZ) ?_
 obtain ⟨bf, hm⟩ := qaw hm
 refine qmr (l := (SL.clr t0.2.2 (Int.toNat t0.1) (⟨([] : Str), ([] : Str)⟩ : Jc))) (hi := (some t0.1)) ((aV).trans (qot aZ).symm) r0 (by simp) rfl rfl bf ?_
 obtain rfl := si hm
 refine tkE t0.1 r0 ?_
 exact en lr ⟨aa, ab, rfl, (fun h => (fun h => aY (qou h)) (qgk bf h)), rfl⟩ (pf rfl)

def tenant_upstream_L0 : Nat → Nat → (List Jc) → Option ((List Jc))
  | 0, _, ac => some ac
  | aT + 1, i0, ac =>
    (ix ([([104, 111, 115, 116] : Str), ([114, 97, 110, 103, 101] : Str), ([105, 102, 45, 114, 97, 110, 103, 101] : Str), ([105, 102, 45, 109, 97, 116, 99, 104] : Str), ([105, 102, 45, 110, 111, 110, 101, 45, 109, 97, 116, 99, 104] : Str), ([105, 102, 45, 109, 111, 100, 105, 102, 105, 101, 100, 45, 115, 105, 110, 99, 101] : Str), ([105, 102, 45, 117, 110, 109, 111, 100, 105, 102, 105, 101, 100, 45, 115, 105, 110, 99, 101] : Str)]) (i0 : Int)).bind fun aU =>
    (JdH ac aU).bind fun aS =>
    tenant_upstream_L0 aT (i0 + 1) aS
def tenant_upstream_L2 : List Jc → Nat → (List Jc) → Option ((List Jc))
  | [], _, aS => some aS
  | e2 :: aT, i2, aS =>
    (JdZ aS e2.Name e2.Value).bind fun aU =>
    tenant_upstream_L2 aT (i2 + 1) aU
def qcg (n : Nat) (f : (List Jc)) (headers : (List Jc)) : Option ((List Jc)) :=
  (JdV n f).bind fun aT =>
  (chk (InI (7 : Int))).bind fun _ =>
  (tenant_upstream_L0 (7 : Int).toNat 0 aT).bind fun t0 =>
  (J6 n t0).bind fun aS =>
  (chk (headers.length ≤ qbh)).bind fun _ =>
  (tenant_upstream_L2 headers 0 aS).bind fun t2 =>
  some t2
theorem qej {n : Nat} {f : (List Jc)} {headers : (List Jc)} {aa : Option Addr} {ab : Nat} {n0 : Nat} {af : Option Addr} {ag : Nat} {n1 : Nat} {K : Hp} {r : (List Jc)}
    (hm : qcg n f headers = some r) (hX : RdC Jc.enc K aa ab 2 f ∧ n0 = f.length ∧ RdC Jc.enc K af ag 2 headers ∧ n1 = headers.length) :
    Fn Tryz.prog 41 [.slice aa n0 ab, .slice af n1 ag] K [] (fun v K' H' => ∃ ar_0 : Option Addr, ∃ cr_0 : Nat, v = .slice ar_0 r.length cr_0 ∧ (0 < r.length → Has ar_0) ∧ H' = [qas Jc.enc ar_0 41 2 cr_0 r]) := by
 obtain ⟨ae, bK, ai, bR⟩ := hX
 subst bK
 subst bR
 refine Fn.enter Tryz.func41 Tryz.call41 rfl fun F => ?_
 unfold qcg at hm
 refine cb hm fun bU bO hm => ckx (Jeu bO :) ?_
 rintro _ _ _ ⟨bb, bd, rfl, bB, rfl⟩
 refine bsO (len := 7) (enc := eS) (l := [([104, 111, 115, 116] : Str), ([114, 97, 110, 103, 101] : Str), ([105, 102, 45, 114, 97, 110, 103, 101] : Str), ([105, 102, 45, 109, 97, 116, 99, 104] : Str), ([105, 102, 45, 110, 111, 110, 101, 45, 109, 97, 116, 99, 104] : Str), ([105, 102, 45, 109, 111, 100, 105, 102, 105, 101, 100, 45, 115, 105, 110, 99, 101] : Str), ([105, 102, 45, 117, 110, 109, 111, 100, 105, 102, 105, 101, 100, 45, 115, 105, 110, 99, 101] : Str)]) (cl := [str ([104, 111, 115, 116] : Str), str ([114, 97, 110, 103, 101] : Str), str ([105, 102, 45, 114, 97, 110, 103, 101] : Str), str ([105, 102, 45, 109, 97, 116, 99, 104] : Str), str ([105, 102, 45, 110, 111, 110, 101, 45, 109, 97, 116, 99, 104] : Str), str ([105, 102, 45, 109, 111, 100, 105, 102, 105, 101, 100, 45, 115, 105, 110, 99, 101] : Str), str ([105, 102, 45, 117, 110, 109, 111, 100, 105, 102, 105, 101, 100, 45, 115, 105, 110, 99, 101] : Str)]) qb1 rfl rfl (fun _ _ => rfl) rfl rfl rfl ?_ fun bW => ?_
 · conv => whnf
   refine cT (cT (cT (cT (cT (cT (cT ?_))))))
   first | done | rfl
 refine ro (qak rfl ?_)
 obtain ⟨bN, hm⟩ := qaw hm
 obtain ⟨s0, aW, hm⟩ := bnd hm
 refine lD (σ := ((List Jc)) × Option Addr × Nat) ([5,7] ++ rg 14 8) [0, 2] (fun i0 => [(14, .int .i64 (i0 : Int))]) (fun (t0, aS, aU) => [(5, .slice aS t0.length aU)]) (fun (t0, aS, aU) => [qas Jc.enc aS 41 2 aU t0]) (fun (t0, aS, aU) => (0 < t0.length → Has aS) ∧ True) (fun i0 (t0, aS, aU) => tenant_upstream_L0 ((7 : Int).toNat - i0) i0 t0 = some s0) (fun (t0, aS, aU) => t0 = s0) (fun i0 => (7 : Int).toNat - i0) 0 (_, _, _) aW (And.intro qe (And.intro ?_ ?_))
 clear aW
 rintro i0 ⟨ac, bm, bg⟩ ⟨bc, _⟩ aW j0
 conv at aW => whnf
 refine qac rfl ?_
 refine qae ?_ ?_ <;> intro w0
 rw [ltn (n := (7 : Int)) w0, tenant_upstream_L0.eq_2] at aW
 refine qal rfl ?_
 obtain ⟨bP, bv, a8, aW⟩ := ixb aW
 refine RStep.ofN (qad rfl rfl (qcu (fun _ => ⟨_, _, rfl⟩) a8) bv (qax rfl bv a8) (ro (qbz (i := ((i0 : Int)).toNat) (o := 0) r1 rfl a8 rfl rfl ?_)))
 refine cb aW fun bV bI aW => ck0 (Fn.lend Tryz.call72 (fun bF bG aZ => (Jep (name := bP) bI ⟨aZ, rfl⟩)) (by exact fun _ _ _ _ h => h)) ?_
 rintro _ _ _ ⟨_, rfl, br, bw, rfl, bD, rfl⟩
 refine qam (qiy w0 bN) ?_
 exact eR aW (_, _, _, _)
 rw [lto (n := (7 : Int)) w0, tenant_upstream_L0.eq_1] at aW
 refine cT ?_
 exact eM aW (_, _, _)
 rintro ⟨t0, aS, aU⟩ ⟨bt, _⟩ rfl j0
 refine cb hm fun bT bL hm => ckx (Jbi bL :) ?_
 rintro _ _ _ ⟨bj, bf, rfl, bC, rfl⟩
 refine ro (qak rfl ?_)
 obtain ⟨bM, hm⟩ := qaw hm
 obtain ⟨s2, aX, hm⟩ := bnd hm
 refine lD (σ := ((List Jc)) × Option Addr × Nat) ([5,9] ++ rg 26 11) [1, 2] (fun i2 => [(26, .int .i64 (i2 : Int))]) (fun (t2, aT, aV) => [(5, .slice aT t2.length aV)]) (fun (t2, aT, aV) => [qas Jc.enc aT 41 2 aV t2]) (fun (t2, aT, aV) => (0 < t2.length → Has aT) ∧ True) (fun i2 (t2, aT, aV) => tenant_upstream_L2 (headers.drop i2) i2 t2 = some s2) (fun (t2, aT, aV) => t2 = s2) (fun i2 => headers.length - i2) 0 (_, _, _) aX (And.intro qe (And.intro ?_ ?_))
 clear aX
 rintro i2 ⟨bQ, bu, ba⟩ ⟨bn, _⟩ aX j2
 conv at aX => whnf
 refine qac rfl ?_
 refine qae ?_ ?_ <;> intro w2
 obtain ⟨e2, a6, bH⟩ := ltx w2
 rw [bH, tenant_upstream_L2.eq_2] at aX
 refine qal rfl ?_
 refine RStep.ofN (qad rfl rfl (qfs ai.rd a6) (nn _) (qbo a6) (ro (qan i2 _ ai.rd rfl (mp a6) rfl ?_)))
 refine qai rfl fun b9 => ?_
 refine qaa r0 rfl ⟨rfl, rfl, (nl rfl), ?_⟩
 refine fa rfl (ro (ld r0 rfl rfl (fa rfl (ro (ld r0 rfl rfl ?_)))))
 refine cb aX fun bS bJ aX => ck0 (Fn.lend Tryz.call21 (fun bA bo aY => (Jeh (name := e2.Name) (value := e2.Value) bJ ⟨aY, rfl⟩)) (by exact fun _ _ _ _ h => h)) ?_
 rintro _ _ _ ⟨_, rfl, bz, bp, rfl, bl, rfl⟩
 refine qam (qbu a6 bM) ?_
 exact eR aX (_, _, _, _)
 rw [lty w2, tenant_upstream_L2.eq_1] at aX
 refine cT ?_
 exact eM aX (_, _, _)
 rintro ⟨t2, aT, aV⟩ ⟨bh, _⟩ rfl j2
 exact eE hm

def tags_good_L0 : List UInt8 → Nat → Option (Fl (Bool) (Unit))
  | [], _ => some (Fl.go ())
  | e0 :: aS, i0 =>
    (if decide ((e0.toNat : Int) < 33) then some true else some (decide ((e0.toNat : Int) > 126))).bind fun aT =>
    if aT then
    some (Fl.ret false)
    else
    tags_good_L0 aS (i0 + 1)
def qf7 (s : Str) : Option (Bool) :=
  if (decide ((s.length : Int) < 1) || decide ((s.length : Int) > 32)) then
  some false
  else
  (chk (s.length ≤ qbh)).bind fun _ =>
  (tags_good_L0 s 0).bind fun s0 => s0.el some fun t0 =>
  some true
theorem qh8 {s : Str} {K : Hp} {r : Bool}
    (hm : qf7 s = some r)  :
    Fn Tryz.prog 129 [str s] K [] (fun v K' H' => v = .bool r ∧ H' = []) := by
 refine Fn.enter Tryz.func129 Tryz.call129 rfl fun F => ?_
 unfold qf7 at hm
 refine jR (σ := Unit) (rg 4 8) (fun _ => [(11, .bool (decide ((s.length : Int) < 1) || decide ((s.length : Int) > 32)))]) (fun aY => True) ?_ ?_
 refine qaj rfl ?_
 refine ro (qa3 rfl ?_)
 refine qae ?_ ?_ <;> intro aU
 refine ct aU (ct aU (ct aU ?_))
 exact eMt () ⟨bq (((qbq aU)).symm), trivial⟩
 refine cf aU (ro (qa3 rfl (cf aU (cf aU ?_))))
 exact eMt () ⟨bq (qgx (b := decide ((s.length : Int) > 32)) aU), trivial⟩
 rintro _ _ a8
 refine cs rfl rfl hm ?_ ?_ <;> intro ba hm
 exact eE hm
 refine ro (qa3 rfl ?_)
 obtain ⟨aZ, hm⟩ := qaw hm
 obtain ⟨s0, aT, hm⟩ := bnd hm
 refine lD (σ := (Unit)) ([2,3] ++ rg 14 14) [0] (fun i0 => [(14, .int .i64 (i0 : Int))]) (fun _ => []) (fun _ => []) (fun _ => True) (fun i0 _ => tags_good_L0 (s.drop i0) i0 = some s0) (fun t0 => s0 = Fl.go t0) (fun i0 => s.length - i0) 0 () aT (And.intro qe (And.intro ?_ ?_))
 clear aT
 rintro i0 _ _ aT j0
 conv at aT => whnf
 refine qac rfl ?_
 refine qae ?_ ?_ <;> intro w0
 obtain ⟨e0, aW, a6⟩ := ltx w0
 rw [a6, tags_good_L0.eq_2] at aT
 refine qal rfl ?_
 refine qaj rfl ?_
 refine qaz rfl (nn _) aW ?_
 obtain ⟨bb, aV, aT⟩ := bnd aT
 refine cS aV (fun aS aV => ?_) fun aS aV => ?_
 refine ct aS (ct aS (ct aS (ct aS (qac rfl (cT ?_)))))
 replace aT := ift (si aV).symm aT
 exact eE (er aT hm)
 refine cf aS (cf aS (qaz rfl (nn _) aW (cf aS (cf aS (qac rfl ?_)))))
 refine qae ?_ ?_ <;> intro aX
 replace aT := ift ((si aV).symm.trans aX) aT
 exact eE (er aT hm)
 replace aT := qba ((si aV).symm.trans aX) aT
 refine qam (qbu aW aZ) ?_
 exact eR aT (_, ())
 rw [lty w0, tags_good_L0.eq_1] at aT
 refine cT ?_
 exact eM aT _
 rintro t0 _ rfl j0
 replace hm := elg hm
 exact eE hm

def tags_Clean_L2 (s : Str) : Nat → Int → Option (Int)
  | 0, _ => none
  | aV + 1, aS =>
    (if decide (aS < (s.length : Int)) then (ix s aS).bind fun aX =>
    some (decide ((aX.toNat : Int) ≠ 32)) else some false).bind fun aW =>
    (if aW then (ix s aS).bind fun aU =>
    some (decide ((aU.toNat : Int) ≠ 9)) else some false).bind fun aT =>
    if aT then
    (chk (InI (aS + 1))).bind fun _ =>
    tags_Clean_L2 s aV (aS + 1)
    else
    some aS
def tags_Clean_L0 (s : Str) (n : Nat) : Nat → (List Str) → Int → Option (Fl ((List Str) × Err) ((List Str) × Int))
  | 0, _, _ => none
  | aT + 1, ac, aS =>
    if decide (aS < (s.length : Int)) then
    (((ix s aS).bind fun aY =>
    (if decide ((aY.toNat : Int) = 32) then some true else (ix s aS).bind fun aW =>
    some (decide ((aW.toNat : Int) = 9))).bind fun aX =>
    some aX) : Option (Bool)).bind fun aU =>
    if aU then
    (chk (InI (aS + 1))).bind fun _ =>
    tags_Clean_L0 s n aT ac (aS + 1)
    else
    (tags_Clean_L2 s n aS).bind fun t2 =>
    (chk (0 ≤ aS ∧ aS ≤ t2 ∧ t2 ≤ (s.length : Int))).bind fun _ =>
    (qf7 (subL s aS t2)).bind fun aZ =>
    if (!aZ) then
    some (Fl.ret ([], (some 2)))
    else
    (if decide ((ac.length : Int) < 16) then (JK ac (subL s aS t2)).bind fun aV =>
    some (!aV) else some false).bind fun a6 =>
    if a6 then
    (chk (ac.length + [(subL s aS t2)].length ≤ lim)).bind fun _ =>
    tags_Clean_L0 s n aT (ac ++ [(subL s aS t2)]) t2
    else
    tags_Clean_L0 s n aT ac t2
    else
    some (Fl.go (ac, aS))
def qe9 (n : Nat) (s : Str) : Option ((List Str) × Err) :=
  (tags_Clean_L0 s n n [] 0).bind fun s0 => s0.el some fun t0 =>
  (qft t0.1).bind fun aS =>
  some (aS, none)
theorem qho {n : Nat} {s : Str} {K : Hp} {r : (List Str) × Err}
    (hm : qe9 n s = some r)  :
    Fn Tryz.prog 76 [str s] K [] (fun v K' H' => ∃ ar_0 : Option Addr, ∃ cr_0 : Nat, v = .tuple #[.slice ar_0 r.1.length cr_0, qcs 48 r.2] ∧ (0 < r.1.length → Has ar_0) ∧ H' = [qas eS ar_0 9 1 cr_0 r.1]) := by
 refine Fn.enter Tryz.func76 Tryz.call76 rfl fun F => ?_
 unfold qe9 at hm
 obtain ⟨s0, aS, hm⟩ := bnd hm
 refine qhd eS 9 1 ?_
 refine lD (σ := ((List Str) × Int) × Option Addr × Nat) (rg 2 63) [1] (fun _ => []) (fun (t0, aV, aZ) => [(4, .slice aV t0.1.length aZ), (5, .int .i64 t0.2)]) (fun (t0, aV, aZ) => [qas eS aV 9 1 aZ t0.1]) (fun (t0, aV, aZ) => (0 < t0.1.length → Has aV) ∧ True) (fun i0 (t0, aV, aZ) => tags_Clean_L0 s n i0 t0.1 t0.2 = some s0) (fun (t0, aV, aZ) => s0 = Fl.go t0) (fun i0 => i0) n ((_, _), _, _) aS (And.intro qe (And.intro ?_ ?_))
 clear aS
 rintro i0 ⟨⟨ac, ba⟩, br, bn⟩ ⟨bm, _⟩ aS j0
 dsimp only at aS ⊢
 cases i0 with
 | zero => rw [tags_Clean_L0.eq_1] at aS; cases aS
 | succ i0 =>
  rw [tags_Clean_L0.eq_2] at aS
  refine ro (qa3 rfl ?_)
  refine cs rfl rfl aS ?_ ?_ <;> intro bO aS
  refine qal rfl ?_
  obtain ⟨bl, a6, aS⟩ := bnd aS
  refine jR (σ := Bool) (rg 12 10) (fun bb => [(21, .bool bb)]) (fun bb => bb = bl) ?_ ?_
  refine qaj rfl ?_
  obtain ⟨ce, bv, bI, a6⟩ := ixb a6
  refine qaz rfl bv bI (qaf ?_)
  obtain ⟨bU, bf, a6⟩ := bnd a6
  refine cS bf (fun aX bf => ?_) fun aX bf => ?_
  refine ct aX (ct aX (ct aX (ct aX ?_)))
  exact eMq a6 _ ⟨bq (si bf), trivial⟩
  refine cf aX (cf aX ?_)
  obtain ⟨bY, bw, bJ, bf⟩ := ixb bf
  refine qaz rfl bw bJ (cf aX (qaf (cf aX ?_)))
  exact eMq a6 _ ⟨bq (si bf), trivial⟩
  rintro bb rfl bC
  refine cs rfl rfl aS ?_ ?_ <;> intro bT aS
  obtain ⟨bF, aS⟩ := qaw aS
  refine qam bF (cT ?_)
  exact eR aS (_, (_, _), _, _)
  obtain ⟨s2, aY, aS⟩ := bnd aS
  refine lD (σ := (Int)) ([6] ++ rg 25 18) [0, 1] (fun _ => []) (fun t2 => [(6, .int .i64 t2)]) (fun _ => []) (fun _ => True) (fun i2 t2 => tags_Clean_L2 s i2 t2 = some s2) (fun t2 => t2 = s2) (fun i2 => i2) n _ aY (And.intro qe (And.intro ?_ ?_))
  clear aY
  rintro i2 bN _ aY j2
  conv at aY => whnf
  cases i2 with
  | zero => rw [tags_Clean_L2.eq_1] at aY; cases aY
  | succ i2 =>
   rw [tags_Clean_L2.eq_2] at aY
   refine qaj rfl ?_
   refine ro (qa3 rfl ?_)
   obtain ⟨bQ, bc, aY⟩ := bnd aY
   refine cS bc (fun aW bc => ?_) fun aW bc => ?_
   refine ct aW (ct aW ?_)
   obtain ⟨ca, bH, bM, bc⟩ := ixb bc
   refine qaz rfl bH bM (ct aW (qa8 (ct aW ?_)))
   obtain ⟨bD, a8, aY⟩ := bnd aY
   refine qae ?_ ?_ <;> intro aU
   replace a8 := ift ((si bc).symm.trans aU) a8
   refine ct aU (ct aU ?_)
   obtain ⟨bV, bB, bz, a8⟩ := ixb a8
   refine qaz rfl bB bz (ct aU (qa8 (ct aU (qac rfl ?_))))
   refine qae ?_ ?_ <;> intro bt
   replace aY := ift ((si a8).symm.trans bt) aY
   refine qal rfl ?_
   refine ci aY fun aY => ?_
   exact eR aY (_, _)
   replace aY := qba ((si a8).symm.trans bt) aY
   refine cT ?_
   exact eM aY _
   replace a8 := qba ((si bc).symm.trans aU) a8
   refine cf aU (cf aU (cf aU (cf aU (qac rfl (cF ?_)))))
   replace aY := qba (si a8).symm aY
   refine cT ?_
   exact eM aY _
   refine cf aW (cf aW (cf aW (cf aW ?_)))
   obtain ⟨bD, a8, aY⟩ := bnd aY
   replace a8 := qba (si bc).symm a8
   refine cF (cF (cF (cF (cF (qac rfl (cF ?_))))))
   replace aY := qba (si a8).symm aY
   refine cT ?_
   exact eM aY _
  rintro t2 _ rfl j2
  obtain ⟨bL, aS⟩ := qaw aS
  refine RStep.ofN (qdz (lo := (some ba)) (hi := (some t2)) rfl bL ?_)
  refine cb aS fun cj bK aS => cg0 (qh8 bK :) ?_
  refine qau ?_
  refine cs rfl rfl aS ?_ ?_ <;> intro bW aS
  refine qar rfl ?_
  refine qcj eS 9 1 ?_
  exact eE (er aS hm)
  refine qaj rfl ?_
  refine ro (qak rfl ?_)
  obtain ⟨bP, bd, aS⟩ := bnd aS
  refine cS bd (fun aT bd => ?_) fun aT bd => ?_
  refine ct aT (ct aT ?_)
  refine cb bd fun bS bG bd => ck0 (Fn.lend Tryz.call53 (fun bp bo bh => (JM (v' := (subL s ba t2)) bG ⟨bh, rfl⟩)) (by exact fun _ _ _ _ h => h)) ?_
  rintro _ _ _ ⟨_, rfl, rfl, rfl⟩
  refine ct aT (qau (ct aT (qac rfl ?_)))
  refine qae ?_ ?_ <;> intro bu
  replace aS := ift ((si bd).symm.trans (qef (qjb bu))) aS
  refine bsO (len := 1) (enc := eS) (l := [(subL s ba t2)]) (cl := [str (subL s ba t2)]) qb1 rfl rfl (fun _ _ => rfl) rfl rfl rfl ?_ fun bX => ?_
  · conv => whnf
    refine cT ?_
    first | done | rfl
  obtain ⟨bA, aS⟩ := qaw aS
  refine apE rfl r1 qb1 (qay rfl r0 rfl (fun _ => rfl) (fun _ => rfl)) bA ?_
  intro bR cn cm
  exact eR aS (_, (_, _), _, _)
  replace aS := qba ((si bd).symm.trans (qc5 (qhc bu))) aS
  exact eR aS (_, (_, _), _, _)
  refine cf aT (cf aT (cf aT (cf aT (qac rfl (cF ?_)))))
  replace aS := qba (si bd).symm aS
  exact eR aS (_, (_, _), _, _)
  refine cT ?_
  exact eM aS (_, _, _)
 rintro ⟨t0, aV, aZ⟩ ⟨bg, _⟩ rfl j0
 replace hm := elg hm
 refine cb hm fun bZ bj hm => cg0 (qde bj rfl) ?_
 cases hm
 exact en lr ⟨aV, aZ, (by rw [← (show _ = t0.1.length from Eq.symm ((Eq.trans (rfl) (qb5 bj).symm)))] <;> rfl), (fun h => bg (by rw [qb5 bj] at h; exact h)), rfl⟩ (pf rfl)

def tenant_words_L0 (n : Nat) : List Str → Nat → (List Str) → Option ((List Str))
  | [], _, ac => some ac
  | e0 :: aU, i0, ac =>
    (qe9 n e0).bind fun aS =>
    (((if (aS.2.isNone && decide ((aS.1.length : Int) = 1)) then (ix aS.1 0).bind fun aY =>
    some (decide (aY = e0)) else some false).bind fun aV =>
    (if (aV && decide ((ac.length : Int) < 16)) then (JK ac e0).bind fun aX =>
    some (!aX) else some false).bind fun aW =>
    some aW) : Option (Bool)).bind fun aT =>
    if aT then
    (chk (ac.length + [e0].length ≤ lim)).bind fun _ =>
    tenant_words_L0 n aU (i0 + 1) (ac ++ [e0])
    else
    tenant_words_L0 n aU (i0 + 1) ac
def qc6 (n : Nat) (list : (List Str)) : Option ((List Str)) :=
  (chk (list.length ≤ qbh)).bind fun _ =>
  (tenant_words_L0 n list 0 []).bind fun t0 =>
  (qft t0).bind fun aS =>
  some aS
theorem qf8 {n : Nat} {list : (List Str)} {aa : Option Addr} {ab : Nat} {n0 : Nat} {K : Hp} {r : (List Str)}
    (hm : qc6 n list = some r) (hX : RdC eS K aa ab 1 list ∧ n0 = list.length) :
    Fn Tryz.prog 43 [.slice aa n0 ab] K [] (fun v K' H' => ∃ ar_0 : Option Addr, ∃ cr_0 : Nat, v = .slice ar_0 r.length cr_0 ∧ (0 < r.length → Has ar_0) ∧ H' = [qas eS ar_0 9 1 cr_0 r]) := by
 obtain ⟨ae, bC⟩ := hX
 subst bC
 refine Fn.enter Tryz.func43 Tryz.call43 rfl fun F => ?_
 unfold qc6 at hm
 refine ro (qak rfl ?_)
 obtain ⟨bo, hm⟩ := qaw hm
 obtain ⟨s0, a6, hm⟩ := bnd hm
 refine qhd eS 9 1 ?_
 refine lD (σ := ((List Str)) × Option Addr × Nat) ([3,5,6,7] ++ rg 10 39) [1] (fun i0 => [(10, .int .i64 (i0 : Int))]) (fun (t0, aX, aY) => [(3, .slice aX t0.length aY)]) (fun (t0, aX, aY) => [qas eS aX 9 1 aY t0]) (fun (t0, aX, aY) => (0 < t0.length → Has aX) ∧ True) (fun i0 (t0, aX, aY) => tenant_words_L0 n (list.drop i0) i0 t0 = some s0) (fun (t0, aX, aY) => t0 = s0) (fun i0 => list.length - i0) 0 (_, _, _) a6 (And.intro qe (And.intro ?_ ?_))
 clear a6
 rintro i0 ⟨ac, bu, br⟩ ⟨bm, _⟩ a6 j0
 conv at a6 => whnf
 refine qac rfl ?_
 refine qae ?_ ?_ <;> intro w0
 obtain ⟨e0, bd, bD⟩ := ltx w0
 rw [bD, tenant_words_L0.eq_2] at a6
 refine qal rfl ?_
 refine RStep.ofN (qad rfl rfl (qfs ae.rd bd) (nn _) (qbo bd) (ro (qcv i0 0 _ _ ae.rd rfl (mp bd) rfl rfl ?_)))
 refine cb a6 fun bP bG a6 => ck0 (qho bG :) ?_
 rintro _ _ _ ⟨bn, bp, rfl, bf, rfl⟩
 obtain ⟨bh, aS, a6⟩ := bnd a6
 refine jR (σ := Bool) (rg 19 25) (fun ba => [(43, .bool ba)]) (fun ba => ba = bh) ?_ ?_
 refine qaj rfl ?_
 refine qdq rfl ?_
 refine qae ?_ ?_ <;> intro aV
 refine ct aV (ro (qak rfl (ct aV (qaf (ct aV ?_)))))
 obtain ⟨bA, a8, aS⟩ := bnd aS
 refine qae ?_ ?_ <;> intro aT
 replace a8 := ift (qa5 aV aT) a8
 refine ct aT ?_
 obtain ⟨bK, bw, bg, a8⟩ := ixb a8
 refine RStep.ofN (qad rfl rfl (qcu bf bg) bw (qax rfl bw bg) (ct aT (ro (qbz (i := (0 : Int).toNat) (o := 0) r0 rfl bg rfl rfl (ct aT (ct aT (qap (ct aT ?_))))))))
 refine qae ?_ ?_ <;> intro aW
 refine ct aW (ro (qak rfl (ct aW (ct aW ?_))))
 obtain ⟨bl, aZ, aS⟩ := bnd aS
 refine qae ?_ ?_ <;> intro aU
 replace aZ := ift (qa5 ((si a8).symm.trans aW) aU) aZ
 refine ct aU (ct aU ?_)
 refine cb aZ fun bM bz aZ => ck0 (Fn.lend Tryz.call53 (fun bt bv bc => (JM (v' := e0) bz ⟨bc, rfl⟩)) (by exact fun _ _ _ _ h => h)) ?_
 rintro _ _ _ ⟨_, rfl, rfl, rfl⟩
 refine ct aU (qau (ct aU ?_))
 exact eMq aS _ ⟨bq (si aZ), trivial⟩
 replace aZ := qba (qbs ((si a8).symm.trans aW) aU) aZ
 refine cf aU (cf aU (cf aU (cf aU ?_)))
 exact eMq aS _ ⟨bq (si aZ), trivial⟩
 refine cf aW (cf aW (cf aW ?_))
 obtain ⟨bl, aZ, aS⟩ := bnd aS
 replace aZ := qba (qav ((si a8).symm.trans aW)) aZ
 refine cF (cF (cF (cF (cF ?_))))
 exact eMq aS _ ⟨bq (si aZ), trivial⟩
 replace a8 := qba (qbs aV aT) a8
 refine cf aT (cf aT (cf aT (cf aT (cf aT (cF (cF (cF ?_)))))))
 refine cF ?_
 obtain ⟨bl, aZ, aS⟩ := bnd aS
 replace aZ := qba (qav (si a8).symm) aZ
 refine cF (cF (cF (cF (cF ?_))))
 exact eMq aS _ ⟨bq (si aZ), trivial⟩
 refine cf aV (cf aV (cf aV ?_))
 obtain ⟨bA, a8, aS⟩ := bnd aS
 replace a8 := qba (qav aV) a8
 refine cF (cF (cF (cF (cF (cF (cF (cF ?_)))))))
 refine cF (cF ?_)
 obtain ⟨bl, aZ, aS⟩ := bnd aS
 replace aZ := qba (qav (si a8).symm) aZ
 refine cF (cF (cF (cF (cF ?_))))
 exact eMq aS _ ⟨bq (si aZ), trivial⟩
 rintro ba rfl bF
 refine cs rfl rfl a6 ?_ ?_ <;> intro bH a6
 refine bsO (len := 1) (enc := eS) (l := [e0]) (cl := [str e0]) qb1 rfl rfl (fun _ _ => rfl) rfl rfl rfl ?_ fun bN => ?_
 · conv => whnf
   refine cT ?_
   first | done | rfl
 obtain ⟨bB, a6⟩ := qaw a6
 refine apE rfl r2 qb1 (qay rfl r0 rfl (fun _ => rfl) (fun _ => rfl)) bB ?_
 intro bO bI bJ
 refine qam (qbu bd bo) ?_
 exact eR a6 (_, _, _, _)
 refine qam (qbu bd bo) ?_
 exact eR a6 (_, _, _, _)
 rw [lty w0, tenant_words_L0.eq_1] at a6
 refine cT ?_
 exact eM a6 (_, _, _)
 rintro ⟨t0, aX, aY⟩ ⟨bb, _⟩ rfl j0
 refine cb hm fun bL bj hm => cg0 (qde bj rfl) ?_
 cases hm
 exact en lr ⟨aX, aY, (by rw [← (show _ = t0.length from Eq.symm ((Eq.trans (rfl) (qb5 bj).symm)))] <;> rfl), (fun h => bb (by rw [qb5 bj] at h; exact h)), rfl⟩ (pf rfl)

def qa2 (n : Nat) (d : JE) (r' : JU) : Option (Jz × Err) :=
  (JcI r'.Ao ([104, 111, 115, 116] : Str)).bind fun a8 =>
  if decide ((a8.length : Int) ≠ 1) then
  some ((⟨0, 0, 0, (⟨([] : Str), ([] : Str), ([] : Str), false⟩ : Jl), (⟨([] : Str), ([] : Str), ([] : Str), false⟩ : Jl), [], [], [], false, false⟩ : Jz), (some 8))
  else
  (ix a8 0).bind fun bd =>
  (qco bd).bind fun aU =>
  if (!(mget d.sites aU).isSome) then
  some ((⟨0, 0, 0, (⟨([] : Str), ([] : Str), ([] : Str), false⟩ : Jl), (⟨([] : Str), ([] : Str), ([] : Str), false⟩ : Jl), [], [], [], false, false⟩ : Jz), (some 8))
  else
  (JaJ n aU r'.Target).bind fun aT =>
  if aT.2.isSome then
  some ((⟨0, 0, 0, (⟨([] : Str), ([] : Str), ([] : Str), false⟩ : Jl), (⟨([] : Str), ([] : Str), ([] : Str), false⟩ : Jl), [], [], [], false, false⟩ : Jz), (some 27))
  else
  (JdI n (((mget d.sites aU).getD (⟨0, []⟩ : Jx)).code) (⟨r'.Am, aT.1.An, aT.1.Ae, aT.1.Af, r'.Ao⟩ : JV) 10000).bind fun aS =>
  if aS.2.isSome then
  some ((⟨0, 0, 0, (⟨([] : Str), ([] : Str), ([] : Str), false⟩ : Jl), (⟨([] : Str), ([] : Str), ([] : Str), false⟩ : Jl), [], [], [], false, false⟩ : Jz), aS.2)
  else
  (qcf aT.1 aS.1).bind fun ba =>
  (JaJ n aU ba).bind fun aY =>
  if aY.2.isSome then
  some ((⟨0, 0, 0, (⟨([] : Str), ([] : Str), ([] : Str), false⟩ : Jl), (⟨([] : Str), ([] : Str), ([] : Str), false⟩ : Jl), [], [], [], false, false⟩ : Jz), (some 27))
  else
  (Jby aS.1.Vary).bind fun bc =>
  (qft bc).bind fun bb =>
  (qcg n r'.Ao aS.1.Ag).bind fun aW =>
  (qdp bb).bind fun aV =>
  (qc6 n aS.1.Ah).bind fun aX =>
  if aS.1.Ak then
  some ((⟨((mget d.sites aU).getD (⟨0, []⟩ : Jx)).tenant, aS.1.TTL, aS.1.Ai, aT.1, aY.1, aW, aV, aX, true, aS.1.Al⟩ : Jz), none)
  else
  (if (decide (r'.Am ≠ ([71, 69, 84] : Str)) && decide (r'.Am ≠ ([72, 69, 65, 68] : Str))) then some true else (JcI r'.Ao ([97, 117, 116, 104, 111, 114, 105, 122, 97, 116, 105, 111, 110] : Str)).bind fun aZ =>
  some (decide ((aZ.length : Int) > 0))).bind fun a6 =>
  some ((⟨((mget d.sites aU).getD (⟨0, []⟩ : Jx)).tenant, aS.1.TTL, aS.1.Ai, aT.1, aY.1, aW, aV, aX, a6, aS.1.Al⟩ : Jz), none)
theorem qb6 {n : Nat} {d : JE} {r' : JU} {b0 : Nat} {aE : Nat} {aG : List (Str × EnD Jx)} {af : Option Addr} {ag : Nat} {K : Hp} {r : Jz × Err}
    (hm : qa2 n d r' = some r) (hX : MR Jx.R K aG d.sites ∧ RdC Jc.enc K af ag 2 r'.Ao ∧ GG K) :
    Fn Tryz.prog 13 [.pointer (some ⟨b0, 0, none⟩), .agg #[str r'.Am, str r'.Target, .slice af r'.Ao.length ag]] K [Cells b0 78 [.map (some aE)], qkr qkq vAg aE aG] (fun v K' H' => ∃ ar_0 : Option Addr, ∃ cr_0 : Nat, ∃ ar_1 : Option Addr, ∃ cr_1 : Nat, ∃ ar_2 : Option Addr, ∃ cr_2 : Nat, v = .tuple #[.agg #[.int .i64 r.1.Tenant, .int .i64 r.1.TTL, .int .i64 r.1.Ai, str r.1.Asked.An, str r.1.Asked.Ae, str r.1.Asked.Af, .bool r.1.Asked.HasQuery, str r.1.Cache.An, str r.1.Cache.Ae, str r.1.Cache.Af, .bool r.1.Cache.HasQuery, .slice ar_0 r.1.Ao.length cr_0, .slice ar_1 r.1.Vary.length cr_1, .slice ar_2 r.1.Ah.length cr_2, .bool r.1.Ak, .bool r.1.Al], qcs 48 r.2] ∧ (0 < r.1.Ao.length → Has ar_0) ∧ (0 < r.1.Vary.length → Has ar_1) ∧ (0 < r.1.Ah.length → Has ar_2) ∧ H' = [qas Jc.enc ar_0 41 2 cr_0 r.1.Ao, qas eS ar_1 9 1 cr_1 r.1.Vary, qas eS ar_2 9 1 cr_2 r.1.Ah, Cells b0 78 [.map (some aE)], qkr qkq vAg aE aG]) := by
 obtain ⟨bt, ai, hG⟩ := hX
 refine Fn.enter Tryz.func13 Tryz.call13 rfl fun F => ?_
 unfold qa2 at hm
 refine qaq ?_
 intro b3
 refine qai rfl fun b4 => ?_
 refine qg5 rfl ?_
 refine qac rfl (cF (fa rfl (ro (ld r1 rfl rfl ?_))))
 refine cb hm fun cC ce hm => ckx (JcJ ce :) ?_
 rintro _ _ _ ⟨bS, bV, rfl, bu, rfl⟩
 refine ro (qak rfl (qa8 ?_))
 refine cs rfl rfl hm ?_ ?_ <;> intro cw hm
 refine qag rfl rfl ?_
 refine qar rfl ?_
 refine qaa r1 rfl ⟨rfl, rfl, (nl rfl), ?_⟩
 refine ro (qab r0 rfl (nl rfl) ?_)
 refine qcj Jc.enc 41 2 ?_
 refine qcj eS 9 1 ?_
 refine qcj eS 9 1 ?_
 exact eE hm
 obtain ⟨cB, bW, bB, hm⟩ := ixb hm
 refine RStep.ofN (qad rfl rfl (qcu bu bB) bW (qax rfl bW bB) (ro (qbz (i := (0 : Int).toNat) (o := 0) r0 rfl bB rfl rfl ?_)))
 refine cb hm fun cG bY hm => cg0 (qdr bY :) ?_
 refine qah (fa rfl (ro (ld r3 rfl rfl (ro (qhl (kenc := qkq) (R := Jx.R) (zs := [.int .i64 0, .slice none 0 0]) (z := (⟨0, []⟩ : Jx)) r4 rfl rfl (qi8 rfl) bt (⟨none, 0, rfl, RdC.nil⟩) fun co bH => ?_)))))
 obtain ⟨bM, bT, rfl, bL⟩ := bH
 refine qai rfl fun b8 => ?_
 refine qaa r0 rfl ⟨rfl, rfl, (nl rfl), ?_⟩
 refine qau ?_
 refine cs rfl rfl hm ?_ ?_ <;> intro cI hm
 refine qag rfl rfl ?_
 refine qar rfl ?_
 refine qaa r2 rfl ⟨rfl, rfl, (nl rfl), ?_⟩
 refine ro (qab r0 rfl (nl rfl) ?_)
 refine qcj Jc.enc 41 2 ?_
 refine qcj eS 9 1 ?_
 refine qcj eS 9 1 ?_
 exact eE hm
 refine fa rfl (ro (ld r3 rfl rfl ?_))
 refine cb hm fun cM cr hm => cgx (Ja5 cr :) ?_
 refine qai rfl fun cy => ?_
 refine qaa r0 rfl ⟨rfl, rfl, (nl rfl), ?_⟩
 refine qa6 rfl ?_
 refine cs rfl rfl hm ?_ ?_ <;> intro cO hm
 refine qag rfl rfl ?_
 refine qar rfl ?_
 refine qaa r3 rfl ⟨rfl, rfl, (nl rfl), ?_⟩
 refine ro (qab r0 rfl (nl rfl) ?_)
 refine qcj Jc.enc 41 2 ?_
 refine qcj eS 9 1 ?_
 refine qcj eS 9 1 ?_
 exact eE hm
 refine fa rfl (ro (ld r1 rfl rfl (fa rfl (ro (ld r4 rfl rfl (fa rfl (ro (ld r0 rfl rfl (fa rfl (ro (ld r0 rfl rfl ?_)))))))))))
 refine fa rfl (ro (ld r0 rfl rfl (fa rfl (ro (ld r4 rfl rfl (qag rfl rfl (cT (cT (cT ?_)))))))))
 refine cT (cT ?_)
 refine cb hm fun cJ ca hm => ckx (Jey ca :) ?_
 rintro _ _ _ ⟨bK, bI, bQ, bP, bU, bJ, rfl, bN, bO, bR, rfl⟩
 refine qai rfl fun cL => ?_
 refine qaa r0 rfl ⟨rfl, rfl, (nl rfl), ?_⟩
 refine qa6 rfl ?_
 refine cs rfl rfl hm ?_ ?_ <;> intro cK hm
 refine qag rfl rfl ?_
 refine qaa r7 rfl ⟨rfl, rfl, (nl rfl), ?_⟩
 refine ro (qab r0 rfl (nl rfl) ?_)
 refine qcj Jc.enc 41 2 ?_
 refine qcj eS 9 1 ?_
 refine qcj eS 9 1 ?_
 exact eE hm
 refine ro (qab r4 rfl (nl rfl) (ro (qab r0 rfl (nl rfl) ?_)))
 refine fF Tryz.call38 r1 fun br aY bv => ?_
 refine fF Tryz.call38 r1 fun bp aX bz => ?_
 refine fF Tryz.call38 r1 fun bw aW bA => ?_
 refine cb hm fun cD bX hm => cgx (qfv bX :) ?_
 refine cb hm fun cE cm hm => cgx (Ja5 cm :) ?_
 refine qai rfl fun cz => ?_
 refine qaa r0 rfl ⟨rfl, rfl, (nl rfl), ?_⟩
 refine qa6 rfl ?_
 refine cs rfl rfl hm ?_ ?_ <;> intro cA hm
 refine qag rfl rfl ?_
 refine qar rfl ?_
 refine qaa r5 rfl ⟨rfl, rfl, (nl rfl), ?_⟩
 refine ro (qab r0 rfl (nl rfl) ?_)
 refine qcj Jc.enc 41 2 ?_
 refine qcj eS 9 1 ?_
 refine qcj eS 9 1 ?_
 exact eE hm
 refine fa rfl (ro (ld r1 rfl rfl ?_))
 refine cb hm fun cH cj hm => ckx (JdA cj :) ?_
 rintro _ _ _ ⟨bg, bd, rfl, bf, rfl⟩
 refine cb hm fun cN bo hm => cg0 (qde bo rfl) ?_
 refine qa4 ⟨⟨[], false⟩, _, [(_, _), (_, _), (_, _), (_, _), (_, _)], []⟩ (by kernel_rfl) ⟨Hp.Le.refl _, (sc [4,2,2,1,3] rfl), ci0⟩ ?_
 refine fa rfl (qao m0 rfl rfl (fa rfl (qao m1 rfl rfl (fa rfl (qao m1 rfl rfl (qcc m2 rfl (nl rfl) (qcc m3 rfl (nl rfl) ?_)))))))
 refine fa rfl (qao m4 rfl rfl (fa rfl (qao m1 rfl rfl ?_)))
 refine cb hm fun bZ bD hm => ckx (qej bD :) ?_
 rintro _ _ _ ⟨a6, ba, rfl, bb, rfl⟩
 refine qk (sc [5,3,3,2,4] rfl) ?_
 refine cb hm fun cn bh hm => cg0 (qfi bh (Eq.trans (rfl) (qb5 bo).symm)) ?_
 refine qk (sc [5,3,3,2,4] rfl) ?_
 refine fa rfl (qao m1 rfl rfl ?_)
 refine cb hm fun cu bC hm => ckx (qf8 bC :) ?_
 rintro _ _ _ ⟨a8, bc, rfl, aZ, rfl⟩
 refine qk (sc [6,4,4,3,5] rfl) ?_
 refine fa rfl (qao m1 rfl rfl (fa rfl (qao m1 rfl rfl ?_)))
 refine cS hm (fun aS hm => ?_) fun aS hm => ?_
 refine ct aS (ct aS (ct aS (ct aS (ct aS (cT (cT (cT ?_)))))))
 refine cT (cT (cT (qag rfl rfl (cT (cT (cT (cT ?_)))))))
 refine cT (cT (cT (cT (cT (cT ?_)))))
 refine qaa r8 rfl ⟨rfl, rfl, (nl rfl), ?_⟩
 refine qk (sc [7,5,5,4,5] rfl) ?_
 obtain rfl := si hm
 exact ro (qab r0 rfl (nl rfl) (en ((aY.trans aX).trans aW) ⟨a6, ba, bg, bd, a8, bc, rfl, bb, (fun h => (fun h => bf (by rw [qb5 bo] at h; exact h)) (qc9 bh h)), aZ, rfl⟩ (sc [3,2,1,7,7,7] rfl)))
 refine fa rfl (cf aS (qao m4 rfl rfl (cf aS (qbn (cf aS ?_)))))
 refine qae ?_ ?_ <;> intro aU
 refine fa rfl (ct aU (qao m4 rfl rfl (ct aU (qbn (cf aS (ct aU (cf aS ?_)))))))
 obtain ⟨bG, aV, hm⟩ := bnd hm
 refine qae ?_ ?_ <;> intro aT
 replace aV := ift (qa5 aU aT) aV
 refine ct aT (ct aT (ct aT (ct aT (ct aT (qag rfl rfl (cT (cT ?_)))))))
 refine cT (cT (cT (cT (cT (cT (cT (cT ?_)))))))
 refine qaa r8 rfl ⟨rfl, rfl, (nl rfl), ?_⟩
 refine qk (sc [7,5,5,4,5] rfl) ?_
 obtain rfl := si hm
 exact ro (qab r0 rfl (nl rfl) (en ((aY.trans aX).trans aW) ⟨a6, ba, bg, bd, a8, bc, (by rw [← ((si aV).symm).symm] <;> rfl), bb, (fun h => (fun h => bf (by rw [qb5 bo] at h; exact h)) (qc9 bh h)), aZ, rfl⟩ (sc [3,2,1,7,7,7] rfl)))
 replace aV := qba (qbs aU aT) aV
 refine fa rfl (cf aT (qao m4 rfl rfl (cf aT ?_)))
 refine cb aV fun bF bj aV => ckx (JcJ bj :) ?_
 rintro _ _ _ ⟨bm, bn, rfl, bl, rfl⟩
 refine qk (sc [7,5,5,4,6] rfl) ?_
 refine cf aT (qce rfl (cf aT (cf aT (qag rfl rfl (cT (cT (cT ?_)))))))
 refine cT (cT (cT (cT (cT (cT (cT ?_))))))
 refine qaa r9 rfl ⟨rfl, rfl, (nl rfl), ?_⟩
 refine qk (sc [8,6,6,5,6] rfl) ?_
 obtain rfl := si hm
 exact ro (qab r0 rfl (nl rfl) (en ((aY.trans aX).trans aW) ⟨a6, ba, bg, bd, a8, bc, (by rw [← (si aV)] <;> rfl), bb, (fun h => (fun h => bf (by rw [qb5 bo] at h; exact h)) (qc9 bh h)), aZ, rfl⟩ (sc [4,3,2,8,8,8] rfl)))
 refine cf aU (cf aU (cf aS (cf aU (cf aS ?_))))
 obtain ⟨bG, aV, hm⟩ := bnd hm
 replace aV := qba (qav aU) aV
 refine cF (fa rfl (cF (qao m4 rfl rfl (cF ?_))))
 refine cb aV fun bF bj aV => ckx (JcJ bj :) ?_
 rintro _ _ _ ⟨bm, bn, rfl, bl, rfl⟩
 refine qk (sc [7,5,5,4,6] rfl) ?_
 refine cF (qce rfl (cF (cF (qag rfl rfl (cT (cT (cT ?_)))))))
 refine cT (cT (cT (cT (cT (cT (cT ?_))))))
 refine qaa r9 rfl ⟨rfl, rfl, (nl rfl), ?_⟩
 refine qk (sc [8,6,6,5,6] rfl) ?_
 obtain rfl := si hm
 exact ro (qab r0 rfl (nl rfl) (en ((aY.trans aX).trans aW) ⟨a6, ba, bg, bd, a8, bc, (by rw [← (si aV)] <;> rfl), bb, (fun h => (fun h => bf (by rw [qb5 bo] at h; exact h)) (qc9 bh h)), aZ, rfl⟩ (sc [4,3,2,8,8,8] rfl)))

def Jds (n : Nat) (a : Jl) : Option (Bool) :=
  if ((!a.HasQuery) && decide (a.Af ≠ ([] : Str))) then
  some false
  else
  if a.HasQuery then
  (chk (([63] : Str).length + a.Af.length ≤ lim)).bind fun _ =>
  (chk (a.Ae.length + (([63] : Str) ++ a.Af).length ≤ lim)).bind fun _ =>
  (JaJ n a.An (a.Ae ++ (([63] : Str) ++ a.Af))).bind fun aS =>
  some (aS.2.isNone && (decide (a.An = aS.1.An) && (decide (a.Ae = aS.1.Ae) && (decide (a.Af = aS.1.Af) && (a.HasQuery == aS.1.HasQuery)))))
  else
  (JaJ n a.An a.Ae).bind fun aS =>
  some (aS.2.isNone && (decide (a.An = aS.1.An) && (decide (a.Ae = aS.1.Ae) && (decide (a.Af = aS.1.Af) && (a.HasQuery == aS.1.HasQuery)))))
theorem Jem {n : Nat} {a : Jl} {K : Hp} {r : Bool}
    (hm : Jds n a = some r) (hG : GG K) :
    Fn Tryz.prog 30 [.agg #[str a.An, str a.Ae, str a.Af, .bool a.HasQuery]] K [] (fun v K' H' => v = .bool r ∧ H' = []) := by
 refine Fn.enter Tryz.func30 Tryz.call30 rfl fun F => ?_
 unfold Jds at hm
 refine qaq ?_
 intro b1
 refine jR (σ := Unit) (rg 6 8) (fun _ => [(13, .bool ((!a.HasQuery) && decide (a.Af ≠ ([] : Str))))]) (fun aY => True) ?_ ?_
 refine qaj rfl ?_
 refine fa rfl (ro (ld r0 rfl rfl (qau ?_)))
 refine qae ?_ ?_ <;> intro aT
 refine fa rfl (ct aT (ro (ld r0 rfl rfl (ct aT (qbn (ct aT ?_))))))
 exact eMt () ⟨bq (qcw (b := decide (a.Af ≠ ([] : Str))) (qef (qjb aT))), trivial⟩
 refine cf aT (cf aT (cf aT ?_))
 exact eMt () ⟨bq (((qav (qc5 (qhc aT)))).symm), trivial⟩
 rintro _ _ aZ
 refine cs rfl rfl hm ?_ ?_ <;> intro a8 hm
 exact eE hm
 refine fa rfl (ro (ld r0 rfl rfl (fa rfl (ro (ld r0 rfl rfl ?_)))))
 refine cs rfl rfl hm ?_ ?_ <;> intro a6 hm
 refine fa rfl (ro (ld r0 rfl rfl ?_))
 obtain ⟨aW, hm⟩ := qaw hm
 refine qbt aW ?_
 obtain ⟨aX, hm⟩ := qaw hm
 refine qbt aX ?_
 refine fa rfl (ro (ld r0 rfl rfl ?_))
 refine cb hm fun aU aV hm => cgx (Ja5 aV :) ?_
 refine qai rfl fun b4 => ?_
 refine qaa r0 rfl ⟨rfl, rfl, (nl rfl), ?_⟩
 refine qaj rfl ?_
 refine qdq rfl ?_
 refine qae ?_ ?_ <;> intro aS
 refine ro (qab r1 rfl (nl rfl) (ct aS (ro (qab r0 rfl (nl rfl) (ct aS ?_)))))
 refine qgr (b := (decide (a.An = aU.1.An) && (decide (a.Ae = aU.1.Ae) && (decide (a.Af = aU.1.Af) && (a.HasQuery == aU.1.HasQuery))))) rfl (by kernel_rfl) (by kernel_rfl) (by kernel_rfl) rfl ?_
 refine ct aS ?_
 exact bE (qcw (b := (decide (a.An = aU.1.An) && (decide (a.Ae = aU.1.Ae) && (decide (a.Af = aU.1.Af) && (a.HasQuery == aU.1.HasQuery))))) aS) (eE hm)
 refine cf aS (cf aS (cf aS ?_))
 exact bE (((qav aS)).symm) (eE hm)
 refine fa rfl (ro (ld r0 rfl rfl ?_))
 refine cb hm fun aU aV hm => cgx (Ja5 aV :) ?_
 refine qai rfl fun b4 => ?_
 refine qaa r0 rfl ⟨rfl, rfl, (nl rfl), ?_⟩
 refine qaj rfl ?_
 refine qdq rfl ?_
 refine qae ?_ ?_ <;> intro aS
 refine ro (qab r1 rfl (nl rfl) (ct aS (ro (qab r0 rfl (nl rfl) (ct aS ?_)))))
 refine qgr (b := (decide (a.An = aU.1.An) && (decide (a.Ae = aU.1.Ae) && (decide (a.Af = aU.1.Af) && (a.HasQuery == aU.1.HasQuery))))) rfl (by kernel_rfl) (by kernel_rfl) (by kernel_rfl) rfl ?_
 refine ct aS ?_
 exact bE (qcw (b := (decide (a.An = aU.1.An) && (decide (a.Ae = aU.1.Ae) && (decide (a.Af = aU.1.Af) && (a.HasQuery == aU.1.HasQuery))))) aS) (eE hm)
 refine cf aS (cf aS (cf aS ?_))
 exact bE (((qav aS)).symm) (eE hm)

def Jdh (n : Nat) (a : Jl) : Option (Str × Err) :=
  (Jds n a).bind fun x5 =>
  if (!x5) then
  some (([] : Str), (some 2))
  else
  (Jcj a).bind fun x9 =>
  some (x9, none)
theorem Jee {n : Nat} {a : Jl} {K : Hp} {r : Str × Err}
    (hm : Jdh n a = some r) (hG : GG K) :
    Fn Tryz.prog 57 [.agg #[str a.An, str a.Ae, str a.Af, .bool a.HasQuery]] K [] (fun v K' H' => v = .tuple #[str r.1, qcs 48 r.2] ∧ H' = []) := by
 refine Fn.enter Tryz.func57 Tryz.call57 rfl fun F => ?_
 unfold Jdh at hm
 refine qaq ?_
 intro b1
 refine ro (qab r0 rfl (nl rfl) ?_)
 refine cb hm fun x5 q5 hm => cgx (Jem q5 :) ?_
 refine qau ?_
 refine cs rfl rfl hm ?_ ?_ <;> intro w6 hm
 refine qar rfl ?_
 exact eE hm
 refine ro (qab r0 rfl (nl rfl) ?_)
 refine cb hm fun x9 q9 hm => cg0 (JdC q9 :) ?_
 exact eE hm

def qd9 (n : Nat) (p : Jz) : Option (Str) :=
  (Jdh n p.Cache).bind fun x8 =>
  if x8.2.isSome then
  (qky p.Tenant).bind fun aS =>
  (chk (aS.length + ([32] : Str).length ≤ lim)).bind fun _ =>
  (chk ((aS ++ ([32] : Str)).length + ([] : Str).length ≤ lim)).bind fun _ =>
  some ((aS ++ ([32] : Str)) ++ ([] : Str))
  else
  (qky p.Tenant).bind fun aS =>
  (chk (aS.length + ([32] : Str).length ≤ lim)).bind fun _ =>
  (chk ((aS ++ ([32] : Str)).length + x8.1.length ≤ lim)).bind fun _ =>
  some ((aS ++ ([32] : Str)) ++ x8.1)
theorem qgv {n : Nat} {p : Jz} {aa : Option Addr} {ab : Nat} {ah : Option Addr} {ak : Nat} {am : Option Addr} {ao : Nat} {K : Hp} {r : Str}
    (hm : qd9 n p = some r) (hX : RdC Jc.enc K aa ab 2 p.Ao ∧ RdC eS K ah ak 1 p.Vary ∧ RdC eS K am ao 1 p.Ah ∧ GG K) :
    Fn Tryz.prog 31 [.agg #[.int .i64 p.Tenant, .int .i64 p.TTL, .int .i64 p.Ai, str p.Asked.An, str p.Asked.Ae, str p.Asked.Af, .bool p.Asked.HasQuery, str p.Cache.An, str p.Cache.Ae, str p.Cache.Af, .bool p.Cache.HasQuery, .slice aa p.Ao.length ab, .slice ah p.Vary.length ak, .slice am p.Ah.length ao, .bool p.Ak, .bool p.Al]] K [] (fun v K' H' => v = str r ∧ H' = []) := by
 obtain ⟨ae, aV, aW, hG⟩ := hX
 refine Fn.enter Tryz.func31 Tryz.call31 rfl fun F => ?_
 unfold qd9 at hm
 refine qaq ?_
 intro b1
 refine fa rfl (ro (qab r0 rfl (nl rfl) ?_))
 refine cb hm fun x8 q8 hm => cgx (Jee q8 :) ?_
 refine qa6 rfl ?_
 refine cs rfl rfl hm ?_ ?_ <;> intro aY hm
 refine fa rfl (ro (ld r0 rfl rfl ?_))
 refine cb hm fun aX aS hm => cg0 (qjx aS (gg4 hG)) ?_
 obtain ⟨aU, hm⟩ := qaw hm
 refine qbt aU ?_
 obtain ⟨aT, hm⟩ := qaw hm
 refine qbt aT ?_
 exact eE hm
 refine fa rfl (ro (ld r0 rfl rfl ?_))
 refine cb hm fun aX aS hm => cg0 (qjx aS (gg4 hG)) ?_
 obtain ⟨aU, hm⟩ := qaw hm
 refine qbt aU ?_
 obtain ⟨aT, hm⟩ := qaw hm
 refine qbt aT ?_
 exact eE hm
