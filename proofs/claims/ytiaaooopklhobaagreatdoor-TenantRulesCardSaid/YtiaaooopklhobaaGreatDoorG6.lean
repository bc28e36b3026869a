/- Functions of the program: mirrors, and that a call returns what the mirror says. Printed by gen.py. -/
import Derived.Test.YtiaaooopklhobaaGreatDoorG5
set_option linter.unusedVariables false
set_option linter.unusedSimpArgs false
open Go Go.SL Go.Proofs
noncomputable section
set_option maxRecDepth 1000000
set_option maxHeartbeats 8000000
def J3 (m : Jh) (atZ : Int) (x : Jg) : Option (Int × Err × Jh) :=
  (chk (InI (m.result.Aj + 1))).bind fun _ =>
  if decide ((m.result.Aj + 1) > m.most) then
  some (0, (some 13), (⟨m.Aq, m.most, (⟨m.result.Ae, m.result.Af, m.result.Ag, m.result.Vary, m.result.Ah, m.result.TTL, m.result.Ai, (m.result.Aj + 1), m.result.Ak, m.result.Al⟩ : Jp), m.stack, m.Ap⟩ : Jh))
  else
  (chk (InI (atZ + 1))).bind fun _ =>
  if decide (x.Op = 1) then
  (Jb8 x.N).bind fun bu =>
  (J2 (⟨m.Aq, m.most, (⟨m.result.Ae, m.result.Af, m.result.Ag, m.result.Vary, m.result.Ah, m.result.TTL, m.result.Ai, (m.result.Aj + 1), m.result.Ak, m.result.Al⟩ : Jp), m.stack, m.Ap⟩ : Jh) bu false).bind fun bh =>
  some ((atZ + 1), bh.1, (⟨m.Aq, bh.2.most, bh.2.result, bh.2.stack, bh.2.Ap⟩ : Jh))
  else
  if decide (x.Op = 2) then
  (JaL x.S).bind fun br =>
  (J2 (⟨m.Aq, m.most, (⟨m.result.Ae, m.result.Af, m.result.Ag, m.result.Vary, m.result.Ah, m.result.TTL, m.result.Ai, (m.result.Aj + 1), m.result.Ak, m.result.Al⟩ : Jp), m.stack, m.Ap⟩ : Jh) br false).bind fun bg =>
  some ((atZ + 1), bg.1, (⟨m.Aq, bg.2.most, bg.2.result, bg.2.stack, bg.2.Ap⟩ : Jh))
  else
  if decide (x.Op = 3) then
  (ix m.Ap x.N).bind fun bp =>
  (J2 (⟨m.Aq, m.most, (⟨m.result.Ae, m.result.Af, m.result.Ag, m.result.Vary, m.result.Ah, m.result.TTL, m.result.Ai, (m.result.Aj + 1), m.result.Ak, m.result.Al⟩ : Jp), m.stack, m.Ap⟩ : Jh) bp false).bind fun bf =>
  some ((atZ + 1), bf.1, (⟨m.Aq, bf.2.most, bf.2.result, bf.2.stack, bf.2.Ap⟩ : Jh))
  else
  if decide (x.Op = 5) then
  (JcN x.S m.Aq).bind fun bt =>
  (J2 (⟨m.Aq, m.most, (⟨m.result.Ae, m.result.Af, m.result.Ag, m.result.Vary, m.result.Ah, m.result.TTL, m.result.Ai, (m.result.Aj + 1), m.result.Ak, m.result.Al⟩ : Jp), m.stack, m.Ap⟩ : Jh) bt false).bind fun bj =>
  some ((atZ + 1), bj.1, (⟨m.Aq, bj.2.most, bj.2.result, bj.2.stack, bj.2.Ap⟩ : Jh))
  else
  if decide (x.Op = 4) then
  (Jam (⟨m.Aq, m.most, (⟨m.result.Ae, m.result.Af, m.result.Ag, m.result.Vary, m.result.Ah, m.result.TTL, m.result.Ai, (m.result.Aj + 1), m.result.Ak, m.result.Al⟩ : Jp), m.stack, m.Ap⟩ : Jh)).bind fun bc =>
  (ix bc.2.Ap x.N).bind fun bv =>
  some ((atZ + 1), none, (⟨m.Aq, bc.2.most, bc.2.result, bc.2.stack, (bc.2.Ap.set ((x.N).toNat) bc.1)⟩ : Jh))
  else
  if decide (x.Op = 6) then
  (Jam (⟨m.Aq, m.most, (⟨m.result.Ae, m.result.Af, m.result.Ag, m.result.Vary, m.result.Ah, m.result.TTL, m.result.Ai, (m.result.Aj + 1), m.result.Ak, m.result.Al⟩ : Jp), m.stack, m.Ap⟩ : Jh)).bind fun bb =>
  (JdZ x.S bb.1 m.Aq).bind fun bl =>
  if (!bl.2) then
  some (0, (some 9), (⟨m.Aq, bb.2.most, bb.2.result, bb.2.stack, bb.2.Ap⟩ : Jh))
  else
  (J2 (⟨m.Aq, bb.2.most, bb.2.result, bb.2.stack, bb.2.Ap⟩ : Jh) bl.1 true).bind fun a6 =>
  some ((atZ + 1), a6.1, (⟨m.Aq, a6.2.most, a6.2.result, a6.2.stack, a6.2.Ap⟩ : Jh))
  else
  if decide (x.Op = 7) then
  (Jam (⟨m.Aq, m.most, (⟨m.result.Ae, m.result.Af, m.result.Ag, m.result.Vary, m.result.Ah, m.result.TTL, m.result.Ai, (m.result.Aj + 1), m.result.Ak, m.result.Al⟩ : Jp), m.stack, m.Ap⟩ : Jh)).bind fun a8 =>
  (Jam (⟨m.Aq, a8.2.most, a8.2.result, a8.2.stack, a8.2.Ap⟩ : Jh)).bind fun aW =>
  (Jdr x.S aW.1 a8.1).bind fun bd =>
  if (!bd.2) then
  some (0, (some 9), (⟨m.Aq, aW.2.most, aW.2.result, aW.2.stack, aW.2.Ap⟩ : Jh))
  else
  (J2 (⟨m.Aq, aW.2.most, aW.2.result, aW.2.stack, aW.2.Ap⟩ : Jh) bd.1 true).bind fun aY =>
  some ((atZ + 1), aY.1, (⟨m.Aq, aY.2.most, aY.2.result, aY.2.stack, aY.2.Ap⟩ : Jh))
  else
  if decide (x.Op = 8) then
  (Jam (⟨m.Aq, m.most, (⟨m.result.Ae, m.result.Af, m.result.Ag, m.result.Vary, m.result.Ah, m.result.TTL, m.result.Ai, (m.result.Aj + 1), m.result.Ak, m.result.Al⟩ : Jp), m.stack, m.Ap⟩ : Jh)).bind fun aV =>
  if decide (aV.1.kind ≠ 3) then
  some (0, (some 9), (⟨m.Aq, aV.2.most, aV.2.result, aV.2.stack, aV.2.Ap⟩ : Jh))
  else
  (Jbh (!aV.1.As)).bind fun bm =>
  (J2 (⟨m.Aq, aV.2.most, aV.2.result, aV.2.stack, aV.2.Ap⟩ : Jh) bm false).bind fun aZ =>
  some ((atZ + 1), aZ.1, (⟨m.Aq, aZ.2.most, aZ.2.result, aZ.2.stack, aZ.2.Ap⟩ : Jh))
  else
  if decide (x.Op = 9) then
  some (x.N, none, (⟨m.Aq, m.most, (⟨m.result.Ae, m.result.Af, m.result.Ag, m.result.Vary, m.result.Ah, m.result.TTL, m.result.Ai, (m.result.Aj + 1), m.result.Ak, m.result.Al⟩ : Jp), m.stack, m.Ap⟩ : Jh))
  else
  if decide (x.Op = 10) then
  (Jam (⟨m.Aq, m.most, (⟨m.result.Ae, m.result.Af, m.result.Ag, m.result.Vary, m.result.Ah, m.result.TTL, m.result.Ai, (m.result.Aj + 1), m.result.Ak, m.result.Al⟩ : Jp), m.stack, m.Ap⟩ : Jh)).bind fun aU =>
  if decide (aU.1.kind ≠ 3) then
  some (0, (some 9), (⟨m.Aq, aU.2.most, aU.2.result, aU.2.stack, aU.2.Ap⟩ : Jh))
  else
  if (!aU.1.As) then
  some (x.N, none, (⟨m.Aq, aU.2.most, aU.2.result, aU.2.stack, aU.2.Ap⟩ : Jh))
  else
  some ((atZ + 1), none, (⟨m.Aq, aU.2.most, aU.2.result, aU.2.stack, aU.2.Ap⟩ : Jh))
  else
  if decide (x.Op = 11) then
  (if (decide (x.S ≠ ([112, 97, 115, 115] : Str)) && decide (x.S ≠ ([116, 111, 107, 101, 110] : Str))) then (JA x.S ([118, 97, 114, 121, 58] : Str)).bind fun bn =>
  some (!bn) else some false).bind fun bo =>
  ((if bo then
  (Jam (⟨m.Aq, m.most, (⟨m.result.Ae, m.result.Af, m.result.Ag, m.result.Vary, m.result.Ah, m.result.TTL, m.result.Ai, (m.result.Aj + 1), m.result.Ak, m.result.Al⟩ : Jp), m.stack, m.Ap⟩ : Jh)).bind fun aX =>
  some (aX.1.kind, aX.1.n, aX.1.s, aX.1.As, (⟨m.Aq, aX.2.most, aX.2.result, aX.2.stack, aX.2.Ap⟩ : Jh))
  else
  some (0, 0, ([] : Str), false, (⟨m.Aq, m.most, (⟨m.result.Ae, m.result.Af, m.result.Ag, m.result.Vary, m.result.Ah, m.result.TTL, m.result.Ai, (m.result.Aj + 1), m.result.Ak, m.result.Al⟩ : Jp), m.stack, m.Ap⟩ : Jh)) : Option (Int × Int × Str × Bool × Jh))).bind fun aT =>
  (JG aT.2.2.2.2.result x.S (⟨aT.1, aT.2.1, aT.2.2.1, aT.2.2.2.1⟩ : Jk)).bind fun ba =>
  if ba.1.isSome then
  some (0, ba.1, (⟨m.Aq, aT.2.2.2.2.most, ba.2, aT.2.2.2.2.stack, aT.2.2.2.2.Ap⟩ : Jh))
  else
  if decide (x.S = ([100, 101, 110, 121] : Str)) then
  some ((-1), none, (⟨m.Aq, aT.2.2.2.2.most, ba.2, aT.2.2.2.2.stack, aT.2.2.2.2.Ap⟩ : Jh))
  else
  some ((atZ + 1), none, (⟨m.Aq, aT.2.2.2.2.most, ba.2, aT.2.2.2.2.stack, aT.2.2.2.2.Ap⟩ : Jh))
  else
  if decide (x.Op = 12) then
  some ((-1), none, (⟨m.Aq, m.most, (⟨m.result.Ae, m.result.Af, m.result.Ag, m.result.Vary, m.result.Ah, m.result.TTL, m.result.Ai, (m.result.Aj + 1), m.result.Ak, m.result.Al⟩ : Jp), m.stack, m.Ap⟩ : Jh))
  else
  some ((atZ + 1), none, (⟨m.Aq, m.most, (⟨m.result.Ae, m.result.Af, m.result.Ag, m.result.Vary, m.result.Ah, m.result.TTL, m.result.Ai, (m.result.Aj + 1), m.result.Ak, m.result.Al⟩ : Jp), m.stack, m.Ap⟩ : Jh))
theorem JdK {m : Jh} {atZ : Int} {x : Jg} {b0 : Nat} {aa : Option Addr} {ab : Nat} {ah : Option Addr} {ak : Nat} {am : Option Addr} {au : Nat} {aw : Option Addr} {ay : Nat} {ax : Option Addr} {az : Nat} {K : Hp} {r : Int × Err × Jh}
    (hm : J3 m atZ x = some r) (hX : RdC Jc.enc K aa ab 2 m.Aq.Ao ∧ (0 < m.result.Ag.length → Has ah) ∧ (0 < m.result.Vary.length → Has am) ∧ (0 < m.result.Ah.length → Has aw) ∧ (0 < m.stack.length → Has ax) ∧ m.Ap.length = 512 ∧ GG K) :
    Fn Tryz.prog 69 [.pointer (some ⟨b0, 0, none⟩), .int .i64 atZ, .agg #[.int .i64 x.Op, .int .i64 x.N, str x.S]] K [Cells b0 131 ((str m.Aq.Am) :: (str m.Aq.An) :: (str m.Aq.Ae) :: (str m.Aq.Af) :: (.slice aa m.Aq.Ao.length ab) :: (.int .i64 m.most) :: (str m.result.Ae) :: (str m.result.Af) :: (.slice ah m.result.Ag.length ak) :: (.slice am m.result.Vary.length au) :: (.slice aw m.result.Ah.length ay) :: (.int .i64 m.result.TTL) :: (.int .i64 m.result.Ai) :: (.int .i64 m.result.Aj) :: (.bool m.result.Ak) :: (.bool m.result.Al) :: (.slice ax m.stack.length az) :: (m.Ap.map Jk.enc).flatten), qau Jc.enc ah 41 2 ak m.result.Ag, qau eS am 9 1 au m.result.Vary, qau eS aw 9 1 ay m.result.Ah, qau Jk.enc ax 128 4 az m.stack] (fun v K' H' => ∃ ar_0 : Option Addr, ∃ cr_0 : Nat, ∃ ar_1 : Option Addr, ∃ cr_1 : Nat, ∃ ar_2 : Option Addr, ∃ cr_2 : Nat, ∃ ar_3 : Option Addr, ∃ cr_3 : Nat, v = .tuple #[.int .i64 r.1, qc5 48 r.2.1] ∧ (0 < r.2.2.result.Ag.length → Has ar_0) ∧ (0 < r.2.2.result.Vary.length → Has ar_1) ∧ (0 < r.2.2.result.Ah.length → Has ar_2) ∧ (0 < r.2.2.stack.length → Has ar_3) ∧ r.2.2.Ap.length = 512 ∧ H' = [Cells b0 131 ((str m.Aq.Am) :: (str m.Aq.An) :: (str m.Aq.Ae) :: (str m.Aq.Af) :: (.slice aa m.Aq.Ao.length ab) :: (.int .i64 r.2.2.most) :: (str r.2.2.result.Ae) :: (str r.2.2.result.Af) :: (.slice ar_0 r.2.2.result.Ag.length cr_0) :: (.slice ar_1 r.2.2.result.Vary.length cr_1) :: (.slice ar_2 r.2.2.result.Ah.length cr_2) :: (.int .i64 r.2.2.result.TTL) :: (.int .i64 r.2.2.result.Ai) :: (.int .i64 r.2.2.result.Aj) :: (.bool r.2.2.result.Ak) :: (.bool r.2.2.result.Al) :: (.slice ar_3 r.2.2.stack.length cr_3) :: (r.2.2.Ap.map Jk.enc).flatten), qau Jc.enc ar_0 41 2 cr_0 r.2.2.result.Ag, qau eS ar_1 9 1 cr_1 r.2.2.result.Vary, qau eS ar_2 9 1 cr_2 r.2.2.result.Ah, qau Jk.enc ar_3 128 4 cr_3 r.2.2.stack]) := by
 obtain ⟨ae, fp, fe, fY, eY, bH, hG⟩ := hX
 refine Fn.enter Tryz.func69 Tryz.call69 rfl fun F => ?_
 unfold J3 at hm
 refine qas ?_
 intro b5
 refine qaj (fa rfl (fa rfl (ro (ld r1 rfl rfl ?_))))
 obtain ⟨gF, hm⟩ := qaw hm
 refine qan gF (qaj (fa rfl (fa rfl ?_)))
 refine qmq (cs' := (str m.Aq.Am) :: (str m.Aq.An) :: (str m.Aq.Ae) :: (str m.Aq.Af) :: (.slice aa m.Aq.Ao.length ab) :: (.int .i64 m.most) :: (str m.result.Ae) :: (str m.result.Af) :: (.slice ah m.result.Ag.length ak) :: (.slice am m.result.Vary.length au) :: (.slice aw m.result.Ah.length ay) :: (.int .i64 m.result.TTL) :: (.int .i64 m.result.Ai) :: (.int .i64 (m.result.Aj + 1)) :: (.bool m.result.Ak) :: (.bool m.result.Al) :: (.slice ax m.stack.length az) :: (m.Ap.map Jk.enc).flatten) r1 rfl rfl (by exact rfl) (by exact nl rfl) (by exact rfl) ?_
 refine qa4 ⟨⟨[], false⟩, _, [(_, _)], []⟩ (by kernel_rfl) ⟨Hp.Le.refl _, (pf rfl), ci0⟩ ?_
 refine qaj (fa rfl (fa rfl (qap m0 rfl rfl (qaj (fa rfl (qap m0 rfl rfl ?_))))))
 refine cs rfl rfl hm ?_ ?_ <;> intro ig hm
 refine qat rfl ?_
 exact eE hm
 obtain ⟨gx, hm⟩ := qaw hm
 refine qan gx (fa rfl (ro (ld r1 rfl rfl ?_)))
 refine qam rfl ?_
 refine qag (cs rfl rfl hm ?_ ?_) <;> intro iz hm
 refine fa rfl (ro (ld r1 rfl rfl ?_))
 refine cb hm fun ik gw hm => cg0 (JbD gw :) ?_
 refine cb hm fun ij gU hm => ckx (Jau gU :) ?_
 rintro _ _ _ ⟨fR, fD, eX, fm, ft, fw, gm, fk, rfl, fj, eL, fl, gk, fh, rfl⟩
 exact eE hm
 refine qag (cs rfl rfl hm ?_ ?_) <;> intro im hm
 refine fa rfl (ro (ld r1 rfl rfl ?_))
 refine cb hm fun ir gE hm => cg0 (JaA gE :) ?_
 refine cb hm fun ib gu hm => ckx (Jau gu :) ?_
 rintro _ _ _ ⟨gj, fJ, gh, gl, gi, fQ, fg, ge, rfl, fb, f9, ga, eW, fO, rfl⟩
 exact eE hm
 refine qag (cs rfl rfl hm ?_ ?_) <;> intro ic hm
 refine qa4 ⟨⟨[], true⟩, _, [], []⟩ (by kernel_rfl) ⟨Hp.Le.refl _, (pf rfl), ci0⟩ ?_
 refine fa rfl ?_
 refine ld r1 rfl rfl ?_
 refine qaj (fa rfl ?_)
 obtain ⟨ii, eP, fC, hm⟩ := ixb hm
 refine qby (sz := 4) rfl rfl eP (qro bH eP fC) ?_
 refine qs1 (enc := Jk.enc) (sz := 4) r0 rfl (by exact rfl) fC (by exact rfl) ?_
 refine cb hm fun iw gM hm => ckx (Jau gM :) ?_
 rintro _ _ _ ⟨fU, fH, e6, fN, e8, fT, f8, gg, rfl, fI, fM, fu, fo, eQ, rfl⟩
 refine qk (pf rfl) ?_
 exact eE hm
 refine qag (cs rfl rfl hm ?_ ?_) <;> intro ia hm
 refine qa4 ⟨⟨[], false⟩, _, [(_, _)], [(b0, [str m.Aq.Am, str m.Aq.An, str m.Aq.Ae, str m.Aq.Af, .slice aa m.Aq.Ao.length ab])]⟩ (by kernel_rfl) ⟨Hp.Le.refl _, (sc [1] rfl), (ci1 r0 (by exact rfl))⟩ ?_
 refine fa rfl (qap m0 rfl rfl (qaj (fa rfl ?_)))
 refine qms m0 rfl (nl rfl) ?_
 refine cb hm fun il gX hm => cgx (JdP gX :) ?_
 refine ⟨⟨lr, (sc [1] rfl), (ci1 r0 (by exact rfl))⟩, ?_⟩
 refine cb hm fun hZ g8 hm => ckx (Jau g8 :) ?_
 rintro _ _ _ ⟨gd, eK, eO, fK, fZ, eT, fL, fE, rfl, fX, fq, gc, fc, e7, rfl⟩
 refine ⟨⟨lr, (sc [5] rfl), (ci1 r0 (by exact rfl))⟩, ?_⟩
 exact eE hm
 refine qag (cs rfl rfl hm ?_ ?_) <;> intro hU hm
 refine qa4 ⟨⟨[], false⟩, _, [(_, _)], []⟩ (by kernel_rfl) ⟨Hp.Le.refl _, (sc [1] rfl), ci0⟩ ?_
 refine fa rfl (qap m0 rfl rfl ?_)
 refine cb hm fun bg gP hm => ckx (Jaw gP :) ?_
 rintro _ _ _ ⟨bo, bj, br, bm, bu, bt, bp, bl, rfl, bD, bC, bF, bG, bn, rfl⟩
 refine qk (sc [5] rfl) ?_
 refine qaj (fa rfl ?_)
 obtain ⟨ie, e5, gb, hm⟩ := ixb hm
 refine qby (sz := 4) rfl rfl e5 (qro bn e5 gb) ?_
 refine qs2 (sz := 4) (enc := Jk.enc) (y := bg.1) (cs' := (str m.Aq.Am) :: (str m.Aq.An) :: (str m.Aq.Ae) :: (str m.Aq.Af) :: (.slice aa m.Aq.Ao.length ab) :: (.int .i64 bg.2.most) :: (str bg.2.result.Ae) :: (str bg.2.result.Af) :: (.slice bo bg.2.result.Ag.length bj) :: (.slice br bg.2.result.Vary.length bm) :: (.slice bu bg.2.result.Ah.length bt) :: (.int .i64 bg.2.result.TTL) :: (.int .i64 bg.2.result.Ai) :: (.int .i64 bg.2.result.Aj) :: (.bool bg.2.result.Ak) :: (.bool bg.2.result.Al) :: (.slice bp bg.2.stack.length bl) :: ((bg.2.Ap.set ((x.N).toNat) bg.1).map Jk.enc).flatten) r0 rfl (by exact rfl) gb rfl (fun _ => rfl) (fun _ => rfl) (by exact rfl) (by decide) ?_
 refine qk (sc [5] rfl) ?_
 cases hm
 exact en lr ⟨bo, bj, br, bm, bu, bt, bp, bl, rfl, bD, bC, bF, bG, (List.length_set.trans bn), rfl⟩ (sc [0,0,0,0,0,1] rfl)
 refine qag (cs rfl rfl hm ?_ ?_) <;> intro io hm
 refine qfb ⟨⟨[], false⟩, _, [(_, _)], [(b0, [str m.Aq.Am, str m.Aq.An, str m.Aq.Ae, str m.Aq.Af, .slice aa m.Aq.Ao.length ab])]⟩ 15 rfl (by kernel_rfl) ⟨Hp.Le.refl _, (sc [1] rfl), (ci1 r0 (by exact rfl))⟩ ?_
 refine fa rfl (qap m0 rfl rfl ?_)
 intro gC
 refine cb hm fun iu gI hm => ckx (Jaw gI :) ?_
 rintro _ _ _ ⟨fv, eZ, fG, fy, e9, fP, gf, fB, rfl, eV, fS, eJ, ff, fV, rfl⟩
 refine ⟨⟨lr, (sc [5] rfl), (ci1 r0 (by exact rfl))⟩, ?_⟩
 refine ⟨_, .cons r7 .nil, ⟨lr, (sc [5] rfl), (ci1 r0 (by exact rfl))⟩, ?_⟩
 refine qaj (fa rfl ?_)
 refine qms m0 rfl (nl rfl) ?_
 intro hS
 refine cb hm fun gL cz hm => cgx (Jes cz :) ?_
 refine ⟨⟨lr, (sc [5] rfl), (ci1 r0 (by exact rfl))⟩, ?_⟩
 refine ⟨_, .cons r7 .nil, ⟨lr, (sc [5] rfl), (ci1 r0 (by exact rfl))⟩, ?_⟩
 refine qky rfl ?_
 intro b9
 intro gG
 refine qaa r0 rfl ⟨rfl, rfl, (nl rfl), ?_⟩
 refine ⟨⟨lr, (sc [6] rfl), (ci1 r1 (by exact rfl))⟩, ?_⟩
 refine ⟨_, .cons r8 .nil, ⟨lr, (sc [6] rfl), (ci1 r1 (by exact rfl))⟩, ?_⟩
 refine qax ?_
 refine cs rfl rfl hm ?_ ?_ <;> intro gV hm
 refine qat rfl ?_
 exact eE hm
 refine ro (qab r0 rfl (nl rfl) ?_)
 refine cb hm fun gJ cJ hm => ckx (Jau cJ :) ?_
 rintro _ _ _ ⟨cD, eu, cq, dP, cW, dm, cm, dv, rfl, ey, bY, ez, cj, d7, rfl⟩
 exact eE hm
 refine qag (cs rfl rfl hm ?_ ?_) <;> intro gS hm
 refine cb hm fun gD bX hm => ckx (Jaw bX :) ?_
 rintro _ _ _ ⟨dT, c5, ep, c8, dg, d6, dQ, di, rfl, dt, dJ, c9, bS, cN, rfl⟩
 refine qai rfl fun hY => ?_
 refine qaa r0 rfl ⟨rfl, rfl, (nl rfl), ?_⟩
 refine qfb ⟨⟨[], false⟩, _, [(_, _), (_, _)], []⟩ 12 rfl (by kernel_rfl) ⟨Hp.Le.refl _, (sc [6,0] rfl), ci0⟩ ?_
 refine fa rfl (qap m0 rfl rfl ?_)
 intro gC
 refine cb hm fun hJ dE hm => ckx (Jaw dE :) ?_
 rintro _ _ _ ⟨eh, d5, cI, bT, bN, c4, cM, dO, rfl, cH, cn, ce, cd, bO, rfl⟩
 refine ⟨⟨lr, (sc [6,5] rfl), ci0⟩, ?_⟩
 refine ⟨_, .cons r8 .nil, ⟨lr, (sc [6,5] rfl), ci0⟩, ?_⟩
 refine qcc m1 rfl (nl rfl) ?_
 intro iv
 refine cb hm fun gp d9 hm => cgx (Jef d9 :) ?_
 refine ⟨⟨lr, (sc [6,5] rfl), ci0⟩, ?_⟩
 refine ⟨_, .cons r8 .nil, ⟨lr, (sc [6,5] rfl), ci0⟩, ?_⟩
 refine qky rfl ?_
 intro iy
 intro g7
 refine qaa r0 rfl ⟨rfl, rfl, (nl rfl), ?_⟩
 refine ⟨⟨lr, (sc [7,6] rfl), ci0⟩, ?_⟩
 refine ⟨_, .cons r9 .nil, ⟨lr, (sc [7,6] rfl), ci0⟩, ?_⟩
 refine qax ?_
 refine cs rfl rfl hm ?_ ?_ <;> intro gT hm
 refine qat rfl ?_
 exact eE hm
 refine ro (qab r0 rfl (nl rfl) ?_)
 refine cb hm fun gN dz hm => ckx (Jau dz :) ?_
 rintro _ _ _ ⟨ei, bK, cK, cE, cp, ek, bZ, dF, rfl, dC, dW, du, cQ, eG, rfl⟩
 exact eE hm
 refine qag (cs rfl rfl hm ?_ ?_) <;> intro gn hm
 refine cb hm fun gK cw hm => ckx (Jaw cw :) ?_
 rintro _ _ _ ⟨bP, cB, dA, ef, bJ, cu, cU, bL, rfl, cy, dV, dn, cA, dx, rfl⟩
 refine qai rfl fun iq => ?_
 refine qaa r0 rfl ⟨rfl, rfl, (nl rfl), ?_⟩
 refine fa rfl (ro (ld r0 rfl rfl (qa8 ?_)))
 refine cs rfl rfl hm ?_ ?_ <;> intro gR hm
 refine qat rfl ?_
 exact eE hm
 refine fa rfl (ro (ld r0 rfl rfl (qax ?_)))
 refine cb hm fun gZ dG hm => cg0 (Ja0 dG :) ?_
 refine cb hm fun gA bQ hm => ckx (Jau bQ :) ?_
 rintro _ _ _ ⟨cG, eF, ej, dL, dB, d4, dc, dN, rfl, dK, cR, dS, cP, df, rfl⟩
 exact eE hm
 refine qag (cs rfl rfl hm ?_ ?_) <;> intro gH hm
 refine fa rfl (ro (ld r1 rfl rfl ?_))
 exact eE hm
 refine qag (cs rfl rfl hm ?_ ?_) <;> intro hO hm
 refine cb hm fun gB dY hm => ckx (Jaw dY :) ?_
 rintro _ _ _ ⟨ew, dp, bW, eD, de, bV, eC, cV, rfl, dX, cZ, eH, dD, dM, rfl⟩
 refine qai rfl fun ip => ?_
 refine qaa r0 rfl ⟨rfl, rfl, (nl rfl), ?_⟩
 refine fa rfl (ro (ld r0 rfl rfl (qa8 ?_)))
 refine cs rfl rfl hm ?_ ?_ <;> intro gt hm
 refine qat rfl ?_
 exact eE hm
 refine fa rfl (ro (ld r0 rfl rfl (qax ?_)))
 refine cs rfl rfl hm ?_ ?_ <;> intro gY hm
 refine fa rfl (ro (ld r6 rfl rfl ?_))
 exact eE hm
 exact eE hm
 refine qag (cs rfl rfl hm ?_ ?_) <;> intro gW hm
 refine qad rfl rfl ?_
 refine qai rfl fun gz => ?_
 refine qaa r0 rfl ⟨rfl, rfl, (nl rfl), ?_⟩
 obtain ⟨bM, bc, hm⟩ := bnd hm
 refine jR (σ := Bool) (rg 168 14) (fun bh => [(181, .bool bh)]) (fun bh => bh = bM) ?_ ?_
 replace bc := bsm bc
 refine qaf rfl ?_
 refine fa rfl (ro (ld r2 rfl rfl (qbr ?_)))
 refine qah ?_ ?_ <;> intro aW
 refine fa rfl (ct aW (ro (ld r2 rfl rfl (ct aW (qbr (ct aW ?_))))))
 obtain ⟨bR, bd, bc⟩ := bnd bc
 refine qah ?_ ?_ <;> intro aV
 replace bd := ift (qcx aW aV) bd
 refine fa rfl (ct aV (ro (ld r2 rfl rfl (ct aV ?_))))
 refine cb bd fun gv cr bd => cg0 (Ja2 cr :) ?_
 refine ct aV (qax (ct aV ?_))
 exact eMq bc _ ⟨bq (si bd), trivial⟩
 replace bd := qbb (qcy aW aV) bd
 refine cf aV (cf aV (cf aV (cf aV ?_)))
 exact eMq bc _ ⟨bq (si bd), trivial⟩
 refine cf aW (cf aW (cf aW ?_))
 obtain ⟨bR, bd, bc⟩ := bnd bc
 replace bd := qbb (qbe aW) bd
 refine cF (cF (cF (cF (cF ?_))))
 exact eMq bc _ ⟨bq (si bd), trivial⟩
 rintro bh rfl hP
 obtain ⟨d8, bf, hm⟩ := bnd hm
 refine jD (σ := (Int × Int × Str × Bool × Jh) × Option Addr × Nat × Option Addr × Nat × Option Addr × Nat × Option Addr × Nat) [182,183] [2, 7] (fun (aT, aX, ba, a6, bb, aY, a8, aU, aZ) => []) (fun (aT, aX, ba, a6, bb, aY, a8, aU, aZ) => [Cells b0 131 ((str m.Aq.Am) :: (str m.Aq.An) :: (str m.Aq.Ae) :: (str m.Aq.Af) :: (.slice aa m.Aq.Ao.length ab) :: (.int .i64 aT.2.2.2.2.most) :: (str aT.2.2.2.2.result.Ae) :: (str aT.2.2.2.2.result.Af) :: (.slice aX aT.2.2.2.2.result.Ag.length ba) :: (.slice a6 aT.2.2.2.2.result.Vary.length bb) :: (.slice aY aT.2.2.2.2.result.Ah.length a8) :: (.int .i64 aT.2.2.2.2.result.TTL) :: (.int .i64 aT.2.2.2.2.result.Ai) :: (.int .i64 aT.2.2.2.2.result.Aj) :: (.bool aT.2.2.2.2.result.Ak) :: (.bool aT.2.2.2.2.result.Al) :: (.slice aU aT.2.2.2.2.stack.length aZ) :: (aT.2.2.2.2.Ap.map Jk.enc).flatten), qau Jc.enc aX 41 2 ba aT.2.2.2.2.result.Ag, qau eS a6 9 1 bb aT.2.2.2.2.result.Vary, qau eS aY 9 1 a8 aT.2.2.2.2.result.Ah, qau Jk.enc aU 128 4 aZ aT.2.2.2.2.stack, Cells gz 128 [.int .i64 aT.1, .int .i64 aT.2.1, str aT.2.2.1, .bool aT.2.2.2.1]]) (fun (aT, aX, ba, a6, bb, aY, a8, aU, aZ) => (0 < aT.2.2.2.2.result.Ag.length → Has aX) ∧ (0 < aT.2.2.2.2.result.Vary.length → Has a6) ∧ (0 < aT.2.2.2.2.result.Ah.length → Has aY) ∧ (0 < aT.2.2.2.2.stack.length → Has aU) ∧ aT.2.2.2.2.Ap.length = 512 ∧ aT = d8) (And.intro ?_ ?_)
 refine cs rfl rfl bf ?_ ?_ <;> intro gQ bf
 refine cb bf fun gy cL bf => ckx (Jaw cL :) ?_
 rintro _ _ _ ⟨dk, dj, bI, dw, cX, ee, co, dR, rfl, ca, dq, cY, bU, c6, rfl⟩
 refine qaa r5 rfl ⟨rfl, rfl, (nl rfl), ?_⟩
 exact eM bf (_, _, _, _, _, _, _, _, _)
 exact eM bf (_, _, _, _, _, _, _, _, _)
 rintro ⟨aT, aX, ba, a6, bb, aY, a8, aU, aZ⟩ ⟨bv, bA, bw, bz, bB, rfl⟩ gr
 refine qa4 ⟨⟨[], false⟩, _, [(_, _), (_, _)], []⟩ (by kernel_rfl) ⟨Hp.Le.refl _, (sc [6,5] rfl), ci0⟩ ?_
 refine qaj (fa rfl (fa rfl (qap m0 rfl rfl (qcc m1 rfl (nl rfl) ?_))))
 refine cb hm fun g9 dZ hm => ckx (JdJ (aO := [str m.Aq.Am, str m.Aq.An, str m.Aq.Ae, str m.Aq.Af, .slice aa m.Aq.Ao.length ab, .int .i64 aT.2.2.2.2.most]) (aQ := (.slice aU aT.2.2.2.2.stack.length aZ) :: (aT.2.2.2.2.Ap.map Jk.enc).flatten) dZ :) ?_
 rintro _ _ _ ⟨cC, dH, eg, dI, dU, dh, rfl, eA, cO, dy, rfl⟩
 refine qk (sc [6,5] rfl) ?_
 refine qa9 rfl ?_
 refine cs rfl rfl hm ?_ ?_ <;> intro gq hm
 exact eE hm
 refine fa rfl (ro (ld r6 rfl rfl (qaq ?_)))
 refine cs rfl rfl hm ?_ ?_ <;> intro gO hm
 exact eE hm
 exact eE hm
 refine qag (cs rfl rfl hm ?_ ?_) <;> intro hE hm
 exact eE hm
 exact eE hm

def Ja1 (code : (List Jg)) (Aq : JX) : Nat → Int → Jh → Option (Fl (Jp × Err) (Int × Jh))
  | 0, _, _ => none
  | aV + 1, ac, aT =>
    if decide (ac ≥ 0) then
    (ix code ac).bind fun aW =>
    (J3 (⟨Aq, aT.most, aT.result, aT.stack, aT.Ap⟩ : Jh) ac aW).bind fun aU =>
    if aU.2.1.isSome then
    some (Fl.ret ((⟨([] : Str), ([] : Str), [], [], [], 0, 0, 0, false, false⟩ : Jp), aU.2.1))
    else
    Ja1 code Aq aV aU.1 (⟨Aq, aU.2.2.most, aU.2.2.result, aU.2.2.stack, aU.2.2.Ap⟩ : Jh)
    else
    some (Fl.go (ac, (⟨Aq, aT.most, aT.result, aT.stack, aT.Ap⟩ : Jh)))
def Jb9 (n : Nat) (code : (List Jg)) (Aq : JX) (most : Int) : Option (Jp × Err) :=
  (Jat code).bind fun aT =>
  if aT.isSome then
  some ((⟨([] : Str), ([] : Str), [], [], [], 0, 0, 0, false, false⟩ : Jp), (some 2))
  else
  (Ja1 code Aq n 0 (⟨Aq, most, (⟨Aq.Ae, Aq.Af, [], [], [], (-1), 0, 0, false, false⟩ : Jp), [], (List.replicate 512 (⟨0, 0, ([] : Str), false⟩ : Jk))⟩ : Jh)).bind fun s0 => s0.el some fun t0 =>
  some (t0.2.result, none)
theorem Jey {n : Nat} {code : (List Jg)} {Aq : JX} {most : Int} {aa : Option Addr} {ab : Nat} {n0 : Nat} {af : Option Addr} {ag : Nat} {K : Hp} {r : Jp × Err}
    (hm : Jb9 n code Aq most = some r) (hX : RdC Jg.enc K aa ab 3 code ∧ n0 = code.length ∧ RdC Jc.enc K af ag 2 Aq.Ao ∧ GG K) :
    Fn Tryz.prog 37 [.slice aa n0 ab, .agg #[str Aq.Am, str Aq.An, str Aq.Ae, str Aq.Af, .slice af Aq.Ao.length ag], .int .i64 most] K [] (fun v K' H' => ∃ ar_0 : Option Addr, ∃ cr_0 : Nat, ∃ ar_1 : Option Addr, ∃ cr_1 : Nat, ∃ ar_2 : Option Addr, ∃ cr_2 : Nat, v = .tuple #[.agg #[str r.1.Ae, str r.1.Af, .slice ar_0 r.1.Ag.length cr_0, .slice ar_1 r.1.Vary.length cr_1, .slice ar_2 r.1.Ah.length cr_2, .int .i64 r.1.TTL, .int .i64 r.1.Ai, .int .i64 r.1.Aj, .bool r.1.Ak, .bool r.1.Al], qc5 48 r.2] ∧ (0 < r.1.Ag.length → Has ar_0) ∧ (0 < r.1.Vary.length → Has ar_1) ∧ (0 < r.1.Ah.length → Has ar_2) ∧ H' = [qau Jc.enc ar_0 41 2 cr_0 r.1.Ag, qau eS ar_1 9 1 cr_1 r.1.Vary, qau eS ar_2 9 1 cr_2 r.1.Ah]) := by
 obtain ⟨ae, bS, ai, hG⟩ := hX
 subst bS
 refine Fn.enter Tryz.func37 Tryz.call37 rfl fun F => ?_
 unfold Jb9 at hm
 refine qas ?_
 intro b4
 refine qai rfl fun b6 => ?_
 refine cb hm fun bX bQ hm => cgx (Jed bQ :) ?_
 refine qa9 rfl ?_
 refine cs rfl rfl hm ?_ ?_ <;> intro bY hm
 refine qad rfl rfl ?_
 refine qat rfl ?_
 refine qaa r0 rfl ⟨rfl, rfl, (nl rfl), ?_⟩
 refine ro (qab r0 rfl (nl rfl) ?_)
 refine qci Jc.enc 41 2 ?_
 refine qci eS 9 1 ?_
 refine qci eS 9 1 ?_
 exact eE hm
 refine ro (qab r1 rfl (nl rfl) (fa rfl (ro (ld r1 rfl rfl (fa rfl (ro (ld r1 rfl rfl (qad rfl rfl (cT (cT ?_))))))))))
 refine cT ?_
 refine qlo (enc := Jk.enc) [str ([] : Str), str ([] : Str), str ([] : Str), str ([] : Str), .slice none 0 0, .int .i64 0, str ([] : Str), str ([] : Str), .slice none 0 0, .slice none 0 0, .slice none 0 0, .int .i64 0, .int .i64 0, .int .i64 0, .bool false, .bool false, .slice none 0 0] (List.replicate 512 (⟨0, 0, ([] : Str), false⟩ : Jk)) (by kernel_rfl) rfl ?_
 refine cT (cT (cT ?_))
 refine qok ?_
 intro bT
 obtain ⟨s0, a8, hm⟩ := bnd hm
 refine qhp Jc.enc 41 2 ?_
 refine qhp eS 9 1 ?_
 refine qhp eS 9 1 ?_
 refine qhp Jk.enc 128 4 ?_
 refine lD (σ := (Int × Jh) × Option Addr × Nat × Option Addr × Nat × Option Addr × Nat × Option Addr × Nat) ([7,9,10,11] ++ rg 26 17) [5, 6, 7] (fun _ => []) (fun (t0, aV, a6, aW, aY, aT, aZ, aU, aX) => [(9, .int .i64 t0.1)]) (fun (t0, aV, a6, aW, aY, aT, aZ, aU, aX) => [Cells bT 131 ((str Aq.Am) :: (str Aq.An) :: (str Aq.Ae) :: (str Aq.Af) :: (.slice af Aq.Ao.length ag) :: (.int .i64 t0.2.most) :: (str t0.2.result.Ae) :: (str t0.2.result.Af) :: (.slice aV t0.2.result.Ag.length a6) :: (.slice aW t0.2.result.Vary.length aY) :: (.slice aT t0.2.result.Ah.length aZ) :: (.int .i64 t0.2.result.TTL) :: (.int .i64 t0.2.result.Ai) :: (.int .i64 t0.2.result.Aj) :: (.bool t0.2.result.Ak) :: (.bool t0.2.result.Al) :: (.slice aU t0.2.stack.length aX) :: (t0.2.Ap.map Jk.enc).flatten), qau Jc.enc aV 41 2 a6 t0.2.result.Ag, qau eS aW 9 1 aY t0.2.result.Vary, qau eS aT 9 1 aZ t0.2.result.Ah, qau Jk.enc aU 128 4 aX t0.2.stack]) (fun (t0, aV, a6, aW, aY, aT, aZ, aU, aX) => (0 < t0.2.result.Ag.length → Has aV) ∧ (0 < t0.2.result.Vary.length → Has aW) ∧ (0 < t0.2.result.Ah.length → Has aT) ∧ (0 < t0.2.stack.length → Has aU) ∧ t0.2.Ap.length = 512) (fun i0 (t0, aV, a6, aW, aY, aT, aZ, aU, aX) => Ja1 code Aq i0 t0.1 t0.2 = some s0) (fun (t0, aV, a6, aW, aY, aT, aZ, aU, aX) => s0 = Fl.go t0) (fun i0 => i0) n ((0, (⟨Aq, most, (⟨Aq.Ae, Aq.Af, [], [], [], (-1), 0, 0, false, false⟩ : Jp), [], (List.replicate 512 (⟨0, 0, ([] : Str), false⟩ : Jk))⟩ : Jh)), none, 0, none, 0, none, 0, none, 0) a8 (And.intro ⟨⟨(fun h => by simp at h), (fun h => by simp at h), (fun h => by simp at h), (fun h => by simp at h), List.length_replicate⟩, ⟨rfl, trivial⟩, _, (ss [4,3,2,1,0,0,0,0] rfl)⟩ (And.intro ?_ ?_))
 clear a8
 rintro i0 ⟨⟨ac, bP⟩, bh, bj, bw, bu, bp, bg, bv, ba⟩ ⟨bb, bm, bl, bo, bt⟩ a8 j0
 dsimp only at a8 ⊢
 cases i0 with
 | zero => rw [Ja1.eq_1] at a8; cases a8
 | succ i0 =>
  rw [Ja1.eq_2] at a8
  refine cs rfl rfl a8 ?_ ?_ <;> intro bU a8
  refine qam rfl ?_
  obtain ⟨bZ, bJ, bz, a8⟩ := ixb a8
  refine RStep.ofN (qae rfl rfl (qf3 ae.rd bz) bJ (qaz rfl bJ bz) (ro (qao ((ac).toNat) _ ae.rd rfl (mp bz) rfl ?_)))
  refine cb a8 fun bV bR a8 => ckx (JdK bR :) ?_
  rintro _ _ _ ⟨bL, bH, bO, bI, bK, bG, bD, bF, rfl, bC, bN, bM, bA, bB, rfl⟩
  refine qa9 rfl ?_
  refine cs rfl rfl a8 ?_ ?_ <;> intro bW a8
  refine qad rfl rfl ?_
  refine qaa r5 rfl ⟨rfl, rfl, (nl rfl), ?_⟩
  refine ro (qab r0 rfl (nl rfl) ?_)
  refine qci Jc.enc 41 2 ?_
  refine qci eS 9 1 ?_
  refine qci eS 9 1 ?_
  exact eE (er a8 hm)
  exact eR a8 (_, (_, _), _, _, _, _, _, _, _, _)
  refine cT ?_
  exact eM a8 (_, _, _, _, _, _, _, _, _)
 rintro ⟨t0, aV, a6, aW, aY, aT, aZ, aU, aX⟩ ⟨bf, bd, bc, bn, br⟩ rfl j0
 replace hm := elg hm
 refine qaj (fa rfl (ro (qab r0 rfl (nl rfl) ?_)))
 refine qaa r5 rfl ⟨rfl, rfl, (nl rfl), ?_⟩
 exact ro (qab r0 rfl (nl rfl) (eE hm))

def qb3 (a : Je) (r' : Jp) : Option (Str) :=
  ((if decide (r'.Af ≠ ([] : Str)) then
  some true
  else
  some (a.HasQuery && decide (r'.Af = a.Af))) : Option (Bool)).bind fun aT =>
  if aT then
  (chk (r'.Ae.length + ([63] : Str).length ≤ lim)).bind fun _ =>
  (chk ((r'.Ae ++ ([63] : Str)).length + r'.Af.length ≤ lim)).bind fun _ =>
  some ((r'.Ae ++ ([63] : Str)) ++ r'.Af)
  else
  some r'.Ae
theorem qf6 {a : Je} {r' : Jp} {af : Option Addr} {ag : Nat} {aI : Option Addr} {aJ : Nat} {aK : Option Addr} {aL : Nat} {K : Hp} {r : Str}
    (hm : qb3 a r' = some r) (hX : RdC Jc.enc K af ag 2 r'.Ag ∧ RdC eS K aI aJ 1 r'.Vary ∧ RdC eS K aK aL 1 r'.Ah) :
    Fn Tryz.prog 38 [.agg #[str a.An, str a.Ae, str a.Af, .bool a.HasQuery], .agg #[str r'.Ae, str r'.Af, .slice af r'.Ag.length ag, .slice aI r'.Vary.length aJ, .slice aK r'.Ah.length aL, .int .i64 r'.TTL, .int .i64 r'.Ai, .int .i64 r'.Aj, .bool r'.Ak, .bool r'.Al]] K [] (fun v K' H' => v = str r ∧ H' = []) := by
 obtain ⟨ai, aZ, aY⟩ := hX
 refine Fn.enter Tryz.func38 Tryz.call38 rfl fun F => ?_
 unfold qb3 at hm
 refine qas ?_
 intro b2
 refine qas ?_
 intro b3
 obtain ⟨aX, aV, hm⟩ := bnd hm
 refine jR (σ := Bool) (rg 5 14) (fun aW => [(18, .bool aW)]) (fun aW => aW = aX) ?_ ?_
 refine qaf rfl ?_
 refine fa rfl (ro (ld r0 rfl rfl (qbr ?_)))
 refine cS aV (fun aU aV => ?_) fun aU aV => ?_
 refine ct aU (ct aU (ct aU (ct aU ?_)))
 exact eM aV _
 refine fa rfl (cf aU (ro (ld r1 rfl rfl (cf aU ?_))))
 refine qah ?_ ?_ <;> intro aT
 refine fa rfl (ct aT (ro (ld r0 rfl rfl (ct aT (fa rfl (ct aT (ro (ld r1 rfl rfl (ct aT ?_)))))))))
 refine qaq (cf aU (ct aT (cf aU ?_)))
 exact eMq aV _ ⟨bq (qcz (b := decide (r'.Af = a.Af)) aT), trivial⟩
 refine cf aT (cf aT (cf aT (cf aT (cf aU (cf aT (cf aU ?_))))))
 exact eMq aV _ ⟨bq (((qbe aT)).symm), trivial⟩
 rintro aW rfl ba
 refine cs rfl rfl hm ?_ ?_ <;> intro bb hm
 refine fa rfl (ro (ld r0 rfl rfl ?_))
 obtain ⟨a6, hm⟩ := qaw hm
 refine qa5 a6 ?_
 refine fa rfl (ro (ld r0 rfl rfl ?_))
 obtain ⟨a8, hm⟩ := qaw hm
 refine qa5 a8 ?_
 exact eE hm
 refine fa rfl (ro (ld r0 rfl rfl ?_))
 exact eE hm

def Jbv (s : (List Str)) : Option ((List Str)) :=
  (chk (([] : List Str).length + s.length ≤ lim)).bind fun _ =>
  some (([] : List Str) ++ s)
theorem JdL {s : (List Str)} {aa : Option Addr} {ab : Nat} {n0 : Nat} {K : Hp} {r : (List Str)}
    (hm : Jbv s = some r) (hX : RdC eS K aa ab 1 s ∧ n0 = s.length) :
    Fn Tryz.prog 39 [.slice aa n0 ab] K [] (fun v K' H' => ∃ ar_0 : Option Addr, ∃ cr_0 : Nat, v = .slice ar_0 r.length cr_0 ∧ (0 < r.length → Has ar_0) ∧ H' = [qau eS ar_0 9 1 cr_0 r]) := by
 obtain ⟨ae, aT⟩ := hX
 subst aT
 refine Fn.enter Tryz.func39 Tryz.call39 rfl fun F => ?_
 unfold Jbv at hm
 rcases Classical.em (aa = none) with hz | hz
 subst hz
 obtain rfl := RdC.none_nil ae
 obtain ⟨_, hm⟩ := qaw hm
 obtain rfl := si hm
 refine qjv rfl ?_
 refine qac rfl (cT ?_)
 refine qci eS 9 1 ?_
 exact en lr ⟨none, 0, rfl, (fun h => by simp at h), rfl⟩ (pf rfl)
 refine qj7 hz rfl ?_
 refine qac rfl (cF ?_)
 refine bsO (len := 0) (enc := eS) (l := ([] : List Str)) (cl := []) qbp rfl rfl (fun _ _ => rfl) rfl rfl rfl ?_ fun b5 => ?_
 · conv => whnf
   first | done | rfl
 obtain ⟨h7, hm⟩ := qaw hm
 refine apE rfl r0 qbp (qq9 rfl ae.rd rfl) h7 ?_
 intro a7 c7 o7
 exact eE hm

def qdg (c : UInt8) : Option (Bool) :=
  some ((decide ((c.toNat : Int) < 32) && decide ((c.toNat : Int) ≠ 9)) || decide ((c.toNat : Int) = 127))
theorem qfj {c : UInt8} {K : Hp} {r : Bool}
    (hm : qdg c = some r)  :
    Fn Tryz.prog 147 [.int .u8 (c.toNat : Int)] K [] (fun v K' H' => v = .bool r ∧ H' = []) := by
 refine Fn.enter Tryz.func147 Tryz.call147 rfl fun F => ?_
 unfold qdg at hm
 refine qaf rfl ?_
 refine qah ?_ ?_ <;> intro aT
 refine ct aT (qa8 (ct aT ?_))
 refine qah ?_ ?_ <;> intro aU
 refine ct aU (ct aU ?_)
 exact bE (((qbv (qcx aT aU))).symm) (eE hm)
 refine cf aU (qag (cf aU ?_))
 exact bE (qhb (b := decide ((c.toNat : Int) = 127)) (qcy aT aU)) (eE hm)
 refine cf aT (cf aT (cF (cF (qag (cF ?_)))))
 exact bE (qhb (b := decide ((c.toNat : Int) = 127)) (qbe aT)) (eE hm)

def syntax_clean_L0 : List UInt8 → Nat → Option (Fl (Bool) (Unit))
  | [], _ => some (Fl.go ())
  | e0 :: aT, i0 =>
    (qdg e0).bind fun al =>
    if al then
    some (Fl.ret false)
    else
    syntax_clean_L0 aT (i0 + 1)
def qd1 (s : Str) : Option (Bool) :=
  (chk (s.length ≤ qa7)).bind fun _ =>
  (syntax_clean_L0 s 0).bind fun s0 => s0.el some fun t0 =>
  some true
theorem qgh {s : Str} {K : Hp} {r : Bool}
    (hm : qd1 s = some r)  :
    Fn Tryz.prog 95 [str s] K [] (fun v K' H' => v = .bool r ∧ H' = []) := by
 refine Fn.enter Tryz.func95 Tryz.call95 rfl fun F => ?_
 unfold qd1 at hm
 refine ro (qa3 rfl ?_)
 obtain ⟨aW, hm⟩ := qaw hm
 obtain ⟨s0, aT, hm⟩ := bnd hm
 refine lD (σ := (Unit)) ([2,3] ++ rg 6 8) [0] (fun i0 => [(6, .int .i64 (i0 : Int))]) (fun _ => []) (fun _ => []) (fun _ => True) (fun i0 _ => syntax_clean_L0 (s.drop i0) i0 = some s0) (fun t0 => s0 = Fl.go t0) (fun i0 => s.length - i0) 0 () aT (And.intro qe (And.intro ?_ ?_))
 clear aT
 rintro i0 _ _ aT j0
 conv at aT => whnf
 refine qac rfl ?_
 refine qah ?_ ?_ <;> intro w0
 obtain ⟨e0, aU, aX⟩ := ltx w0
 rw [aX, syntax_clean_L0.eq_2] at aT
 refine qam rfl ?_
 refine qa0 rfl (nn _) aU ?_
 refine cb aT fun al aV aT => cg0 (qfj aV :) ?_
 refine cs rfl rfl aT ?_ ?_ <;> intro aY aT
 exact eE (er aT hm)
 refine qan (qbu aU aW) ?_
 exact eR aT (_, ())
 rw [lty w0, syntax_clean_L0.eq_1] at aT
 refine cT ?_
 exact eM aT _
 rintro t0 _ rfl j0
 replace hm := elg hm
 exact eE hm

def syntax_parts_L0 (s : Str) (separator : UInt8) : Nat → (List Str) → Int → Bool → Int → Option ((List Str) × Int × Bool × Int)
  | 0, _, _, _, _ => none
  | aW + 1, ac, aV, aU, aT =>
    if decide (aT < (s.length : Int)) then
    (if aU then (ix s aT).bind fun a6 =>
    some (decide ((a6.toNat : Int) = 92)) else some false).bind fun aX =>
    if aX then
    (chk (InI (aT + 1))).bind fun _ =>
    (chk (InI ((aT + 1) + 1))).bind fun _ =>
    syntax_parts_L0 s separator aW ac aV aU ((aT + 1) + 1)
    else
    (ix s aT).bind fun ba =>
    if decide ((ba.toNat : Int) = 34) then
    (chk (InI (aT + 1))).bind fun _ =>
    syntax_parts_L0 s separator aW ac aV (!aU) (aT + 1)
    else
    (if (!aU) then (ix s aT).bind fun a8 =>
    some (decide ((a8.toNat : Int) = (separator.toNat : Int))) else some false).bind fun aY =>
    if aY then
    (chk (0 ≤ aV ∧ aV ≤ aT ∧ aT ≤ (s.length : Int))).bind fun _ =>
    (qie (subL s aV aT) ([32, 9] : Str)).bind fun aZ =>
    (chk (ac.length + [aZ].length ≤ lim)).bind fun _ =>
    (chk (InI (aT + 1))).bind fun _ =>
    (chk (InI (aT + 1))).bind fun _ =>
    syntax_parts_L0 s separator aW (ac ++ [aZ]) (aT + 1) aU (aT + 1)
    else
    (chk (InI (aT + 1))).bind fun _ =>
    syntax_parts_L0 s separator aW ac aV aU (aT + 1)
    else
    some (ac, aV, aU, aT)
def qd2 (n : Nat) (s : Str) (separator : UInt8) : Option ((List Str) × Err) :=
  (qd1 s).bind fun aU =>
  if (!aU) then
  some ([], (some 2))
  else
  (syntax_parts_L0 s separator n [] 0 false 0).bind fun t0 =>
  if t0.2.2.1 then
  some ([], (some 2))
  else
  (chk (0 ≤ t0.2.1 ∧ t0.2.1 ≤ (s.length : Int) ∧ (s.length : Int) ≤ (s.length : Int))).bind fun _ =>
  (qie (subL s t0.2.1 (s.length : Int)) ([32, 9] : Str)).bind fun aT =>
  (chk (t0.1.length + [aT].length ≤ lim)).bind fun _ =>
  some ((t0.1 ++ [aT]), none)
theorem qgi {n : Nat} {s : Str} {separator : UInt8} {K : Hp} {r : (List Str) × Err}
    (hm : qd2 n s separator = some r)  :
    Fn Tryz.prog 87 [str s, .int .u8 (separator.toNat : Int)] K [] (fun v K' H' => ∃ ar_0 : Option Addr, ∃ cr_0 : Nat, v = .tuple #[.slice ar_0 r.1.length cr_0, qc5 48 r.2] ∧ (0 < r.1.length → Has ar_0) ∧ H' = [qau eS ar_0 9 1 cr_0 r.1]) := by
 refine Fn.enter Tryz.func87 Tryz.call87 rfl fun F => ?_
 unfold qd2 at hm
 refine cb hm fun bK bA hm => cg0 (qgh bA :) ?_
 refine qax ?_
 refine cs rfl rfl hm ?_ ?_ <;> intro cm hm
 refine qat rfl ?_
 refine qci eS 9 1 ?_
 exact eE hm
 obtain ⟨s0, aU, hm⟩ := bnd hm
 refine qhp eS 9 1 ?_
 refine lD (σ := ((List Str) × Int × Bool × Int) × Option Addr × Nat) ([6,7,8,9] ++ rg 14 43) [1] (fun _ => []) (fun (t0, aW, aX) => [(6, .slice aW t0.1.length aX), (7, .int .i64 t0.2.1), (8, .bool t0.2.2.1), (9, .int .i64 t0.2.2.2)]) (fun (t0, aW, aX) => [qau eS aW 9 1 aX t0.1]) (fun (t0, aW, aX) => (0 < t0.1.length → Has aW) ∧ True) (fun i0 (t0, aW, aX) => syntax_parts_L0 s separator i0 t0.1 t0.2.1 t0.2.2.1 t0.2.2.2 = some s0) (fun (t0, aW, aX) => t0 = s0) (fun i0 => i0) n ((_, _, _, _), _, _) aU (And.intro qe (And.intro ?_ ?_))
 clear aU
 rintro i0 ⟨⟨ac, bc, bB, bf⟩, bo, bn⟩ ⟨bj, _⟩ aU j0
 dsimp only at aU ⊢
 cases i0 with
 | zero => rw [syntax_parts_L0.eq_1] at aU; cases aU
 | succ i0 =>
  rw [syntax_parts_L0.eq_2] at aU
  refine ro (qa3 rfl ?_)
  refine cs rfl rfl aU ?_ ?_ <;> intro bU aU
  refine qam rfl ?_
  refine qam rfl ?_
  obtain ⟨bg, aY, aU⟩ := bnd aU
  refine jR (σ := Bool) (rg 20 8) (fun a6 => [(20, .bool a6)]) (fun a6 => a6 = bg) ?_ ?_
  replace aY := bsm aY
  refine qaf rfl ?_
  obtain ⟨ca, bb, aY⟩ := bnd aY
  refine cS bb (fun aV bb => ?_) fun aV bb => ?_
  refine ct aV (ct aV ?_)
  obtain ⟨bV, bH, bp, bb⟩ := ixb bb
  refine qa0 rfl bH bp (ct aV (qag (ct aV ?_)))
  exact eMq aY _ ⟨bq (si bb), trivial⟩
  refine cf aV (cf aV (cf aV (cf aV ?_)))
  exact eMq aY _ ⟨bq (si bb), trivial⟩
  rintro a6 rfl bC
  refine CStep.ownLe r0 fun bW => ?_
  refine cs rfl rfl aU ?_ ?_ <;> intro bR aU
  refine ci aU fun aU => ?_
  refine ci aU fun aU => ?_
  exact eR aU (_, (_, _, _, _), _, _)
  obtain ⟨bS, bw, bF, aU⟩ := ixb aU
  refine qa0 rfl bw bF (qag ?_)
  refine CStep.ownLe r0 fun cj => ?_
  refine cs rfl rfl aU ?_ ?_ <;> intro bQ aU
  refine qax ?_
  refine ci aU fun aU => ?_
  exact eR aU (_, (_, _, _, _), _, _)
  obtain ⟨bd, aZ, aU⟩ := bnd aU
  refine jR (σ := Bool) (rg 37 10) (fun a8 => [(37, .bool a8)]) (fun a8 => a8 = bd) ?_ ?_
  replace aZ := bsm aZ
  refine qaf rfl ?_
  refine qax ?_
  obtain ⟨bL, ba, aZ⟩ := bnd aZ
  refine cS ba (fun aT ba => ?_) fun aT ba => ?_
  refine ct aT (ct aT ?_)
  obtain ⟨cd, bv, bu, ba⟩ := ixb ba
  refine qa0 rfl bv bu (ct aT (ct aT (qag (ct aT ?_))))
  exact eMq aZ _ ⟨bq (si ba), trivial⟩
  refine cf aT (cf aT (cf aT (cf aT (cf aT ?_))))
  exact eMq aZ _ ⟨bq (si ba), trivial⟩
  rintro a8 rfl br
  refine CStep.ownLe r0 fun bX => ?_
  refine cs rfl rfl aU ?_ ?_ <;> intro bY aU
  obtain ⟨bz, aU⟩ := qaw aU
  refine RStep.ofN (qdx (lo := (some bc)) (hi := (some bf)) rfl bz ?_)
  refine cb aU fun bm bJ aU => cg0 (qkk bJ) ?_
  refine bsO (len := 1) (enc := eS) (l := [bm]) (cl := [str bm]) qbp rfl rfl (fun _ _ => rfl) rfl rfl rfl ?_ fun bZ => ?_
  · conv => whnf
    refine cT ?_
    first | done | rfl
  obtain ⟨bG, aU⟩ := qaw aU
  refine apE rfl r1 qbp (qay rfl r0 rfl (fun _ => rfl) (fun _ => rfl)) bG ?_
  intro bO bM ce
  refine ci aU fun aU => ?_
  refine ci aU fun aU => ?_
  exact eR aU (_, (_, _, _, _), _, _)
  refine ci aU fun aU => ?_
  exact eR aU (_, (_, _, _, _), _, _)
  refine cT ?_
  exact eM aU (_, _, _)
 rintro ⟨t0, aW, aX⟩ ⟨bl, _⟩ rfl j0
 refine cs rfl rfl hm ?_ ?_ <;> intro bN hm
 refine qat rfl ?_
 refine qci eS 9 1 ?_
 exact eE hm
 obtain ⟨bD, hm⟩ := qaw hm
 refine RStep.ofN (qdx (lo := (some t0.2.1)) (hi := none) rfl bD ?_)
 refine cb hm fun bh bt hm => cg0 (qkk bt) ?_
 refine bsO (len := 1) (enc := eS) (l := [bh]) (cl := [str bh]) qbp rfl rfl (fun _ _ => rfl) rfl rfl rfl ?_ fun cn => ?_
 · conv => whnf
   refine cT ?_
   first | done | rfl
 obtain ⟨bI, hm⟩ := qaw hm
 refine apE rfl r1 qbp (qay rfl r0 rfl (fun _ => rfl) (fun _ => rfl)) bI ?_
 intro co bP bT
 exact eE hm

def syntax_List_L0 : List Str → Nat → (List Str) → Option ((List Str))
  | [], _, ac => some ac
  | e0 :: aT, i0, ac =>
    if decide (e0 ≠ ([] : Str)) then
    (chk (ac.length + [e0].length ≤ lim)).bind fun _ =>
    syntax_List_L0 aT (i0 + 1) (ac ++ [e0])
    else
    syntax_List_L0 aT (i0 + 1) ac
def qek (n : Nat) (s : Str) : Option ((List Str) × Err) :=
  (qd2 n s (44 : UInt8)).bind fun aT =>
  if aT.2.isSome then
  some ([], aT.2)
  else
  (chk (aT.1.length ≤ qa7)).bind fun _ =>
  (syntax_List_L0 aT.1 0 []).bind fun t0 =>
  some (t0, none)
theorem qg7 {n : Nat} {s : Str} {K : Hp} {r : (List Str) × Err}
    (hm : qek n s = some r)  :
    Fn Tryz.prog 52 [str s] K [] (fun v K' H' => ∃ ar_0 : Option Addr, ∃ cr_0 : Nat, v = .tuple #[.slice ar_0 r.1.length cr_0, qc5 48 r.2] ∧ (0 < r.1.length → Has ar_0) ∧ H' = [qau eS ar_0 9 1 cr_0 r.1]) := by
 refine Fn.enter Tryz.func52 Tryz.call52 rfl fun F => ?_
 unfold qek at hm
 refine cb hm fun aZ bg hm => ck0 (qgi bg :) ?_
 rintro _ _ _ ⟨aY, ba, rfl, aW, rfl⟩
 refine qa9 rfl ?_
 refine cs rfl rfl hm ?_ ?_ <;> intro bo hm
 refine qci eS 9 1 ?_
 exact eE hm
 refine ro (qal rfl ?_)
 obtain ⟨bb, hm⟩ := qaw hm
 obtain ⟨s0, aV, hm⟩ := bnd hm
 refine qhp eS 9 1 ?_
 refine lD (σ := ((List Str)) × Option Addr × Nat) ([6,8] ++ rg 19 11) [1, 2] (fun i0 => [(19, .int .i64 (i0 : Int))]) (fun (t0, aT, aU) => [(6, .slice aT t0.length aU)]) (fun (t0, aT, aU) => [qau eS aT 9 1 aU t0]) (fun (t0, aT, aU) => (0 < t0.length → Has aT) ∧ True) (fun i0 (t0, aT, aU) => syntax_List_L0 (aZ.1.drop i0) i0 t0 = some s0) (fun (t0, aT, aU) => t0 = s0) (fun i0 => aZ.1.length - i0) 0 (_, _, _) aV (And.intro qe (And.intro ?_ ?_))
 clear aV
 rintro i0 ⟨ac, bd, bc⟩ ⟨a6, _⟩ aV j0
 conv at aV => whnf
 refine qac rfl ?_
 refine qah ?_ ?_ <;> intro w0
 obtain ⟨e0, aX, bh⟩ := ltx w0
 rw [bh, syntax_List_L0.eq_2] at aV
 refine qam rfl ?_
 refine RStep.ofN (qae rfl rfl (qcv aW aX) (nn _) (qfq rfl aX) (ro (qb1 (i := i0) (o := 0) r1 rfl aX rfl rfl (qbr ?_))))
 refine cs rfl rfl aV ?_ ?_ <;> intro bj aV
 refine bsO (len := 1) (enc := eS) (l := [e0]) (cl := [str e0]) qbp rfl rfl (fun _ _ => rfl) rfl rfl rfl ?_ fun bl => ?_
 · conv => whnf
   refine cT ?_
   first | done | rfl
 obtain ⟨bf, aV⟩ := qaw aV
 refine apE rfl r1 qbp (qay rfl r0 rfl (fun _ => rfl) (fun _ => rfl)) bf ?_
 intro bm bn bp
 refine qan (qbu aX bb) ?_
 exact eR aV (_, _, _, _)
 refine qan (qbu aX bb) ?_
 exact eR aV (_, _, _, _)
 rw [lty w0, syntax_List_L0.eq_1] at aV
 refine cT ?_
 exact eM aV (_, _, _)
 rintro ⟨t0, aT, aU⟩ ⟨a8, _⟩ rfl j0
 exact eE hm

def Jcx : List Str → Nat → (List Str) → Option ((List Str))
  | [], _, aT => some aT
  | e2 :: aV, i2, aT =>
    (JaX e2).bind fun aU =>
    (chk (aT.length + [aU].length ≤ lim)).bind fun _ =>
    Jcx aV (i2 + 1) (aT ++ [aU])
def Jca (n : Nat) : List Str → Nat → (List Str) → Option ((List Str))
  | [], _, ac => some ac
  | e0 :: aU, i0, ac =>
    (qek n e0).bind fun aT =>
    if aT.2.isSome then
    Jca n aU (i0 + 1) ac
    else
    (chk (aT.1.length ≤ qa7)).bind fun _ =>
    (Jcx aT.1 0 ac).bind fun t2 =>
    Jca n aU (i0 + 1) t2
def Jcb (t0 : (List Str)) : List Jc → Nat → (List Jc) → Option ((List Jc))
  | [], _, aT => some aT
  | e4 :: aU, i4, aT =>
    (JaX e4.Name).bind fun aW =>
    (JD t0 aW).bind fun aV =>
    if (!aV) then
    (chk (aT.length + [e4].length ≤ lim)).bind fun _ =>
    Jcb t0 aU (i4 + 1) (aT ++ [e4])
    else
    Jcb t0 aU (i4 + 1) aT
def JdB (n : Nat) (f : (List Jc)) : Option ((List Jc)) :=
  (Jc2 f ([99, 111, 110, 110, 101, 99, 116, 105, 111, 110] : Str)).bind fun aT =>
  (chk (aT.length ≤ qa7)).bind fun _ =>
  (Jca n aT 0 ([([99, 111, 110, 110, 101, 99, 116, 105, 111, 110] : Str), ([107, 101, 101, 112, 45, 97, 108, 105, 118, 101] : Str), ([112, 114, 111, 120, 121, 45, 99, 111, 110, 110, 101, 99, 116, 105, 111, 110] : Str), ([112, 114, 111, 120, 121, 45, 97, 117, 116, 104, 101, 110, 116, 105, 99, 97, 116, 101] : Str), ([112, 114, 111, 120, 121, 45, 97, 117, 116, 104, 111, 114, 105, 122, 97, 116, 105, 111, 110] : Str), ([116, 101] : Str), ([116, 114, 97, 105, 108, 101, 114] : Str), ([116, 114, 97, 110, 115, 102, 101, 114, 45, 101, 110, 99, 111, 100, 105, 110, 103] : Str), ([117, 112, 103, 114, 97, 100, 101] : Str)])).bind fun t0 =>
  (chk (f.length ≤ qa7)).bind fun _ =>
  (Jcb t0 f 0 []).bind fun t4 =>
  some t4
theorem Jeu {n : Nat} {f : (List Jc)} {aa : Option Addr} {ab : Nat} {n0 : Nat} {K : Hp} {r : (List Jc)}
    (hm : JdB n f = some r) (hX : RdC Jc.enc K aa ab 2 f ∧ n0 = f.length) :
    Fn Tryz.prog 22 [.slice aa n0 ab] K [] (fun v K' H' => ∃ ar_0 : Option Addr, ∃ cr_0 : Nat, v = .slice ar_0 r.length cr_0 ∧ (0 < r.length → Has ar_0) ∧ H' = [qau Jc.enc ar_0 41 2 cr_0 r]) := by
 obtain ⟨ae, bQ⟩ := hX
 subst bQ
 refine Fn.enter Tryz.func22 Tryz.call22 rfl fun F => ?_
 unfold JdB at hm
 refine bsO (len := 9) (enc := eS) (l := [([99, 111, 110, 110, 101, 99, 116, 105, 111, 110] : Str), ([107, 101, 101, 112, 45, 97, 108, 105, 118, 101] : Str), ([112, 114, 111, 120, 121, 45, 99, 111, 110, 110, 101, 99, 116, 105, 111, 110] : Str), ([112, 114, 111, 120, 121, 45, 97, 117, 116, 104, 101, 110, 116, 105, 99, 97, 116, 101] : Str), ([112, 114, 111, 120, 121, 45, 97, 117, 116, 104, 111, 114, 105, 122, 97, 116, 105, 111, 110] : Str), ([116, 101] : Str), ([116, 114, 97, 105, 108, 101, 114] : Str), ([116, 114, 97, 110, 115, 102, 101, 114, 45, 101, 110, 99, 111, 100, 105, 110, 103] : Str), ([117, 112, 103, 114, 97, 100, 101] : Str)]) (cl := [str ([99, 111, 110, 110, 101, 99, 116, 105, 111, 110] : Str), str ([107, 101, 101, 112, 45, 97, 108, 105, 118, 101] : Str), str ([112, 114, 111, 120, 121, 45, 99, 111, 110, 110, 101, 99, 116, 105, 111, 110] : Str), str ([112, 114, 111, 120, 121, 45, 97, 117, 116, 104, 101, 110, 116, 105, 99, 97, 116, 101] : Str), str ([112, 114, 111, 120, 121, 45, 97, 117, 116, 104, 111, 114, 105, 122, 97, 116, 105, 111, 110] : Str), str ([116, 101] : Str), str ([116, 114, 97, 105, 108, 101, 114] : Str), str ([116, 114, 97, 110, 115, 102, 101, 114, 45, 101, 110, 99, 111, 100, 105, 110, 103] : Str), str ([117, 112, 103, 114, 97, 100, 101] : Str)]) qbp rfl rfl (fun _ _ => rfl) rfl rfl rfl ?_ fun ce => ?_
 · conv => whnf
   refine cT (cT (cT (cT (cT (cT (cT (cT ?_)))))))
   refine cT ?_
   first | done | rfl
 refine cb hm fun bl bM hm => ckx (Jc3 bM :) ?_
 rintro _ _ _ ⟨bp, bz, rfl, bd, rfl⟩
 refine ro (qal rfl ?_)
 obtain ⟨bG, hm⟩ := qaw hm
 obtain ⟨s0, aZ, hm⟩ := bnd hm
 refine lD (σ := ((List Str)) × Option Addr × Nat) ([3,5,6,7,9] ++ rg 17 24) [0, 2] (fun i0 => [(17, .int .i64 (i0 : Int))]) (fun (t0, aT, aX) => [(3, .slice aT t0.length aX)]) (fun (t0, aT, aX) => [qau eS aT 9 1 aX t0]) (fun (t0, aT, aX) => (0 < t0.length → Has aT) ∧ True) (fun i0 (t0, aT, aX) => Jca n (bl.drop i0) i0 t0 = some s0) (fun (t0, aT, aX) => t0 = s0) (fun i0 => bl.length - i0) 0 (_, _, _) aZ (And.intro qe (And.intro ?_ ?_))
 clear aZ
 rintro i0 ⟨ac, bv, bn⟩ ⟨bj, _⟩ aZ j0
 conv at aZ => whnf
 refine qac rfl ?_
 refine qah ?_ ?_ <;> intro w0
 obtain ⟨e0, bc, bS⟩ := ltx w0
 rw [bS, Jca.eq_2] at aZ
 refine qam rfl ?_
 refine RStep.ofN (qae rfl rfl (qcv bd bc) (nn _) (qfq rfl bc) (ro (qb1 (i := i0) (o := 0) r1 rfl bc rfl rfl ?_)))
 refine cb aZ fun bA bR aZ => ck0 (qg7 bR :) ?_
 rintro _ _ _ ⟨bt, bm, rfl, bf, rfl⟩
 refine qa9 rfl ?_
 refine cs rfl rfl aZ ?_ ?_ <;> intro cd aZ
 refine cT (qan (qbu bc bG) ?_)
 exact eR aZ (_, _, _, _)
 refine ro (qal rfl ?_)
 obtain ⟨bW, aZ⟩ := qaw aZ
 obtain ⟨s2, a8, aZ⟩ := bnd aZ
 refine lD (σ := ((List Str)) × Option Addr × Nat) ([3,9] ++ rg 30 10) [0, 2, 3] (fun i2 => [(30, .int .i64 (i2 : Int))]) (fun (t2, aU, aY) => [(3, .slice aU t2.length aY)]) (fun (t2, aU, aY) => [qau eS aU 9 1 aY t2]) (fun (t2, aU, aY) => (0 < t2.length → Has aU) ∧ True) (fun i2 (t2, aU, aY) => Jcx (bA.1.drop i2) i2 t2 = some s2) (fun (t2, aU, aY) => t2 = s2) (fun i2 => bA.1.length - i2) 0 (_, _, _) a8 (And.intro qe (And.intro ?_ ?_))
 clear a8
 rintro i2 ⟨bY, bF, bh⟩ ⟨bw, _⟩ a8 j2
 conv at a8 => whnf
 refine qac rfl ?_
 refine qah ?_ ?_ <;> intro w2
 obtain ⟨e2, bg, bL⟩ := ltx w2
 rw [bL, Jcx.eq_2] at a8
 refine qam rfl ?_
 refine RStep.ofN (qae rfl rfl (qcv bf bg) (nn _) (qfq rfl bg) (ro (qb1 (i := i2) (o := 0) r1 rfl bg rfl rfl ?_)))
 refine cb a8 fun bu bZ a8 => cg0 (Jbd bZ :) ?_
 refine bsO (len := 1) (enc := eS) (l := [bu]) (cl := [str bu]) qbp rfl rfl (fun _ _ => rfl) rfl rfl rfl ?_ fun cq => ?_
 · conv => whnf
   refine cT ?_
   first | done | rfl
 obtain ⟨bU, a8⟩ := qaw a8
 refine apE rfl r1 qbp (qay rfl r0 rfl (fun _ => rfl) (fun _ => rfl)) bU ?_
 intro cj cu cy
 refine qan (qbu bg bW) ?_
 exact eR a8 (_, _, _, _)
 rw [lty w2, Jcx.eq_1] at a8
 refine cT ?_
 exact eM a8 (_, _, _)
 rintro ⟨t2, aU, aY⟩ ⟨bo, _⟩ rfl j2
 refine qan (qbu bc bG) ?_
 exact eR aZ (_, _, _, _)
 rw [lty w0, Jca.eq_1] at aZ
 refine cT ?_
 exact eM aZ (_, _, _)
 rintro ⟨t0, aT, aX⟩ ⟨bC, _⟩ rfl j0
 refine ro (qal rfl ?_)
 obtain ⟨bH, hm⟩ := qaw hm
 obtain ⟨s4, a6, hm⟩ := bnd hm
 refine qhp Jc.enc 41 2 ?_
 refine lD (σ := ((List Jc)) × Option Addr × Nat) ([10,12] ++ rg 43 15) [1, 2, 3] (fun i4 => [(43, .int .i64 (i4 : Int))]) (fun (t4, aV, aW) => [(10, .slice aV t4.length aW)]) (fun (t4, aV, aW) => [qau Jc.enc aV 41 2 aW t4]) (fun (t4, aV, aW) => (0 < t4.length → Has aV) ∧ True) (fun i4 (t4, aV, aW) => Jcb t0 (f.drop i4) i4 t4 = some s4) (fun (t4, aV, aW) => t4 = s4) (fun i4 => f.length - i4) 0 (_, _, _) a6 (And.intro qe (And.intro ?_ ?_))
 clear a6
 rintro i4 ⟨bO, bK, br⟩ ⟨bB, _⟩ a6 j4
 conv at a6 => whnf
 refine qac rfl ?_
 refine qah ?_ ?_ <;> intro w4
 obtain ⟨e4, bb, bT⟩ := ltx w4
 rw [bT, Jcb.eq_2] at a6
 refine qam rfl ?_
 refine RStep.ofN (qae rfl rfl (qf3 ae.rd bb) (nn _) (qbs bb) (ro (qao i4 _ ae.rd rfl (mp bb) rfl ?_)))
 refine qai rfl fun cw => ?_
 refine qaa r0 rfl ⟨rfl, rfl, (nl rfl), ?_⟩
 refine fa rfl (ro (ld r0 rfl rfl ?_))
 refine cb a6 fun bP bV a6 => cg0 (Jbd bV :) ?_
 refine cb a6 fun ca bX a6 => ck0 (Fn.lend Tryz.call53 (fun bD bJ ba => (JT (v' := bP) bX ⟨ba, rfl⟩)) (by exact fun _ _ _ _ h => h)) ?_
 rintro _ _ _ ⟨_, rfl, rfl, rfl⟩
 refine qax ?_
 refine cs rfl rfl a6 ?_ ?_ <;> intro cm a6
 refine ro (qab r1 rfl (nl rfl) ?_)
 refine bsO (len := 1) (enc := Jc.enc) (l := [e4]) (cl := [str e4.Name, str e4.Value]) qdr rfl rfl (fun _ _ => rfl) rfl rfl rfl ?_ fun cp => ?_
 · conv => whnf
   refine cT ?_
   first | done | rfl
 obtain ⟨bN, a6⟩ := qaw a6
 refine apE rfl r3 qdr (qay rfl r0 rfl (fun _ => rfl) (fun _ => rfl)) bN ?_
 intro cr cn co
 refine qan (qbu bb bH) ?_
 exact eR a6 (_, _, _, _)
 refine qan (qbu bb bH) ?_
 exact eR a6 (_, _, _, _)
 rw [lty w4, Jcb.eq_1] at a6
 refine cT ?_
 exact eM a6 (_, _, _)
 rintro ⟨t4, aV, aW⟩ ⟨bI, _⟩ rfl j4
 exact eE hm

def JbT (x9 : Str) : List Jc → Nat → (List Jc) → Option ((List Jc))
  | [], _, ac => some ac
  | e0 :: aT, i0, ac =>
    (JaX e0.Name).bind fun aU =>
    if decide (aU ≠ x9) then
    (chk (ac.length + [e0].length ≤ lim)).bind fun _ =>
    JbT x9 aT (i0 + 1) (ac ++ [e0])
    else
    JbT x9 aT (i0 + 1) ac
def JdR (f : (List Jc)) (name : Str) : Option ((List Jc)) :=
  (JaX name).bind fun x9 =>
  (chk (f.length ≤ qa7)).bind fun _ =>
  (JbT x9 f 0 []).bind fun t0 =>
  some t0
theorem Jeq {f : (List Jc)} {name : Str} {aa : Option Addr} {ab : Nat} {n0 : Nat} {K : Hp} {r : (List Jc)}
    (hm : JdR f name = some r) (hX : RdC Jc.enc K aa ab 2 f ∧ n0 = f.length) :
    Fn Tryz.prog 72 [.slice aa n0 ab, str name] K [] (fun v K' H' => ∃ ar_0 : Option Addr, ∃ cr_0 : Nat, v = .slice ar_0 r.length cr_0 ∧ (0 < r.length → Has ar_0) ∧ H' = [qau Jc.enc ar_0 41 2 cr_0 r]) := by
 obtain ⟨ae, bc⟩ := hX
 subst bc
 refine Fn.enter Tryz.func72 Tryz.call72 rfl fun F => ?_
 unfold JdR at hm
 refine cb hm fun x9 q9 hm => cg0 (Jbd q9 :) ?_
 refine ro (qal rfl ?_)
 obtain ⟨aZ, hm⟩ := qaw hm
 obtain ⟨s0, aV, hm⟩ := bnd hm
 refine qhp Jc.enc 41 2 ?_
 refine lD (σ := ((List Jc)) × Option Addr × Nat) ([5,7] ++ rg 12 14) [1] (fun i0 => [(12, .int .i64 (i0 : Int))]) (fun (t0, aT, aU) => [(5, .slice aT t0.length aU)]) (fun (t0, aT, aU) => [qau Jc.enc aT 41 2 aU t0]) (fun (t0, aT, aU) => (0 < t0.length → Has aT) ∧ True) (fun i0 (t0, aT, aU) => JbT x9 (f.drop i0) i0 t0 = some s0) (fun (t0, aT, aU) => t0 = s0) (fun i0 => f.length - i0) 0 (_, _, _) aV (And.intro qe (And.intro ?_ ?_))
 clear aV
 rintro i0 ⟨ac, a8, a6⟩ ⟨aX, _⟩ aV j0
 conv at aV => whnf
 refine qac rfl ?_
 refine qah ?_ ?_ <;> intro w0
 obtain ⟨e0, aW, bd⟩ := ltx w0
 rw [bd, JbT.eq_2] at aV
 refine qam rfl ?_
 refine RStep.ofN (qae rfl rfl (qf3 ae.rd aW) (nn _) (qbs aW) (ro (qao i0 _ ae.rd rfl (mp aW) rfl ?_)))
 refine qai rfl fun b7 => ?_
 refine qaa r0 rfl ⟨rfl, rfl, (nl rfl), ?_⟩
 refine fa rfl (ro (ld r0 rfl rfl ?_))
 refine cb aV fun bj ba aV => cg0 (Jbd ba :) ?_
 refine qbr (cs rfl rfl aV ?_ ?_) <;> intro bg aV
 refine ro (qab r0 rfl (nl rfl) ?_)
 refine bsO (len := 1) (enc := Jc.enc) (l := [e0]) (cl := [str e0.Name, str e0.Value]) qdr rfl rfl (fun _ _ => rfl) rfl rfl rfl ?_ fun bf => ?_
 · conv => whnf
   refine cT ?_
   first | done | rfl
 obtain ⟨bb, aV⟩ := qaw aV
 refine apE rfl r2 qdr (qay rfl r0 rfl (fun _ => rfl) (fun _ => rfl)) bb ?_
 intro bl bm bh
 refine qan (qbu aW aZ) ?_
 exact eR aV (_, _, _, _)
 refine qan (qbu aW aZ) ?_
 exact eR aV (_, _, _, _)
 rw [lty w0, JbT.eq_1] at aV
 refine cT ?_
 exact eM aV (_, _, _)
 rintro ⟨t0, aT, aU⟩ ⟨aY, _⟩ rfl j0
 exact eE hm

def qb4 (x : Jc) : Option (Bool) :=
  (qcn x.Name).bind fun x5 =>
  (JA x5 ([113, 117, 97, 121, 45] : Str)).bind fun x6 =>
  some x6
theorem qc0 {x : Jc} {K : Hp} {r : Bool}
    (hm : qb4 x = some r)  :
    Fn Tryz.prog 74 [.agg #[str x.Name, str x.Value]] K [] (fun v K' H' => v = .bool r ∧ H' = []) := by
 refine Fn.enter Tryz.func74 Tryz.call74 rfl fun F => ?_
 unfold qb4 at hm
 refine qas ?_
 intro b1
 refine fa rfl (ro (ld r0 rfl rfl ?_))
 refine cb hm fun x5 q5 hm => cg0 (qd0 q5 :) ?_
 refine cb hm fun x6 q6 hm => cg0 (Ja2 q6 :) ?_
 exact eE hm

def JR : List Jc → Nat → Option (Fl (Int) (Unit))
  | [], _ => some (Fl.go ())
  | e0 :: aT, i0 =>
    (qb4 e0).bind fun aU =>
    if aU then
    some (Fl.ret (i0 : Int))
    else
    JR aT (i0 + 1)
def Jay (s : (List Jc)) : Option (Int) :=
  (chk (s.length ≤ qa7)).bind fun _ =>
  (JR s 0).bind fun s0 => s0.el some fun t0 =>
  some (-1)
theorem Jb6 {s : (List Jc)} {aa : Option Addr} {ab : Nat} {n0 : Nat} {K : Hp} {r : Int}
    (hm : Jay s = some r) (hX : RdC Jc.enc K aa ab 2 s ∧ n0 = s.length) :
    Fn Tryz.prog 127 [.slice aa n0 ab, .func (.func 74) #[] #[]] K [] (fun v K' H' => v = .int .i64 r ∧ H' = []) := by
 obtain ⟨ae, aV⟩ := hX
 subst aV
 refine Fn.enter Tryz.func127 Tryz.call127 rfl fun F => ?_
 unfold Jay at hm
 refine ro (qal rfl ?_)
 obtain ⟨aW, hm⟩ := qaw hm
 obtain ⟨s0, aT, hm⟩ := bnd hm
 refine lD (σ := (Unit)) ([4,5] ++ rg 8 11) [0] (fun i0 => [(8, .int .i64 (i0 : Int))]) (fun _ => []) (fun _ => []) (fun _ => True) (fun i0 _ => JR (s.drop i0) i0 = some s0) (fun t0 => s0 = Fl.go t0) (fun i0 => s.length - i0) 0 () aT (And.intro qe (And.intro ?_ ?_))
 clear aT
 rintro i0 _ _ aT j0
 conv at aT => whnf
 refine qac rfl ?_
 refine qah ?_ ?_ <;> intro w0
 obtain ⟨e0, aU, aX⟩ := ltx w0
 rw [aX, JR.eq_2] at aT
 refine qam rfl ?_
 refine RStep.ofN (qae rfl rfl (qf3 ae.rd aU) (nn _) (qbs aU) (ro (qao i0 _ ae.rd rfl (mp aU) rfl ?_)))
 refine cb aT fun a6 aY aT => cg0 (qc0 aY :) ?_
 refine cs rfl rfl aT ?_ ?_ <;> intro aZ aT
 exact eE (er aT hm)
 refine qan (qbu aU aW) ?_
 exact eR aT (_, ())
 rw [lty w0, JR.eq_1] at aT
 refine cT ?_
 exact eM aT _
 rintro t0 _ rfl j0
 replace hm := elg hm
 exact eE hm

def JE (s : (List Jc)) : Nat → Int → Int → (List Jc) → Option (Int × Int × (List Jc))
  | 0, _, _, _ => none
  | aV + 1, ac, aT, aU =>
    if decide (aT < (s.length : Int)) then
    (ix aU aT).bind fun aW =>
    (qb4 aW).bind fun aX =>
    if (!aX) then
    (ix aU ac).bind fun aY =>
    (chk (InI (ac + 1))).bind fun _ =>
    (chk (InI (aT + 1))).bind fun _ =>
    JE s aV (ac + 1) (aT + 1) (aU.set ((ac).toNat) aW)
    else
    (chk (InI (aT + 1))).bind fun _ =>
    JE s aV ac (aT + 1) aU
    else
    some (ac, aT, aU)
def J4 (n : Nat) (s : (List Jc)) : Option ((List Jc)) :=
  (Jay s).bind fun aT =>
  if decide (aT = (-1)) then
  some s
  else
  (chk (InI (aT + 1))).bind fun _ =>
  (JE s n aT (aT + 1) s).bind fun t0 =>
  (chk (0 ≤ t0.1 ∧ t0.1 ≤ (t0.2.2.length : Int) ∧ (t0.2.2.length : Int) ≤ (t0.2.2.length : Int))).bind fun _ =>
  (chk (0 ≤ (0 : Int) ∧ (0 : Int) ≤ t0.1 ∧ t0.1 ≤ ((SL.clr t0.2.2 (Int.toNat t0.1) (⟨([] : Str), ([] : Str)⟩ : Jc)).length : Int))).bind fun _ =>
  some (subL (SL.clr t0.2.2 (Int.toNat t0.1) (⟨([] : Str), ([] : Str)⟩ : Jc)) (0 : Int) t0.1)
theorem JbI {n : Nat} {s : (List Jc)} {aa : Option Addr} {ab : Nat} {n0 : Nat} {K : Hp} {r : (List Jc)}
    (hm : J4 n s = some r) (hX : (0 < s.length → Has aa) ∧ n0 = s.length) :
    Fn Tryz.prog 73 [.slice aa n0 ab, .func (.func 74) #[] #[]] K [qau Jc.enc aa 41 2 ab s] (fun v K' H' => ∃ ar_0 : Option Addr, ∃ cr_0 : Nat, v = .slice ar_0 r.length cr_0 ∧ (0 < r.length → Has ar_0) ∧ H' = [qau Jc.enc ar_0 41 2 cr_0 r]) := by
 obtain ⟨ae, bm⟩ := hX
 subst bm
 refine Fn.enter Tryz.func73 Tryz.call73 rfl fun F => ?_
 unfold J4 at hm
 refine cb hm fun bt bo hm => ck0 (Fn.lend Tryz.call127 (fun bd bh aY => (Jb6 bo ⟨aY, rfl⟩)) (by exact fun _ _ _ _ h => h)) ?_
 rintro _ _ _ ⟨_, rfl, rfl, rfl⟩
 refine qag (cs rfl rfl hm ?_ ?_) <;> intro bu hm
 exact eE hm
 refine ci hm fun hm => ?_
 obtain ⟨s0, aT, hm⟩ := bnd hm
 refine lD (σ := (Int × Int × (List Jc))) ([5,6,7] ++ rg 16 20) [1] (fun _ => []) (fun t0 => [(5, .int .i64 t0.1), (6, .int .i64 t0.2.1)]) (fun t0 => [qau Jc.enc aa 41 2 ab t0.2.2]) (fun t0 => (0 < t0.2.2.length → Has aa) ∧ s.length = t0.2.2.length) (fun i0 t0 => JE s i0 t0.1 t0.2.1 t0.2.2 = some s0) (fun t0 => t0 = s0) (fun i0 => i0) n (_, _, _) aT (And.intro qe (And.intro ?_ ?_))
 clear aT
 rintro i0 ⟨ac, aX, ba⟩ ⟨aV, aU⟩ aT j0
 dsimp only at aT ⊢
 cases i0 with
 | zero => rw [JE.eq_1] at aT; cases aT
 | succ i0 =>
  rw [JE.eq_2] at aT
  refine ro (qal rfl ?_)
  refine cs rfl rfl aT ?_ ?_ <;> intro bv aT
  refine qam rfl ?_
  obtain ⟨bj, bc, a8, aT⟩ := ixb aT
  refine RStep.ofN (qae rfl rfl (qcv aV a8) bc (qaz aU bc a8) (ro (qia (i := (aX).toNat) r0 rfl a8 rfl rfl ?_)))
  refine qai rfl fun b7 => ?_
  refine qaa r0 rfl ⟨rfl, rfl, (nl rfl), ?_⟩
  refine ro (qab r0 rfl (nl rfl) ?_)
  refine cb aT fun br bn aT => cg0 (qc0 bn :) ?_
  refine qax ?_
  refine cs rfl rfl aT ?_ ?_ <;> intro bp aT
  refine ro (qab r0 rfl (nl rfl) ?_)
  obtain ⟨bl, bf, bb, aT⟩ := ixb aT
  refine RStep.ofN (qae rfl rfl (qcv aV bb) bf (qaz aU bf bb) ?_)
  refine qe7 (o := 0) (y := bj) bl r1 rfl bb rfl (by (conv => whnf); exact ⟨rfl, rfl, (nl rfl), rfl, rfl, rfl⟩) ?_
  refine ci aT fun aT => ?_
  refine ci aT fun aT => ?_
  exact rd (i0, ((ac + 1), (aX + 1), (ba.set ((ac).toNat) bj))) ⟨rfl, rfl, trivial⟩ rfl (sc [0,1] rfl) lr (Nat.lt_succ_self _) ⟨⟨(by first | simpa using aV | exact fun _ => ⟨_, _, rfl⟩), ((aU).trans List.length_set.symm)⟩, aT⟩
  refine ci aT fun aT => ?_
  exact eR aT (_, (_, _, _))
  refine cT ?_
  exact eM aT _
 rintro t0 ⟨aZ, aW⟩ rfl j0
 obtain ⟨a6, hm⟩ := qaw hm
 refine qqd (l := t0.2.2) (lo := (some t0.1)) (hi := none) aW r0 (by simp) rfl rfl a6 ?_
 refine qrr (lo := (Int.toNat t0.1)) (x := (⟨([] : Str), ([] : Str)⟩ : Jc)) r0 rfl rfl rfl rfl rfl (by decide) (qsz (css := t0.2.2) rfl a6) (qrj (css := t0.2.2) rfl a6) ?_
 obtain ⟨bg, hm⟩ := qaw hm
 refine qn2 (l := (SL.clr t0.2.2 (Int.toNat t0.1) (⟨([] : Str), ([] : Str)⟩ : Jc))) (hi := (some t0.1)) ((aW).trans (qqe a6).symm) r0 (by simp) rfl rfl bg ?_
 obtain rfl := si hm
 refine tkE t0.1 r0 ?_
 exact en lr ⟨aa, ab, rfl, (fun h => (fun h => aZ (qqf h)) (qgv bg h)), rfl⟩ (pf rfl)

def tenant_upstream_L0 : Nat → Nat → (List Jc) → Option ((List Jc))
  | 0, _, ac => some ac
  | aU + 1, i0, ac =>
    (ix ([([104, 111, 115, 116] : Str), ([114, 97, 110, 103, 101] : Str), ([105, 102, 45, 114, 97, 110, 103, 101] : Str), ([105, 102, 45, 109, 97, 116, 99, 104] : Str), ([105, 102, 45, 110, 111, 110, 101, 45, 109, 97, 116, 99, 104] : Str), ([105, 102, 45, 109, 111, 100, 105, 102, 105, 101, 100, 45, 115, 105, 110, 99, 101] : Str), ([105, 102, 45, 117, 110, 109, 111, 100, 105, 102, 105, 101, 100, 45, 115, 105, 110, 99, 101] : Str)]) (i0 : Int)).bind fun aV =>
    (JdR ac aV).bind fun aT =>
    tenant_upstream_L0 aU (i0 + 1) aT
def tenant_upstream_L2 : List Jc → Nat → (List Jc) → Option ((List Jc))
  | [], _, aT => some aT
  | e2 :: aU, i2, aT =>
    (JcP aT e2.Name e2.Value).bind fun aV =>
    tenant_upstream_L2 aU (i2 + 1) aV
def tenant_upstream (n : Nat) (f : (List Jc)) (headers : (List Jc)) : Option ((List Jc)) :=
  (JdB n f).bind fun aU =>
  (chk (InI (7 : Int))).bind fun _ =>
  (tenant_upstream_L0 (7 : Int).toNat 0 aU).bind fun t0 =>
  (J4 n t0).bind fun aT =>
  (chk (headers.length ≤ qa7)).bind fun _ =>
  (tenant_upstream_L2 headers 0 aT).bind fun t2 =>
  some t2
theorem qeu {n : Nat} {f : (List Jc)} {headers : (List Jc)} {aa : Option Addr} {ab : Nat} {n0 : Nat} {af : Option Addr} {ag : Nat} {n1 : Nat} {K : Hp} {r : (List Jc)}
    (hm : tenant_upstream n f headers = some r) (hX : RdC Jc.enc K aa ab 2 f ∧ n0 = f.length ∧ RdC Jc.enc K af ag 2 headers ∧ n1 = headers.length) :
    Fn Tryz.prog 41 [.slice aa n0 ab, .slice af n1 ag] K [] (fun v K' H' => ∃ ar_0 : Option Addr, ∃ cr_0 : Nat, v = .slice ar_0 r.length cr_0 ∧ (0 < r.length → Has ar_0) ∧ H' = [qau Jc.enc ar_0 41 2 cr_0 r]) := by
 obtain ⟨ae, bL, ai, bS⟩ := hX
 subst bL
 subst bS
 refine Fn.enter Tryz.func41 Tryz.call41 rfl fun F => ?_
 unfold tenant_upstream at hm
 refine cb hm fun bV bP hm => ckx (Jeu bP :) ?_
 rintro _ _ _ ⟨bc, bf, rfl, bC, rfl⟩
 refine bsO (len := 7) (enc := eS) (l := [([104, 111, 115, 116] : Str), ([114, 97, 110, 103, 101] : Str), ([105, 102, 45, 114, 97, 110, 103, 101] : Str), ([105, 102, 45, 109, 97, 116, 99, 104] : Str), ([105, 102, 45, 110, 111, 110, 101, 45, 109, 97, 116, 99, 104] : Str), ([105, 102, 45, 109, 111, 100, 105, 102, 105, 101, 100, 45, 115, 105, 110, 99, 101] : Str), ([105, 102, 45, 117, 110, 109, 111, 100, 105, 102, 105, 101, 100, 45, 115, 105, 110, 99, 101] : Str)]) (cl := [str ([104, 111, 115, 116] : Str), str ([114, 97, 110, 103, 101] : Str), str ([105, 102, 45, 114, 97, 110, 103, 101] : Str), str ([105, 102, 45, 109, 97, 116, 99, 104] : Str), str ([105, 102, 45, 110, 111, 110, 101, 45, 109, 97, 116, 99, 104] : Str), str ([105, 102, 45, 109, 111, 100, 105, 102, 105, 101, 100, 45, 115, 105, 110, 99, 101] : Str), str ([105, 102, 45, 117, 110, 109, 111, 100, 105, 102, 105, 101, 100, 45, 115, 105, 110, 99, 101] : Str)]) qbp rfl rfl (fun _ _ => rfl) rfl rfl rfl ?_ fun bX => ?_
 · conv => whnf
   refine cT (cT (cT (cT (cT (cT (cT ?_))))))
   first | done | rfl
 refine ro (qal rfl ?_)
 obtain ⟨bO, hm⟩ := qaw hm
 obtain ⟨s0, aX, hm⟩ := bnd hm
 refine lD (σ := ((List Jc)) × Option Addr × Nat) ([5,7] ++ rg 14 8) [0, 2] (fun i0 => [(14, .int .i64 (i0 : Int))]) (fun (t0, aT, aV) => [(5, .slice aT t0.length aV)]) (fun (t0, aT, aV) => [qau Jc.enc aT 41 2 aV t0]) (fun (t0, aT, aV) => (0 < t0.length → Has aT) ∧ True) (fun i0 (t0, aT, aV) => tenant_upstream_L0 ((7 : Int).toNat - i0) i0 t0 = some s0) (fun (t0, aT, aV) => t0 = s0) (fun i0 => (7 : Int).toNat - i0) 0 (_, _, _) aX (And.intro qe (And.intro ?_ ?_))
 clear aX
 rintro i0 ⟨ac, bn, bh⟩ ⟨bd, _⟩ aX j0
 conv at aX => whnf
 refine qac rfl ?_
 refine qah ?_ ?_ <;> intro w0
 rw [ltn (n := (7 : Int)) w0, tenant_upstream_L0.eq_2] at aX
 refine qam rfl ?_
 obtain ⟨bQ, bw, ba, aX⟩ := ixb aX
 refine RStep.ofN (qae rfl rfl (qcv (fun _ => ⟨_, _, rfl⟩) ba) bw (qaz rfl bw ba) (ro (qb1 (i := ((i0 : Int)).toNat) (o := 0) r1 rfl ba rfl rfl ?_)))
 refine cb aX fun bW bJ aX => ck0 (Fn.lend Tryz.call72 (fun bG bH a6 => (Jeq (name := bQ) bJ ⟨a6, rfl⟩)) (by exact fun _ _ _ _ h => h)) ?_
 rintro _ _ _ ⟨_, rfl, bt, bz, rfl, bF, rfl⟩
 refine qan (qjm w0 bO) ?_
 exact eR aX (_, _, _, _)
 rw [lto (n := (7 : Int)) w0, tenant_upstream_L0.eq_1] at aX
 refine cT ?_
 exact eM aX (_, _, _)
 rintro ⟨t0, aT, aV⟩ ⟨bu, _⟩ rfl j0
 refine cb hm fun bU bM hm => ckx (JbI bM :) ?_
 rintro _ _ _ ⟨bl, bg, rfl, bD, rfl⟩
 refine ro (qal rfl ?_)
 obtain ⟨bN, hm⟩ := qaw hm
 obtain ⟨s2, aY, hm⟩ := bnd hm
 refine lD (σ := ((List Jc)) × Option Addr × Nat) ([5,9] ++ rg 26 11) [1, 2] (fun i2 => [(26, .int .i64 (i2 : Int))]) (fun (t2, aU, aW) => [(5, .slice aU t2.length aW)]) (fun (t2, aU, aW) => [qau Jc.enc aU 41 2 aW t2]) (fun (t2, aU, aW) => (0 < t2.length → Has aU) ∧ True) (fun i2 (t2, aU, aW) => tenant_upstream_L2 (headers.drop i2) i2 t2 = some s2) (fun (t2, aU, aW) => t2 = s2) (fun i2 => headers.length - i2) 0 (_, _, _) aY (And.intro qe (And.intro ?_ ?_))
 clear aY
 rintro i2 ⟨bR, bv, bb⟩ ⟨bo, _⟩ aY j2
 conv at aY => whnf
 refine qac rfl ?_
 refine qah ?_ ?_ <;> intro w2
 obtain ⟨e2, a8, bI⟩ := ltx w2
 rw [bI, tenant_upstream_L2.eq_2] at aY
 refine qam rfl ?_
 refine RStep.ofN (qae rfl rfl (qf3 ai.rd a8) (nn _) (qbs a8) (ro (qao i2 _ ai.rd rfl (mp a8) rfl ?_)))
 refine qai rfl fun b9 => ?_
 refine qaa r0 rfl ⟨rfl, rfl, (nl rfl), ?_⟩
 refine fa rfl (ro (ld r0 rfl rfl (fa rfl (ro (ld r0 rfl rfl ?_)))))
 refine cb aY fun bT bK aY => ck0 (Fn.lend Tryz.call21 (fun bB bp aZ => (Jei (name := e2.Name) (value := e2.Value) bK ⟨aZ, rfl⟩)) (by exact fun _ _ _ _ h => h)) ?_
 rintro _ _ _ ⟨_, rfl, bA, br, rfl, bm, rfl⟩
 refine qan (qbu a8 bN) ?_
 exact eR aY (_, _, _, _)
 rw [lty w2, tenant_upstream_L2.eq_1] at aY
 refine cT ?_
 exact eM aY (_, _, _)
 rintro ⟨t2, aU, aW⟩ ⟨bj, _⟩ rfl j2
 exact eE hm

def tags_good_L0 : List UInt8 → Nat → Option (Fl (Bool) (Unit))
  | [], _ => some (Fl.go ())
  | e0 :: aT, i0 =>
    (if decide ((e0.toNat : Int) < 33) then some true else some (decide ((e0.toNat : Int) > 126))).bind fun aU =>
    if aU then
    some (Fl.ret false)
    else
    tags_good_L0 aT (i0 + 1)
def tags_good (s : Str) : Option (Bool) :=
  if (decide ((s.length : Int) < 1) || decide ((s.length : Int) > 32)) then
  some false
  else
  (chk (s.length ≤ qa7)).bind fun _ =>
  (tags_good_L0 s 0).bind fun s0 => s0.el some fun t0 =>
  some true
theorem qip {s : Str} {K : Hp} {r : Bool}
    (hm : tags_good s = some r)  :
    Fn Tryz.prog 129 [str s] K [] (fun v K' H' => v = .bool r ∧ H' = []) := by
 refine Fn.enter Tryz.func129 Tryz.call129 rfl fun F => ?_
 unfold tags_good at hm
 refine jR (σ := Unit) (rg 4 8) (fun _ => [(11, .bool (decide ((s.length : Int) < 1) || decide ((s.length : Int) > 32)))]) (fun aZ => True) ?_ ?_
 refine qaf rfl ?_
 refine ro (qa3 rfl ?_)
 refine qah ?_ ?_ <;> intro aV
 refine ct aV (ct aV (ct aV ?_))
 exact eMt () ⟨bq (((qbv aV)).symm), trivial⟩
 refine cf aV (ro (qa3 rfl (cf aV (cf aV ?_))))
 exact eMt () ⟨bq (qhb (b := decide ((s.length : Int) > 32)) aV), trivial⟩
 rintro _ _ ba
 refine cs rfl rfl hm ?_ ?_ <;> intro bb hm
 exact eE hm
 refine ro (qa3 rfl ?_)
 obtain ⟨a6, hm⟩ := qaw hm
 obtain ⟨s0, aU, hm⟩ := bnd hm
 refine lD (σ := (Unit)) ([2,3] ++ rg 14 14) [0] (fun i0 => [(14, .int .i64 (i0 : Int))]) (fun _ => []) (fun _ => []) (fun _ => True) (fun i0 _ => tags_good_L0 (s.drop i0) i0 = some s0) (fun t0 => s0 = Fl.go t0) (fun i0 => s.length - i0) 0 () aU (And.intro qe (And.intro ?_ ?_))
 clear aU
 rintro i0 _ _ aU j0
 conv at aU => whnf
 refine qac rfl ?_
 refine qah ?_ ?_ <;> intro w0
 obtain ⟨e0, aX, a8⟩ := ltx w0
 rw [a8, tags_good_L0.eq_2] at aU
 refine qam rfl ?_
 refine qaf rfl ?_
 refine qa0 rfl (nn _) aX ?_
 obtain ⟨bc, aW, aU⟩ := bnd aU
 refine cS aW (fun aT aW => ?_) fun aT aW => ?_
 refine ct aT (ct aT (ct aT (ct aT (qac rfl (cT ?_)))))
 replace aU := ift (si aW).symm aU
 exact eE (er aU hm)
 refine cf aT (cf aT (qa0 rfl (nn _) aX (cf aT (cf aT (qac rfl ?_)))))
 refine qah ?_ ?_ <;> intro aY
 replace aU := ift ((si aW).symm.trans aY) aU
 exact eE (er aU hm)
 replace aU := qbb ((si aW).symm.trans aY) aU
 refine qan (qbu aX a6) ?_
 exact eR aU (_, ())
 rw [lty w0, tags_good_L0.eq_1] at aU
 refine cT ?_
 exact eM aU _
 rintro t0 _ rfl j0
 replace hm := elg hm
 exact eE hm

def tags_Clean_L2 (s : Str) : Nat → Int → Option (Int)
  | 0, _ => none
  | aW + 1, aT =>
    (if decide (aT < (s.length : Int)) then (ix s aT).bind fun aY =>
    some (decide ((aY.toNat : Int) ≠ 32)) else some false).bind fun aX =>
    (if aX then (ix s aT).bind fun aV =>
    some (decide ((aV.toNat : Int) ≠ 9)) else some false).bind fun aU =>
    if aU then
    (chk (InI (aT + 1))).bind fun _ =>
    tags_Clean_L2 s aW (aT + 1)
    else
    some aT
def tags_Clean_L0 (s : Str) (n : Nat) : Nat → (List Str) → Int → Option (Fl ((List Str) × Err) ((List Str) × Int))
  | 0, _, _ => none
  | aU + 1, ac, aT =>
    if decide (aT < (s.length : Int)) then
    (((ix s aT).bind fun aZ =>
    (if decide ((aZ.toNat : Int) = 32) then some true else (ix s aT).bind fun aX =>
    some (decide ((aX.toNat : Int) = 9))).bind fun aY =>
    some aY) : Option (Bool)).bind fun aV =>
    if aV then
    (chk (InI (aT + 1))).bind fun _ =>
    tags_Clean_L0 s n aU ac (aT + 1)
    else
    (tags_Clean_L2 s n aT).bind fun t2 =>
    (chk (0 ≤ aT ∧ aT ≤ t2 ∧ t2 ≤ (s.length : Int))).bind fun _ =>
    (tags_good (subL s aT t2)).bind fun a6 =>
    if (!a6) then
    some (Fl.ret ([], (some 2)))
    else
    (if decide ((ac.length : Int) < 16) then (JD ac (subL s aT t2)).bind fun aW =>
    some (!aW) else some false).bind fun a8 =>
    if a8 then
    (chk (ac.length + [(subL s aT t2)].length ≤ lim)).bind fun _ =>
    tags_Clean_L0 s n aU (ac ++ [(subL s aT t2)]) t2
    else
    tags_Clean_L0 s n aU ac t2
    else
    some (Fl.go (ac, aT))
def qdk (n : Nat) (s : Str) : Option ((List Str) × Err) :=
  (tags_Clean_L0 s n n [] 0).bind fun s0 => s0.el some fun t0 =>
  (qdy t0.1).bind fun aT =>
  some (aT, none)
theorem qh0 {n : Nat} {s : Str} {K : Hp} {r : (List Str) × Err}
    (hm : qdk n s = some r)  :
    Fn Tryz.prog 76 [str s] K [] (fun v K' H' => ∃ ar_0 : Option Addr, ∃ cr_0 : Nat, v = .tuple #[.slice ar_0 r.1.length cr_0, qc5 48 r.2] ∧ (0 < r.1.length → Has ar_0) ∧ H' = [qau eS ar_0 9 1 cr_0 r.1]) := by
 refine Fn.enter Tryz.func76 Tryz.call76 rfl fun F => ?_
 unfold qdk at hm
 obtain ⟨s0, aT, hm⟩ := bnd hm
 refine qhp eS 9 1 ?_
 refine lD (σ := ((List Str) × Int) × Option Addr × Nat) (rg 2 63) [1] (fun _ => []) (fun (t0, aW, a6) => [(4, .slice aW t0.1.length a6), (5, .int .i64 t0.2)]) (fun (t0, aW, a6) => [qau eS aW 9 1 a6 t0.1]) (fun (t0, aW, a6) => (0 < t0.1.length → Has aW) ∧ True) (fun i0 (t0, aW, a6) => tags_Clean_L0 s n i0 t0.1 t0.2 = some s0) (fun (t0, aW, a6) => s0 = Fl.go t0) (fun i0 => i0) n ((_, _), _, _) aT (And.intro qe (And.intro ?_ ?_))
 clear aT
 rintro i0 ⟨⟨ac, bb⟩, bt, bo⟩ ⟨bn, _⟩ aT j0
 dsimp only at aT ⊢
 cases i0 with
 | zero => rw [tags_Clean_L0.eq_1] at aT; cases aT
 | succ i0 =>
  rw [tags_Clean_L0.eq_2] at aT
  refine ro (qa3 rfl ?_)
  refine cs rfl rfl aT ?_ ?_ <;> intro bP aT
  refine qam rfl ?_
  obtain ⟨bm, a8, aT⟩ := bnd aT
  refine jR (σ := Bool) (rg 12 10) (fun bc => [(21, .bool bc)]) (fun bc => bc = bm) ?_ ?_
  refine qaf rfl ?_
  obtain ⟨ce, bw, bJ, a8⟩ := ixb a8
  refine qa0 rfl bw bJ (qag ?_)
  obtain ⟨bV, bg, a8⟩ := bnd a8
  refine cS bg (fun aY bg => ?_) fun aY bg => ?_
  refine ct aY (ct aY (ct aY (ct aY ?_)))
  exact eMq a8 _ ⟨bq (si bg), trivial⟩
  refine cf aY (cf aY ?_)
  obtain ⟨bZ, bz, bK, bg⟩ := ixb bg
  refine qa0 rfl bz bK (cf aY (qag (cf aY ?_)))
  exact eMq a8 _ ⟨bq (si bg), trivial⟩
  rintro bc rfl bD
  refine cs rfl rfl aT ?_ ?_ <;> intro bU aT
  obtain ⟨bG, aT⟩ := qaw aT
  refine qan bG (cT ?_)
  exact eR aT (_, (_, _), _, _)
  obtain ⟨s2, aZ, aT⟩ := bnd aT
  refine lD (σ := (Int)) ([6] ++ rg 25 18) [0, 1] (fun _ => []) (fun t2 => [(6, .int .i64 t2)]) (fun _ => []) (fun _ => True) (fun i2 t2 => tags_Clean_L2 s i2 t2 = some s2) (fun t2 => t2 = s2) (fun i2 => i2) n _ aZ (And.intro qe (And.intro ?_ ?_))
  clear aZ
  rintro i2 bO _ aZ j2
  conv at aZ => whnf
  cases i2 with
  | zero => rw [tags_Clean_L2.eq_1] at aZ; cases aZ
  | succ i2 =>
   rw [tags_Clean_L2.eq_2] at aZ
   refine qaf rfl ?_
   refine ro (qa3 rfl ?_)
   obtain ⟨bR, bd, aZ⟩ := bnd aZ
   refine cS bd (fun aX bd => ?_) fun aX bd => ?_
   refine ct aX (ct aX ?_)
   obtain ⟨cd, bI, bN, bd⟩ := ixb bd
   refine qa0 rfl bI bN (ct aX (qa8 (ct aX ?_)))
   obtain ⟨bF, ba, aZ⟩ := bnd aZ
   refine qah ?_ ?_ <;> intro aV
   replace ba := ift ((si bd).symm.trans aV) ba
   refine ct aV (ct aV ?_)
   obtain ⟨bW, bC, bA, ba⟩ := ixb ba
   refine qa0 rfl bC bA (ct aV (qa8 (ct aV (qac rfl ?_))))
   refine qah ?_ ?_ <;> intro bu
   replace aZ := ift ((si ba).symm.trans bu) aZ
   refine qam rfl ?_
   refine ci aZ fun aZ => ?_
   exact eR aZ (_, _)
   replace aZ := qbb ((si ba).symm.trans bu) aZ
   refine cT ?_
   exact eM aZ _
   replace ba := qbb ((si bd).symm.trans aV) ba
   refine cf aV (cf aV (cf aV (cf aV (qac rfl (cF ?_)))))
   replace aZ := qbb (si ba).symm aZ
   refine cT ?_
   exact eM aZ _
   refine cf aX (cf aX (cf aX (cf aX ?_)))
   obtain ⟨bF, ba, aZ⟩ := bnd aZ
   replace ba := qbb (si bd).symm ba
   refine cF (cF (cF (cF (cF (qac rfl (cF ?_))))))
   replace aZ := qbb (si ba).symm aZ
   refine cT ?_
   exact eM aZ _
  rintro t2 _ rfl j2
  obtain ⟨bM, aT⟩ := qaw aT
  refine RStep.ofN (qdx (lo := (some bb)) (hi := (some t2)) rfl bM ?_)
  refine cb aT fun cj bL aT => cg0 (qip bL :) ?_
  refine qax ?_
  refine cs rfl rfl aT ?_ ?_ <;> intro bX aT
  refine qat rfl ?_
  refine qci eS 9 1 ?_
  exact eE (er aT hm)
  refine qaf rfl ?_
  refine ro (qal rfl ?_)
  obtain ⟨bQ, bf, aT⟩ := bnd aT
  refine cS bf (fun aU bf => ?_) fun aU bf => ?_
  refine ct aU (ct aU ?_)
  refine cb bf fun bT bH bf => ck0 (Fn.lend Tryz.call53 (fun br bp bj => (JT (v' := (subL s bb t2)) bH ⟨bj, rfl⟩)) (by exact fun _ _ _ _ h => h)) ?_
  rintro _ _ _ ⟨_, rfl, rfl, rfl⟩
  refine ct aU (qax (ct aU (qac rfl ?_)))
  refine qah ?_ ?_ <;> intro bv
  replace aT := ift ((si bf).symm.trans (qfp (qlg bv))) aT
  refine bsO (len := 1) (enc := eS) (l := [(subL s bb t2)]) (cl := [str (subL s bb t2)]) qbp rfl rfl (fun _ _ => rfl) rfl rfl rfl ?_ fun bY => ?_
  · conv => whnf
    refine cT ?_
    first | done | rfl
  obtain ⟨bB, aT⟩ := qaw aT
  refine apE rfl r1 qbp (qay rfl r0 rfl (fun _ => rfl) (fun _ => rfl)) bB ?_
  intro bS cn cm
  exact eR aT (_, (_, _), _, _)
  replace aT := qbb ((si bf).symm.trans (qdo (qio bv))) aT
  exact eR aT (_, (_, _), _, _)
  refine cf aU (cf aU (cf aU (cf aU (qac rfl (cF ?_)))))
  replace aT := qbb (si bf).symm aT
  exact eR aT (_, (_, _), _, _)
  refine cT ?_
  exact eM aT (_, _, _)
 rintro ⟨t0, aW, a6⟩ ⟨bh, _⟩ rfl j0
 replace hm := elg hm
 refine cb hm fun ca bl hm => cg0 (qdj bl rfl) ?_
 cases hm
 exact en lr ⟨aW, a6, (by rw [← (show _ = t0.1.length from Eq.symm ((Eq.trans (rfl) (qb7 bl).symm)))] <;> rfl), (fun h => bh (by rw [qb7 bl] at h; exact h)), rfl⟩ (pf rfl)

def tenant_words_L0 (n : Nat) : List Str → Nat → (List Str) → Option ((List Str))
  | [], _, ac => some ac
  | e0 :: aV, i0, ac =>
    (qdk n e0).bind fun aT =>
    (((if (aT.2.isNone && decide ((aT.1.length : Int) = 1)) then (ix aT.1 0).bind fun aZ =>
    some (decide (aZ = e0)) else some false).bind fun aW =>
    (if (aW && decide ((ac.length : Int) < 16)) then (JD ac e0).bind fun aY =>
    some (!aY) else some false).bind fun aX =>
    some aX) : Option (Bool)).bind fun aU =>
    if aU then
    (chk (ac.length + [e0].length ≤ lim)).bind fun _ =>
    tenant_words_L0 n aV (i0 + 1) (ac ++ [e0])
    else
    tenant_words_L0 n aV (i0 + 1) ac
def tenant_words (n : Nat) (list : (List Str)) : Option ((List Str)) :=
  (chk (list.length ≤ qa7)).bind fun _ =>
  (tenant_words_L0 n list 0 []).bind fun t0 =>
  (qdy t0).bind fun aT =>
  some aT
theorem qgj {n : Nat} {list : (List Str)} {aa : Option Addr} {ab : Nat} {n0 : Nat} {K : Hp} {r : (List Str)}
    (hm : tenant_words n list = some r) (hX : RdC eS K aa ab 1 list ∧ n0 = list.length) :
    Fn Tryz.prog 43 [.slice aa n0 ab] K [] (fun v K' H' => ∃ ar_0 : Option Addr, ∃ cr_0 : Nat, v = .slice ar_0 r.length cr_0 ∧ (0 < r.length → Has ar_0) ∧ H' = [qau eS ar_0 9 1 cr_0 r]) := by
 obtain ⟨ae, bD⟩ := hX
 subst bD
 refine Fn.enter Tryz.func43 Tryz.call43 rfl fun F => ?_
 unfold tenant_words at hm
 refine ro (qal rfl ?_)
 obtain ⟨bp, hm⟩ := qaw hm
 obtain ⟨s0, a8, hm⟩ := bnd hm
 refine qhp eS 9 1 ?_
 refine lD (σ := ((List Str)) × Option Addr × Nat) ([3,5,6,7] ++ rg 10 39) [1] (fun i0 => [(10, .int .i64 (i0 : Int))]) (fun (t0, aY, aZ) => [(3, .slice aY t0.length aZ)]) (fun (t0, aY, aZ) => [qau eS aY 9 1 aZ t0]) (fun (t0, aY, aZ) => (0 < t0.length → Has aY) ∧ True) (fun i0 (t0, aY, aZ) => tenant_words_L0 n (list.drop i0) i0 t0 = some s0) (fun (t0, aY, aZ) => t0 = s0) (fun i0 => list.length - i0) 0 (_, _, _) a8 (And.intro qe (And.intro ?_ ?_))
 clear a8
 rintro i0 ⟨ac, bv, bt⟩ ⟨bn, _⟩ a8 j0
 conv at a8 => whnf
 refine qac rfl ?_
 refine qah ?_ ?_ <;> intro w0
 obtain ⟨e0, bf, bF⟩ := ltx w0
 rw [bF, tenant_words_L0.eq_2] at a8
 refine qam rfl ?_
 refine RStep.ofN (qae rfl rfl (qf3 ae.rd bf) (nn _) (qbs bf) (ro (qcw i0 0 _ _ ae.rd rfl (mp bf) rfl rfl ?_)))
 refine cb a8 fun bQ bH a8 => ck0 (qh0 bH :) ?_
 rintro _ _ _ ⟨bo, br, rfl, bg, rfl⟩
 obtain ⟨bj, aT, a8⟩ := bnd a8
 refine jR (σ := Bool) (rg 19 25) (fun bb => [(43, .bool bb)]) (fun bb => bb = bj) ?_ ?_
 refine qaf rfl ?_
 refine qbn rfl ?_
 refine qah ?_ ?_ <;> intro aW
 refine ct aW (ro (qal rfl (ct aW (qag (ct aW ?_)))))
 obtain ⟨bB, ba, aT⟩ := bnd aT
 refine qah ?_ ?_ <;> intro aU
 replace ba := ift (qcx aW aU) ba
 refine ct aU ?_
 obtain ⟨bL, bz, bh, ba⟩ := ixb ba
 refine RStep.ofN (qae rfl rfl (qcv bg bh) bz (qaz rfl bz bh) (ct aU (ro (qb1 (i := (0 : Int).toNat) (o := 0) r0 rfl bh rfl rfl (ct aU (ct aU (qaq (ct aU ?_))))))))
 refine qah ?_ ?_ <;> intro aX
 refine ct aX (ro (qal rfl (ct aX (ct aX ?_))))
 obtain ⟨bm, a6, aT⟩ := bnd aT
 refine qah ?_ ?_ <;> intro aV
 replace a6 := ift (qcx ((si ba).symm.trans aX) aV) a6
 refine ct aV (ct aV ?_)
 refine cb a6 fun bN bA a6 => ck0 (Fn.lend Tryz.call53 (fun bu bw bd => (JT (v' := e0) bA ⟨bd, rfl⟩)) (by exact fun _ _ _ _ h => h)) ?_
 rintro _ _ _ ⟨_, rfl, rfl, rfl⟩
 refine ct aV (qax (ct aV ?_))
 exact eMq aT _ ⟨bq (si a6), trivial⟩
 replace a6 := qbb (qcy ((si ba).symm.trans aX) aV) a6
 refine cf aV (cf aV (cf aV (cf aV ?_)))
 exact eMq aT _ ⟨bq (si a6), trivial⟩
 refine cf aX (cf aX (cf aX ?_))
 obtain ⟨bm, a6, aT⟩ := bnd aT
 replace a6 := qbb (qbe ((si ba).symm.trans aX)) a6
 refine cF (cF (cF (cF (cF ?_))))
 exact eMq aT _ ⟨bq (si a6), trivial⟩
 replace ba := qbb (qcy aW aU) ba
 refine cf aU (cf aU (cf aU (cf aU (cf aU (cF (cF (cF ?_)))))))
 refine cF ?_
 obtain ⟨bm, a6, aT⟩ := bnd aT
 replace a6 := qbb (qbe (si ba).symm) a6
 refine cF (cF (cF (cF (cF ?_))))
 exact eMq aT _ ⟨bq (si a6), trivial⟩
 refine cf aW (cf aW (cf aW ?_))
 obtain ⟨bB, ba, aT⟩ := bnd aT
 replace ba := qbb (qbe aW) ba
 refine cF (cF (cF (cF (cF (cF (cF (cF ?_)))))))
 refine cF (cF ?_)
 obtain ⟨bm, a6, aT⟩ := bnd aT
 replace a6 := qbb (qbe (si ba).symm) a6
 refine cF (cF (cF (cF (cF ?_))))
 exact eMq aT _ ⟨bq (si a6), trivial⟩
 rintro bb rfl bG
 refine cs rfl rfl a8 ?_ ?_ <;> intro bI a8
 refine bsO (len := 1) (enc := eS) (l := [e0]) (cl := [str e0]) qbp rfl rfl (fun _ _ => rfl) rfl rfl rfl ?_ fun bO => ?_
 · conv => whnf
   refine cT ?_
   first | done | rfl
 obtain ⟨bC, a8⟩ := qaw a8
 refine apE rfl r2 qbp (qay rfl r0 rfl (fun _ => rfl) (fun _ => rfl)) bC ?_
 intro bP bJ bK
 refine qan (qbu bf bp) ?_
 exact eR a8 (_, _, _, _)
 refine qan (qbu bf bp) ?_
 exact eR a8 (_, _, _, _)
 rw [lty w0, tenant_words_L0.eq_1] at a8
 refine cT ?_
 exact eM a8 (_, _, _)
 rintro ⟨t0, aY, aZ⟩ ⟨bc, _⟩ rfl j0
 refine cb hm fun bM bl hm => cg0 (qdj bl rfl) ?_
 cases hm
 exact en lr ⟨aY, aZ, (by rw [← (show _ = t0.length from Eq.symm ((Eq.trans (rfl) (qb7 bl).symm)))] <;> rfl), (fun h => bc (by rw [qb7 bl] at h; exact h)), rfl⟩ (pf rfl)

def qar (n : Nat) (d : JI) (r' : Jaa) : Option (Js × Err) :=
  (Jc2 r'.Ao ([104, 111, 115, 116] : Str)).bind fun ba =>
  if decide ((ba.length : Int) ≠ 1) then
  some ((⟨0, 0, 0, (⟨([] : Str), ([] : Str), ([] : Str), false⟩ : Je), (⟨([] : Str), ([] : Str), ([] : Str), false⟩ : Je), [], [], [], false, false⟩ : Js), (some 8))
  else
  (ix ba 0).bind fun bf =>
  (qcn bf).bind fun aV =>
  if (!(mget d.sites aV).isSome) then
  some ((⟨0, 0, 0, (⟨([] : Str), ([] : Str), ([] : Str), false⟩ : Je), (⟨([] : Str), ([] : Str), ([] : Str), false⟩ : Je), [], [], [], false, false⟩ : Js), (some 8))
  else
  (JaJ n aV r'.Target).bind fun aU =>
  if aU.2.isSome then
  some ((⟨0, 0, 0, (⟨([] : Str), ([] : Str), ([] : Str), false⟩ : Je), (⟨([] : Str), ([] : Str), ([] : Str), false⟩ : Je), [], [], [], false, false⟩ : Js), (some 27))
  else
  (Jb9 n (((mget d.sites aV).getD (⟨0, []⟩ : Jw)).code) (⟨r'.Am, aU.1.An, aU.1.Ae, aU.1.Af, r'.Ao⟩ : JX) 10000).bind fun aT =>
  if aT.2.isSome then
  some ((⟨0, 0, 0, (⟨([] : Str), ([] : Str), ([] : Str), false⟩ : Je), (⟨([] : Str), ([] : Str), ([] : Str), false⟩ : Je), [], [], [], false, false⟩ : Js), aT.2)
  else
  (qb3 aU.1 aT.1).bind fun bb =>
  (JaJ n aV bb).bind fun aZ =>
  if aZ.2.isSome then
  some ((⟨0, 0, 0, (⟨([] : Str), ([] : Str), ([] : Str), false⟩ : Je), (⟨([] : Str), ([] : Str), ([] : Str), false⟩ : Je), [], [], [], false, false⟩ : Js), (some 27))
  else
  (Jbv aT.1.Vary).bind fun bd =>
  (qdy bd).bind fun bc =>
  (tenant_upstream n r'.Ao aT.1.Ag).bind fun aX =>
  (qc6 bc).bind fun aW =>
  (tenant_words n aT.1.Ah).bind fun aY =>
  if aT.1.Ak then
  some ((⟨((mget d.sites aV).getD (⟨0, []⟩ : Jw)).tenant, aT.1.TTL, aT.1.Ai, aU.1, aZ.1, aX, aW, aY, true, aT.1.Al⟩ : Js), none)
  else
  (if (decide (r'.Am ≠ ([71, 69, 84] : Str)) && decide (r'.Am ≠ ([72, 69, 65, 68] : Str))) then some true else (Jc2 r'.Ao ([97, 117, 116, 104, 111, 114, 105, 122, 97, 116, 105, 111, 110] : Str)).bind fun a6 =>
  some (decide ((a6.length : Int) > 0))).bind fun a8 =>
  some ((⟨((mget d.sites aV).getD (⟨0, []⟩ : Jw)).tenant, aT.1.TTL, aT.1.Ai, aU.1, aZ.1, aX, aW, aY, a8, aT.1.Al⟩ : Js), none)
theorem qb8 {n : Nat} {d : JI} {r' : Jaa} {b0 : Nat} {aF : Nat} {aH : List (Str × EnD Jw)} {af : Option Addr} {ag : Nat} {K : Hp} {r : Js × Err}
    (hm : qar n d r' = some r) (hX : MR Jw.R K aH d.sites ∧ RdC Jc.enc K af ag 2 r'.Ao ∧ GG K) :
    Fn Tryz.prog 13 [.pointer (some ⟨b0, 0, none⟩), .agg #[str r'.Am, str r'.Target, .slice af r'.Ao.length ag]] K [Cells b0 78 [.map (some aF)], qlf qle vAg aF aH] (fun v K' H' => ∃ ar_0 : Option Addr, ∃ cr_0 : Nat, ∃ ar_1 : Option Addr, ∃ cr_1 : Nat, ∃ ar_2 : Option Addr, ∃ cr_2 : Nat, v = .tuple #[.agg #[.int .i64 r.1.Tenant, .int .i64 r.1.TTL, .int .i64 r.1.Ai, str r.1.Asked.An, str r.1.Asked.Ae, str r.1.Asked.Af, .bool r.1.Asked.HasQuery, str r.1.Cache.An, str r.1.Cache.Ae, str r.1.Cache.Af, .bool r.1.Cache.HasQuery, .slice ar_0 r.1.Ao.length cr_0, .slice ar_1 r.1.Vary.length cr_1, .slice ar_2 r.1.Ah.length cr_2, .bool r.1.Ak, .bool r.1.Al], qc5 48 r.2] ∧ (0 < r.1.Ao.length → Has ar_0) ∧ (0 < r.1.Vary.length → Has ar_1) ∧ (0 < r.1.Ah.length → Has ar_2) ∧ H' = [qau Jc.enc ar_0 41 2 cr_0 r.1.Ao, qau eS ar_1 9 1 cr_1 r.1.Vary, qau eS ar_2 9 1 cr_2 r.1.Ah, Cells b0 78 [.map (some aF)], qlf qle vAg aF aH]) := by
 obtain ⟨bu, ai, hG⟩ := hX
 refine Fn.enter Tryz.func13 Tryz.call13 rfl fun F => ?_
 unfold qar at hm
 refine qas ?_
 intro b3
 refine qai rfl fun b4 => ?_
 refine qhj rfl ?_
 refine qac rfl (cF (fa rfl (ro (ld r1 rfl rfl ?_))))
 refine cb hm fun cA ce hm => ckx (Jc3 ce :) ?_
 rintro _ _ _ ⟨bT, bW, rfl, bv, rfl⟩
 refine ro (qal rfl (qa8 ?_))
 refine cs rfl rfl hm ?_ ?_ <;> intro cr hm
 refine qad rfl rfl ?_
 refine qat rfl ?_
 refine qaa r1 rfl ⟨rfl, rfl, (nl rfl), ?_⟩
 refine ro (qab r0 rfl (nl rfl) ?_)
 refine qci Jc.enc 41 2 ?_
 refine qci eS 9 1 ?_
 refine qci eS 9 1 ?_
 exact eE hm
 obtain ⟨cz, bX, bC, hm⟩ := ixb hm
 refine RStep.ofN (qae rfl rfl (qcv bv bC) bX (qaz rfl bX bC) (ro (qb1 (i := (0 : Int).toNat) (o := 0) r0 rfl bC rfl rfl ?_)))
 refine cb hm fun cD bZ hm => cg0 (qd0 bZ :) ?_
 refine qaj (fa rfl (ro (ld r3 rfl rfl (ro (qhx (kenc := qle) (R := Jw.R) (zs := [.int .i64 0, .slice none 0 0]) (z := (⟨0, []⟩ : Jw)) r4 rfl rfl (qjw rfl) bu (⟨none, 0, rfl, RdC.nil⟩) fun co bI => ?_)))))
 obtain ⟨bN, bU, rfl, bM⟩ := bI
 refine qai rfl fun b8 => ?_
 refine qaa r0 rfl ⟨rfl, rfl, (nl rfl), ?_⟩
 refine qax ?_
 refine cs rfl rfl hm ?_ ?_ <;> intro cG hm
 refine qad rfl rfl ?_
 refine qat rfl ?_
 refine qaa r2 rfl ⟨rfl, rfl, (nl rfl), ?_⟩
 refine ro (qab r0 rfl (nl rfl) ?_)
 refine qci Jc.enc 41 2 ?_
 refine qci eS 9 1 ?_
 refine qci eS 9 1 ?_
 exact eE hm
 refine fa rfl (ro (ld r3 rfl rfl ?_))
 refine cb hm fun cK cp hm => cgx (JcA cp :) ?_
 refine qai rfl fun cu => ?_
 refine qaa r0 rfl ⟨rfl, rfl, (nl rfl), ?_⟩
 refine qa9 rfl ?_
 refine cs rfl rfl hm ?_ ?_ <;> intro cM hm
 refine qad rfl rfl ?_
 refine qat rfl ?_
 refine qaa r3 rfl ⟨rfl, rfl, (nl rfl), ?_⟩
 refine ro (qab r0 rfl (nl rfl) ?_)
 refine qci Jc.enc 41 2 ?_
 refine qci eS 9 1 ?_
 refine qci eS 9 1 ?_
 exact eE hm
 refine fa rfl (ro (ld r1 rfl rfl (fa rfl (ro (ld r4 rfl rfl (fa rfl (ro (ld r0 rfl rfl (fa rfl (ro (ld r0 rfl rfl ?_)))))))))))
 refine fa rfl (ro (ld r0 rfl rfl (fa rfl (ro (ld r4 rfl rfl (qad rfl rfl (cT (cT (cT ?_)))))))))
 refine cT (cT ?_)
 refine cb hm fun cH cd hm => ckx (Jey cd :) ?_
 rintro _ _ _ ⟨bL, bJ, bR, bQ, bV, bK, rfl, bO, bP, bS, rfl⟩
 refine qai rfl fun cJ => ?_
 refine qaa r0 rfl ⟨rfl, rfl, (nl rfl), ?_⟩
 refine qa9 rfl ?_
 refine cs rfl rfl hm ?_ ?_ <;> intro cI hm
 refine qad rfl rfl ?_
 refine qaa r7 rfl ⟨rfl, rfl, (nl rfl), ?_⟩
 refine ro (qab r0 rfl (nl rfl) ?_)
 refine qci Jc.enc 41 2 ?_
 refine qci eS 9 1 ?_
 refine qci eS 9 1 ?_
 exact eE hm
 refine ro (qab r4 rfl (nl rfl) (ro (qab r0 rfl (nl rfl) ?_)))
 refine fF Tryz.call38 r1 fun bt aZ bw => ?_
 refine fF Tryz.call38 r1 fun br aY bA => ?_
 refine fF Tryz.call38 r1 fun bz aX bB => ?_
 refine cb hm fun cB bY hm => cgx (qf6 bY :) ?_
 refine cb hm fun cC cm hm => cgx (JcA cm :) ?_
 refine qai rfl fun cw => ?_
 refine qaa r0 rfl ⟨rfl, rfl, (nl rfl), ?_⟩
 refine qa9 rfl ?_
 refine cs rfl rfl hm ?_ ?_ <;> intro cy hm
 refine qad rfl rfl ?_
 refine qat rfl ?_
 refine qaa r5 rfl ⟨rfl, rfl, (nl rfl), ?_⟩
 refine ro (qab r0 rfl (nl rfl) ?_)
 refine qci Jc.enc 41 2 ?_
 refine qci eS 9 1 ?_
 refine qci eS 9 1 ?_
 exact eE hm
 refine fa rfl (ro (ld r1 rfl rfl ?_))
 refine cb hm fun cE cj hm => ckx (JdL cj :) ?_
 rintro _ _ _ ⟨bh, bf, rfl, bg, rfl⟩
 refine cb hm fun cL bp hm => cg0 (qdj bp rfl) ?_
 refine qa4 ⟨⟨[], false⟩, _, [(_, _), (_, _), (_, _), (_, _), (_, _)], []⟩ (by kernel_rfl) ⟨Hp.Le.refl _, (sc [4,2,2,1,3] rfl), ci0⟩ ?_
 refine fa rfl (qap m0 rfl rfl (fa rfl (qap m1 rfl rfl (fa rfl (qap m1 rfl rfl (qcc m2 rfl (nl rfl) (qcc m3 rfl (nl rfl) ?_)))))))
 refine fa rfl (qap m4 rfl rfl (fa rfl (qap m1 rfl rfl ?_)))
 refine cb hm fun ca bF hm => ckx (qeu bF :) ?_
 rintro _ _ _ ⟨a8, bb, rfl, bc, rfl⟩
 refine qk (sc [5,3,3,2,4] rfl) ?_
 refine cb hm fun cn bj hm => cg0 (qft bj (Eq.trans (rfl) (qb7 bp).symm)) ?_
 refine qk (sc [5,3,3,2,4] rfl) ?_
 refine fa rfl (qap m1 rfl rfl ?_)
 refine cb hm fun cq bD hm => ckx (qgj bD :) ?_
 rintro _ _ _ ⟨ba, bd, rfl, a6, rfl⟩
 refine qk (sc [6,4,4,3,5] rfl) ?_
 refine fa rfl (qap m1 rfl rfl (fa rfl (qap m1 rfl rfl ?_)))
 refine cS hm (fun aT hm => ?_) fun aT hm => ?_
 refine ct aT (ct aT (ct aT (ct aT (ct aT (cT (cT (cT ?_)))))))
 refine cT (cT (cT (qad rfl rfl (cT (cT (cT (cT ?_)))))))
 refine cT (cT (cT (cT (cT (cT ?_)))))
 refine qaa r8 rfl ⟨rfl, rfl, (nl rfl), ?_⟩
 refine qk (sc [7,5,5,4,5] rfl) ?_
 obtain rfl := si hm
 exact ro (qab r0 rfl (nl rfl) (en ((aZ.trans aY).trans aX) ⟨a8, bb, bh, bf, ba, bd, rfl, bc, (fun h => (fun h => bg (by rw [qb7 bp] at h; exact h)) (qde bj h)), a6, rfl⟩ (sc [3,2,1,7,7,7] rfl)))
 refine fa rfl (cf aT (qap m4 rfl rfl (cf aT (qbr (cf aT ?_)))))
 refine qah ?_ ?_ <;> intro aV
 refine fa rfl (ct aV (qap m4 rfl rfl (ct aV (qbr (cf aT (ct aV (cf aT ?_)))))))
 obtain ⟨bH, aW, hm⟩ := bnd hm
 refine qah ?_ ?_ <;> intro aU
 replace aW := ift (qcx aV aU) aW
 refine ct aU (ct aU (ct aU (ct aU (ct aU (qad rfl rfl (cT (cT ?_)))))))
 refine cT (cT (cT (cT (cT (cT (cT (cT ?_)))))))
 refine qaa r8 rfl ⟨rfl, rfl, (nl rfl), ?_⟩
 refine qk (sc [7,5,5,4,5] rfl) ?_
 obtain rfl := si hm
 exact ro (qab r0 rfl (nl rfl) (en ((aZ.trans aY).trans aX) ⟨a8, bb, bh, bf, ba, bd, (by rw [← ((si aW).symm).symm] <;> rfl), bc, (fun h => (fun h => bg (by rw [qb7 bp] at h; exact h)) (qde bj h)), a6, rfl⟩ (sc [3,2,1,7,7,7] rfl)))
 replace aW := qbb (qcy aV aU) aW
 refine fa rfl (cf aU (qap m4 rfl rfl (cf aU ?_)))
 refine cb aW fun bG bl aW => ckx (Jc3 bl :) ?_
 rintro _ _ _ ⟨bn, bo, rfl, bm, rfl⟩
 refine qk (sc [7,5,5,4,6] rfl) ?_
 refine cf aU (qce rfl (cf aU (cf aU (qad rfl rfl (cT (cT (cT ?_)))))))
 refine cT (cT (cT (cT (cT (cT (cT ?_))))))
 refine qaa r9 rfl ⟨rfl, rfl, (nl rfl), ?_⟩
 refine qk (sc [8,6,6,5,6] rfl) ?_
 obtain rfl := si hm
 exact ro (qab r0 rfl (nl rfl) (en ((aZ.trans aY).trans aX) ⟨a8, bb, bh, bf, ba, bd, (by rw [← (si aW)] <;> rfl), bc, (fun h => (fun h => bg (by rw [qb7 bp] at h; exact h)) (qde bj h)), a6, rfl⟩ (sc [4,3,2,8,8,8] rfl)))
 refine cf aV (cf aV (cf aT (cf aV (cf aT ?_))))
 obtain ⟨bH, aW, hm⟩ := bnd hm
 replace aW := qbb (qbe aV) aW
 refine cF (fa rfl (cF (qap m4 rfl rfl (cF ?_))))
 refine cb aW fun bG bl aW => ckx (Jc3 bl :) ?_
 rintro _ _ _ ⟨bn, bo, rfl, bm, rfl⟩
 refine qk (sc [7,5,5,4,6] rfl) ?_
 refine cF (qce rfl (cF (cF (qad rfl rfl (cT (cT (cT ?_)))))))
 refine cT (cT (cT (cT (cT (cT (cT ?_))))))
 refine qaa r9 rfl ⟨rfl, rfl, (nl rfl), ?_⟩
 refine qk (sc [8,6,6,5,6] rfl) ?_
 obtain rfl := si hm
 exact ro (qab r0 rfl (nl rfl) (en ((aZ.trans aY).trans aX) ⟨a8, bb, bh, bf, ba, bd, (by rw [← (si aW)] <;> rfl), bc, (fun h => (fun h => bg (by rw [qb7 bp] at h; exact h)) (qde bj h)), a6, rfl⟩ (sc [4,3,2,8,8,8] rfl)))

def JdC (n : Nat) (a : Je) : Option (Bool) :=
  if ((!a.HasQuery) && decide (a.Af ≠ ([] : Str))) then
  some false
  else
  if a.HasQuery then
  (chk (([63] : Str).length + a.Af.length ≤ lim)).bind fun _ =>
  (chk (a.Ae.length + (([63] : Str) ++ a.Af).length ≤ lim)).bind fun _ =>
  (JaJ n a.An (a.Ae ++ (([63] : Str) ++ a.Af))).bind fun aT =>
  some (aT.2.isNone && (decide (a.An = aT.1.An) && (decide (a.Ae = aT.1.Ae) && (decide (a.Af = aT.1.Af) && (a.HasQuery == aT.1.HasQuery)))))
  else
  (JaJ n a.An a.Ae).bind fun aT =>
  some (aT.2.isNone && (decide (a.An = aT.1.An) && (decide (a.Ae = aT.1.Ae) && (decide (a.Af = aT.1.Af) && (a.HasQuery == aT.1.HasQuery)))))
theorem Jen {n : Nat} {a : Je} {K : Hp} {r : Bool}
    (hm : JdC n a = some r) (hG : GG K) :
    Fn Tryz.prog 30 [.agg #[str a.An, str a.Ae, str a.Af, .bool a.HasQuery]] K [] (fun v K' H' => v = .bool r ∧ H' = []) := by
 refine Fn.enter Tryz.func30 Tryz.call30 rfl fun F => ?_
 unfold JdC at hm
 refine qas ?_
 intro b1
 refine jR (σ := Unit) (rg 6 8) (fun _ => [(13, .bool ((!a.HasQuery) && decide (a.Af ≠ ([] : Str))))]) (fun aZ => True) ?_ ?_
 refine qaf rfl ?_
 refine fa rfl (ro (ld r0 rfl rfl (qax ?_)))
 refine qah ?_ ?_ <;> intro aU
 refine fa rfl (ct aU (ro (ld r0 rfl rfl (ct aU (qbr (ct aU ?_))))))
 exact eMt () ⟨bq (qcz (b := decide (a.Af ≠ ([] : Str))) (qfp (qlg aU))), trivial⟩
 refine cf aU (cf aU (cf aU ?_))
 exact eMt () ⟨bq (((qbe (qdo (qio aU)))).symm), trivial⟩
 rintro _ _ a6
 refine cs rfl rfl hm ?_ ?_ <;> intro ba hm
 exact eE hm
 refine fa rfl (ro (ld r0 rfl rfl (fa rfl (ro (ld r0 rfl rfl ?_)))))
 refine cs rfl rfl hm ?_ ?_ <;> intro a8 hm
 refine fa rfl (ro (ld r0 rfl rfl ?_))
 obtain ⟨aX, hm⟩ := qaw hm
 refine qa5 aX ?_
 obtain ⟨aY, hm⟩ := qaw hm
 refine qa5 aY ?_
 refine fa rfl (ro (ld r0 rfl rfl ?_))
 refine cb hm fun aV aW hm => cgx (JcA aW :) ?_
 refine qai rfl fun b4 => ?_
 refine qaa r0 rfl ⟨rfl, rfl, (nl rfl), ?_⟩
 refine qaf rfl ?_
 refine qbn rfl ?_
 refine qah ?_ ?_ <;> intro aT
 refine ro (qab r1 rfl (nl rfl) (ct aT (ro (qab r0 rfl (nl rfl) (ct aT ?_)))))
 refine qmo (b := (decide (a.An = aV.1.An) && (decide (a.Ae = aV.1.Ae) && (decide (a.Af = aV.1.Af) && (a.HasQuery == aV.1.HasQuery))))) rfl (by kernel_rfl) (by kernel_rfl) (by kernel_rfl) rfl ?_
 refine ct aT ?_
 exact bE (qcz (b := (decide (a.An = aV.1.An) && (decide (a.Ae = aV.1.Ae) && (decide (a.Af = aV.1.Af) && (a.HasQuery == aV.1.HasQuery))))) aT) (eE hm)
 refine cf aT (cf aT (cf aT ?_))
 exact bE (((qbe aT)).symm) (eE hm)
 refine fa rfl (ro (ld r0 rfl rfl ?_))
 refine cb hm fun aV aW hm => cgx (JcA aW :) ?_
 refine qai rfl fun b4 => ?_
 refine qaa r0 rfl ⟨rfl, rfl, (nl rfl), ?_⟩
 refine qaf rfl ?_
 refine qbn rfl ?_
 refine qah ?_ ?_ <;> intro aT
 refine ro (qab r1 rfl (nl rfl) (ct aT (ro (qab r0 rfl (nl rfl) (ct aT ?_)))))
 refine qmo (b := (decide (a.An = aV.1.An) && (decide (a.Ae = aV.1.Ae) && (decide (a.Af = aV.1.Af) && (a.HasQuery == aV.1.HasQuery))))) rfl (by kernel_rfl) (by kernel_rfl) (by kernel_rfl) rfl ?_
 refine ct aT ?_
 exact bE (qcz (b := (decide (a.An = aV.1.An) && (decide (a.Ae = aV.1.Ae) && (decide (a.Af = aV.1.Af) && (a.HasQuery == aV.1.HasQuery))))) aT) (eE hm)
 refine cf aT (cf aT (cf aT ?_))
 exact bE (((qbe aT)).symm) (eE hm)

def Jds (n : Nat) (a : Je) : Option (Str × Err) :=
  (JdC n a).bind fun x5 =>
  if (!x5) then
  some (([] : Str), (some 2))
  else
  (JcE a).bind fun x9 =>
  some (x9, none)
theorem Jeg {n : Nat} {a : Je} {K : Hp} {r : Str × Err}
    (hm : Jds n a = some r) (hG : GG K) :
    Fn Tryz.prog 57 [.agg #[str a.An, str a.Ae, str a.Af, .bool a.HasQuery]] K [] (fun v K' H' => v = .tuple #[str r.1, qc5 48 r.2] ∧ H' = []) := by
 refine Fn.enter Tryz.func57 Tryz.call57 rfl fun F => ?_
 unfold Jds at hm
 refine qas ?_
 intro b1
 refine ro (qab r0 rfl (nl rfl) ?_)
 refine cb hm fun x5 q5 hm => cgx (Jen q5 :) ?_
 refine qax ?_
 refine cs rfl rfl hm ?_ ?_ <;> intro w6 hm
 refine qat rfl ?_
 exact eE hm
 refine ro (qab r0 rfl (nl rfl) ?_)
 refine cb hm fun x9 q9 hm => cg0 (JdN q9 :) ?_
 exact eE hm

def qel (n : Nat) (p : Js) : Option (Str) :=
  (Jds n p.Cache).bind fun x8 =>
  if x8.2.isSome then
  (qln p.Tenant).bind fun aT =>
  (chk (aT.length + ([32] : Str).length ≤ lim)).bind fun _ =>
  (chk ((aT ++ ([32] : Str)).length + ([] : Str).length ≤ lim)).bind fun _ =>
  some ((aT ++ ([32] : Str)) ++ ([] : Str))
  else
  (qln p.Tenant).bind fun aT =>
  (chk (aT.length + ([32] : Str).length ≤ lim)).bind fun _ =>
  (chk ((aT ++ ([32] : Str)).length + x8.1.length ≤ lim)).bind fun _ =>
  some ((aT ++ ([32] : Str)) ++ x8.1)
theorem qg8 {n : Nat} {p : Js} {aa : Option Addr} {ab : Nat} {ah : Option Addr} {ak : Nat} {am : Option Addr} {au : Nat} {K : Hp} {r : Str}
    (hm : qel n p = some r) (hX : RdC Jc.enc K aa ab 2 p.Ao ∧ RdC eS K ah ak 1 p.Vary ∧ RdC eS K am au 1 p.Ah ∧ GG K) :
    Fn Tryz.prog 31 [.agg #[.int .i64 p.Tenant, .int .i64 p.TTL, .int .i64 p.Ai, str p.Asked.An, str p.Asked.Ae, str p.Asked.Af, .bool p.Asked.HasQuery, str p.Cache.An, str p.Cache.Ae, str p.Cache.Af, .bool p.Cache.HasQuery, .slice aa p.Ao.length ab, .slice ah p.Vary.length ak, .slice am p.Ah.length au, .bool p.Ak, .bool p.Al]] K [] (fun v K' H' => v = str r ∧ H' = []) := by
 obtain ⟨ae, aW, aX, hG⟩ := hX
 refine Fn.enter Tryz.func31 Tryz.call31 rfl fun F => ?_
 unfold qel at hm
 refine qas ?_
 intro b1
 refine fa rfl (ro (qab r0 rfl (nl rfl) ?_))
 refine cb hm fun x8 q8 hm => cgx (Jeg q8 :) ?_
 refine qa9 rfl ?_
 refine cs rfl rfl hm ?_ ?_ <;> intro aZ hm
 refine fa rfl (ro (ld r0 rfl rfl ?_))
 refine cb hm fun aY aT hm => cg0 (qkl aT (gg4 hG)) ?_
 obtain ⟨aV, hm⟩ := qaw hm
 refine qa5 aV ?_
 obtain ⟨aU, hm⟩ := qaw hm
 refine qa5 aU ?_
 exact eE hm
 refine fa rfl (ro (ld r0 rfl rfl ?_))
 refine cb hm fun aY aT hm => cg0 (qkl aT (gg4 hG)) ?_
 obtain ⟨aV, hm⟩ := qaw hm
 refine qa5 aV ?_
 obtain ⟨aU, hm⟩ := qaw hm
 refine qa5 aU ?_
 exact eE hm
