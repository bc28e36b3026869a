/- Functions of the program: mirrors, and that a call returns what the mirror says. Printed by gen.py. -/
import Derived.Test.YtmpdebfckeahmaaGreatDoorG5
set_option linter.unusedVariables false
set_option linter.unusedSimpArgs false
open Go Go.SL Go.Proofs
noncomputable section
set_option maxRecDepth 1000000
set_option maxHeartbeats 8000000
def Jcu (r' : Jf) (w' : Jl) : Option (Bool) :=
  (if (decide (r'.Ae = w'.Ae) && decide (r'.Af = w'.Af)) then (Jd5 r'.Ag w'.Ag).bind fun aQ =>
  some aQ else some false).bind fun aM =>
  (if aM then (Jc5 r'.Vary w'.Vary).bind fun aP =>
  some aP else some false).bind fun aR =>
  (if aR then (Jc5 r'.Ah w'.Ah).bind fun aO =>
  some aO else some false).bind fun aN =>
  some (((((aN && decide (r'.TTL = w'.TTL)) && decide (r'.Ai = w'.Ai)) && decide (r'.Aj = w'.Aj)) && (r'.Ak == w'.Ak)) && (r'.Al == w'.Al))
theorem JfM {r' : Jf} {w' : Jl} {aa : Option Addr} {ab : Nat} {aj : Option Addr} {am : Nat} {ak : Option Addr} {an : Nat} {ag : Option Addr} {ah : Nat} {aE : Option Addr} {aF : Nat} {aG : Option Addr} {aH : Nat} {K : Hp} {r : Bool}
    (hm : Jcu r' w' = some r) (hX : RdC Jd.enc K aa ab 2 r'.Ag ∧ RdC eS K aj am 1 r'.Vary ∧ RdC eS K ak an 1 r'.Ah ∧ RdC Jj.enc K ag ah 2 w'.Ag ∧ RdC eS K aE aF 1 w'.Vary ∧ RdC eS K aG aH 1 w'.Ah) :
    Fn Tryz.prog 18 [.agg #[str r'.Ae, str r'.Af, .slice aa r'.Ag.length ab, .slice aj r'.Vary.length am, .slice ak r'.Ah.length an, .int .i64 r'.TTL, .int .i64 r'.Ai, .int .i64 r'.Aj, .bool r'.Ak, .bool r'.Al], .agg #[str w'.Ae, str w'.Af, .slice ag w'.Ag.length ah, .slice aE w'.Vary.length aF, .slice aG w'.Ah.length aH, .int .i64 w'.TTL, .int .i64 w'.Ai, .int .i64 w'.Aj, .bool w'.Ak, .bool w'.Al]] K [] (fun v K' H' => v = .bool r ∧ H' = []) := by
 obtain ⟨ae, ba, aZ, af, a6, a8⟩ := hX
 refine Fn.enter Tryz.func18 Tryz.call18 rfl fun F => ?_
 unfold Jcu at hm
 refine box_rule ?_
 intro b2
 refine box_rule ?_
 intro b3
 refine guard_go rfl ?_
 refine fa rfl (ro (ld r1 rfl rfl (fa rfl (ro (ld r0 rfl rfl (eq_str ?_))))))
 refine cond_s ?_ ?_ <;> intro aP
 refine fa rfl (ct aP (ro (ld r1 rfl rfl (ct aP (fa rfl (ct aP (ro (ld r0 rfl rfl (ct aP ?_)))))))))
 refine eq_str (ct aP ?_)
 obtain ⟨bc, aX, hm⟩ := bnd hm
 refine cond_s ?_ ?_ <;> intro aR
 replace aX := ift (and_t aP aR) aX
 refine fa rfl (ct aR (ro (ld r1 rfl rfl (ct aR (fa rfl (ct aR (ro (ld r0 rfl rfl (ct aR ?_)))))))))
 refine cb aX fun bj bf aX => cgx (JfI bf :) ?_
 refine ct aR ?_
 obtain ⟨bb, aW, hm⟩ := bnd hm
 refine cond_s ?_ ?_ <;> intro aS
 replace aW := ift ((si aX).symm.trans aS) aW
 refine fa rfl (ct aS (ro (ld r1 rfl rfl (ct aS (fa rfl (ct aS (ro (ld r0 rfl rfl (ct aS ?_)))))))))
 refine cb aW fun bh bg aW => cgx (Jew bg :) ?_
 refine ct aS ?_
 obtain ⟨aY, aV, hm⟩ := bnd hm
 refine cond_s ?_ ?_ <;> intro aT
 replace aV := ift ((si aW).symm.trans aT) aV
 refine fa rfl (ct aT (ro (ld r1 rfl rfl (ct aT (fa rfl (ct aT (ro (ld r0 rfl rfl (ct aT ?_)))))))))
 refine cb aV fun bm bd aV => cgx (Jew bd :) ?_
 refine ct aT ?_
 refine cond_s ?_ ?_ <;> intro aM
 refine fa rfl (ct aM (ro (ld r1 rfl rfl (ct aM (fa rfl (ct aM (ro (ld r0 rfl rfl (ct aM ?_)))))))))
 refine eq_int (ct aM ?_)
 refine cond_s ?_ ?_ <;> intro aN
 refine fa rfl (ct aN (ro (ld r1 rfl rfl (ct aN (fa rfl (ct aN (ro (ld r0 rfl rfl (ct aN ?_)))))))))
 refine eq_int (ct aN ?_)
 refine cond_s ?_ ?_ <;> intro aO
 refine fa rfl (ct aO (ro (ld r1 rfl rfl (ct aO (fa rfl (ct aO (ro (ld r0 rfl rfl (ct aO ?_)))))))))
 refine eq_int (ct aO ?_)
 refine cond_s ?_ ?_ <;> intro aQ
 refine fa rfl (ct aQ (ro (ld r1 rfl rfl (ct aQ (fa rfl (ct aQ (ro (ld r0 rfl rfl (ct aQ ?_)))))))))
 refine eq_bool rfl (ct aQ ?_)
 refine cond_s ?_ ?_ <;> intro aU
 refine fa rfl (ct aU (ro (ld r1 rfl rfl (ct aU (fa rfl (ct aU (ro (ld r0 rfl rfl (ct aU ?_)))))))))
 refine eq_bool rfl (ct aU ?_)
 cases hm
 exact en lr ⟨(by rw [← (and_e (b := (r'.Al == w'.Al)) (and_t (and_t (and_t (and_t ((si aV).symm.trans aM) aN) aO) aQ) aU))] <;> rfl), rfl⟩ (sc [2] rfl)
 refine cf aU (cf aU (cf aU (cf aU (cf aU ?_))))
 cases hm
 exact en lr ⟨(by rw [← ((and_f (and_g (and_t (and_t (and_t ((si aV).symm.trans aM) aN) aO) aQ) aU))).symm] <;> rfl), rfl⟩ (sc [2] rfl)
 refine cf aQ (cf aQ (cf aQ (cf aQ (cf aQ (cF (cF (cF ?_)))))))
 refine cF (cF (cF ?_))
 cases hm
 exact en lr ⟨(by rw [← ((and_f (and_f (and_g (and_t (and_t ((si aV).symm.trans aM) aN) aO) aQ)))).symm] <;> rfl), rfl⟩ (sc [2] rfl)
 refine cf aO (cf aO (cf aO (cf aO (cf aO (cF (cF (cF ?_)))))))
 refine cF (cF (cF (cF (cF (cF (cF (cF ?_)))))))
 refine cF ?_
 cases hm
 exact en lr ⟨(by rw [← ((and_f (and_f (and_f (and_g (and_t ((si aV).symm.trans aM) aN) aO))))).symm] <;> rfl), rfl⟩ (sc [2] rfl)
 refine cf aN (cf aN (cf aN (cf aN (cf aN (cF (cF (cF ?_)))))))
 refine cF (cF (cF (cF (cF (cF (cF (cF ?_)))))))
 refine cF (cF (cF (cF (cF (cF (cF ?_))))))
 cases hm
 exact en lr ⟨(by rw [← ((and_f (and_f (and_f (and_f (and_g ((si aV).symm.trans aM) aN)))))).symm] <;> rfl), rfl⟩ (sc [2] rfl)
 refine cf aM (cf aM (cf aM (cf aM (cf aM (cF (cF (cF ?_)))))))
 refine cF (cF (cF (cF (cF (cF (cF (cF ?_)))))))
 refine cF (cF (cF (cF (cF (cF (cF (cF ?_)))))))
 refine cF (cF (cF (cF (cF ?_))))
 cases hm
 exact en lr ⟨(by rw [← ((and_f (and_f (and_f (and_f (and_f ((si aV).symm.trans aM))))))).symm] <;> rfl), rfl⟩ (sc [2] rfl)
 replace aV := iff_ ((si aW).symm.trans aT) aV
 refine cf aT (cf aT (cf aT (cf aT (cf aT (cF (cF (cF ?_)))))))
 refine cF (cF (cF (cF (cF (cF (cF (cF ?_)))))))
 refine cF (cF (cF (cF (cF (cF (cF (cF ?_)))))))
 refine cF (cF (cF (cF (cF (cF (cF (cF ?_)))))))
 refine cF (cF (cF ?_))
 cases hm
 exact en lr ⟨(by rw [← ((and_f (and_f (and_f (and_f (and_f (si aV).symm)))))).symm] <;> rfl), rfl⟩ (sc [2] rfl)
 replace aW := iff_ ((si aX).symm.trans aS) aW
 refine cf aS (cf aS (cf aS (cf aS (cf aS ?_))))
 obtain ⟨aY, aV, hm⟩ := bnd hm
 replace aV := iff_ (si aW).symm aV
 refine cF (cF (cF (cF (cF (cF (cF (cF ?_)))))))
 refine cF (cF (cF (cF (cF (cF (cF (cF ?_)))))))
 refine cF (cF (cF (cF (cF (cF (cF (cF ?_)))))))
 refine cF (cF (cF (cF (cF (cF (cF (cF ?_)))))))
 refine cF (cF (cF (cF ?_)))
 cases hm
 exact en lr ⟨(by rw [← ((and_f (and_f (and_f (and_f (and_f (si aV).symm)))))).symm] <;> rfl), rfl⟩ (sc [2] rfl)
 replace aX := iff_ (and_g aP aR) aX
 refine cf aR (cf aR (cf aR (cf aR (cf aR ?_))))
 obtain ⟨bb, aW, hm⟩ := bnd hm
 replace aW := iff_ (si aX).symm aW
 refine cF (cF (cF (cF (cF (cF ?_)))))
 obtain ⟨aY, aV, hm⟩ := bnd hm
 replace aV := iff_ (si aW).symm aV
 refine cF (cF (cF (cF (cF (cF (cF (cF ?_)))))))
 refine cF (cF (cF (cF (cF (cF (cF (cF ?_)))))))
 refine cF (cF (cF (cF (cF (cF (cF (cF ?_)))))))
 refine cF (cF (cF (cF (cF (cF (cF (cF ?_)))))))
 refine cF (cF (cF (cF ?_)))
 cases hm
 exact en lr ⟨(by rw [← ((and_f (and_f (and_f (and_f (and_f (si aV).symm)))))).symm] <;> rfl), rfl⟩ (sc [2] rfl)
 refine cf aP (cf aP (cf aP (cf aP (cf aP ?_))))
 obtain ⟨bc, aX, hm⟩ := bnd hm
 replace aX := iff_ (and_f aP) aX
 refine cF (cF (cF (cF (cF (cF ?_)))))
 obtain ⟨bb, aW, hm⟩ := bnd hm
 replace aW := iff_ (si aX).symm aW
 refine cF (cF (cF (cF (cF (cF ?_)))))
 obtain ⟨aY, aV, hm⟩ := bnd hm
 replace aV := iff_ (si aW).symm aV
 refine cF (cF (cF (cF (cF (cF (cF (cF ?_)))))))
 refine cF (cF (cF (cF (cF (cF (cF (cF ?_)))))))
 refine cF (cF (cF (cF (cF (cF (cF (cF ?_)))))))
 refine cF (cF (cF (cF (cF (cF (cF (cF ?_)))))))
 refine cF (cF (cF (cF ?_)))
 cases hm
 exact en lr ⟨(by rw [← ((and_f (and_f (and_f (and_f (and_f (si aV).symm)))))).symm] <;> rfl), rfl⟩ (sc [2] rfl)

def Jb7 (n : Nat) (n' : Jb) (Ar : Jw) (status : Int) : Option (Bool) :=
  (((Jax n).bind fun ax =>
  (if (!ax) then some true else (Jb9 n n').bind fun a8 =>
  some a8).bind fun aY =>
  (if aY then some true else (Jck n Ar).bind fun aV =>
  some (!aV)).bind fun bd =>
  some bd) : Option (Bool)).bind fun aT =>
  if aT then
  (Jax n).bind fun aU =>
  some aU
  else
  (Jb6 n n').bind fun aZ =>
  (JaU Ar).bind fun aX =>
  (Jbq n aZ aX).bind fun aM =>
  if aM.2.isSome then
  some true
  else
  ((if decide (aM.1.Ai ≠ 0) then
  some (decide (aM.1.Ai < 400) || decide (aM.1.Ai > 499))
  else
  some false) : Option (Bool)).bind fun aO =>
  if aO then
  some false
  else
  (chk (InI (Int.tmod status 1000))).bind fun _ =>
  (Jc0 (Int.tmod status 1000)).bind fun aP =>
  (chk (n'.Aa.length ≤ lim)).bind fun _ =>
  (chk (n'.Aa.length + ([(⟨9, ([] : Str), [(⟨20, aP, [], 1⟩ : Jb)], 1⟩ : Jb), (⟨10, ([] : Str), [], 1⟩ : Jb)]).length ≤ lim)).bind fun _ =>
  (Jb6 n (⟨n'.Ab, n'.Ac, (n'.Aa ++ [(⟨9, ([] : Str), [(⟨20, aP, [], 1⟩ : Jb)], 1⟩ : Jb), (⟨10, ([] : Str), [], 1⟩ : Jb)]), n'.Ad⟩ : Jb)).bind fun a6 =>
  (JaU Ar).bind fun bc =>
  (Jbq n a6 bc).bind fun aQ =>
  (JbP n (⟨n'.Ab, n'.Ac, (n'.Aa ++ [(⟨9, ([] : Str), [(⟨20, aP, [], 1⟩ : Jb)], 1⟩ : Jb), (⟨10, ([] : Str), [], 1⟩ : Jb)]), n'.Ad⟩ : Jb)).bind fun bb =>
  if decide (bb.Code ≠ 0) then
  some aQ.2.isSome
  else
  ((if decide (aM.1.Ai = 0) then
  (if decide ((Int.tmod status 1000) ≥ 400) then some (decide ((Int.tmod status 1000) ≤ 499)) else some false).bind fun aW =>
  if aW then
  (chk (InI (Int.tmod status 1000))).bind fun _ =>
  some (⟨aM.1.Ae, aM.1.Af, aM.1.Ag, aM.1.Vary, aM.1.Ah, aM.1.TTL, (Int.tmod status 1000), aM.1.Aj, aM.1.Ak, aM.1.Al⟩ : Jf)
  else
  some (⟨aM.1.Ae, aM.1.Af, aM.1.Ag, aM.1.Vary, aM.1.Ah, aM.1.TTL, 403, aM.1.Aj, aM.1.Ak, aM.1.Al⟩ : Jf)
  else
  some aM.1 : Option (Jf))).bind fun aN =>
  (if aQ.2.isNone then (Jdd aN).bind fun ba =>
  (Jcu aQ.1 ba).bind fun aR =>
  some aR else some false).bind fun aS =>
  some aS
theorem JdV {n : Nat} {n' : Jb} {Ar : Jw} {status : Int} {aa : Option Addr} {ab : Nat} {ag : Option Addr} {ah : Nat} {K : Hp} {r : Bool}
    (hm : Jb7 n n' Ar status = some r) (hX : LiC Jb.R K aa ab 4 n'.Aa ∧ RdC Jj.enc K ag ah 2 Ar.Ao ∧ GG K) :
    Fn Tryz.prog 7 [.agg #[.int .i64 n'.Ab, str n'.Ac, .slice aa n'.Aa.length ab, .int .i64 n'.Ad], .agg #[str Ar.Am, str Ar.An, str Ar.Ae, str Ar.Af, .slice ag Ar.Ao.length ah], .int .u16 status] K [] (fun v K' H' => v = .bool r ∧ H' = []) := by
 obtain ⟨ae, af, hG⟩ := hX
 refine Fn.enter Tryz.func7 Tryz.call7 rfl fun F => ?_
 unfold Jb7 at hm
 refine box_rule ?_
 intro b3
 refine box_rule ?_
 intro b4
 obtain ⟨cz, bb, hm⟩ := bnd hm
 refine jR (σ := Bool) [12, 13, 14, 15, 16, 17, 18, 19, 20, 21, 22] (fun bB => [(22, .bool bB)]) (fun bB => bB = cz) ?_ ?_
 refine guard_go rfl ?_
 refine cb bb fun ax dN bb => cgx (Jeg dN :) ?_
 refine un_not ?_
 obtain ⟨ep, bD, bb⟩ := bnd bb
 refine cond_s ?_ ?_ <;> intro br
 replace bD := ift (not_t (ni_t br)) bD
 refine ct br (ct br ?_)
 obtain ⟨cw, bu, bb⟩ := bnd bb
 replace bu := ift (si bD).symm bu
 refine cT (cT (cT (cT ?_)))
 exact mt (cw) ⟨(by rw [← ((si bu).symm).symm] <;> rfl), trivial⟩ rfl (pf rfl) lr (si bb)
 replace bD := iff_ (not_f (ni_f br)) bD
 refine ro (loadn_s r1 rfl (nl rfl) (cf br ?_))
 refine cb bD fun eK dC bD => cgx (Jfj dC :) ?_
 refine cf br ?_
 obtain ⟨cw, bu, bb⟩ := bnd bb
 refine cond_s ?_ ?_ <;> intro bf
 replace bu := ift ((si bD).symm.trans bf) bu
 refine ct bf (ct bf (ct bf ?_))
 exact mt (cw) ⟨(by rw [← ((si bu).symm).symm] <;> rfl), trivial⟩ rfl (pf rfl) lr (si bb)
 replace bu := iff_ ((si bD).symm.trans bf) bu
 refine ro (loadn_s r0 rfl (nl rfl) (cf bf ?_))
 refine cb bu fun eT dD bu => cgx (Jfx dD :) ?_
 refine cf bf (un_not (cf bf ?_))
 exact mt (cw) ⟨(by rw [← (si bu)] <;> rfl), trivial⟩ rfl (pf rfl) lr (si bb)
 rintro bB rfl dK
 refine cs rfl rfl hm ?_ ?_ <;> intro eo hm
 refine cb hm fun ei dS hm => cgx (Jeg dS :) ?_
 exact eE hm
 refine draw_go_F ⟨⟨[], false⟩, _, [(_, _), (_, _)], []⟩ 11 rfl (by kernel_rfl) ⟨Hp.Le.refl _, (sc [1,0] rfl), ci0⟩ ?_
 refine loadn_l m0 rfl (nl rfl) ?_
 intro dM
 refine cb hm fun ey dF hm => cfx (Je5 dF :) ?_
 rintro _ eH _ bz ⟨c9, dt, cR, rfl, cL, bY, rfl⟩
 refine ⟨⟨bz, (sc [2,1] rfl), ci0⟩, ?_⟩
 refine ⟨_, .cons r4 .nil, ⟨bz, (sc [2,1] rfl), ci0⟩, ?_⟩
 refine loadn_l m1 rfl (nl rfl) ?_
 intro c5
 refine cb hm fun ef dZ hm => ckx (Jeh dZ :) ?_
 rintro _ _ _ ⟨cS, dc, rfl, cH, rfl⟩
 refine ⟨⟨bz, (sc [3,2] rfl), ci0⟩, ?_⟩
 refine ⟨_, .cons r5 .nil, ⟨bz, (sc [3,2] rfl), ci0⟩, ?_⟩
 intro dU
 refine fzFR Tryz.call22 Ja.R_ok r1 bY fun bW aT bZ => ?_
 refine fF Tryz.call22 r0 fun bR aR bV => ?_
 refine cb hm fun cB dO hm => ckx (Jei dO :) ?_
 rintro _ _ _ ⟨c8, df, cQ, c6, dw, cU, rfl, cM, cI, dz, rfl⟩
 refine ⟨⟨((bz.trans aT).trans aR), (sc [4,3] rfl), ci0⟩, ?_⟩
 refine ⟨_, .cons r6 .nil, ⟨((bz.trans aT).trans aR), (sc [4,3] rfl), ci0⟩, ?_⟩
 refine allocA rfl ?_
 intro b7
 intro di
 refine store_rule r0 rfl ⟨rfl, rfl, (nl rfl), ?_⟩
 refine ⟨⟨((bz.trans aT).trans aR), (sc [5,4] rfl), ci0⟩, ?_⟩
 refine ⟨_, .cons r7 .nil, ⟨((bz.trans aT).trans aR), (sc [5,4] rfl), ci0⟩, ?_⟩
 refine neq_err rfl ?_
 refine cs rfl rfl hm ?_ ?_ <;> intro eG hm
 exact eE hm
 obtain ⟨cC, bm, hm⟩ := bnd hm
 refine jR (σ := Bool) [34, 35, 36, 37, 38, 39, 40, 41, 42, 43, 44, 45, 46] (fun bC => [(46, .bool bC)]) (fun bC => bC = cC) ?_ ?_
 refine guard_go rfl ?_
 refine fa rfl (ro (ld r0 rfl rfl (neq_int ?_)))
 refine cond_s ?_ ?_ <;> intro aU
 replace bm := ift aU bm
 refine fa rfl (ct aU (ro (ld r0 rfl rfl (ct aU (ct aU ?_)))))
 refine cond_s ?_ ?_ <;> intro bd
 refine ct bd (ct bd (ct aU (ct bd (ct aU ?_))))
 exact mt (_) ⟨(by rw [← ((or_t bd)).symm] <;> rfl), trivial⟩ rfl (pf rfl) lr (si bm)
 refine fa rfl (cf bd (ro (ld r0 rfl rfl (cf bd (ct aU (cf bd (ct aU ?_)))))))
 exact mt ((decide (cB.1.Ai < 400) || decide (cB.1.Ai > 499))) ⟨(by rw [← (or_e (b := decide (cB.1.Ai > 499)) bd)] <;> rfl), trivial⟩ rfl (pf rfl) lr (si bm)
 replace bm := iff_ aU bm
 refine cf aU (cf aU (cf aU (cf aU (cf aU ?_))))
 exact eM bm _
 rintro bC rfl dL
 refine cs rfl rfl hm ?_ ?_ <;> intro eu hm
 exact eE hm
 refine ro (loadn_s r5 rfl (nl rfl) ?_)
 refine alloc_rule rfl fun b9 => ?_
 refine store_rule r0 rfl ⟨rfl, rfl, (nl rfl), ?_⟩
 refine rem_t (by decide) ?_
 obtain ⟨dY, hm⟩ := chkb hm
 refine conv_int rfl rfl dY ?_
 refine cb hm fun bw dI hm => cg0 (Je7 dI :) ?_
 refine build_struct rfl rfl (cT (cT (cT ?_)))
 refine alloc_rule rfl fun d8 => ?_
 refine store_rule r0 rfl ⟨rfl, rfl, (nl rfl), ?_⟩
 refine draw_go_F ⟨⟨[], false⟩, _, [(_, _), (_, _)], []⟩ 12 rfl (by kernel_rfl) ⟨Hp.Le.refl _, (sc [7,0] rfl), ci0⟩ ?_
 refine bsA (len := 0) (cl := []) elT61 rfl rfl ?_ fun eQ => ?_
 · conv => whnf
   first | done | rfl
 refine fa rfl (load1_l m0 rfl rfl ?_)
 intro c5
 obtain ⟨dG, hm⟩ := chkb hm
 refine apeRk (R := Jb.R) r0 elT61 rfl (LiC.mono Jb.R_ok ((bz.trans aT).trans aR) ae) rfl dG ?_
 intro eD ez eL r_56 em
 refine ⟨⟨lr, (sc [8,1] rfl), ci0⟩, ?_⟩
 refine ⟨_, .cons r10 .nil, ⟨lr, (sc [8,1] rfl), ci0⟩, ?_⟩
 refine loadn_l m1 rfl (nl rfl) ?_
 refine bsA (len := 1) (cl := [.int .i64 20, str bw, .slice none 0 0, .int .i64 1]) elT61 rfl rfl ?_ fun bE => ?_
 · conv => whnf
   refine cT ?_
   first | done | rfl
 refine build_struct rfl rfl (cT (cT (cT (build_struct rfl rfl (cT (cT ?_))))))
 refine bsA (len := 2) (cl := [.int .i64 9, str ([] : Str), .slice (some ⟨bE, 0, none⟩) 1 1, .int .i64 1, .int .i64 10, str ([] : Str), .slice none 0 0, .int .i64 1]) elT61 rfl rfl ?_ fun eC => ?_
 · conv => whnf
   refine cT (cT ?_)
   first | done | rfl
 intro di
 obtain ⟨dW, hm⟩ := chkb hm
 refine litAW (len := 1) (l := [(⟨20, bw, [], 1⟩ : Jb)]) (css := [[.int .i64 20, str bw, .slice none 0 0, .int .i64 1]]) Jb.R_ok r1 rfl (LR.snoc LR.nil (Jb.of (x := (⟨20, bw, [], 1⟩ : Jb)) ⟨none, 0, rfl, LiC.nil⟩)) rfl rfl (by decide) ?_
 refine fzWR Jb.R_ok r0 (show LR Jb.R _ [[.int .i64 20, str bw, .slice none 0 0, .int .i64 1]] [(⟨20, bw, [], 1⟩ : Jb)] from (LR.snoc LR.nil (Jb.of (x := (⟨20, bw, [], 1⟩ : Jb)) ⟨none, 0, rfl, LiC.nil⟩))) fun cm aS bg => ?_
 refine apRl r1 (LR.mono Jb.R_ok aS r_56) rfl elT61 (src_litR (news := [[.int .i64 9, str ([] : Str), .slice (some ⟨bE, 0, none⟩) 1 1, .int .i64 1], [.int .i64 10, str ([] : Str), .slice none 0 0, .int .i64 1]]) rfl r0 rfl rfl (by simp) rfl) (LR.snoc (LR.snoc LR.nil (Jb.of (x := (⟨9, ([] : Str), [(⟨20, bw, [], 1⟩ : Jb)], 1⟩ : Jb)) ⟨(some ⟨bE, 0, none⟩), 1, rfl, bg⟩)) (Jb.of (x := (⟨10, ([] : Str), [], 1⟩ : Jb)) ⟨none, 0, rfl, LiC.nil⟩)) dW ?_
 intro d4 d9 eg r_62 eJ
 refine ⟨⟨aS, (sc [9,2] rfl), ci0⟩, ?_⟩
 refine ⟨_, .cons r11 .nil, ⟨aS, (sc [9,2] rfl), ci0⟩, ?_⟩
 refine fa rfl ?_
 intro dT
 refine store_rule r3 rfl ⟨rfl, rfl, (nl rfl), ?_⟩
 refine ⟨⟨aS, (sc [9,3] rfl), ci0⟩, ?_⟩
 refine ⟨_, .cons r11 .nil, ⟨aS, (sc [9,3] rfl), ci0⟩, ?_⟩
 refine litAD (len := 2) (l := [(⟨9, ([] : Str), [(⟨20, bw, [], 1⟩ : Jb)], 1⟩ : Jb), (⟨10, ([] : Str), [], 1⟩ : Jb)]) (css := [[.int .i64 9, str ([] : Str), .slice (some ⟨bE, 0, none⟩) 1 1, .int .i64 1], [.int .i64 10, str ([] : Str), .slice none 0 0, .int .i64 1]]) Jb.R_ok r2 rfl (LR.snoc (LR.snoc LR.nil (Jb.of (x := (⟨9, ([] : Str), [(⟨20, bw, [], 1⟩ : Jb)], 1⟩ : Jb)) ⟨(some ⟨bE, 0, none⟩), 1, rfl, bg⟩)) (Jb.of (x := (⟨10, ([] : Str), [], 1⟩ : Jb)) ⟨none, 0, rfl, LiC.nil⟩)) rfl rfl (by decide) ?_
 refine fzDR Jb.R_ok r0 (show LR Jb.R _ [[.int .i64 9, str ([] : Str), .slice (some ⟨bE, 0, none⟩) 1 1, .int .i64 1], [.int .i64 10, str ([] : Str), .slice none 0 0, .int .i64 1]] [(⟨9, ([] : Str), [(⟨20, bw, [], 1⟩ : Jb)], 1⟩ : Jb), (⟨10, ([] : Str), [], 1⟩ : Jb)] from (LR.snoc (LR.snoc LR.nil (Jb.of (x := (⟨9, ([] : Str), [(⟨20, bw, [], 1⟩ : Jb)], 1⟩ : Jb)) ⟨(some ⟨bE, 0, none⟩), 1, rfl, bg⟩)) (Jb.of (x := (⟨10, ([] : Str), [], 1⟩ : Jb)) ⟨none, 0, rfl, LiC.nil⟩))) fun bM bc bL => ?_
 refine draw_go_F ⟨⟨[], false⟩, _, [(_, _), (_, _)], []⟩ 11 rfl (by kernel_rfl) ⟨Hp.Le.refl _, (sc [0,6] rfl), ci0⟩ ?_
 refine loadn_l m0 rfl (nl rfl) ?_
 intro dM
 refine fzFR Tryz.call23 Jb.R_ok r1 (LR.mono Jb.R_ok bc r_62) fun ca aM cd => ?_
 refine cb hm fun d7 dE hm => cfx (Je5 dE :) ?_
 rintro _ d6 _ bA ⟨dy, cX, cV, rfl, cJ, ce, rfl⟩
 refine ⟨⟨(aM.trans bA), (sc [1,6] rfl), ci0⟩, ?_⟩
 refine ⟨_, .cons r10 .nil, ⟨(aM.trans bA), (sc [1,6] rfl), ci0⟩, ?_⟩
 refine loadn_l m1 rfl (nl rfl) ?_
 intro c5
 refine cb hm fun eA dQ hm => ckx (Jeh dQ :) ?_
 rintro _ _ _ ⟨dj, dk, rfl, cK, rfl⟩
 refine ⟨⟨(aM.trans bA), (sc [2,7] rfl), ci0⟩, ?_⟩
 refine ⟨_, .cons r11 .nil, ⟨(aM.trans bA), (sc [2,7] rfl), ci0⟩, ?_⟩
 intro dU
 refine fzFR Tryz.call22 Ja.R_ok r1 ce fun cp aW cj => ?_
 refine fF Tryz.call22 r0 fun cr aX bS => ?_
 refine cb hm fun eP dJ hm => ckx (Jei dJ :) ?_
 rintro _ _ _ ⟨dl, db, dh, cZ, cO, dx, rfl, dv, cW, cG, rfl⟩
 refine ⟨⟨(((aM.trans bA).trans aW).trans aX), (sc [3,8] rfl), ci0⟩, ?_⟩
 refine ⟨_, .cons r12 .nil, ⟨(((aM.trans bA).trans aW).trans aX), (sc [3,8] rfl), ci0⟩, ?_⟩
 refine allocA rfl ?_
 intro ej
 intro di
 refine store_rule r0 rfl ⟨rfl, rfl, (nl rfl), ?_⟩
 refine ⟨⟨(((aM.trans bA).trans aW).trans aX), (sc [4,9] rfl), ci0⟩, ?_⟩
 refine ⟨_, .cons r13 .nil, ⟨(((aM.trans bA).trans aW).trans aX), (sc [4,9] rfl), ci0⟩, ?_⟩
 refine ro (loadn_s r4 rfl (nl rfl) ?_)
 refine cb hm fun eh dV hm => cgx (Jfq dV :) ?_
 refine field_one rfl rfl rfl rfl ?_
 refine neq_int (cs rfl rfl hm ?_ ?_) <;> intro ek hm
 refine neq_err rfl ?_
 exact eE hm
 refine fa rfl (ro (ld r6 rfl rfl (eq_int ?_)))
 obtain ⟨cA, aN, hm⟩ := bnd hm
 refine jD (σ := (Jf) × Option Addr × Nat × Option Addr × Nat × Option Addr × Nat) [81, 82, 83, 84, 85, 86, 87, 88, 89, 90, 91, 92, 93] [0, 1, 2, 3, 4, 5, 10, 11, 12] (fun (a6, aO, aY, aP, aZ, aQ, a8) => []) (fun (a6, aO, aY, aP, aZ, aQ, a8) => [Cells b7 33 [str a6.Ae, str a6.Af, .slice aO a6.Ag.length aY, .slice aP a6.Vary.length aZ, .slice aQ a6.Ah.length a8, .int .i64 a6.TTL, .int .i64 a6.Ai, .int .i64 a6.Aj, .bool a6.Ak, .bool a6.Al], OwnL Jd.enc aO 77 2 aY a6.Ag, OwnL eS aP 9 1 aZ a6.Vary, OwnL eS aQ 9 1 a8 a6.Ah]) (fun (a6, aO, aY, aP, aZ, aQ, a8) => (0 < a6.Ag.length → Has aO) ∧ (0 < a6.Vary.length → Has aP) ∧ (0 < a6.Ah.length → Has aQ) ∧ a6 = cA) (And.intro ?_ ?_)
 refine cs rfl rfl aN ?_ ?_ <;> intro d5 aN
 refine fa rfl ?_
 refine store_rule r6 rfl ⟨rfl, rfl, (nl rfl), ?_⟩
 refine guard_go rfl ?_
 refine rem_t (by decide) ?_
 obtain ⟨ee, bF, aN⟩ := bnd aN
 refine cond_s ?_ ?_ <;> intro ba
 replace bF := ift ba bF
 refine ct ba (rem_t (by decide) (ct ba (ct ba (cond_go rfl ?_))))
 refine cond_s ?_ ?_ <;> intro dg
 replace aN := ift ((si bF).symm.trans dg) aN
 refine rem_t (by decide) ?_
 obtain ⟨d3, aN⟩ := chkb aN
 refine conv_int rfl rfl d3 (fa rfl ?_)
 refine store_rule r0 rfl ⟨rfl, rfl, (nl rfl), ?_⟩
 exact eM aN (_, _, _, _, _, _, _)
 replace aN := iff_ ((si bF).symm.trans dg) aN
 exact eM aN (_, _, _, _, _, _, _)
 replace bF := iff_ ba bF
 refine cf ba (cf ba (cf ba (cond_go rfl (cF ?_))))
 replace aN := iff_ (si bF).symm aN
 exact eM aN (_, _, _, _, _, _, _)
 exact eM aN (_, _, _, _, _, _, _)
 rintro ⟨a6, aO, aY, aP, aZ, aQ, a8⟩ ⟨bH, bG, bJ, rfl⟩ dB
 refine draw_go ⟨⟨[], false⟩, _, [(_, _), (_, _)], []⟩ (by kernel_rfl) ⟨Hp.Le.refl _, (sc [4,0] rfl), ci0⟩ ?_
 refine eq_err rfl ?_
 obtain ⟨dP, bo, hm⟩ := bnd hm
 refine cond_s ?_ ?_ <;> intro aV
 replace bo := ift aV bo
 refine loadn_l m0 rfl (nl rfl) (ct aV (loadn_l m1 rfl (nl rfl) (ct aV ?_)))
 refine fF Tryz.call26 r1 fun cq bn bX => ?_
 refine fF Tryz.call26 r1 fun co bh bU => ?_
 refine fF Tryz.call26 r1 fun bT bj cn => ?_
 refine cb bo fun eF dX bo => cfx (JfH dX :) ?_
 rintro _ eO _ cD ⟨dm, de, dq, da, cY, dA, rfl, du, cP, dp, rfl⟩
 refine ⟨⟨(((bn.trans bh).trans bj).trans cD), (sc [1,0] rfl), ci0⟩, ?_⟩
 refine ct aV ?_
 refine fF Tryz.call18 r2 fun bK bt bQ => ?_
 refine fF Tryz.call18 r2 fun bO bp bN => ?_
 refine fF Tryz.call18 r2 fun bP bq bI => ?_
 refine cb bo fun dH cE bo => cgx (JfM cE :) ?_
 refine ⟨⟨((((((bn.trans bh).trans bj).trans cD).trans bt).trans bp).trans bq), (sc [1,0] rfl), ci0⟩, ?_⟩
 refine ct aV ?_
 cases hm
 exact en (((((((((((((((bz.trans aT).trans aR).trans aS).trans bc).trans aM).trans bA).trans aW).trans aX).trans bn).trans bh).trans bj).trans cD).trans bt).trans bp).trans bq) ⟨(by rw [← (si bo)] <;> rfl), rfl⟩ (sc [6] rfl)
 replace bo := iff_ aV bo
 refine cf aV (cf aV (cf aV (cf aV ?_)))
 cases hm
 exact en ((((((((bz.trans aT).trans aR).trans aS).trans bc).trans aM).trans bA).trans aW).trans aX) ⟨(by rw [← ((si bo).symm).symm] <;> rfl), rfl⟩ (sc [12] rfl)
