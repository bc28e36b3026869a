/- Functions of the program: mirrors, and that a call returns what the mirror says. Printed by gen.py. -/
import Derived.Test.YtmpdebfckeahmaaGreatDoorG3
set_option linter.unusedVariables false
set_option linter.unusedSimpArgs false
open Go Go.SL Go.Proofs
noncomputable section
set_option maxRecDepth 1000000
set_option maxHeartbeats 8000000
def Jy (rec_ : (Jk → (List Ja) → (List Ji) → Option (Jk))) (ac : (List Ji)) : List Ja → Nat → Int → Err → Option (Int × Err)
  | [], _, aM, aN => some (aM, aN)
  | e3 :: aQ, i3, aM, aN =>
    (JaB e3).bind fun aP =>
    (rec_ (⟨aM, aN⟩ : Jk) aP ac).bind fun aO =>
    Jy rec_ ac aQ (i3 + 1) aO.line aO.err
def Jp (n : Nat) (rec_ : (Jk → (List Ja) → (List Ji) → Option (Jk))) : List Ja → Nat → (List Ji) → Int → Err → Option (Fl (Jk) ((List Ji) × Int × Err))
  | [], _, ac, aP, aR => some (Fl.go (ac, aP, aR))
  | e0 :: aO, i0, ac, aP, aR =>
    if decide ((e0.Aa.length : Int) = 0) then
    Jp n rec_ aO (i0 + 1) ac aP aR
    else
    (ix e0.Aa 0).bind fun aV =>
    (JD n (⟨aP, aR⟩ : Jk) aV ac).bind fun aM =>
    (JbK e0).bind fun aU =>
    if ((aM.2.err.isNone && decide (aU ≠ 0)) && decide (aM.1 ≠ aU)) then
    (JH aM.2 e0 (some 9)).bind fun aN =>
    if aN.err.isSome then
    some (Fl.ret aN)
    else
    if decide (e0.Ab = 3) then
    (JaI n e0.Ac ac).bind fun aT =>
    if aT then
    (JH aN e0 (some 4)).bind fun aQ =>
    (Jaa ac e0.Ac aM.1).bind fun aS =>
    if aQ.err.isSome then
    some (Fl.ret aQ)
    else
    Jp n rec_ aO (i0 + 1) aS aQ.line aQ.err
    else
    (Jaa ac e0.Ac aM.1).bind fun aS =>
    if aN.err.isSome then
    some (Fl.ret aN)
    else
    Jp n rec_ aO (i0 + 1) aS aN.line aN.err
    else
    if decide (e0.Ab = 2) then
    (chk (0 ≤ (1 : Int) ∧ (1 : Int) ≤ (e0.Aa.length : Int) ∧ (e0.Aa.length : Int) ≤ (e0.Aa.length : Int))).bind fun _ =>
    (chk ((subL e0.Aa (1 : Int) (e0.Aa.length : Int)).length ≤ szMax)).bind fun _ =>
    (Jy rec_ ac (subL e0.Aa (1 : Int) (e0.Aa.length : Int)) 0 aN.line aN.err).bind fun t3 =>
    if t3.2.isSome then
    some (Fl.ret (⟨t3.1, t3.2⟩ : Jk))
    else
    Jp n rec_ aO (i0 + 1) ac t3.1 t3.2
    else
    if aN.err.isSome then
    some (Fl.ret aN)
    else
    Jp n rec_ aO (i0 + 1) ac aN.line aN.err
    else
    if aM.2.err.isSome then
    some (Fl.ret aM.2)
    else
    if decide (e0.Ab = 3) then
    (JaI n e0.Ac ac).bind fun aT =>
    if aT then
    (JH aM.2 e0 (some 4)).bind fun aQ =>
    (Jaa ac e0.Ac aM.1).bind fun aS =>
    if aQ.err.isSome then
    some (Fl.ret aQ)
    else
    Jp n rec_ aO (i0 + 1) aS aQ.line aQ.err
    else
    (Jaa ac e0.Ac aM.1).bind fun aS =>
    if aM.2.err.isSome then
    some (Fl.ret aM.2)
    else
    Jp n rec_ aO (i0 + 1) aS aM.2.line aM.2.err
    else
    if decide (e0.Ab = 2) then
    (chk (0 ≤ (1 : Int) ∧ (1 : Int) ≤ (e0.Aa.length : Int) ∧ (e0.Aa.length : Int) ≤ (e0.Aa.length : Int))).bind fun _ =>
    (chk ((subL e0.Aa (1 : Int) (e0.Aa.length : Int)).length ≤ szMax)).bind fun _ =>
    (Jy rec_ ac (subL e0.Aa (1 : Int) (e0.Aa.length : Int)) 0 aM.2.line aM.2.err).bind fun t3 =>
    if t3.2.isSome then
    some (Fl.ret (⟨t3.1, t3.2⟩ : Jk))
    else
    Jp n rec_ aO (i0 + 1) ac t3.1 t3.2
    else
    if aM.2.err.isSome then
    some (Fl.ret aM.2)
    else
    Jp n rec_ aO (i0 + 1) ac aM.2.line aM.2.err
def Jx : Nat → Jk → (List Ja) → (List Ji) → Option (Jk)
  | 0, _, _, _ => none
  | n + 1, c, list, env =>
    (chk (list.length ≤ szMax)).bind fun _ =>
    (Jp n (Jx n) list 0 env c.line c.err).bind fun s0 => s0.el some fun t0 =>
    some (⟨t0.2.1, t0.2.2⟩ : Jk)
theorem Jdr : ∀ {n : Nat} {c : Jk} {list : (List Ja)} {env : (List Ji)} {b0 : Nat} {ag : Option Addr} {ah : Nat} {n1 : Nat} {aq : Option Addr} {ar : Nat} {n2 : Nat} {K : Hp} {r : Jk}
    (hm : Jx n c list env = some r) (hX : LiC Ja.R K ag ah 4 list ∧ n1 = list.length ∧ RdC Ji.enc K aq ar 2 env ∧ n2 = env.length),
    Fn Tryz.prog 85 [.pointer (some ⟨b0, 0, none⟩), .slice ag n1 ah, .slice aq n2 ar] K [Cells b0 171 [.int .i64 c.line, errV 87 c.err]] (fun v K' H' => v = .tuple #[] ∧ H' = [Cells b0 171 [.int .i64 r.line, errV 87 r.err]]) := by
 intro n
 induction n with
 | zero =>
   intro c list env b0 ag ah n1 aq ar n2 K r hm hX
   rw [Jx.eq_1] at hm; cases hm
 | succ n ih =>
   intro c list env b0 ag ah n1 aq ar n2 K r hm hX
   obtain ⟨af, cq, bW, cC⟩ := hX
   subst cq
   subst cC
   refine Fn.enter Tryz.func85 Tryz.call85 rfl fun F => ?_
   rw [Jx.eq_2] at hm
   refine ro (len_slice rfl ?_)
   obtain ⟨ba, hm⟩ := chkb hm
   obtain ⟨s0, aM, hm⟩ := bnd hm
   refine lC (σ := ((List Ji) × Int × Err) × Option Addr × Nat) [2, 7, 8, 9, 11, 14, 15, 16, 17, 18, 19, 20, 21, 22, 23, 24, 25, 26, 27, 28, 29, 30, 31, 32, 33, 34, 35, 36, 37, 38, 39, 40, 41, 42, 43, 44, 45, 46, 47, 48, 49, 50, 51, 52, 53, 54, 55, 56, 57, 58, 59, 60, 61, 62, 63, 64, 65, 66, 67, 68, 69, 70, 71, 72, 73, 74, 75, 76, 77, 78, 79, 80, 81, 82, 83, 84, 85, 86, 87, 88, 89, 90, 91, 92] [1] (fun i0 => [(14, .int .i64 (i0 : Int))]) (fun (t0, aR, aQ) => [(2, .slice aR t0.1.length aQ)]) (fun (t0, aR, aQ) => [Cells b0 171 [.int .i64 t0.2.1, errV 87 t0.2.2]]) (fun zz K1 => match zz with | (t0, aR, aQ) => RdC Ji.enc K1 aR aQ 2 t0.1 ∧ True) (fun i0 (t0, aR, aQ) => Jp n (Jx n) (list.drop i0) i0 t0.1 t0.2.1 t0.2.2 = some s0) (fun (t0, aR, aQ) => s0 = Fl.go t0) (fun i0 => list.length - i0) 0 ((_, _, _), _, _) aM (And.intro qe (And.intro ?_ ?_))
   clear aM
   rintro i0 ⟨⟨ac, cL, cP⟩, bY, bS⟩ cQ ca ⟨bU, _⟩ aM j0
   dsimp only at aM ⊢
   refine cond_go rfl ?_
   refine cond_s ?_ ?_ <;> intro w0
   obtain ⟨e0, aT, cj⟩ := ltx w0
   rw [cj, Jp.eq_2] at aM
   refine block_go rfl ?_
   refine RStep.ofN (index_addr rfl rfl (hasR (LiC.mono Ja.R_ok ca af).rd aT) (nn _) (lt_ofN aT) ?_)
   obtain ⟨cm, ce, bN, bM, bL⟩ := LiR.get (LiC.mono Ja.R_ok ca af).rd aT
   obtain ⟨bP, bV, rfl, aS⟩ := Ja.out bL
   refine ro (load_rd_agg i0 _ bN rfl bM rfl ?_)
   refine alloc_rule rfl fun b7 => ?_
   refine store_rule r0 rfl ⟨rfl, rfl, (nl rfl), ?_⟩
   refine fa rfl (ro (ld r0 rfl rfl (ro (len_slice rfl (eq_int ?_)))))
   refine cs rfl rfl aM ?_ ?_ <;> intro cW aM
   refine cT (int_in (cntz aT ba) ?_)
   exact eR aM (_, (_, _, _), _, _)
   refine fa rfl (ro (ld r0 rfl rfl ?_))
   obtain ⟨cS, bT, bA, aM⟩ := ixb aM
   refine RStep.ofN (index_addr rfl rfl (hasR aS.rd bA) bT (lt_ofE rfl bT bA) ?_)
   obtain ⟨cD, cA, bw, bG, bI⟩ := LiR.get aS.rd bA
   obtain ⟨bX, bZ, rfl, bQ⟩ := Ja.out bI
   refine ro (load_rd_agg ((0 : Int).toNat) _ bw rfl bG rfl ?_)
   refine cb aM fun bz cM aM => cgx (JdC cM :) ?_
   refine ro (loadn_s r1 rfl (nl rfl) ?_)
   refine cb aM fun bB cp aM => cgx (JeL cp :) ?_
   refine jR (σ := Unit) [31, 32, 33, 34, 35, 36, 37, 38, 39, 40, 41, 42, 43, 44] (fun _ => [(44, .bool ((bz.2.err.isNone && decide (bB ≠ 0)) && decide (bz.1 ≠ bB)))]) (fun cz => True) ?_ ?_
   refine guard_go rfl ?_
   refine nil_check (fa rfl (ro (ld r0 rfl rfl (eq_err rfl ?_))))
   refine cond_s ?_ ?_ <;> intro aP
   refine ct aP (neq_int (ct aP ?_))
   refine cond_s ?_ ?_ <;> intro aN
   refine ct aN (ct aN (neq_int (ct aN ?_)))
   exact mt (()) ⟨(by rw [← (and_e (b := decide (bz.1 ≠ bB)) (and_t aP aN))] <;> rfl), trivial⟩ rfl (pf rfl) lr trivial
   refine cf aN (cf aN (cf aN ?_))
   exact mt (()) ⟨(by rw [← ((and_f (and_g aP aN))).symm] <;> rfl), trivial⟩ rfl (pf rfl) lr trivial
   refine cf aP (cf aP (cF (cF (cF (cF ?_)))))
   exact mt (()) ⟨(by rw [← ((and_f (and_f aP))).symm] <;> rfl), trivial⟩ rfl (pf rfl) lr trivial
   rintro _ _ cK
   refine cs rfl rfl aM ?_ ?_ <;> intro cU aM
   refine ro (loadn_s r1 rfl (nl rfl) ?_)
   refine mk_iface rfl ?_
   refine cb aM fun cR cE aM => cgx (J0 cE :) ?_
   refine nil_check (fa rfl (ro (ld r0 rfl rfl (neq_err rfl ?_))))
   refine cs rfl rfl aM ?_ ?_ <;> intro cd aM
   exact eE (er aM hm)
   refine fa rfl (ro (ld r1 rfl rfl ?_))
   refine block_go rfl ?_
   refine eq_int (cs rfl rfl aM ?_ ?_) <;> intro cJ aM
   refine fa rfl (ro (ld r1 rfl rfl ?_))
   refine cb aM fun co bO aM => cgx (Jc4 bO :) ?_
   refine cs rfl rfl aM ?_ ?_ <;> intro cB aM
   refine ro (loadn_s r1 rfl (nl rfl) ?_)
   refine mk_iface rfl ?_
   refine cb aM fun cr bJ aM => cgx (J0 bJ :) ?_
   refine fa rfl (ro (ld r1 rfl rfl ?_))
   refine cb aM fun bC bg aM => ckx (JbQ bg :) ?_
   rintro _ _ _ ⟨aZ, aY, rfl, aU, rfl⟩
   refine nil_check (fa rfl (ro (ld r1 rfl rfl (neq_err rfl ?_))))
   refine cs rfl rfl aM ?_ ?_ <;> intro bc aM
   exact eE (er aM hm)
   refine int_in (cntz aT ba) ?_
   refine fRo r0 fun aW a6 aX => ?_
   exact eR aM (_, (_, _, _), _, _)
   refine fa rfl (ro (ld r1 rfl rfl ?_))
   refine cb aM fun bC bg aM => ckx (JbQ bg :) ?_
   rintro _ _ _ ⟨aZ, aY, rfl, aU, rfl⟩
   refine nil_check (fa rfl (ro (ld r1 rfl rfl (neq_err rfl ?_))))
   refine cs rfl rfl aM ?_ ?_ <;> intro bc aM
   exact eE (er aM hm)
   refine int_in (cntz aT ba) ?_
   refine fRo r0 fun aW a6 aX => ?_
   exact eR aM (_, (_, _, _), _, _)
   refine eq_int (cs rfl rfl aM ?_ ?_) <;> intro cw aM
   refine fa rfl (ro (ld r1 rfl rfl ?_))
   obtain ⟨bn, aM⟩ := chkb aM
   have aV := aS.subC bn
   refine RStep.ofN (sl_slN (l := e0.Aa) (lo := (some 1)) (hi := none) (lo' := (1 : Int)) (hi' := (e0.Aa.length : Int)) rfl rfl rfl rfl rfl aS.le bn (ro (len_slice rfl ?_)))
   obtain ⟨bF, aM⟩ := chkb aM
   obtain ⟨s3, aO, aM⟩ := bnd aM
   refine lD (σ := (Int × Err)) [11, 77, 78, 79, 80, 81, 82, 83, 84, 85, 86] [1, 2] (fun i3 => [(77, .int .i64 (i3 : Int))]) (fun _ => []) (fun t3 => [Cells b0 171 [.int .i64 t3.1, errV 87 t3.2]]) (fun _ => True) (fun i3 t3 => Jy (Jx n) ac ((subL e0.Aa (1 : Int) (e0.Aa.length : Int)).drop i3) i3 t3.1 t3.2 = some s3) (fun t3 => t3 = s3) (fun i3 => (subL e0.Aa (1 : Int) (e0.Aa.length : Int)).length - i3) 0 (_, _) aO (And.intro qe (And.intro ?_ ?_))
   clear aO
   rintro i3 ⟨bt, bE⟩ _ aO j3
   dsimp only at aO ⊢
   refine cond_go rfl ?_
   refine cond_s ?_ ?_ <;> intro w3
   obtain ⟨e3, a8, br⟩ := ltx w3
   rw [br, Jy.eq_2] at aO
   refine block_go rfl ?_
   refine RStep.ofN (index_addr rfl rfl (hasR aV.rd a8) (nn _) (lt_ofN a8) ?_)
   obtain ⟨bu, bH, bb, bd, bf⟩ := LiR.get aV.rd a8
   obtain ⟨bm, bj, rfl, bo⟩ := Ja.out bf
   refine ro (load_rd_agg i3 _ bb rfl bd rfl ?_)
   refine alloc_rule rfl fun cI => ?_
   refine store_rule r0 rfl ⟨rfl, rfl, (nl rfl), ?_⟩
   refine ro (loadn_s r0 rfl (nl rfl) ?_)
   refine cb aO fun cH bD aO => cfx (Jdk bD :) ?_
   rintro _ cn _ cO ⟨bh, bq, rfl, bp, rfl⟩
   refine cb aO fun cG bK aO => cgx (ih bK :) ?_
   refine int_in (cntz a8 bF) ?_
   exact eR aO (_, (_, _))
   rw [lty w3, Jy.eq_1] at aO
   refine cT ?_
   exact eM aO _
   rintro t3 _ rfl j3
   refine nil_check (fa rfl (ro (ld r0 rfl rfl (neq_err rfl ?_))))
   refine cs rfl rfl aM ?_ ?_ <;> intro bc aM
   exact eE (er aM hm)
   refine int_in (cntz aT ba) ?_
   exact eR aM (_, (_, _, _), _, _)
   refine nil_check (fa rfl (ro (ld r0 rfl rfl (neq_err rfl ?_))))
   refine cs rfl rfl aM ?_ ?_ <;> intro bc aM
   exact eE (er aM hm)
   refine int_in (cntz aT ba) ?_
   exact eR aM (_, (_, _, _), _, _)
   refine nil_check (fa rfl (ro (ld r0 rfl rfl (neq_err rfl ?_))))
   refine cs rfl rfl aM ?_ ?_ <;> intro cd aM
   exact eE (er aM hm)
   refine fa rfl (ro (ld r1 rfl rfl ?_))
   refine block_go rfl ?_
   refine eq_int (cs rfl rfl aM ?_ ?_) <;> intro cJ aM
   refine fa rfl (ro (ld r1 rfl rfl ?_))
   refine cb aM fun co bO aM => cgx (Jc4 bO :) ?_
   refine cs rfl rfl aM ?_ ?_ <;> intro cB aM
   refine ro (loadn_s r1 rfl (nl rfl) ?_)
   refine mk_iface rfl ?_
   refine cb aM fun cr bJ aM => cgx (J0 bJ :) ?_
   refine fa rfl (ro (ld r1 rfl rfl ?_))
   refine cb aM fun bC bg aM => ckx (JbQ bg :) ?_
   rintro _ _ _ ⟨aZ, aY, rfl, aU, rfl⟩
   refine nil_check (fa rfl (ro (ld r1 rfl rfl (neq_err rfl ?_))))
   refine cs rfl rfl aM ?_ ?_ <;> intro bc aM
   exact eE (er aM hm)
   refine int_in (cntz aT ba) ?_
   refine fRo r0 fun aW a6 aX => ?_
   exact eR aM (_, (_, _, _), _, _)
   refine fa rfl (ro (ld r1 rfl rfl ?_))
   refine cb aM fun bC bg aM => ckx (JbQ bg :) ?_
   rintro _ _ _ ⟨aZ, aY, rfl, aU, rfl⟩
   refine nil_check (fa rfl (ro (ld r1 rfl rfl (neq_err rfl ?_))))
   refine cs rfl rfl aM ?_ ?_ <;> intro bc aM
   exact eE (er aM hm)
   refine int_in (cntz aT ba) ?_
   refine fRo r0 fun aW a6 aX => ?_
   exact eR aM (_, (_, _, _), _, _)
   refine eq_int (cs rfl rfl aM ?_ ?_) <;> intro cw aM
   refine fa rfl (ro (ld r1 rfl rfl ?_))
   obtain ⟨bn, aM⟩ := chkb aM
   have aV := aS.subC bn
   refine RStep.ofN (sl_slN (l := e0.Aa) (lo := (some 1)) (hi := none) (lo' := (1 : Int)) (hi' := (e0.Aa.length : Int)) rfl rfl rfl rfl rfl aS.le bn (ro (len_slice rfl ?_)))
   obtain ⟨bF, aM⟩ := chkb aM
   obtain ⟨s3, aO, aM⟩ := bnd aM
   refine lD (σ := (Int × Err)) [11, 77, 78, 79, 80, 81, 82, 83, 84, 85, 86] [1, 2] (fun i3 => [(77, .int .i64 (i3 : Int))]) (fun _ => []) (fun t3 => [Cells b0 171 [.int .i64 t3.1, errV 87 t3.2]]) (fun _ => True) (fun i3 t3 => Jy (Jx n) ac ((subL e0.Aa (1 : Int) (e0.Aa.length : Int)).drop i3) i3 t3.1 t3.2 = some s3) (fun t3 => t3 = s3) (fun i3 => (subL e0.Aa (1 : Int) (e0.Aa.length : Int)).length - i3) 0 (_, _) aO (And.intro qe (And.intro ?_ ?_))
   clear aO
   rintro i3 ⟨bt, bE⟩ _ aO j3
   dsimp only at aO ⊢
   refine cond_go rfl ?_
   refine cond_s ?_ ?_ <;> intro w3
   obtain ⟨e3, a8, br⟩ := ltx w3
   rw [br, Jy.eq_2] at aO
   refine block_go rfl ?_
   refine RStep.ofN (index_addr rfl rfl (hasR aV.rd a8) (nn _) (lt_ofN a8) ?_)
   obtain ⟨bu, bH, bb, bd, bf⟩ := LiR.get aV.rd a8
   obtain ⟨bm, bj, rfl, bo⟩ := Ja.out bf
   refine ro (load_rd_agg i3 _ bb rfl bd rfl ?_)
   refine alloc_rule rfl fun cI => ?_
   refine store_rule r0 rfl ⟨rfl, rfl, (nl rfl), ?_⟩
   refine ro (loadn_s r0 rfl (nl rfl) ?_)
   refine cb aO fun cH bD aO => cfx (Jdk bD :) ?_
   rintro _ cn _ cO ⟨bh, bq, rfl, bp, rfl⟩
   refine cb aO fun cG bK aO => cgx (ih bK :) ?_
   refine int_in (cntz a8 bF) ?_
   exact eR aO (_, (_, _))
   rw [lty w3, Jy.eq_1] at aO
   refine cT ?_
   exact eM aO _
   rintro t3 _ rfl j3
   refine nil_check (fa rfl (ro (ld r0 rfl rfl (neq_err rfl ?_))))
   refine cs rfl rfl aM ?_ ?_ <;> intro bc aM
   exact eE (er aM hm)
   refine int_in (cntz aT ba) ?_
   exact eR aM (_, (_, _, _), _, _)
   refine nil_check (fa rfl (ro (ld r0 rfl rfl (neq_err rfl ?_))))
   refine cs rfl rfl aM ?_ ?_ <;> intro bc aM
   exact eE (er aM hm)
   refine int_in (cntz aT ba) ?_
   exact eR aM (_, (_, _, _), _, _)
   rw [lty w0, Jp.eq_1] at aM
   refine cT ?_
   exact eM aM (_, _, _)
   rintro ⟨t0, aR, aQ⟩ cV cX ⟨bR, _⟩ rfl j0
   replace hm := elg hm
   exact eE hm

def Jbj (n : Nat) (program : Ja) : Option (Int × Err) :=
  (Jab n program).bind fun x6 =>
  if (!x6) then
  some (0, (some 2))
  else
  (Jx n (⟨0, none⟩ : Jk) program.Aa []).bind fun aM =>
  some (aM.line, aM.err)
theorem JeM {n : Nat} {program : Ja} {aa : Option Addr} {ab : Nat} {K : Hp} {r : Int × Err}
    (hm : Jbj n program = some r) (hX : LiC Ja.R K aa ab 4 program.Aa ∧ GG K) :
    Fn Tryz.prog 51 [.agg #[.int .i64 program.Ab, str program.Ac, .slice aa program.Aa.length ab, .int .i64 program.Ad]] K [] (fun v K' H' => v = .tuple #[.int .i64 r.1, errV 87 r.2] ∧ H' = []) := by
 obtain ⟨ae, hG⟩ := hX
 refine Fn.enter Tryz.func51 Tryz.call51 rfl fun F => ?_
 unfold Jbj at hm
 refine box_rule ?_
 intro b1
 refine ro (loadn_s r0 rfl (nl rfl) ?_)
 refine cb hm fun x6 q6 hm => cgx (JeK q6 :) ?_
 refine un_not ?_
 refine cs rfl rfl hm ?_ ?_ <;> intro w7 hm
 refine mk_iface rfl ?_
 exact eE hm
 refine build_struct rfl rfl ?_
 refine box_rule ?_
 intro aO
 refine fa rfl (ro (ld r1 rfl rfl ?_))
 refine cb hm fun aN aM hm => cgx (Jdr aM :) ?_
 refine draw_go ⟨⟨[], false⟩, _, [(_, _)], []⟩ (by kernel_rfl) ⟨Hp.Le.refl _, (pf rfl), ci0⟩ ?_
 refine nil_check (fa rfl (load1_l m0 rfl rfl (nil_check (fa rfl (load1_l m0 rfl rfl ?_)))))
 exact eE hm

def JbT (x : Jc) : Option (Jc × Err) :=
  if decide ((x.s.length : Int) > 2048) then
  some ((⟨0, 0, ([] : Str), false⟩ : Jc), (some 5))
  else
  some (x, none)
theorem JcJ {x : Jc} {K : Hp} {r : Jc × Err}
    (hm : JbT x = some r)  :
    Fn Tryz.prog 130 [.agg #[.int .i64 x.kind, .int .i64 x.n, str x.s, .bool x.At]] K [] (fun v K' H' => v = .tuple #[.agg #[.int .i64 r.1.kind, .int .i64 r.1.n, str r.1.s, .bool r.1.At], errV 87 r.2] ∧ H' = []) := by
 refine Fn.enter Tryz.func130 Tryz.call130 rfl fun F => ?_
 unfold JbT at hm
 refine box_rule ?_
 intro b1
 refine alloc_rule rfl fun b2 => ?_
 refine fa rfl (ro (ld r1 rfl rfl (ro (len_str rfl ?_))))
 refine cs rfl rfl hm ?_ ?_ <;> intro w7 hm
 refine build_struct rfl rfl ?_
 refine mk_iface rfl ?_
 refine store_rule r0 rfl ⟨rfl, rfl, (nl rfl), ?_⟩
 exact ro (loadn_s r0 rfl (nl rfl) (eE hm))
 refine ro (loadn_s r1 rfl (nl rfl) ?_)
 refine store_rule r0 rfl ⟨rfl, rfl, (nl rfl), ?_⟩
 exact ro (loadn_s r0 rfl (nl rfl) (eE hm))

def Jae (env : (List JC)) (n' : Ja) : Nat → Int → Option (Fl (Jc × Err) (Int))
  | 0, _ => none
  | aO + 1, aM =>
    if decide (aM ≥ 0) then
    (ix env aM).bind fun aN =>
    if decide (aN.name = n'.Ac) then
    (ix env aM).bind fun aP =>
    some (Fl.ret (aP.value, none))
    else
    (chk (InI (aM - 1))).bind fun _ =>
    Jae env n' aO (aM - 1)
    else
    some (Fl.go aM)
def J3 : Nat → Jn → Ja → (List JC) → Option (Jc × Err)
  | 0, _, _, _ => none
  | n + 1, w', n', env =>
    if decide (n'.Ab = 20) then
    (Jcj n'.Ac).bind fun a8 =>
    (Jbw a8).bind fun bd =>
    some (bd, none)
    else
    if decide (n'.Ab = 21) then
    (Jaw n'.Ac).bind fun bc =>
    (JbT bc).bind fun a6 =>
    some (a6.1, a6.2)
    else
    if decide (n'.Ab = 22) then
    (Jay (decide (n'.Ac = ([116, 114, 117, 101] : Str)))).bind fun bf =>
    some (bf, none)
    else
    if decide (n'.Ab = 23) then
    (chk (InI ((env.length : Int) - 1))).bind fun _ =>
    (Jae env n' n ((env.length : Int) - 1)).bind fun s1 => s1.el some fun t1 =>
    (Jal n'.Ac w'.Ar).bind fun ba =>
    (JbT ba).bind fun aZ =>
    some (aZ.1, aZ.2)
    else
    (ix n'.Aa 0).bind fun bb =>
    ((J3 n) w' bb env).bind fun aM =>
    if aM.2.isSome then
    some ((⟨0, 0, ([] : Str), false⟩ : Jc), aM.2)
    else
    ((if decide (n'.Ab = 24) then
    (JK n'.Ac aM.1 w'.Ar).bind fun bg =>
    (JbT bg.1).bind fun aO =>
    some (Fl.ret (aO.1, aO.2))
    else
    if decide (n'.Ab = 15) then
    (Jay (!aM.1.At)).bind fun aW =>
    some (Fl.ret (aW, none))
    else
    if decide (n'.Ab = 14) then
    if (!aM.1.At) then
    some (Fl.ret (aM.1, none))
    else
    (ix n'.Aa 1).bind fun aT =>
    ((J3 n) w' aT env).bind fun aP =>
    some (Fl.ret (aP.1, aP.2))
    else
    if decide (n'.Ab = 13) then
    if aM.1.At then
    some (Fl.ret (aM.1, none))
    else
    (ix n'.Aa 1).bind fun aX =>
    ((J3 n) w' aX env).bind fun aR =>
    some (Fl.ret (aR.1, aR.2))
    else
    if decide (n'.Ab = 17) then
    some (Fl.go ([43] : Str))
    else
    if decide (n'.Ab = 18) then
    some (Fl.go ([45] : Str))
    else
    if decide (n'.Ab = 19) then
    some (Fl.go ([42] : Str))
    else
    some (Fl.go n'.Ac) : Option (Fl (Jc × Err) (Str)))).bind fun aV => aV.el some fun aS =>
    (ix n'.Aa 1).bind fun aY =>
    ((J3 n) w' aY env).bind fun aN =>
    if aN.2.isSome then
    some ((⟨0, 0, ([] : Str), false⟩ : Jc), aN.2)
    else
    (JR aS aM.1 aN.1).bind fun aU =>
    (JbT aU.1).bind fun aQ =>
    some (aQ.1, aQ.2)
theorem Jd0 : ∀ {n : Nat} {w' : Jn} {n' : Ja} {env : (List JC)} {b0 : Nat} {aa : Option Addr} {ab : Nat} {aj : Option Addr} {am : Nat} {ak : Option Addr} {an : Nat} {ao : Option Addr} {au : Nat} {ag : Option Addr} {ah : Nat} {aq : Option Addr} {ar : Nat} {n2 : Nat} {K : Hp} {r : Jc × Err}
    (hm : J3 n w' n' env = some r) (hX : RdC Jd.enc K aa ab 2 w'.Ar.Ao ∧ (0 < w'.result.Ag.length → Has aj) ∧ (0 < w'.result.Vary.length → Has ak) ∧ (0 < w'.result.Ah.length → Has ao) ∧ LiC Ja.R K ag ah 4 n'.Aa ∧ RdC JC.enc K aq ar 5 env ∧ n2 = env.length ∧ GG K),
    Fn Tryz.prog 86 [.pointer (some ⟨b0, 0, none⟩), .agg #[.int .i64 n'.Ab, str n'.Ac, .slice ag n'.Aa.length ah, .int .i64 n'.Ad], .slice aq n2 ar] K [Cells b0 125 [str w'.Ar.Am, str w'.Ar.An, str w'.Ar.Ae, str w'.Ar.Af, .slice aa w'.Ar.Ao.length ab, str w'.result.Ae, str w'.result.Af, .slice aj w'.result.Ag.length am, .slice ak w'.result.Vary.length an, .slice ao w'.result.Ah.length au, .int .i64 w'.result.TTL, .int .i64 w'.result.Ai, .int .i64 w'.result.Aj, .bool w'.result.Ak, .bool w'.result.Al, .bool w'.Aq], OwnL Jd.enc aj 77 2 am w'.result.Ag, OwnL eS ak 9 1 an w'.result.Vary, OwnL eS ao 9 1 au w'.result.Ah] (fun v K' H' => v = .tuple #[.agg #[.int .i64 r.1.kind, .int .i64 r.1.n, str r.1.s, .bool r.1.At], errV 87 r.2] ∧ H' = [Cells b0 125 [str w'.Ar.Am, str w'.Ar.An, str w'.Ar.Ae, str w'.Ar.Af, .slice aa w'.Ar.Ao.length ab, str w'.result.Ae, str w'.result.Af, .slice aj w'.result.Ag.length am, .slice ak w'.result.Vary.length an, .slice ao w'.result.Ah.length au, .int .i64 w'.result.TTL, .int .i64 w'.result.Ai, .int .i64 w'.result.Aj, .bool w'.result.Ak, .bool w'.result.Al, .bool w'.Aq], OwnL Jd.enc aj 77 2 am w'.result.Ag, OwnL eS ak 9 1 an w'.result.Vary, OwnL eS ao 9 1 au w'.result.Ah]) := by
 intro n
 induction n with
 | zero =>
   intro w' n' env b0 aa ab aj am ak an ao au ag ah aq ar n2 K r hm hX
   rw [J3.eq_1] at hm; cases hm
 | succ n ih =>
   intro w' n' env b0 aa ab aj am ak an ao au ag ah aq ar n2 K r hm hX
   obtain ⟨ae, bS, bW, bK, af, aN, cM, hG⟩ := hX
   subst cM
   refine Fn.enter Tryz.func86 Tryz.call86 rfl fun F => ?_
   rw [J3.eq_2] at hm
   refine box_rule ?_
   intro b4
   refine alloc_rule rfl fun b6 => ?_
   refine fa rfl (ro (ld r1 rfl rfl ?_))
   refine block_go rfl ?_
   refine eq_int (cs rfl rfl hm ?_ ?_) <;> intro dp hm
   refine fa rfl (ro (ld r1 rfl rfl ?_))
   refine cb hm fun c8 cC hm => cg0 (JdP cC :) ?_
   refine cb hm fun du cd hm => cg0 (Jbd cd :) ?_
   refine store_rule r0 rfl ⟨rfl, rfl, (nl rfl), ?_⟩
   exact ro (loadn_s r0 rfl (nl rfl) (eE hm))
   refine eq_int (cs rfl rfl hm ?_ ?_) <;> intro c5 hm
   refine fa rfl (ro (ld r1 rfl rfl ?_))
   refine cb hm fun c9 cA hm => cg0 (Jaj cA :) ?_
   refine cb hm fun dq cI hm => cg0 (JcJ cI :) ?_
   refine store_rule r0 rfl ⟨rfl, rfl, (nl rfl), ?_⟩
   exact ro (loadn_s r0 rfl (nl rfl) (eE hm))
   refine eq_int (cs rfl rfl hm ?_ ?_) <;> intro dl hm
   refine fa rfl (ro (ld r1 rfl rfl (eq_str ?_)))
   refine cb hm fun dh cS hm => cg0 (Jap cS :) ?_
   refine store_rule r0 rfl ⟨rfl, rfl, (nl rfl), ?_⟩
   exact ro (loadn_s r0 rfl (nl rfl) (eE hm))
   refine eq_int (cs rfl rfl hm ?_ ?_) <;> intro cX hm
   refine ro (len_slice rfl ?_)
   refine ci hm fun hm => ?_
   obtain ⟨s1, aO, hm⟩ := bnd hm
   refine lD (σ := (Int)) [7, 8, 44, 45, 46, 47, 48, 49, 50, 51, 52, 53, 54, 55, 56, 57, 58, 59, 60] [0, 1, 2, 3, 4, 5, 6] (fun _ => []) (fun t1 => [(8, .int .i64 t1)]) (fun _ => []) (fun _ => True) (fun i1 t1 => Jae env n' i1 t1 = some s1) (fun t1 => s1 = Fl.go t1) (fun i1 => i1) n _ aO (And.intro qe (And.intro ?_ ?_))
   clear aO
   rintro i1 bb _ aO j1
   conv at aO => whnf
   cases i1 with
   | zero => rw [Jae.eq_1] at aO; cases aO
   | succ i1 =>
    rw [Jae.eq_2] at aO
    refine cs rfl rfl aO ?_ ?_ <;> intro c6 aO
    refine block_go rfl ?_
    refine draw_go ⟨⟨[], false⟩, _, [(_, _)], []⟩ (by kernel_rfl) ⟨Hp.Le.refl _, (sc [1] rfl), ci0⟩ ?_
    obtain ⟨dm, bM, bh, aO⟩ := ixb aO
    refine index_addr rfl rfl (hasK aN.rd bh) bM (lt_ofE rfl bM bh) (eptr_field rfl (hasK aN.rd bh) (load_rd_l ((bb).toNat) 0 _ _ aN.rd rfl (mp bh) rfl rfl (fa rfl (load1_l m0 rfl rfl (eq_str ?_)))))
    refine cs rfl rfl aO ?_ ?_ <;> intro dj aO
    obtain ⟨bg, bX, bf, aO⟩ := ixb aO
    refine RStep.ofN (index_addr rfl rfl (hasK aN.rd bf) bX (lt_ofE rfl bX bf) (eptr_field rfl (hasK aN.rd bf) (ro (load_rd_aggO ((bb).toNat) 1 4 _ [.int .i64 bg.value.kind, .int .i64 bg.value.n, str bg.value.s, .bool bg.value.At] aN.rd rfl (mp bf) rfl rfl rfl ?_))))
    refine store_rule r0 rfl ⟨rfl, rfl, (nl rfl), ?_⟩
    exact ro (loadn_s r0 rfl (nl rfl) (eE (er aO hm)))
    refine ci aO fun aO => ?_
    exact eR aO (_, _)
    refine cT ?_
    exact eM aO _
   rintro t1 _ rfl j1
   replace hm := elg hm
   refine draw_go ⟨⟨[], false⟩, _, [(_, _), (_, _)], []⟩ (by kernel_rfl) ⟨Hp.Le.refl _, (sc [1,1] rfl), ci0⟩ ?_
   refine fa rfl (load1_l m0 rfl rfl (nil_check (fa rfl (loadn_l m1 rfl (nl rfl) ?_))))
   refine cb hm fun dg ce hm => cgx (JcX ce :) ?_
   refine ⟨⟨lr, (sc [1,1] rfl), ci0⟩, ?_⟩
   refine cb hm fun dc cB hm => cg0 (JcJ cB :) ?_
   refine ⟨⟨lr, (sc [1,1] rfl), ci0⟩, ?_⟩
   refine store_rule r0 rfl ⟨rfl, rfl, (nl rfl), ?_⟩
   refine ⟨⟨lr, (sc [1,1] rfl), ci0⟩, ?_⟩
   exact ro (loadn_s r0 rfl (nl rfl) (eE hm))
   refine fa rfl (ro (ld r1 rfl rfl ?_))
   obtain ⟨da, bQ, bG, hm⟩ := ixb hm
   refine RStep.ofN (index_addr rfl rfl (hasR af.rd bG) bQ (lt_ofE rfl bQ bG) ?_)
   obtain ⟨cz, cG, bB, bn, bt⟩ := LiR.get af.rd bG
   obtain ⟨bL, bN, rfl, bU⟩ := Ja.out bt
   refine ro (load_rd_agg ((0 : Int).toNat) _ bB rfl bn rfl ?_)
   refine cb hm fun di ca hm => cgx (ih ca :) ?_
   refine alloc_rule rfl fun b9 => ?_
   refine store_rule r0 rfl ⟨rfl, rfl, (nl rfl), ?_⟩
   refine neq_err rfl ?_
   refine cs rfl rfl hm ?_ ?_ <;> intro db hm
   refine build_struct rfl rfl ?_
   refine store_rule r5 rfl ⟨rfl, rfl, (nl rfl), ?_⟩
   exact ro (loadn_s r0 rfl (nl rfl) (eE hm))
   refine fa rfl (ro (ld r6 rfl rfl (fa rfl (ro (ld r6 rfl rfl ?_)))))
   obtain ⟨bm, aM, hm⟩ := bnd hm
   refine jD (σ := (Str)) [7, 11, 12, 13, 89, 90, 91, 92, 93, 94, 95, 96, 97, 98, 99, 100, 101, 102, 103, 104, 105, 106, 107, 108, 109, 110, 111, 112, 113, 114, 115, 116, 117, 118, 119, 120, 121, 122, 123, 124, 125, 126, 127, 128, 129, 130, 131, 132, 133, 134, 135, 136, 137, 138, 139, 140, 141, 142, 143, 144, 145, 146] [0, 1, 2, 3, 4, 5, 6, 7] (fun aP => [(11, str aP)]) (fun aP => []) (fun aP => bm = Fl.go aP) (And.intro ?_ ?_)
   refine block_go rfl ?_
   refine eq_int (cs rfl rfl aM ?_ ?_) <;> intro de aM
   refine draw_go_F ⟨⟨[], false⟩, _, [(_, _), (_, _), (_, _)], []⟩ 14 rfl (by kernel_rfl) ⟨Hp.Le.refl _, (sc [6,0,0] rfl), ci0⟩ ?_
   refine fa rfl (load1_l m0 rfl rfl (loadn_l m1 rfl (nl rfl) (nil_check (fa rfl (loadn_l m2 rfl (nl rfl) ?_)))))
   intro cY
   refine cb aM fun dk cO aM => cgx (Jef cO :) ?_
   refine ⟨⟨lr, (sc [6,0,0] rfl), ci0⟩, ?_⟩
   refine ⟨_, .cons r8 .nil, ⟨lr, (sc [6,0,0] rfl), ci0⟩, ?_⟩
   refine allocA rfl ?_
   intro cZ
   intro cq
   refine store_rule r0 rfl ⟨rfl, rfl, (nl rfl), ?_⟩
   refine ⟨⟨lr, (sc [7,1,1] rfl), ci0⟩, ?_⟩
   refine ⟨_, .cons r9 .nil, ⟨lr, (sc [7,1,1] rfl), ci0⟩, ?_⟩
   refine ro (loadn_s r0 rfl (nl rfl) ?_)
   refine cb aM fun cK bp aM => cg0 (JcJ bp :) ?_
   refine store_rule r6 rfl ⟨rfl, rfl, (nl rfl), ?_⟩
   exact ro (loadn_s r0 rfl (nl rfl) (eE (er aM hm)))
   refine eq_int (cs rfl rfl aM ?_ ?_) <;> intro cR aM
   refine fa rfl (ro (ld r0 rfl rfl (un_not ?_)))
   refine cb aM fun cW bA aM => cg0 (Jap bA :) ?_
   refine store_rule r5 rfl ⟨rfl, rfl, (nl rfl), ?_⟩
   exact ro (loadn_s r0 rfl (nl rfl) (eE (er aM hm)))
   refine eq_int (cs rfl rfl aM ?_ ?_) <;> intro cm aM
   refine fa rfl (ro (ld r0 rfl rfl (un_not ?_)))
   refine cs rfl rfl aM ?_ ?_ <;> intro cn aM
   refine ro (loadn_s r0 rfl (nl rfl) ?_)
   refine store_rule r5 rfl ⟨rfl, rfl, (nl rfl), ?_⟩
   exact ro (loadn_s r0 rfl (nl rfl) (eE (er aM hm)))
   refine fa rfl (ro (ld r6 rfl rfl ?_))
   obtain ⟨cj, bc, aQ, aM⟩ := ixb aM
   refine RStep.ofN (index_addr rfl rfl (hasR af.rd aQ) bc (lt_ofE rfl bc aQ) ?_)
   obtain ⟨bT, bV, bd, aX, aU⟩ := LiR.get af.rd aQ
   obtain ⟨bw, bI, rfl, bz⟩ := Ja.out aU
   refine ro (load_rd_agg ((1 : Int).toNat) _ bd rfl aX rfl ?_)
   refine cb aM fun cD bE aM => cgx (ih bE :) ?_
   refine store_rule r5 rfl ⟨rfl, rfl, (nl rfl), ?_⟩
   exact ro (loadn_s r0 rfl (nl rfl) (eE (er aM hm)))
   refine eq_int (cs rfl rfl aM ?_ ?_) <;> intro cp aM
   refine fa rfl (ro (ld r0 rfl rfl ?_))
   refine cs rfl rfl aM ?_ ?_ <;> intro cE aM
   refine ro (loadn_s r0 rfl (nl rfl) ?_)
   refine store_rule r5 rfl ⟨rfl, rfl, (nl rfl), ?_⟩
   exact ro (loadn_s r0 rfl (nl rfl) (eE (er aM hm)))
   refine fa rfl (ro (ld r6 rfl rfl ?_))
   obtain ⟨cQ, aT, aR, aM⟩ := ixb aM
   refine RStep.ofN (index_addr rfl rfl (hasR af.rd aR) aT (lt_ofE rfl aT aR) ?_)
   obtain ⟨bY, bP, a8, aY, ba⟩ := LiR.get af.rd aR
   obtain ⟨br, bD, rfl, bo⟩ := Ja.out ba
   refine ro (load_rd_agg ((1 : Int).toNat) _ a8 rfl aY rfl ?_)
   refine cb aM fun cP bj aM => cgx (ih bj :) ?_
   refine store_rule r5 rfl ⟨rfl, rfl, (nl rfl), ?_⟩
   exact ro (loadn_s r0 rfl (nl rfl) (eE (er aM hm)))
   refine eq_int (cs rfl rfl aM ?_ ?_) <;> intro co aM
   exact eM aM _
   refine eq_int (cs rfl rfl aM ?_ ?_) <;> intro cU aM
   exact eM aM _
   refine eq_int (cs rfl rfl aM ?_ ?_) <;> intro cJ aM
   exact eM aM _
   exact eM aM _
   rintro aP rfl bZ
   replace hm := elg hm
   refine fa rfl (ro (ld r6 rfl rfl ?_))
   obtain ⟨cr, aV, aS, hm⟩ := ixb hm
   refine RStep.ofN (index_addr rfl rfl (hasR af.rd aS) aV (lt_ofE rfl aV aS) ?_)
   obtain ⟨bO, bR, a6, aW, aZ⟩ := LiR.get af.rd aS
   obtain ⟨bC, bF, rfl, bq⟩ := Ja.out aZ
   refine ro (load_rd_agg ((1 : Int).toNat) _ a6 rfl aW rfl ?_)
   refine cb hm fun cV bJ hm => cgx (ih bJ :) ?_
   refine alloc_rule rfl fun df => ?_
   refine store_rule r0 rfl ⟨rfl, rfl, (nl rfl), ?_⟩
   refine neq_err rfl ?_
   refine cs rfl rfl hm ?_ ?_ <;> intro cH hm
   refine build_struct rfl rfl ?_
   refine store_rule r6 rfl ⟨rfl, rfl, (nl rfl), ?_⟩
   exact ro (loadn_s r0 rfl (nl rfl) (eE hm))
   refine ro (loadn_s r5 rfl (nl rfl) (ro (loadn_s r0 rfl (nl rfl) ?_)))
   refine cb hm fun cw bu hm => cgx (Jdx bu :) ?_
   refine alloc_rule rfl fun dt => ?_
   refine store_rule r0 rfl ⟨rfl, rfl, (nl rfl), ?_⟩
   refine ro (loadn_s r0 rfl (nl rfl) ?_)
   refine cb hm fun cL bH hm => cg0 (JcJ bH :) ?_
   refine store_rule r7 rfl ⟨rfl, rfl, (nl rfl), ?_⟩
   exact ro (loadn_s r0 rfl (nl rfl) (eE hm))

def Jda (n' : Ja) : Option (Str) :=
  if decide (n'.Ab = 5) then
  (chk (([104, 101, 97, 100, 101, 114, 58] : Str).length + n'.Ac.length ≤ lim)).bind fun _ =>
  some (([104, 101, 97, 100, 101, 114, 58] : Str) ++ n'.Ac)
  else
  if decide (n'.Ab = 6) then
  (chk (([118, 97, 114, 121, 58] : Str).length + n'.Ac.length ≤ lim)).bind fun _ =>
  some (([118, 97, 114, 121, 58] : Str) ++ n'.Ac)
  else
  if decide (n'.Ab = 7) then
  some ([116, 97, 103] : Str)
  else
  if decide (n'.Ab = 8) then
  some ([116, 116, 108] : Str)
  else
  if decide (n'.Ab = 9) then
  some ([100, 101, 110, 121] : Str)
  else
  if decide (n'.Ab = 10) then
  some ([112, 97, 115, 115] : Str)
  else
  if decide (n'.Ab = 11) then
  some ([116, 111, 107, 101, 110] : Str)
  else
  some n'.Ac
theorem Jfk {n' : Ja} {aa : Option Addr} {ab : Nat} {K : Hp} {r : Str}
    (hm : Jda n' = some r) (ae : LiC Ja.R K aa ab 4 n'.Aa) :
    Fn Tryz.prog 87 [.agg #[.int .i64 n'.Ab, str n'.Ac, .slice aa n'.Aa.length ab, .int .i64 n'.Ad]] K [] (fun v K' H' => v = str r ∧ H' = []) := by
 refine Fn.enter Tryz.func87 Tryz.call87 rfl fun F => ?_
 unfold Jda at hm
 refine box_rule ?_
 intro b1
 refine fa rfl (ro (ld r0 rfl rfl ?_))
 refine block_go rfl ?_
 refine eq_int (cs rfl rfl hm ?_ ?_) <;> intro w5 hm
 refine fa rfl (ro (ld r0 rfl rfl ?_))
 obtain ⟨h9, hm⟩ := chkb hm
 refine cat_str h9 ?_
 exact eE hm
 refine eq_int (cs rfl rfl hm ?_ ?_) <;> intro aS hm
 refine fa rfl (ro (ld r0 rfl rfl ?_))
 obtain ⟨aM, hm⟩ := chkb hm
 refine cat_str aM ?_
 exact eE hm
 refine eq_int (cs rfl rfl hm ?_ ?_) <;> intro aO hm
 exact eE hm
 refine eq_int (cs rfl rfl hm ?_ ?_) <;> intro aP hm
 exact eE hm
 refine eq_int (cs rfl rfl hm ?_ ?_) <;> intro aN hm
 exact eE hm
 refine eq_int (cs rfl rfl hm ?_ ?_) <;> intro aQ hm
 exact eE hm
 refine eq_int (cs rfl rfl hm ?_ ?_) <;> intro aR hm
 exact eE hm
 refine fa rfl (ro (ld r0 rfl rfl ?_))
 exact eE hm

def JS (w' : Jn) (n : Nat) (rec_ : (Jn → (List Ja) → (List JC) → Option (Err × Jn))) : List Ja → Nat → (List JC) → Jn → Option (Fl (Err × Jn) ((List JC) × Jn))
  | [], _, ac, aM => some (Fl.go (ac, (⟨w'.Ar, aM.result, aM.Aq⟩ : Jn)))
  | e0 :: aY, i0, ac, aM =>
    if aM.Aq then
    some (Fl.ret (none, (⟨w'.Ar, aM.result, aM.Aq⟩ : Jn)))
    else
    ((if decide ((e0.Aa.length : Int) > 0) then
    (ix e0.Aa 0).bind fun aX =>
    (J3 n (⟨w'.Ar, aM.result, aM.Aq⟩ : Jn) aX ac).bind fun aR =>
    if aR.2.isSome then
    some (Fl.ret (aR.2, (⟨w'.Ar, aM.result, aM.Aq⟩ : Jn)))
    else
    some (Fl.go (aR.1.kind, aR.1.n, aR.1.s, aR.1.At))
    else
    some (Fl.go (0, 0, ([] : Str), false)) : Option (Fl (Err × Jn) (Int × Int × Str × Bool)))).bind fun aT => aT.el (fun r => some (Fl.ret r)) fun aN =>
    ((if decide (e0.Ab = 3) then
    (chk (ac.length + [(⟨e0.Ac, (⟨aN.1, aN.2.1, aN.2.2.1, aN.2.2.2⟩ : Jc)⟩ : JC)].length ≤ lim)).bind fun _ =>
    some ((ac ++ [(⟨e0.Ac, (⟨aN.1, aN.2.1, aN.2.2.1, aN.2.2.2⟩ : Jc)⟩ : JC)]), none, (⟨w'.Ar, aM.result, aM.Aq⟩ : Jn))
    else
    if decide (e0.Ab = 2) then
    if aN.2.2.2 then
    (ix e0.Aa 1).bind fun a6 =>
    (rec_ (⟨w'.Ar, aM.result, aM.Aq⟩ : Jn) a6.Aa ac).bind fun aV =>
    some (ac, aV.1, (⟨w'.Ar, aV.2.result, aV.2.Aq⟩ : Jn))
    else
    (if decide ((e0.Aa.length : Int) > 2) then (ix e0.Aa 2).bind fun a8 =>
    some (decide (a8.Ab = 2)) else some false).bind fun aS =>
    if aS then
    (chk (0 ≤ (2 : Int) ∧ (2 : Int) ≤ (e0.Aa.length : Int) ∧ (e0.Aa.length : Int) ≤ (e0.Aa.length : Int))).bind fun _ =>
    (rec_ (⟨w'.Ar, aM.result, aM.Aq⟩ : Jn) (subL e0.Aa (2 : Int) (e0.Aa.length : Int)) ac).bind fun aQ =>
    some (ac, aQ.1, (⟨w'.Ar, aQ.2.result, aQ.2.Aq⟩ : Jn))
    else
    if decide ((e0.Aa.length : Int) > 2) then
    (ix e0.Aa 2).bind fun aU =>
    (rec_ (⟨w'.Ar, aM.result, aM.Aq⟩ : Jn) aU.Aa ac).bind fun aP =>
    some (ac, aP.1, (⟨w'.Ar, aP.2.result, aP.2.Aq⟩ : Jn))
    else
    some (ac, none, (⟨w'.Ar, aM.result, aM.Aq⟩ : Jn))
    else
    (Jda e0).bind fun aZ =>
    (JaT aM.result aZ (⟨aN.1, aN.2.1, aN.2.2.1, aN.2.2.2⟩ : Jc)).bind fun aW =>
    some (ac, aW.1, (⟨w'.Ar, aW.2, decide (e0.Ab = 9)⟩ : Jn)) : Option ((List JC) × Err × Jn))).bind fun aO =>
    if aO.2.1.isSome then
    some (Fl.ret (aO.2.1, (⟨w'.Ar, aO.2.2.result, aO.2.2.Aq⟩ : Jn)))
    else
    JS w' n rec_ aY (i0 + 1) aO.1 (⟨w'.Ar, aO.2.2.result, aO.2.2.Aq⟩ : Jn)
def JF : Nat → Jn → (List Ja) → (List JC) → Option (Err × Jn)
  | 0, _, _, _ => none
  | n + 1, w', list, env =>
    (chk (list.length ≤ szMax)).bind fun _ =>
    (JS w' n (JF n) list 0 env w').bind fun s0 => s0.el some fun t0 =>
    some (none, (⟨w'.Ar, t0.2.result, t0.2.Aq⟩ : Jn))
theorem Jdb : ∀ {n : Nat} {w' : Jn} {list : (List Ja)} {env : (List JC)} {b0 : Nat} {aa : Option Addr} {ab : Nat} {aj : Option Addr} {am : Nat} {ak : Option Addr} {an : Nat} {ao : Option Addr} {au : Nat} {ag : Option Addr} {ah : Nat} {n1 : Nat} {aq : Option Addr} {ar : Nat} {n2 : Nat} {K : Hp} {r : Err × Jn}
    (hm : JF n w' list env = some r) (hX : RdC Jd.enc K aa ab 2 w'.Ar.Ao ∧ (0 < w'.result.Ag.length → Has aj) ∧ (0 < w'.result.Vary.length → Has ak) ∧ (0 < w'.result.Ah.length → Has ao) ∧ LiC Ja.R K ag ah 4 list ∧ n1 = list.length ∧ RdC JC.enc K aq ar 5 env ∧ n2 = env.length ∧ GG K),
    Fn Tryz.prog 52 [.pointer (some ⟨b0, 0, none⟩), .slice ag n1 ah, .slice aq n2 ar] K [Cells b0 125 [str w'.Ar.Am, str w'.Ar.An, str w'.Ar.Ae, str w'.Ar.Af, .slice aa w'.Ar.Ao.length ab, str w'.result.Ae, str w'.result.Af, .slice aj w'.result.Ag.length am, .slice ak w'.result.Vary.length an, .slice ao w'.result.Ah.length au, .int .i64 w'.result.TTL, .int .i64 w'.result.Ai, .int .i64 w'.result.Aj, .bool w'.result.Ak, .bool w'.result.Al, .bool w'.Aq], OwnL Jd.enc aj 77 2 am w'.result.Ag, OwnL eS ak 9 1 an w'.result.Vary, OwnL eS ao 9 1 au w'.result.Ah] (fun v K' H' => ∃ ar_0 : Option Addr, ∃ cr_0 : Nat, ∃ ar_1 : Option Addr, ∃ cr_1 : Nat, ∃ ar_2 : Option Addr, ∃ cr_2 : Nat, v = errV 87 r.1 ∧ (0 < r.2.result.Ag.length → Has ar_0) ∧ (0 < r.2.result.Vary.length → Has ar_1) ∧ (0 < r.2.result.Ah.length → Has ar_2) ∧ H' = [Cells b0 125 [str w'.Ar.Am, str w'.Ar.An, str w'.Ar.Ae, str w'.Ar.Af, .slice aa w'.Ar.Ao.length ab, str r.2.result.Ae, str r.2.result.Af, .slice ar_0 r.2.result.Ag.length cr_0, .slice ar_1 r.2.result.Vary.length cr_1, .slice ar_2 r.2.result.Ah.length cr_2, .int .i64 r.2.result.TTL, .int .i64 r.2.result.Ai, .int .i64 r.2.result.Aj, .bool r.2.result.Ak, .bool r.2.result.Al, .bool r.2.Aq], OwnL Jd.enc ar_0 77 2 cr_0 r.2.result.Ag, OwnL eS ar_1 9 1 cr_1 r.2.result.Vary, OwnL eS ar_2 9 1 cr_2 r.2.result.Ah]) := by
 intro n
 induction n with
 | zero =>
   intro w' list env b0 aa ab aj am ak an ao au ag ah n1 aq ar n2 K r hm hX
   rw [JF.eq_1] at hm; cases hm
 | succ n ih =>
   intro w' list env b0 aa ab aj am ak an ao au ag ah n1 aq ar n2 K r hm hX
   obtain ⟨ae, dy, dH, c8, af, em, di, eu, hG⟩ := hX
   subst em
   subst eu
   refine Fn.enter Tryz.func52 Tryz.call52 rfl fun F => ?_
   rw [JF.eq_2] at hm
   refine ro (len_slice rfl ?_)
   obtain ⟨eH, hm⟩ := chkb hm
   obtain ⟨s0, bh, hm⟩ := bnd hm
   refine lC (σ := ((List JC) × Jn) × Option Addr × Nat × Option Addr × Nat × Option Addr × Nat × Option Addr × Nat) [2, 6, 8, 9, 10, 11, 12, 15, 16, 17, 18, 19, 20, 21, 22, 23, 24, 25, 26, 27, 28, 29, 30, 31, 32, 33, 34, 35, 36, 37, 38, 39, 40, 41, 42, 43, 44, 45, 46, 47, 48, 49, 50, 51, 52, 53, 54, 55, 56, 57, 58, 59, 60, 61, 62, 63, 64, 65, 66, 67, 68, 69, 70, 71, 72, 73, 74, 75, 76, 77, 78, 79, 80, 81, 82, 83, 84, 85, 86, 87, 88, 89, 90, 91, 92, 93, 94, 95, 96, 97, 98, 99, 100, 101, 102, 103, 104, 105, 106, 107, 108, 109, 110, 111, 112, 113, 114, 115, 116] [4] (fun i0 => [(15, .int .i64 (i0 : Int))]) (fun (t0, bg, bf, aS, a8, aU, a6, aT, aZ) => [(2, .slice bg t0.1.length bf)]) (fun (t0, bg, bf, aS, a8, aU, a6, aT, aZ) => [Cells b0 125 [str w'.Ar.Am, str w'.Ar.An, str w'.Ar.Ae, str w'.Ar.Af, .slice aa w'.Ar.Ao.length ab, str t0.2.result.Ae, str t0.2.result.Af, .slice aS t0.2.result.Ag.length a8, .slice aU t0.2.result.Vary.length a6, .slice aT t0.2.result.Ah.length aZ, .int .i64 t0.2.result.TTL, .int .i64 t0.2.result.Ai, .int .i64 t0.2.result.Aj, .bool t0.2.result.Ak, .bool t0.2.result.Al, .bool t0.2.Aq], OwnL Jd.enc aS 77 2 a8 t0.2.result.Ag, OwnL eS aU 9 1 a6 t0.2.result.Vary, OwnL eS aT 9 1 aZ t0.2.result.Ah]) (fun zz K1 => match zz with | (t0, bg, bf, aS, a8, aU, a6, aT, aZ) => RdC JC.enc K1 bg bf 5 t0.1 ∧ (0 < t0.2.result.Ag.length → Has aS) ∧ (0 < t0.2.result.Vary.length → Has aU) ∧ (0 < t0.2.result.Ah.length → Has aT)) (fun i0 (t0, bg, bf, aS, a8, aU, a6, aT, aZ) => JS w' n (JF n) (list.drop i0) i0 t0.1 t0.2 = some s0) (fun (t0, bg, bf, aS, a8, aU, a6, aT, aZ) => s0 = Fl.go t0) (fun i0 => list.length - i0) 0 ((_, _), _, _, _, _, _, _, _, _) bh (And.intro qe (And.intro ?_ ?_))
   clear bh
   rintro i0 ⟨⟨ac, cq⟩, dk, c9, bL, bC, bB, bE, bP, bO⟩ fe dK ⟨bo, bD, bN, bK⟩ bh j0
   dsimp only at bh ⊢
   refine cond_go rfl ?_
   refine cond_s ?_ ?_ <;> intro w0
   obtain ⟨e0, bM, dT⟩ := ltx w0
   rw [dT, JS.eq_2] at bh
   refine block_go rfl ?_
   refine RStep.ofN (index_addr rfl rfl (hasR (LiC.mono Ja.R_ok dK af).rd bM) (nn _) (lt_ofN bM) ?_)
   obtain ⟨eG, ee, cm, bZ, cJ⟩ := LiR.get (LiC.mono Ja.R_ok dK af).rd bM
   obtain ⟨dj, dx, rfl, aW⟩ := Ja.out cJ
   refine ro (load_rd_agg i0 _ cm rfl bZ rfl ?_)
   refine alloc_rule rfl fun b8 => ?_
   refine store_rule r0 rfl ⟨rfl, rfl, (nl rfl), ?_⟩
   refine nil_check (fa rfl (ro (ld r1 rfl rfl ?_)))
   refine cs rfl rfl bh ?_ ?_ <;> intro e6 bh
   exact eE (er bh hm)
   refine build_struct rfl rfl ?_
   refine alloc_rule rfl fun b9 => ?_
   refine store_rule r0 rfl ⟨rfl, rfl, (nl rfl), ?_⟩
   refine fa rfl (ro (ld r1 rfl rfl (ro (len_slice rfl ?_))))
   obtain ⟨cO, ba, bh⟩ := bnd bh
   refine jD (σ := (Int × Int × Str × Bool)) [6, 10, 11, 28, 29, 30, 31, 32, 33, 34, 35, 36, 37, 38, 39, 40, 41] [1, 2, 3, 4, 5, 6] (fun bb => []) (fun bb => [Cells b9 95 [.int .i64 bb.1, .int .i64 bb.2.1, str bb.2.2.1, .bool bb.2.2.2]]) (fun bb => cO = Fl.go bb) (And.intro ?_ ?_)
   refine cs rfl rfl ba ?_ ?_ <;> intro fb ba
   refine fa rfl (ro (ld r1 rfl rfl ?_))
   obtain ⟨fl, db, cU, ba⟩ := ixb ba
   refine RStep.ofN (index_addr rfl rfl (hasR aW.rd cU) db (lt_ofE rfl db cU) ?_)
   obtain ⟨eO, ey, cW, cr, bT⟩ := LiR.get aW.rd cU
   obtain ⟨dE, dB, rfl, dM⟩ := Ja.out bT
   refine ro (load_rd_agg ((0 : Int).toNat) _ cW rfl cr rfl ?_)
   refine cb ba fun e7 dV ba => cgx (Jd0 dV :) ?_
   refine alloc_rule rfl fun eW => ?_
   refine store_rule r0 rfl ⟨rfl, rfl, (nl rfl), ?_⟩
   refine neq_err rfl ?_
   refine cs rfl rfl ba ?_ ?_ <;> intro eQ ba
   exact eE (er (er ba bh :) hm)
   refine ro (loadn_s r0 rfl (nl rfl) ?_)
   refine store_rule r5 rfl ⟨rfl, rfl, (nl rfl), ?_⟩
   exact eM ba _
   exact eM ba _
   rintro bb rfl d7
   replace bh := elg bh
   refine fa rfl (ro (ld r1 rfl rfl ?_))
   obtain ⟨bX, aM, bh⟩ := bnd bh
   refine jC (σ := ((List JC) × Err × Jn) × Option Addr × Nat × Option Addr × Nat × Option Addr × Nat × Option Addr × Nat) [2, 12, 44, 45, 46, 47, 48, 49, 50, 51, 52, 53, 54, 55, 56, 57, 58, 59, 60, 61, 62, 63, 64, 65, 66, 67, 68, 69, 70, 71, 72, 73, 74, 75, 76, 77, 78, 79, 80, 81, 82, 83, 84, 85, 86, 87, 88, 89, 90, 91, 92, 93, 94, 95, 96, 97, 98, 99, 100, 101, 102, 103, 104, 105, 106, 107, 108, 109, 110, 111, 112] [0, 1, 6] (fun (aO, bc, bd, aR, aX, aQ, aY, aP, aV) => [(2, .slice bc aO.1.length bd), (12, errV 87 aO.2.1)]) (fun (aO, bc, bd, aR, aX, aQ, aY, aP, aV) => [Cells b0 125 [str w'.Ar.Am, str w'.Ar.An, str w'.Ar.Ae, str w'.Ar.Af, .slice aa w'.Ar.Ao.length ab, str aO.2.2.result.Ae, str aO.2.2.result.Af, .slice aR aO.2.2.result.Ag.length aX, .slice aQ aO.2.2.result.Vary.length aY, .slice aP aO.2.2.result.Ah.length aV, .int .i64 aO.2.2.result.TTL, .int .i64 aO.2.2.result.Ai, .int .i64 aO.2.2.result.Aj, .bool aO.2.2.result.Ak, .bool aO.2.2.result.Al, .bool aO.2.2.Aq], OwnL Jd.enc aR 77 2 aX aO.2.2.result.Ag, OwnL eS aQ 9 1 aY aO.2.2.result.Vary, OwnL eS aP 9 1 aV aO.2.2.result.Ah]) (fun zz K1 => match zz with | (aO, bc, bd, aR, aX, aQ, aY, aP, aV) => RdC JC.enc K1 bc bd 5 aO.1 ∧ (0 < aO.2.2.result.Ag.length → Has aR) ∧ (0 < aO.2.2.result.Vary.length → Has aQ) ∧ (0 < aO.2.2.result.Ah.length → Has aP) ∧ aO = bX) (And.intro ?_ ?_)
   refine block_go rfl ?_
   refine eq_int ?_
   refine CStep.ownLe r3 fun eZ => ?_
   refine CStep.ownLe r4 fun fm => ?_
   refine CStep.ownLe r5 fun eX => ?_
   refine cs rfl rfl aM ?_ ?_ <;> intro fh aM
   refine draw_go ⟨⟨[], false⟩, _, [(_, _), (_, _)], []⟩ (by kernel_rfl) ⟨Hp.Le.refl _, (sc [1,0] rfl), ci0⟩ ?_
   refine len_sliceN rfl (len_sliceN rfl ?_)
   refine kClip (l := ac) rfl bo.le rfl rfl ?_
   refine fa rfl (load1_l m0 rfl rfl (loadn_l m1 rfl (nl rfl) (build_struct rfl rfl (cT (cT ?_)))))
   refine bsO (len := 1) (enc := JC.enc) (l := [(⟨e0.Ac, (⟨bb.1, bb.2.1, bb.2.2.1, bb.2.2.2⟩ : Jc)⟩ : JC)]) (cl := [str e0.Ac, .int .i64 bb.1, .int .i64 bb.2.1, str bb.2.2.1, .bool bb.2.2.2]) elT173 rfl rfl (fun _ _ => rfl) rfl rfl rfl ?_ fun eP => ?_
   · conv => whnf
     refine cT ?_
     first | done | rfl
   refine ⟨⟨lr, (sc [2,1] rfl), ci0⟩, ?_⟩
   obtain ⟨ek, aM⟩ := chkb aM
   refine apFK (l := ac) bo.clip elT173 (src_own' rfl r0 rfl (fun _ => rfl) (fun _ => rfl)) (nl rfl) ek ?_
   intro eT eV ep cM d5
   refine ⟨⟨cM, (sc [2,1] rfl), ci0⟩, ?_⟩
   exact eM aM (_, _, _, _, _, _, _, _, _)
   refine eq_int ?_
   refine CStep.ownLe r3 fun eo => ?_
   refine CStep.ownLe r4 fun d6 => ?_
   refine CStep.ownLe r5 fun eJ => ?_
   refine cs rfl rfl aM ?_ ?_ <;> intro ff aM
   refine fa rfl (ro (ld r0 rfl rfl ?_))
   refine CStep.ownLe r3 fun dX => ?_
   refine CStep.ownLe r4 fun ei => ?_
   refine CStep.ownLe r5 fun dU => ?_
   refine cs rfl rfl aM ?_ ?_ <;> intro fk aM
   refine fa rfl (ro (ld r1 rfl rfl ?_))
   obtain ⟨e8, dS, bF, aM⟩ := ixb aM
   refine RStep.ofN (index_addr rfl rfl (hasR aW.rd bF) dS (lt_ofE rfl dS bF) (eptr_field rfl (hasR aW.rd bF) ?_))
   obtain ⟨dW, eD, bY, cR, cV⟩ := LiR.get aW.rd bF
   obtain ⟨c6, dv, rfl, dt⟩ := Ja.out cV
   refine ro (load_rd ((1 : Int).toNat) 2 _ _ bY rfl cR rfl rfl ?_)
   refine cb aM fun fp ef aM => ckx (ih ef :) ?_
   rintro _ _ _ ⟨dQ, dq, cY, du, dN, dc, rfl, dO, dw, dJ, rfl⟩
   exact eM aM (_, _, _, _, _, _, _, _, _)
   obtain ⟨cA, bj, aM⟩ := bnd aM
   refine jR (σ := Bool) [83, 84, 85, 86, 87, 88, 89, 90, 91, 92, 93, 94] (fun bn => [(94, .bool bn)]) (fun bn => bn = cA) ?_ ?_
   replace bj := bsm bj
   refine guard_go rfl ?_
   refine fa rfl (ro (ld r1 rfl rfl (ro (len_slice rfl ?_))))
   obtain ⟨dl, bp, bj⟩ := bnd bj
   refine cond_s ?_ ?_ <;> intro aN
   replace bp := ift aN bp
   refine fa rfl (ct aN (ro (ld r1 rfl rfl (ct aN ?_))))
   obtain ⟨fc, df, bG, bp⟩ := ixb bp
   refine RStep.ofN (index_addr rfl rfl (hasR aW.rd bG) df (lt_ofE rfl df bG) (ct aN (eptr_field rfl (hasR aW.rd bG) (ct aN ?_))))
   obtain ⟨eC, eF, cD, cS, cB⟩ := LiR.get aW.rd bG
   obtain ⟨dh, dF, rfl, dA⟩ := Ja.out cB
   refine ro (load_rd ((2 : Int).toNat) 0 _ _ cD rfl cS rfl rfl (ct aN (eq_int (ct aN ?_))))
   exact mt (dl) ⟨(by rw [← (si bp)] <;> rfl), trivial⟩ rfl (pf rfl) lr (si bj)
   replace bp := iff_ aN bp
   refine cf aN (cf aN (cf aN (cf aN (cf aN (cf aN ?_)))))
   exact mt (dl) ⟨(by rw [← ((si bp).symm).symm] <;> rfl), trivial⟩ rfl (pf rfl) lr (si bj)
   rintro bn rfl ej
   refine CStep.ownLe r3 fun eK => ?_
   refine CStep.ownLe r4 fun d8 => ?_
   refine CStep.ownLe r5 fun eh => ?_
   refine cs rfl rfl aM ?_ ?_ <;> intro fo aM
   refine fa rfl (ro (ld r1 rfl rfl ?_))
   obtain ⟨dG, aM⟩ := chkb aM
   have d9 := aW.subC dG
   refine RStep.ofN (sl_slN (l := e0.Aa) (lo := (some 2)) (hi := none) (lo' := (2 : Int)) (hi' := (e0.Aa.length : Int)) rfl rfl rfl rfl rfl aW.le dG ?_)
   refine cb aM fun dZ cK aM => ckx (ih cK :) ?_
   rintro _ _ _ ⟨cI, ca, ce, cd, cw, cE, rfl, bV, bS, co, rfl⟩
   exact eM aM (_, _, _, _, _, _, _, _, _)
   refine fa rfl (ro (ld r1 rfl rfl (ro (len_slice rfl ?_))))
   refine cs rfl rfl aM ?_ ?_ <;> intro eA aM
   refine fa rfl (ro (ld r1 rfl rfl ?_))
   obtain ⟨d3, bz, bm, aM⟩ := ixb aM
   refine RStep.ofN (index_addr rfl rfl (hasR aW.rd bm) bz (lt_ofE rfl bz bm) (eptr_field rfl (hasR aW.rd bm) ?_))
   obtain ⟨dI, dC, bA, bu, bw⟩ := LiR.get aW.rd bm
   obtain ⟨cp, cn, rfl, cQ⟩ := Ja.out bw
   refine ro (load_rd ((2 : Int).toNat) 2 _ _ bA rfl bu rfl rfl ?_)
   refine cb aM fun eg cP aM => ckx (ih cP :) ?_
   rintro _ _ _ ⟨cH, cj, cz, cG, cC, bR, rfl, bU, cL, bW, rfl⟩
   exact eM aM (_, _, _, _, _, _, _, _, _)
   exact eM aM (_, _, _, _, _, _, _, _, _)
   refine draw_go ⟨⟨[], false⟩, _, [(_, _), (_, _)], []⟩ (by kernel_rfl) ⟨Hp.Le.refl _, (sc [1,0] rfl), ci0⟩ ?_
   refine nil_check (fa rfl (loadn_l m0 rfl (nl rfl) ?_))
   refine cb aM fun fg dY aM => cgx (Jfk dY :) ?_
   refine ⟨⟨lr, (sc [1,0] rfl), ci0⟩, ?_⟩
   refine loadn_l m1 rfl (nl rfl) ?_
   refine cb aM fun fj d4 aM => ckx (JcP (aC := [str w'.Ar.Am, str w'.Ar.An, str w'.Ar.Ae, str w'.Ar.Af, .slice aa w'.Ar.Ao.length ab]) (aJ := [.bool cq.Aq]) d4 :) ?_
   rintro _ _ _ ⟨dg, dz, dL, dp, dm, da, rfl, cX, de, cZ, rfl⟩
   refine ⟨⟨lr, (sc [5,4] rfl), ci0⟩, ?_⟩
   refine fa rfl (ro (ld r5 rfl rfl (eq_int (nil_check (fa rfl ?_)))))
   refine store_rule r0 rfl ⟨rfl, rfl, (nl rfl), ?_⟩
   exact eM aM (_, _, _, _, _, _, _, _, _)
   rintro ⟨aO, bc, bd, aR, aX, aQ, aY, aP, aV⟩ dP dD ⟨bQ, bt, bq, br, rfl⟩ ez
   refine neq_err rfl ?_
   refine cs rfl rfl bh ?_ ?_ <;> intro eL bh
   exact eE (er bh hm)
   refine int_in (cntz bM eH) ?_
   exact eR bh (_, (_, _), _, _, _, _, _, _, _, _)
   rw [lty w0, JS.eq_1] at bh
   refine cT ?_
   exact eM bh (_, _, _, _, _, _, _, _, _)
   rintro ⟨t0, bg, bf, aS, a8, aU, a6, aT, aZ⟩ eY e5 ⟨c5, bJ, bI, bH⟩ rfl j0
   replace hm := elg hm
   exact eE hm

def Jbq (n : Nat) (program : Ja) (Ar : JE) : Option (Jf × Err) :=
  (Jbj n program).bind fun ax =>
  if ax.2.isSome then
  some ((⟨([] : Str), ([] : Str), [], [], [], 0, 0, 0, false, false⟩ : Jf), ax.2)
  else
  (JF n (⟨Ar, (⟨Ar.Ae, Ar.Af, [], [], [], (-1), 0, 0, false, false⟩ : Jf), false⟩ : Jn) program.Aa []).bind fun aM =>
  if aM.1.isSome then
  some ((⟨([] : Str), ([] : Str), [], [], [], 0, 0, 0, false, false⟩ : Jf), aM.1)
  else
  some (aM.2.result, none)
theorem Jei {n : Nat} {program : Ja} {Ar : JE} {aa : Option Addr} {ab : Nat} {ag : Option Addr} {ah : Nat} {K : Hp} {r : Jf × Err}
    (hm : Jbq n program Ar = some r) (hX : LiC Ja.R K aa ab 4 program.Aa ∧ RdC Jd.enc K ag ah 2 Ar.Ao ∧ GG K) :
    Fn Tryz.prog 22 [.agg #[.int .i64 program.Ab, str program.Ac, .slice aa program.Aa.length ab, .int .i64 program.Ad], .agg #[str Ar.Am, str Ar.An, str Ar.Ae, str Ar.Af, .slice ag Ar.Ao.length ah]] K [] (fun v K' H' => ∃ ar_0 : Option Addr, ∃ cr_0 : Nat, ∃ ar_1 : Option Addr, ∃ cr_1 : Nat, ∃ ar_2 : Option Addr, ∃ cr_2 : Nat, v = .tuple #[.agg #[str r.1.Ae, str r.1.Af, .slice ar_0 r.1.Ag.length cr_0, .slice ar_1 r.1.Vary.length cr_1, .slice ar_2 r.1.Ah.length cr_2, .int .i64 r.1.TTL, .int .i64 r.1.Ai, .int .i64 r.1.Aj, .bool r.1.Ak, .bool r.1.Al], errV 87 r.2] ∧ (0 < r.1.Ag.length → Has ar_0) ∧ (0 < r.1.Vary.length → Has ar_1) ∧ (0 < r.1.Ah.length → Has ar_2) ∧ H' = [OwnL Jd.enc ar_0 77 2 cr_0 r.1.Ag, OwnL eS ar_1 9 1 cr_1 r.1.Vary, OwnL eS ar_2 9 1 cr_2 r.1.Ah]) := by
 obtain ⟨ae, af, hG⟩ := hX
 refine Fn.enter Tryz.func22 Tryz.call22 rfl fun F => ?_
 unfold Jbq at hm
 refine box_rule ?_
 intro b2
 refine box_rule ?_
 intro b3
 refine alloc_rule rfl fun b4 => ?_
 refine ro (loadn_s r2 rfl (nl rfl) ?_)
 refine cb hm fun ax aV hm => cgx (JeM aV :) ?_
 refine neq_err rfl ?_
 refine cs rfl rfl hm ?_ ?_ <;> intro aX hm
 refine build_struct rfl rfl ?_
 refine store_rule r0 rfl ⟨rfl, rfl, (nl rfl), ?_⟩
 refine ro (loadn_s r0 rfl (nl rfl) ?_)
 refine nilE Jd.enc 77 2 ?_
 refine nilE eS 9 1 ?_
 refine nilE eS 9 1 ?_
 exact eE hm
 refine ro (loadn_s r1 rfl (nl rfl) (fa rfl (ro (ld r1 rfl rfl (fa rfl (ro (ld r1 rfl rfl (build_struct rfl rfl (cT (cT ?_))))))))))
 refine cT (build_struct rfl rfl (cT (cT ?_)))
 refine box_rule ?_
 intro aY
 refine fa rfl (ro (ld r3 rfl rfl ?_))
 refine nilF Tryz.call52 Jd.enc 77 2 ?_
 refine nilF Tryz.call52 eS 9 1 ?_
 refine nilF Tryz.call52 eS 9 1 ?_
 refine cb hm fun a6 aW hm => ckx (Jdb aW :) ?_
 rintro _ _ _ ⟨aP, aS, aN, aU, aQ, aR, rfl, aT, aO, aM, rfl⟩
 refine neq_err rfl ?_
 refine cs rfl rfl hm ?_ ?_ <;> intro aZ hm
 refine build_struct rfl rfl ?_
 refine store_rule r4 rfl ⟨rfl, rfl, (nl rfl), ?_⟩
 refine ro (loadn_s r0 rfl (nl rfl) ?_)
 refine nilE Jd.enc 77 2 ?_
 refine nilE eS 9 1 ?_
 refine nilE eS 9 1 ?_
 exact eE hm
 refine nil_check (fa rfl (ro (loadn_s r0 rfl (nl rfl) ?_)))
 refine store_rule r4 rfl ⟨rfl, rfl, (nl rfl), ?_⟩
 exact ro (loadn_s r0 rfl (nl rfl) (eE hm))

def Jc0 (n' : Int) : Option (Str) :=
  (chk ((100 : Int) ≠ 0 ∧ InI (Int.tdiv n' 100))).bind fun _ =>
  (chk (InI (48 + (Int.tdiv n' 100)))).bind fun _ =>
  (chk ((10 : Int) ≠ 0 ∧ InI (Int.tdiv n' 10))).bind fun _ =>
  (chk (InI (48 + (Int.tmod (Int.tdiv n' 10) 10)))).bind fun _ =>
  (chk (InI (48 + (Int.tmod n' 10)))).bind fun _ =>
  some ([(u8of (48 + (Int.tdiv n' 100))), (u8of (48 + (Int.tmod (Int.tdiv n' 10) 10))), (u8of (48 + (Int.tmod n' 10)))] : Str)
theorem Je7 {n' : Int} {K : Hp} {r : Str}
    (hm : Jc0 n' = some r)  :
    Fn Tryz.prog 28 [.int .i64 n'] K [] (fun v K' H' => v = str r ∧ H' = []) := by
 refine Fn.enter Tryz.func28 Tryz.call28 rfl fun F => ?_
 unfold Jc0 at hm
 obtain ⟨h4, hm⟩ := chkb hm
 refine quo_t h4.1 h4.2 ?_
 refine ci hm fun hm => ?_
 refine conv_u8 rfl rfl ?_
 obtain ⟨h8, hm⟩ := chkb hm
 refine quo_t h8.1 h8.2 (rem_t (by decide) ?_)
 refine ci hm fun hm => ?_
 refine conv_u8 rfl rfl ?_
 refine rem_t (by decide) ?_
 refine ci hm fun hm => ?_
 refine conv_u8 rfl rfl ?_
 refine bsO (len := 3) (enc := eU) (l := ([(u8of (48 + (Int.tdiv n' 100))), (u8of (48 + (Int.tmod (Int.tdiv n' 10) 10))), (u8of (48 + (Int.tmod n' 10)))] : Str)) (cl := [.int .u8 ((u8of (48 + (Int.tdiv n' 100))).toNat : Int), .int .u8 ((u8of (48 + (Int.tmod (Int.tdiv n' 10) 10))).toNat : Int), .int .u8 ((u8of (48 + (Int.tmod n' 10))).toNat : Int)]) elT130 rfl rfl (fun _ _ => rfl) rfl rfl rfl ?_ fun aM => ?_
 · conv => whnf
   refine cT (cT (cT ?_))
   first | done | rfl
 refine ro (cv_ownE rfl r0 rfl rfl rfl ?_)
 exact eE hm

def JbB (rec_ : (Jb → Option (Int))) : List Jb → Nat → Int → Option (Int)
  | [], _, ac => some ac
  | e0 :: aN, i0, ac =>
    (rec_ e0).bind fun aM =>
    (chk (InI (ac + aM))).bind fun _ =>
    JbB rec_ aN (i0 + 1) (ac + aM)
def Jcy : Nat → Jb → Option (Int)
  | 0, _ => none
  | n + 1, n' =>
    (chk (n'.Aa.length ≤ szMax)).bind fun _ =>
    (JbB (Jcy n) n'.Aa 0 1).bind fun t0 =>
    some t0
theorem Jfy : ∀ {n : Nat} {n' : Jb} {aa : Option Addr} {ab : Nat} {K : Hp} {r : Int}
    (hm : Jcy n n' = some r) (ae : LiC Jb.R K aa ab 4 n'.Aa),
    Fn Tryz.prog 88 [.agg #[.int .i64 n'.Ab, str n'.Ac, .slice aa n'.Aa.length ab, .int .i64 n'.Ad]] K [] (fun v K' H' => v = .int .i64 r ∧ H' = []) := by
 intro n
 induction n with
 | zero =>
   intro n' aa ab K r hm ae
   rw [Jcy.eq_1] at hm; cases hm
 | succ n ih =>
   intro n' aa ab K r hm ae
   refine Fn.enter Tryz.func88 Tryz.call88 rfl fun F => ?_
   rw [Jcy.eq_2] at hm
   refine box_rule ?_
   intro b1
   refine fa rfl (ro (ld r0 rfl rfl (ro (len_slice rfl ?_))))
   obtain ⟨aX, hm⟩ := chkb hm
   obtain ⟨s0, aM, hm⟩ := bnd hm
   refine lD (σ := (Int)) [3, 4, 8, 9, 10, 11, 12, 13, 14, 15, 16, 17, 18, 19] [0, 1] (fun i0 => [(8, .int .i64 (i0 : Int))]) (fun t0 => [(3, .int .i64 t0)]) (fun _ => []) (fun _ => True) (fun i0 t0 => JbB (Jcy n) (n'.Aa.drop i0) i0 t0 = some s0) (fun t0 => t0 = s0) (fun i0 => n'.Aa.length - i0) 0 _ aM (And.intro qe (And.intro ?_ ?_))
   clear aM
   rintro i0 ac _ aM j0
   conv at aM => whnf
   refine cond_go rfl ?_
   refine cond_s ?_ ?_ <;> intro w0
   obtain ⟨e0, aN, aU⟩ := ltx w0
   rw [aU, JbB.eq_2] at aM
   refine block_go rfl ?_
   refine fa rfl (ro (ld r0 rfl rfl (RStep.ofN (index_addr rfl rfl (hasR ae.rd aN) (nn _) (lt_ofN aN) ?_))))
   obtain ⟨aY, aZ, aO, aP, aQ⟩ := LiR.get ae.rd aN
   obtain ⟨aS, aT, rfl, aR⟩ := Jb.out aQ
   refine ro (load_rd_agg i0 _ aO rfl aP rfl ?_)
   refine cb aM fun a6 aV aM => cgx (ih aV :) ?_
   obtain ⟨aW, aM⟩ := chkb aM
   refine int_in aW (int_in (cntz aN aX) ?_)
   exact eR aM (_, _)
   rw [lty w0, JbB.eq_1] at aM
   refine cT ?_
   exact eM aM _
   rintro t0 _ rfl j0
   exact eE hm

def JbL (rec_ : (Jb → Option (Int))) : List Jb → Nat → Int → Option (Int)
  | [], _, ac => some ac
  | e0 :: aM, i0, ac =>
    (rec_ e0).bind fun aN =>
    JbL rec_ aM (i0 + 1) (max ac aN)
def Jce : Nat → Jb → Option (Int)
  | 0, _ => none
  | n + 1, n' =>
    (chk (n'.Aa.length ≤ szMax)).bind fun _ =>
    (JbL (Jce n) n'.Aa 0 0).bind fun t0 =>
    (chk (InI (t0 + 1))).bind fun _ =>
    some (t0 + 1)
theorem Jfl : ∀ {n : Nat} {n' : Jb} {aa : Option Addr} {ab : Nat} {K : Hp} {r : Int}
    (hm : Jce n n' = some r) (ae : LiC Jb.R K aa ab 4 n'.Aa),
    Fn Tryz.prog 89 [.agg #[.int .i64 n'.Ab, str n'.Ac, .slice aa n'.Aa.length ab, .int .i64 n'.Ad]] K [] (fun v K' H' => v = .int .i64 r ∧ H' = []) := by
 intro n
 induction n with
 | zero =>
   intro n' aa ab K r hm ae
   rw [Jce.eq_1] at hm; cases hm
 | succ n ih =>
   intro n' aa ab K r hm ae
   refine Fn.enter Tryz.func89 Tryz.call89 rfl fun F => ?_
   rw [Jce.eq_2] at hm
   refine box_rule ?_
   intro b1
   refine fa rfl (ro (ld r0 rfl rfl (ro (len_slice rfl ?_))))
   obtain ⟨aW, hm⟩ := chkb hm
   obtain ⟨s0, aM, hm⟩ := bnd hm
   refine lD (σ := (Int)) [3, 4, 8, 9, 10, 11, 12, 13, 14, 15, 16, 17, 18, 19] [0, 1] (fun i0 => [(8, .int .i64 (i0 : Int))]) (fun t0 => [(3, .int .i64 t0)]) (fun _ => []) (fun _ => True) (fun i0 t0 => JbL (Jce n) (n'.Aa.drop i0) i0 t0 = some s0) (fun t0 => t0 = s0) (fun i0 => n'.Aa.length - i0) 0 _ aM (And.intro qe (And.intro ?_ ?_))
   clear aM
   rintro i0 ac _ aM j0
   conv at aM => whnf
   refine cond_go rfl ?_
   refine cond_s ?_ ?_ <;> intro w0
   obtain ⟨e0, aN, aU⟩ := ltx w0
   rw [aU, JbL.eq_2] at aM
   refine block_go rfl ?_
   refine fa rfl (ro (ld r0 rfl rfl (RStep.ofN (index_addr rfl rfl (hasR ae.rd aN) (nn _) (lt_ofN aN) ?_))))
   obtain ⟨aX, aY, aO, aP, aQ⟩ := LiR.get ae.rd aN
   obtain ⟨aS, aT, rfl, aR⟩ := Jb.out aQ
   refine ro (load_rd_agg i0 _ aO rfl aP rfl ?_)
   refine cb aM fun aZ aV aM => cgx (ih aV :) ?_
   refine ro (max_int (int_in (cntz aN aW) ?_))
   exact eR aM (_, _)
   rw [lty w0, JbL.eq_1] at aM
   refine cT ?_
   exact eM aM _
   rintro t0 _ rfl j0
   refine ci hm fun hm => ?_
   exact eE hm

def Jbm (s : Str) : Nat → Nat → Option (Fl (Bool) (Unit))
  | 0, _ => some (Fl.go ())
  | aM + 1, i0 =>
    (ix ([([61, 61] : Str), ([33, 61] : Str), ([60] : Str), ([60, 61] : Str), ([115, 116, 97, 114, 116, 115] : Str), ([101, 110, 100, 115] : Str), ([99, 111, 110, 116, 97, 105, 110, 115] : Str)]) (i0 : Int)).bind fun x9 =>
    if decide (s = x9) then
    some (Fl.ret true)
    else
    Jbm s aM (i0 + 1)
def Jcr (s : Str) : Option (Bool) :=
  (chk (InI (7 : Int))).bind fun _ =>
  (Jbm s (7 : Int).toNat 0).bind fun s0 => s0.el some fun t0 =>
  some false
theorem JeN {s : Str} {K : Hp} {r : Bool}
    (hm : Jcr s = some r)  :
    Fn Tryz.prog 194 [str s] K [] (fun v K' H' => v = .bool r ∧ H' = []) := by
 refine Fn.enter Tryz.func194 Tryz.call194 rfl fun F => ?_
 unfold Jcr at hm
 refine bsO (len := 7) (enc := eS) (l := [([61, 61] : Str), ([33, 61] : Str), ([60] : Str), ([60, 61] : Str), ([115, 116, 97, 114, 116, 115] : Str), ([101, 110, 100, 115] : Str), ([99, 111, 110, 116, 97, 105, 110, 115] : Str)]) (cl := [str ([61, 61] : Str), str ([33, 61] : Str), str ([60] : Str), str ([60, 61] : Str), str ([115, 116, 97, 114, 116, 115] : Str), str ([101, 110, 100, 115] : Str), str ([99, 111, 110, 116, 97, 105, 110, 115] : Str)]) elT31 rfl rfl (fun _ _ => rfl) rfl rfl rfl ?_ fun b5 => ?_
 · conv => whnf
   refine cT (cT (cT (cT (cT (cT (cT ?_))))))
   first | done | rfl
 refine ro (len_slice rfl ?_)
 obtain ⟨aN, hm⟩ := chkb hm
 obtain ⟨s0, aM, hm⟩ := bnd hm
 refine lD (σ := (Unit)) [2, 4, 7, 8, 9, 10, 11, 12, 13, 14] [0, 1] (fun i0 => [(7, .int .i64 (i0 : Int))]) (fun _ => []) (fun _ => []) (fun _ => True) (fun i0 _ => Jbm s ((7 : Int).toNat - i0) i0 = some s0) (fun t0 => s0 = Fl.go t0) (fun i0 => (7 : Int).toNat - i0) 0 () aM (And.intro qe (And.intro ?_ ?_))
 clear aM
 rintro i0 _ _ aM j0
 conv at aM => whnf
 refine cond_go rfl ?_
 refine cond_s ?_ ?_ <;> intro w0
 rw [ltn (n := (7 : Int)) w0, Jbm.eq_2] at aM
 refine block_go rfl ?_
 obtain ⟨x9, l9, k9, aM⟩ := ixb aM
 refine RStep.ofN (index_addr rfl rfl (hasO (fun _ => ⟨_, _, rfl⟩) k9) l9 (lt_ofE rfl l9 k9) (ro (ld_own (i := ((i0 : Int)).toNat) (o := 0) r0 rfl k9 rfl rfl (eq_str ?_))))
 refine cs rfl rfl aM ?_ ?_ <;> intro aO aM
 exact eE (er aM hm)
 refine int_in (cntn w0 aN) ?_
 exact eR aM (_, ())
 rw [lto (n := (7 : Int)) w0, Jbm.eq_1] at aM
 refine cT ?_
 exact eM aM _
 rintro t0 _ rfl j0
 replace hm := elg hm
 exact eE hm

def JbU (c : UInt8) : Option (Bool) :=
  some ((decide ((c.toNat : Int) ≥ 97) && decide ((c.toNat : Int) ≤ 122)) || decide ((c.toNat : Int) = 95))
theorem Jd1 {c : UInt8} {K : Hp} {r : Bool}
    (hm : JbU c = some r)  :
    Fn Tryz.prog 260 [.int .u8 (c.toNat : Int)] K [] (fun v K' H' => v = .bool r ∧ H' = []) := by
 refine Fn.enter Tryz.func260 Tryz.call260 rfl fun F => ?_
 unfold JbU at hm
 refine guard_go rfl ?_
 refine cond_s ?_ ?_ <;> intro aM
 refine ct aM (ct aM ?_)
 refine cond_s ?_ ?_ <;> intro aN
 refine ct aN (ct aN ?_)
 cases hm
 exact en lr ⟨(by rw [← ((or_t (and_t aM aN))).symm] <;> rfl), rfl⟩ (pf rfl)
 refine cf aN (eq_int (cf aN ?_))
 cases hm
 exact en lr ⟨(by rw [← (or_e (b := decide ((c.toNat : Int) = 95)) (and_g aM aN))] <;> rfl), rfl⟩ (pf rfl)
 refine cf aM (cf aM (cF (cF (eq_int (cF ?_)))))
 cases hm
 exact en lr ⟨(by rw [← (or_e (b := decide ((c.toNat : Int) = 95)) (and_f aM))] <;> rfl), rfl⟩ (pf rfl)

def JbM (c : UInt8) : Option (Bool) :=
  some (decide ((c.toNat : Int) ≥ 48) && decide ((c.toNat : Int) ≤ 57))
theorem Jds {c : UInt8} {K : Hp} {r : Bool}
    (hm : JbM c = some r)  :
    Fn Tryz.prog 261 [.int .u8 (c.toNat : Int)] K [] (fun v K' H' => v = .bool r ∧ H' = []) := by
 refine Fn.enter Tryz.func261 Tryz.call261 rfl fun F => ?_
 unfold JbM at hm
 refine guard_go rfl ?_
 refine cond_s ?_ ?_ <;> intro aM
 refine ct aM (ct aM ?_)
 cases hm
 exact en lr ⟨(by rw [← (and_e (b := decide ((c.toNat : Int) ≤ 57)) aM)] <;> rfl), rfl⟩ (pf rfl)
 refine cf aM (cf aM ?_)
 cases hm
 exact en lr ⟨(by rw [← ((and_f aM)).symm] <;> rfl), rfl⟩ (pf rfl)

def Ja4 (s : Str) : Nat → Str → Int → Option (Fl (Int × Str × Int) (Str × Int))
  | 0, _, _ => none
  | aO + 1, ac, aM =>
    if decide (aM < (s.length : Int)) then
    (ix s aM).bind fun aN =>
    if decide ((aN.toNat : Int) = 34) then
    (chk (InI (aM + 1))).bind fun _ =>
    some (Fl.ret (3, ac, (aM + 1)))
    else
    if (decide ((aN.toNat : Int) < 32) || decide ((aN.toNat : Int) > 126)) then
    some (Fl.ret (0, ([] : Str), 0))
    else
    if decide ((aN.toNat : Int) = 92) then
    (chk (InI (aM + 1))).bind fun _ =>
    if decide ((aM + 1) = (s.length : Int)) then
    some (Fl.ret (0, ([] : Str), 0))
    else
    (ix s (aM + 1)).bind fun aR =>
    (if decide ((aR.toNat : Int) ≠ 92) then (ix s (aM + 1)).bind fun aQ =>
    some (decide ((aQ.toNat : Int) ≠ 34)) else some false).bind fun aP =>
    if aP then
    some (Fl.ret (0, ([] : Str), 0))
    else
    (chk (InI ((aM + 1) + 1))).bind fun _ =>
    (chk (0 ≤ (aM + 1) ∧ (aM + 1) ≤ ((aM + 1) + 1) ∧ ((aM + 1) + 1) ≤ (s.length : Int))).bind fun _ =>
    (chk (ac.length + (subL s (aM + 1) ((aM + 1) + 1)).length ≤ lim)).bind fun _ =>
    (chk (InI ((aM + 1) + 1))).bind fun _ =>
    Ja4 s aO (ac ++ (subL s (aM + 1) ((aM + 1) + 1))) ((aM + 1) + 1)
    else
    (chk (InI (aM + 1))).bind fun _ =>
    (chk (0 ≤ aM ∧ aM ≤ (aM + 1) ∧ (aM + 1) ≤ (s.length : Int))).bind fun _ =>
    (chk (ac.length + (subL s aM (aM + 1)).length ≤ lim)).bind fun _ =>
    (chk (InI (aM + 1))).bind fun _ =>
    Ja4 s aO (ac ++ (subL s aM (aM + 1))) (aM + 1)
    else
    some (Fl.go (ac, aM))
def Jdl (n : Nat) (s : Str) : Option (Int × Str × Int) :=
  (Ja4 s n ([] : Str) 1).bind fun s0 => s0.el some fun t0 =>
  some (0, ([] : Str), 0)
theorem Je8 {n : Nat} {s : Str} {K : Hp} {r : Int × Str × Int}
    (hm : Jdl n s = some r)  :
    Fn Tryz.prog 262 [str s] K [] (fun v K' H' => v = .tuple #[.int .i64 r.1, str r.2.1, .int .i64 r.2.2] ∧ H' = []) := by
 refine Fn.enter Tryz.func262 Tryz.call262 rfl fun F => ?_
 unfold Jdl at hm
 obtain ⟨s0, aN, hm⟩ := bnd hm
 refine lD (σ := (Str × Int)) [2, 3, 4, 5, 6, 7, 8, 9, 10, 11, 12, 13, 14, 15, 16, 17, 18, 19, 20, 21, 22, 23, 24, 25, 26, 27, 28, 29, 30, 31, 32, 33, 34, 35, 36, 37, 38, 39, 40, 41, 42, 43, 44, 45, 46, 47, 48, 49, 50, 51, 52, 53, 54, 55, 56, 57] [0] (fun _ => []) (fun t0 => [(5, str t0.1), (6, .int .i64 t0.2)]) (fun _ => []) (fun _ => True) (fun i0 t0 => Ja4 s i0 t0.1 t0.2 = some s0) (fun t0 => s0 = Fl.go t0) (fun i0 => i0) n (_, _) aN (And.intro qe (And.intro ?_ ?_))
 clear aN
 rintro i0 ⟨ac, aQ⟩ _ aN j0
 dsimp only at aN ⊢
 cases i0 with
 | zero => rw [Ja4.eq_1] at aN; cases aN
 | succ i0 =>
  rw [Ja4.eq_2] at aN
  refine ro (len_str rfl ?_)
  refine cs rfl rfl aN ?_ ?_ <;> intro bj aN
  refine block_go rfl ?_
  obtain ⟨aU, a8, aX, aN⟩ := ixb aN
  refine idx_str rfl a8 aX ?_
  refine block_go rfl ?_
  refine eq_int (cs rfl rfl aN ?_ ?_) <;> intro bc aN
  refine ci aN fun aN => ?_
  exact eE (er aN hm)
  refine jR (σ := Unit) [23, 24, 25, 26, 27, 28, 29] (fun _ => [(23, .bool (decide ((aU.toNat : Int) < 32) || decide ((aU.toNat : Int) > 126)))]) (fun aY => True) ?_ ?_
  refine guard_go rfl ?_
  refine cond_s ?_ ?_ <;> intro aP
  refine ct aP (ct aP ?_)
  exact mt (()) ⟨(by rw [← ((or_t aP)).symm] <;> rfl), trivial⟩ rfl (pf rfl) lr trivial
  refine cf aP (cf aP ?_)
  exact mt (()) ⟨(by rw [← (or_e (b := decide ((aU.toNat : Int) > 126)) aP)] <;> rfl), trivial⟩ rfl (pf rfl) lr trivial
  rintro _ _ ba
  refine cs rfl rfl aN ?_ ?_ <;> intro bh aN
  exact eE (er aN hm)
  refine eq_int (cs rfl rfl aN ?_ ?_) <;> intro bd aN
  refine ci aN fun aN => ?_
  refine guard_go rfl ?_
  refine ro (len_str rfl (eq_int ?_))
  refine cond_s ?_ ?_ <;> intro aM
  replace aN := ift aM aN
  refine ct aM (ct aM (ct aM (ct aM (ct aM (ct aM (cond_go rfl (cT ?_)))))))
  exact eE (er aN hm)
  replace aN := iff_ aM aN
  refine cf aM (cf aM ?_)
  obtain ⟨bf, aZ, bb, aN⟩ := ixb aN
  refine idx_str rfl aZ bb (cf aM (neq_int (cf aM ?_)))
  obtain ⟨bm, aR, aN⟩ := bnd aN
  refine cond_s ?_ ?_ <;> intro aO
  replace aR := ift aO aR
  refine ct aO (ct aO ?_)
  obtain ⟨bg, aW, a6, aR⟩ := ixb aR
  refine idx_str rfl aW a6 (ct aO (neq_int (cf aM (ct aO (cf aM (cond_go rfl ?_))))))
  refine cond_s ?_ ?_ <;> intro aV
  replace aN := ift ((si aR).symm.trans aV) aN
  exact eE (er aN hm)
  replace aN := iff_ ((si aR).symm.trans aV) aN
  refine ci aN fun aN => ?_
  obtain ⟨aT, aN⟩ := chkb aN
  refine RStep.ofN (sl_str (lo := (some (aQ + 1))) (hi := (some ((aQ + 1) + 1))) rfl aT ?_)
  obtain ⟨aS, aN⟩ := chkb aN
  refine cat_str aS ?_
  refine ci aN fun aN => ?_
  exact eR aN (_, (_, _))
  replace aR := iff_ aO aR
  refine cf aO (cf aO (cf aO (cf aM (cf aO (cf aM (cond_go rfl (cF ?_)))))))
  replace aN := iff_ (si aR).symm aN
  refine ci aN fun aN => ?_
  obtain ⟨aT, aN⟩ := chkb aN
  refine RStep.ofN (sl_str (lo := (some (aQ + 1))) (hi := (some ((aQ + 1) + 1))) rfl aT ?_)
  obtain ⟨aS, aN⟩ := chkb aN
  refine cat_str aS ?_
  refine ci aN fun aN => ?_
  exact eR aN (_, (_, _))
  refine ci aN fun aN => ?_
  obtain ⟨aT, aN⟩ := chkb aN
  refine RStep.ofN (sl_str (lo := (some aQ)) (hi := (some (aQ + 1))) rfl aT ?_)
  obtain ⟨aS, aN⟩ := chkb aN
  refine cat_str aS ?_
  refine ci aN fun aN => ?_
  exact eR aN (_, (_, _))
  refine cT ?_
  exact eM aN _
 rintro t0 _ rfl j0
 replace hm := elg hm
 exact eE hm

def JbC (s : Str) : Nat → Int → Option (Int)
  | 0, _ => none
  | aN + 1, aM =>
    if decide (aM < (s.length : Int)) then
    (ix s aM).bind fun aS =>
    (JbU aS).bind fun aR =>
    (if aR then some true else (ix s aM).bind fun aO =>
    (JbM aO).bind fun aQ =>
    some aQ).bind fun aP =>
    if aP then
    (chk (InI (aM + 1))).bind fun _ =>
    JbC s aN (aM + 1)
    else
    some aM
    else
    some aM
def JbD (s : Str) : Nat → Int → Option (Int)
  | 0, _ => none
  | aQ + 1, aM =>
    (if decide (aM < (s.length : Int)) then (ix s aM).bind fun aN =>
    (JbM aN).bind fun aP =>
    some aP else some false).bind fun aO =>
    if aO then
    (chk (InI (aM + 1))).bind fun _ =>
    JbD s aQ (aM + 1)
    else
    some aM
def Jb0 (s : Str) : Nat → Nat → Option (Fl (Int × Str × Int) (Unit))
  | 0, _ => some (Fl.go ())
  | aQ + 1, i5 =>
    (ix ([([61, 61] : Str), ([33, 61] : Str), ([60, 61] : Str), ([60] : Str), ([43] : Str), ([45] : Str), ([42] : Str), ([40] : Str), ([41] : Str), ([123] : Str), ([125] : Str), ([44] : Str), ([59] : Str), ([61] : Str)]) (i5 : Int)).bind fun aR =>
    (if decide ((s.length : Int) ≥ (aR.length : Int)) then (ix ([([61, 61] : Str), ([33, 61] : Str), ([60, 61] : Str), ([60] : Str), ([43] : Str), ([45] : Str), ([42] : Str), ([40] : Str), ([41] : Str), ([123] : Str), ([125] : Str), ([44] : Str), ([59] : Str), ([61] : Str)]) (i5 : Int)).bind fun aM =>
    (chk (0 ≤ (0 : Int) ∧ (0 : Int) ≤ (aM.length : Int) ∧ (aM.length : Int) ≤ (s.length : Int))).bind fun _ =>
    (ix ([([61, 61] : Str), ([33, 61] : Str), ([60, 61] : Str), ([60] : Str), ([43] : Str), ([45] : Str), ([42] : Str), ([40] : Str), ([41] : Str), ([123] : Str), ([125] : Str), ([44] : Str), ([59] : Str), ([61] : Str)]) (i5 : Int)).bind fun aN =>
    some (decide ((subL s (0 : Int) (aM.length : Int)) = aN)) else some false).bind fun aO =>
    if aO then
    (ix ([([61, 61] : Str), ([33, 61] : Str), ([60, 61] : Str), ([60] : Str), ([43] : Str), ([45] : Str), ([42] : Str), ([40] : Str), ([41] : Str), ([123] : Str), ([125] : Str), ([44] : Str), ([59] : Str), ([61] : Str)]) (i5 : Int)).bind fun aS =>
    (ix ([([61, 61] : Str), ([33, 61] : Str), ([60, 61] : Str), ([60] : Str), ([43] : Str), ([45] : Str), ([42] : Str), ([40] : Str), ([41] : Str), ([123] : Str), ([125] : Str), ([44] : Str), ([59] : Str), ([61] : Str)]) (i5 : Int)).bind fun aP =>
    some (Fl.ret (4, aS, (aP.length : Int)))
    else
    Jb0 s aQ (i5 + 1)
def Jb4 (n : Nat) (s : Str) : Option (Int × Str × Int) :=
  (ix s 0).bind fun aO =>
  (JbU aO).bind fun aP =>
  if aP then
  (JbC s n 0).bind fun t1 =>
  (chk (0 ≤ (0 : Int) ∧ (0 : Int) ≤ t1 ∧ t1 ≤ (s.length : Int))).bind fun _ =>
  some (1, (subL s (0 : Int) t1), t1)
  else
  (ix s 0).bind fun aR =>
  (JbM aR).bind fun aQ =>
  if aQ then
  (JbD s n 0).bind fun t3 =>
  if decide (t3 > 9) then
  some (0, ([] : Str), 0)
  else
  (chk (0 ≤ (0 : Int) ∧ (0 : Int) ≤ t3 ∧ t3 ≤ (s.length : Int))).bind fun _ =>
  some (2, (subL s (0 : Int) t3), t3)
  else
  (ix s 0).bind fun aN =>
  if decide ((aN.toNat : Int) = 34) then
  (Jdl n s).bind fun aM =>
  some (aM.1, aM.2.1, aM.2.2)
  else
  (chk (InI (14 : Int))).bind fun _ =>
  (Jb0 s (14 : Int).toNat 0).bind fun s5 => s5.el some fun t5 =>
  some (0, ([] : Str), 0)
theorem Jfz {n : Nat} {s : Str} {K : Hp} {r : Int × Str × Int}
    (hm : Jb4 n s = some r)  :
    Fn Tryz.prog 251 [str s] K [] (fun v K' H' => v = .tuple #[.int .i64 r.1, str r.2.1, .int .i64 r.2.2] ∧ H' = []) := by
 refine Fn.enter Tryz.func251 Tryz.call251 rfl fun F => ?_
 unfold Jb4 at hm
 refine block_go rfl ?_
 obtain ⟨cz, bq, bM, hm⟩ := ixb hm
 refine idx_str rfl bq bM ?_
 refine cb hm fun bX bn hm => cg0 (Jd1 bn :) ?_
 refine cs rfl rfl hm ?_ ?_ <;> intro w8 hm
 obtain ⟨s1, aQ, hm⟩ := bnd hm
 refine lD (σ := (Int)) [5, 12, 13, 14, 15, 16, 17, 18, 19, 20, 21, 22, 23, 24, 25, 26, 27, 28, 29] [0] (fun _ => []) (fun t1 => [(5, .int .i64 t1)]) (fun _ => []) (fun _ => True) (fun i1 t1 => JbC s i1 t1 = some s1) (fun t1 => t1 = s1) (fun i1 => i1) n _ aQ (And.intro qe (And.intro ?_ ?_))
 clear aQ
 rintro i1 bK _ aQ j1
 conv at aQ => whnf
 cases i1 with
 | zero => rw [JbC.eq_1] at aQ; cases aQ
 | succ i1 =>
  rw [JbC.eq_2] at aQ
  refine guard_go rfl ?_
  refine ro (len_str rfl ?_)
  refine cond_s ?_ ?_ <;> intro aN
  replace aQ := ift aN aQ
  refine ct aN (ct aN ?_)
  obtain ⟨ce, bA, bC, aQ⟩ := ixb aQ
  refine idx_str rfl bA bC (ct aN ?_)
  refine cb aQ fun co bo aQ => cg0 (Jd1 bo :) ?_
  refine ct aN ?_
  obtain ⟨cr, aU, aQ⟩ := bnd aQ
  refine cond_s ?_ ?_ <;> intro aO
  replace aU := ift aO aU
  refine ct aO (ct aO (ct aO (ct aN (ct aO (ct aN (cond_go rfl (cT ?_)))))))
  replace aQ := ift (si aU).symm aQ
  refine block_go rfl ?_
  refine ci aQ fun aQ => ?_
  exact eR aQ (_, _)
  replace aU := iff_ aO aU
  refine cf aO (cf aO ?_)
  obtain ⟨cw, bm, bB, aU⟩ := ixb aU
  refine idx_str rfl bm bB (cf aO ?_)
  refine cb aU fun ca bL aU => cg0 (Jds bL :) ?_
  refine ct aN (cf aO (ct aN (cond_go rfl ?_)))
  refine cond_s ?_ ?_ <;> intro bb
  replace aQ := ift ((si aU).symm.trans bb) aQ
  refine block_go rfl ?_
  refine ci aQ fun aQ => ?_
  exact eR aQ (_, _)
  replace aQ := iff_ ((si aU).symm.trans bb) aQ
  refine cT ?_
  exact eM aQ _
  replace aQ := iff_ aN aQ
  refine cf aN (cf aN (cf aN (cf aN (cf aN (cf aN (cond_go rfl (cF ?_)))))))
  refine cT ?_
  exact eM aQ _
 rintro t1 _ rfl j1
 refine draw_go ⟨⟨[], false⟩, _, [], []⟩ (by kernel_rfl) ⟨Hp.Le.refl _, (pf rfl), ci0⟩ ?_
 obtain ⟨br, hm⟩ := chkb hm
 refine sl_str (lo := none) (hi := (some t1)) rfl br ?_
 exact eE hm
 obtain ⟨bS, bu, bG, hm⟩ := ixb hm
 refine idx_str rfl bu bG ?_
 refine cb hm fun bO bI hm => cg0 (Jds bI :) ?_
 refine cs rfl rfl hm ?_ ?_ <;> intro bT hm
 obtain ⟨s3, aS, hm⟩ := bnd hm
 refine lD (σ := (Int)) [5, 38, 39, 40, 41, 42, 43, 44, 45, 46, 47, 48, 49] [0] (fun _ => []) (fun t3 => [(5, .int .i64 t3)]) (fun _ => []) (fun _ => True) (fun i3 t3 => JbD s i3 t3 = some s3) (fun t3 => t3 = s3) (fun i3 => i3) n _ aS (And.intro qe (And.intro ?_ ?_))
 clear aS
 rintro i3 bp _ aS j3
 conv at aS => whnf
 cases i3 with
 | zero => rw [JbD.eq_1] at aS; cases aS
 | succ i3 =>
  rw [JbD.eq_2] at aS
  refine guard_go rfl ?_
  refine ro (len_str rfl ?_)
  obtain ⟨cm, aV, aS⟩ := bnd aS
  refine cond_s ?_ ?_ <;> intro aP
  replace aV := ift aP aV
  refine ct aP (ct aP ?_)
  obtain ⟨bP, bD, bt, aV⟩ := ixb aV
  refine idx_str rfl bD bt (ct aP ?_)
  refine cb aV fun bY bE aV => cg0 (Jds bE :) ?_
  refine ct aP (cond_go rfl ?_)
  refine cond_s ?_ ?_ <;> intro bg
  replace aS := ift ((si aV).symm.trans bg) aS
  refine block_go rfl ?_
  refine ci aS fun aS => ?_
  exact eR aS (_, _)
  replace aS := iff_ ((si aV).symm.trans bg) aS
  refine cT ?_
  exact eM aS _
  replace aV := iff_ aP aV
  refine cf aP (cf aP (cf aP (cf aP (cond_go rfl (cF ?_)))))
  replace aS := iff_ (si aV).symm aS
  refine cT ?_
  exact eM aS _
 rintro t3 _ rfl j3
 refine cs rfl rfl hm ?_ ?_ <;> intro bW hm
 exact eE hm
 refine draw_go ⟨⟨[], false⟩, _, [], []⟩ (by kernel_rfl) ⟨Hp.Le.refl _, (pf rfl), ci0⟩ ?_
 obtain ⟨bH, hm⟩ := chkb hm
 refine sl_str (lo := none) (hi := (some t3)) rfl bH ?_
 exact eE hm
 obtain ⟨bZ, bJ, bw, hm⟩ := ixb hm
 refine idx_str rfl bJ bw (eq_int ?_)
 refine cs rfl rfl hm ?_ ?_ <;> intro cj hm
 refine cb hm fun bQ bN hm => cg0 (Je8 bN :) ?_
 exact eE hm
 refine bsO (len := 14) (enc := eS) (l := [([61, 61] : Str), ([33, 61] : Str), ([60, 61] : Str), ([60] : Str), ([43] : Str), ([45] : Str), ([42] : Str), ([40] : Str), ([41] : Str), ([123] : Str), ([125] : Str), ([44] : Str), ([59] : Str), ([61] : Str)]) (cl := [str ([61, 61] : Str), str ([33, 61] : Str), str ([60, 61] : Str), str ([60] : Str), str ([43] : Str), str ([45] : Str), str ([42] : Str), str ([40] : Str), str ([41] : Str), str ([123] : Str), str ([125] : Str), str ([44] : Str), str ([59] : Str), str ([61] : Str)]) elT31 rfl rfl (fun _ _ => rfl) rfl rfl rfl ?_ fun bV => ?_
 · conv => whnf
   refine cT (cT (cT (cT (cT (cT (cT (cT ?_)))))))
   refine cT (cT (cT (cT (cT (cT ?_)))))
   first | done | rfl
 refine ro (len_slice rfl ?_)
 obtain ⟨a8, hm⟩ := chkb hm
 obtain ⟨s5, aR, hm⟩ := bnd hm
 refine lD (σ := (Unit)) [2, 3, 4, 7, 68, 69, 70, 71, 72, 73, 74, 75, 76, 77, 78, 79, 80, 81, 82, 83, 84, 85, 86, 87, 88, 89, 90, 91, 92, 93, 94, 95, 96, 97, 98, 99, 100, 101, 102] [0, 1] (fun i5 => [(68, .int .i64 (i5 : Int))]) (fun _ => []) (fun _ => []) (fun _ => True) (fun i5 _ => Jb0 s ((14 : Int).toNat - i5) i5 = some s5) (fun t5 => s5 = Fl.go t5) (fun i5 => (14 : Int).toNat - i5) 0 () aR (And.intro qe (And.intro ?_ ?_))
 clear aR
 rintro i5 _ _ aR j5
 conv at aR => whnf
 refine cond_go rfl ?_
 refine cond_s ?_ ?_ <;> intro w5
 rw [ltn (n := (14 : Int)) w5, Jb0.eq_2] at aR
 refine block_go rfl ?_
 refine DStep.ownLe r0 fun cn => ?_
 refine draw_go ⟨⟨[], true⟩, _, [], []⟩ (by kernel_rfl) ⟨Hp.Le.refl _, (pf rfl), ci0⟩ ?_
 refine len_strN rfl ?_
 obtain ⟨cp, bf, aX, aR⟩ := ixb aR
 refine index_addr rfl rfl (hasO (fun _ => ⟨_, _, rfl⟩) aX) bf (lt_ofE rfl bf aX) ?_
 refine ld_own (i := ((i5 : Int)).toNat) (o := 0) r0 rfl aX rfl rfl ?_
 refine len_strN rfl ?_
 obtain ⟨cq, aT, aR⟩ := bnd aR
 refine cond_s ?_ ?_ <;> intro aM
 replace aT := ift aM aT
 refine ct aM (ct aM (ct aM ?_))
 obtain ⟨bF, bh, a6, aT⟩ := ixb aT
 refine index_addr rfl rfl (hasO (fun _ => ⟨_, _, rfl⟩) a6) bh (lt_ofE rfl bh a6) (ct aM ?_)
 refine ld_own (i := ((i5 : Int)).toNat) (o := 0) r0 rfl a6 rfl rfl ?_
 refine ct aM (len_strN rfl (ct aM ?_))
 obtain ⟨bz, aT⟩ := chkb aT
 refine sl_str (lo := none) (hi := (some (bF.length : Int))) rfl bz (ct aM (ct aM (ct aM ?_)))
 obtain ⟨bU, ba, aZ, aT⟩ := ixb aT
 refine index_addr rfl rfl (hasO (fun _ => ⟨_, _, rfl⟩) aZ) ba (lt_ofE rfl ba aZ) (ct aM ?_)
 refine ld_own (i := ((i5 : Int)).toNat) (o := 0) r0 rfl aZ rfl rfl ?_
 refine ct aM (eq_str (ct aM (cond_go rfl ?_)))
 refine cond_s ?_ ?_ <;> intro bd
 replace aR := ift ((si aT).symm.trans bd) aR
 refine draw_go ⟨⟨[], true⟩, _, [], []⟩ (by kernel_rfl) ⟨Hp.Le.refl _, (pf rfl), ci0⟩ ?_
 obtain ⟨cd, bj, aW, aR⟩ := ixb aR
 refine index_addr rfl rfl (hasO (fun _ => ⟨_, _, rfl⟩) aW) bj (lt_ofE rfl bj aW) ?_
 refine ld_own (i := ((i5 : Int)).toNat) (o := 0) r0 rfl aW rfl rfl ?_
 obtain ⟨bR, bc, aY, aR⟩ := ixb aR
 refine index_addr rfl rfl (hasO (fun _ => ⟨_, _, rfl⟩) aY) bc (lt_ofE rfl bc aY) ?_
 refine ld_own (i := ((i5 : Int)).toNat) (o := 0) r0 rfl aY rfl rfl ?_
 refine len_strN rfl ?_
 exact eE (er aR hm)
 replace aR := iff_ ((si aT).symm.trans bd) aR
 refine int_in (cntn w5 a8) ?_
 exact eR aR (_, ())
 replace aT := iff_ aM aT
 refine cf aM (cf aM (cf aM (cf aM (cf aM (cf aM (cf aM (cf aM ?_)))))))
 refine cf aM (cf aM (cf aM (cf aM (cond_go rfl (cF ?_)))))
 replace aR := iff_ (si aT).symm aR
 refine int_in (cntn w5 a8) ?_
 exact eR aR (_, ())
 rw [lto (n := (14 : Int)) w5, Jb0.eq_1] at aR
 refine cT ?_
 exact eM aR _
 rintro t5 _ rfl j5
 replace hm := elg hm
 exact eE hm

def JbN (al : Int) (text : Str) : Nat → Int → Option (Int)
  | 0, _ => none
  | aN + 1, aM =>
    (chk (InI (al + aM))).bind fun _ =>
    (if decide ((al + aM) < (text.length : Int)) then (chk (InI (al + aM))).bind fun _ =>
    (ix text (al + aM)).bind fun aO =>
    some (decide ((aO.toNat : Int) ≠ 10)) else some false).bind fun aP =>
    if aP then
    (chk (InI (aM + 1))).bind fun _ =>
    JbN al text aN (aM + 1)
    else
    some aM
def Jat (text : Str) (n : Nat) : Nat → (List JN) → Int → Int → Int → Option (Fl ((List JN) × Int) ((List JN) × Int × Int × Int))
  | 0, _, _, _, _ => none
  | aQ + 1, ac, aN, aM, al =>
    if decide (al < (text.length : Int)) then
    (ix text al).bind fun aP =>
    if decide ((aP.toNat : Int) = 10) then
    (chk (InI (aN + 1))).bind fun _ =>
    (chk (InI (al + 1))).bind fun _ =>
    (chk (InI (0 + 1))).bind fun _ =>
    Jat text n aQ ac (aN + 1) (0 + 1) (al + 1)
    else
    if decide ((aP.toNat : Int) = 35) then
    (JbN al text n 1).bind fun t3 =>
    (chk (InI (al + t3))).bind fun _ =>
    (chk (InI (aM + t3))).bind fun _ =>
    Jat text n aQ ac aN (aM + t3) (al + t3)
    else
    if ((decide ((aP.toNat : Int) ≠ 32) && decide ((aP.toNat : Int) ≠ 9)) && decide ((aP.toNat : Int) ≠ 13)) then
    (chk (0 ≤ al ∧ al ≤ (text.length : Int) ∧ (text.length : Int) ≤ (text.length : Int))).bind fun _ =>
    (Jb4 n (subL text al (text.length : Int))).bind fun aO =>
    if decide (aO.2.2 = 0) then
    some (Fl.ret ([], 2))
    else
    (chk (ac.length + [(⟨aO.1, aO.2.1, aN, aM⟩ : JN)].length ≤ lim)).bind fun _ =>
    (chk (InI (al + aO.2.2))).bind fun _ =>
    (chk (InI (aM + aO.2.2))).bind fun _ =>
    Jat text n aQ (ac ++ [(⟨aO.1, aO.2.1, aN, aM⟩ : JN)]) aN (aM + aO.2.2) (al + aO.2.2)
    else
    (chk (InI (al + 1))).bind fun _ =>
    (chk (InI (aM + 1))).bind fun _ =>
    Jat text n aQ ac aN (aM + 1) (al + 1)
    else
    some (Fl.go (ac, aN, aM, al))
def Jcf (n : Nat) (text : Str) : Option ((List JN) × Int) :=
  if decide ((text.length : Int) > 4096) then
  some ([], 5)
  else
  (Jat text n n [] 1 1 0).bind fun s0 => s0.el some fun t0 =>
  (chk (t0.1.length + ([(⟨5, ([] : Str), t0.2.1, t0.2.2.1⟩ : JN)]).length ≤ lim)).bind fun _ =>
  some ((t0.1 ++ [(⟨5, ([] : Str), t0.2.1, t0.2.2.1⟩ : JN)]), 0)
theorem Jfm {n : Nat} {text : Str} {K : Hp} {r : (List JN) × Int}
    (hm : Jcf n text = some r)  :
    Fn Tryz.prog 225 [str text] K [] (fun v K' H' => ∃ ar_0 : Option Addr, ∃ cr_0 : Nat, v = .tuple #[.slice ar_0 r.1.length cr_0, .int .i64 r.2] ∧ (0 < r.1.length → Has ar_0) ∧ H' = [OwnL JN.enc ar_0 296 4 cr_0 r.1]) := by
 refine Fn.enter Tryz.func225 Tryz.call225 rfl fun F => ?_
 unfold Jcf at hm
 refine ro (len_str rfl ?_)
 refine cs rfl rfl hm ?_ ?_ <;> intro bC hm
 refine nilE JN.enc 296 4 ?_
 exact eE hm
 obtain ⟨s0, aN, hm⟩ := bnd hm
 refine nilC JN.enc 296 4 ?_
 refine lD (σ := ((List JN) × Int × Int × Int) × Option Addr × Nat) [2, 3, 4, 5, 6, 7, 8, 9, 10, 11, 12, 16, 17, 18, 19, 20, 21, 22, 23, 24, 25, 26, 27, 28, 29, 30, 31, 32, 33, 34, 35, 36, 37, 38, 39, 40, 41, 42, 43, 44, 45, 46, 47, 48, 49, 50, 51, 52, 53, 54, 55, 56, 57, 58, 59, 60, 61, 62, 63, 64, 65, 66, 67, 68, 69, 70, 71, 72, 73, 74, 75, 76, 77, 78, 79, 80, 81, 82] [1] (fun _ => []) (fun (t0, aQ, aR) => [(4, .slice aQ t0.1.length aR), (5, .int .i64 t0.2.1), (6, .int .i64 t0.2.2.1), (7, .int .i64 t0.2.2.2)]) (fun (t0, aQ, aR) => [OwnL JN.enc aQ 296 4 aR t0.1]) (fun (t0, aQ, aR) => (0 < t0.1.length → Has aQ) ∧ True) (fun i0 (t0, aQ, aR) => Jat text n i0 t0.1 t0.2.1 t0.2.2.1 t0.2.2.2 = some s0) (fun (t0, aQ, aR) => s0 = Fl.go t0) (fun i0 => i0) n ((_, _, _, _), _, _) aN (And.intro qe (And.intro ?_ ?_))
 clear aN
 rintro i0 ⟨⟨ac, aU, aV, al⟩, aY, a8⟩ ⟨ba, _⟩ aN j0
 dsimp only at aN ⊢
 cases i0 with
 | zero => rw [Jat.eq_1] at aN; cases aN
 | succ i0 =>
  rw [Jat.eq_2] at aN
  refine ro (len_str rfl ?_)
  refine cs rfl rfl aN ?_ ?_ <;> intro bO aN
  refine block_go rfl ?_
  obtain ⟨aX, bn, br, aN⟩ := ixb aN
  refine idx_str rfl bn br ?_
  refine block_go rfl ?_
  refine eq_int ?_
  refine CStep.ownLe r0 fun bw => ?_
  refine cs rfl rfl aN ?_ ?_ <;> intro bI aN
  refine ci aN fun aN => ?_
  refine ci aN fun aN => ?_
  refine ci aN fun aN => ?_
  exact eR aN (_, (_, _, _, _), _, _)
  refine eq_int ?_
  refine CStep.ownLe r0 fun bM => ?_
  refine cs rfl rfl aN ?_ ?_ <;> intro bF aN
  obtain ⟨s3, aS, aN⟩ := bnd aN
  refine lD (σ := (Int)) [9, 31, 32, 33, 34, 35, 36, 37, 38, 39, 40, 41, 42, 43, 44, 45, 46] [0, 1] (fun _ => []) (fun t3 => [(9, .int .i64 t3)]) (fun _ => []) (fun _ => True) (fun i3 t3 => JbN al text i3 t3 = some s3) (fun t3 => t3 = s3) (fun i3 => i3) n _ aS (And.intro qe (And.intro ?_ ?_))
  clear aS
  rintro i3 bh _ aS j3
  conv at aS => whnf
  cases i3 with
  | zero => rw [JbN.eq_1] at aS; cases aS
  | succ i3 =>
   rw [JbN.eq_2] at aS
   refine guard_go rfl ?_
   obtain ⟨bq, aS⟩ := chkb aS
   refine int_in bq (ro (len_str rfl ?_))
   obtain ⟨bA, aT, aS⟩ := bnd aS
   refine cond_s ?_ ?_ <;> intro aM
   replace aT := ift aM aT
   refine ct aM (ct aM (ct aM ?_))
   obtain ⟨bf, aT⟩ := chkb aT
   refine int_in bf (ct aM ?_)
   obtain ⟨bz, bg, bp, aT⟩ := ixb aT
   refine idx_str rfl bg bp (ct aM (neq_int (ct aM (cond_go rfl ?_))))
   refine cond_s ?_ ?_ <;> intro a6
   replace aS := ift ((si aT).symm.trans a6) aS
   refine block_go rfl ?_
   refine ci aS fun aS => ?_
   exact eR aS (_, _)
   replace aS := iff_ ((si aT).symm.trans a6) aS
   refine cT ?_
   exact eM aS _
   replace aT := iff_ aM aT
   refine cf aM (cf aM (cf aM (cf aM (cf aM (cf aM (cond_go rfl (cF ?_)))))))
   replace aS := iff_ (si aT).symm aS
   refine cT ?_
   exact eM aS _
  rintro t3 _ rfl j3
  refine ci aN fun aN => ?_
  refine ci aN fun aN => ?_
  exact eR aN (_, (_, _, _, _), _, _)
  refine jR (σ := Unit) [47, 48, 49, 50, 51, 52, 53, 54, 55, 56, 57] (fun _ => [(47, .bool ((decide ((aX.toNat : Int) ≠ 32) && decide ((aX.toNat : Int) ≠ 9)) && decide ((aX.toNat : Int) ≠ 13)))]) (fun bd => True) ?_ ?_
  refine guard_go rfl ?_
  refine neq_int ?_
  refine cond_s ?_ ?_ <;> intro aO
  refine ct aO (neq_int (ct aO ?_))
  refine cond_s ?_ ?_ <;> intro aP
  refine ct aP (neq_int (ct aP ?_))
  exact mt (()) ⟨(by rw [← (and_e (b := decide ((aX.toNat : Int) ≠ 13)) (and_t aO aP))] <;> rfl), trivial⟩ rfl (pf rfl) lr trivial
  refine cf aP (cf aP ?_)
  exact mt (()) ⟨(by rw [← ((and_f (and_g aO aP))).symm] <;> rfl), trivial⟩ rfl (pf rfl) lr trivial
  refine cf aO (cf aO (cF (cF (cF ?_))))
  exact mt (()) ⟨(by rw [← ((and_f (and_f aO))).symm] <;> rfl), trivial⟩ rfl (pf rfl) lr trivial
  rintro _ _ bc
  refine CStep.ownLe r0 fun bB => ?_
  refine cs rfl rfl aN ?_ ?_ <;> intro bG aN
  obtain ⟨bb, aN⟩ := chkb aN
  refine RStep.ofN (sl_str (lo := (some al)) (hi := none) rfl bb ?_)
  refine cb aN fun aW bj aN => cg0 (Jfz bj :) ?_
  refine eq_int (cs rfl rfl aN ?_ ?_) <;> intro bH aN
  refine nilE JN.enc 296 4 ?_
  exact eE (er aN hm)
  refine build_struct rfl rfl (cT (cT (cT (cT ?_))))
  refine bsO (len := 1) (enc := JN.enc) (l := [(⟨aW.1, aW.2.1, aU, aV⟩ : JN)]) (cl := [.int .i64 aW.1, str aW.2.1, .int .i64 aU, .int .i64 aV]) elT293 rfl rfl (fun _ _ => rfl) rfl rfl rfl ?_ fun bJ => ?_
  · conv => whnf
    refine cT ?_
    first | done | rfl
  obtain ⟨bo, aN⟩ := chkb aN
  refine apE rfl r1 elT293 (src_own' rfl r0 rfl (fun _ => rfl) (fun _ => rfl)) bo ?_
  intro bL bu bD
  refine ci aN fun aN => ?_
  refine ci aN fun aN => ?_
  exact eR aN (_, (_, _, _, _), _, _)
  refine ci aN fun aN => ?_
  refine ci aN fun aN => ?_
  exact eR aN (_, (_, _, _, _), _, _)
  refine cT ?_
  exact eM aN (_, _, _)
 rintro ⟨t0, aQ, aR⟩ ⟨aZ, _⟩ rfl j0
 replace hm := elg hm
 refine build_struct rfl rfl (cT (cT (cT (cT ?_))))
 refine bsO (len := 1) (enc := JN.enc) (l := [(⟨5, ([] : Str), t0.2.1, t0.2.2.1⟩ : JN)]) (cl := [.int .i64 5, str ([] : Str), .int .i64 t0.2.1, .int .i64 t0.2.2.1]) elT293 rfl rfl (fun _ _ => rfl) rfl rfl rfl ?_ fun bK => ?_
 · conv => whnf
   refine cT ?_
   first | done | rfl
 obtain ⟨bm, hm⟩ := chkb hm
 refine apE rfl r1 elT293 (src_own' rfl r0 rfl (fun _ => rfl) (fun _ => rfl)) bm ?_
 intro bE bt bN
 exact eE hm

def JbO (n : Nat) (s : Str) (kind : Int) : Option (Bool) :=
  (Jcf n s).bind fun x9 =>
  (if (decide (x9.2 = 0) && decide ((x9.1.length : Int) = 2)) then (ix x9.1 0).bind fun aR =>
  some (decide (aR.Ab = kind)) else some false).bind fun aN =>
  (if aN then (ix x9.1 0).bind fun aQ =>
  some (decide (aQ.Ac = s)) else some false).bind fun aU =>
  (if aU then (ix x9.1 0).bind fun aP =>
  some (decide (aP.Column = 1)) else some false).bind fun aV =>
  (if aV then (ix x9.1 1).bind fun aT =>
  (chk (InI ((s.length : Int) + 1))).bind fun _ =>
  some (decide (aT.Column = ((s.length : Int) + 1))) else some false).bind fun aM =>
  (if aM then (ix x9.1 1).bind fun aS =>
  some (decide (aS.Ad = 1)) else some false).bind fun aO =>
  some aO
theorem Jej {n : Nat} {s : Str} {kind : Int} {K : Hp} {r : Bool}
    (hm : JbO n s kind = some r)  :
    Fn Tryz.prog 195 [str s, .int .i64 kind] K [] (fun v K' H' => v = .bool r ∧ H' = []) := by
 refine Fn.enter Tryz.func195 Tryz.call195 rfl fun F => ?_
 unfold JbO at hm
 refine cb hm fun x9 q9 hm => ck0 (Jfm q9 :) ?_
 rintro _ _ _ ⟨bq, bo, rfl, aV, rfl⟩
 refine guard_go rfl ?_
 refine eq_int ?_
 refine cond_s ?_ ?_ <;> intro aR
 refine ct aR (ro (len_slice rfl (ct aR (eq_int (ct aR ?_)))))
 obtain ⟨br, aX, hm⟩ := bnd hm
 refine cond_s ?_ ?_ <;> intro aN
 replace aX := ift (and_t aR aN) aX
 refine ct aN ?_
 obtain ⟨bu, bj, a8, aX⟩ := ixb aX
 refine RStep.ofN (index_addr rfl rfl (hasO aV a8) bj (lt_ofE rfl bj a8) (ct aN (eptr_field rfl (hasO aV a8) (ct aN (ro (ld_own (i := (0 : Int).toNat) (o := 0) r0 rfl a8 rfl rfl (ct aN (ct aN (eq_int ?_)))))))))
 refine ct aN ?_
 obtain ⟨bm, aW, hm⟩ := bnd hm
 refine cond_s ?_ ?_ <;> intro aO
 replace aW := ift ((si aX).symm.trans aO) aW
 refine ct aO ?_
 obtain ⟨bA, bg, bb, aW⟩ := ixb aW
 refine RStep.ofN (index_addr rfl rfl (hasO aV bb) bg (lt_ofE rfl bg bb) (ct aO (eptr_field rfl (hasO aV bb) (ct aO (ro (ld_own (i := (0 : Int).toNat) (o := 1) r0 rfl bb rfl rfl (ct aO (ct aO (eq_str ?_)))))))))
 refine ct aO ?_
 obtain ⟨bd, aU, hm⟩ := bnd hm
 refine cond_s ?_ ?_ <;> intro aP
 replace aU := ift ((si aW).symm.trans aP) aU
 refine ct aP ?_
 obtain ⟨bt, bf, aZ, aU⟩ := ixb aU
 refine RStep.ofN (index_addr rfl rfl (hasO aV aZ) bf (lt_ofE rfl bf aZ) (ct aP (eptr_field rfl (hasO aV aZ) (ct aP (ro (ld_own (i := (0 : Int).toNat) (o := 3) r0 rfl aZ rfl rfl (ct aP (eq_int (ct aP ?_)))))))))
 obtain ⟨ba, aT, hm⟩ := bnd hm
 refine cond_s ?_ ?_ <;> intro aM
 replace aT := ift ((si aU).symm.trans aM) aT
 refine ct aM ?_
 obtain ⟨bw, bn, bc, aT⟩ := ixb aT
 refine RStep.ofN (index_addr rfl rfl (hasO aV bc) bn (lt_ofE rfl bn bc) (ct aM (eptr_field rfl (hasO aV bc) (ct aM (ro (ld_own (i := (1 : Int).toNat) (o := 3) r0 rfl bc rfl rfl (ct aM (ct aM (ro (len_str rfl ?_))))))))))
 refine ct aM ?_
 obtain ⟨bp, aT⟩ := chkb aT
 refine int_in bp (ct aM (eq_int (ct aM ?_)))
 obtain ⟨aY, aS, hm⟩ := bnd hm
 refine cond_s ?_ ?_ <;> intro aQ
 replace aS := ift ((si aT).symm.trans aQ) aS
 refine ct aQ ?_
 obtain ⟨bz, bh, a6, aS⟩ := ixb aS
 refine RStep.ofN (index_addr rfl rfl (hasO aV a6) bh (lt_ofE rfl bh a6) (ct aQ (eptr_field rfl (hasO aV a6) (ct aQ (ro (ld_own (i := (1 : Int).toNat) (o := 2) r0 rfl a6 rfl rfl (ct aQ (eq_int (ct aQ ?_)))))))))
 cases hm
 exact en lr ⟨(by rw [← (si aS)] <;> rfl), rfl⟩ (sc [1] rfl)
 replace aS := iff_ ((si aT).symm.trans aQ) aS
 refine cf aQ (cf aQ (cf aQ (cf aQ (cf aQ ?_))))
 cases hm
 exact en lr ⟨(by rw [← ((si aS).symm).symm] <;> rfl), rfl⟩ (sc [1] rfl)
 replace aT := iff_ ((si aU).symm.trans aM) aT
 refine cf aM (cf aM (cf aM (cf aM (cf aM (cf aM (cf aM (cf aM ?_)))))))
 obtain ⟨aY, aS, hm⟩ := bnd hm
 replace aS := iff_ (si aT).symm aS
 refine cF (cF (cF (cF (cF (cF ?_)))))
 cases hm
 exact en lr ⟨(by rw [← ((si aS).symm).symm] <;> rfl), rfl⟩ (sc [1] rfl)
 replace aU := iff_ ((si aW).symm.trans aP) aU
 refine cf aP (cf aP (cf aP (cf aP (cf aP ?_))))
 obtain ⟨ba, aT, hm⟩ := bnd hm
 replace aT := iff_ (si aU).symm aT
 refine cF (cF (cF (cF (cF (cF (cF (cF ?_)))))))
 refine cF ?_
 obtain ⟨aY, aS, hm⟩ := bnd hm
 replace aS := iff_ (si aT).symm aS
 refine cF (cF (cF (cF (cF (cF ?_)))))
 cases hm
 exact en lr ⟨(by rw [← ((si aS).symm).symm] <;> rfl), rfl⟩ (sc [1] rfl)
 replace aW := iff_ ((si aX).symm.trans aO) aW
 refine cf aO (cf aO (cf aO (cf aO (cf aO (cf aO ?_)))))
 obtain ⟨bd, aU, hm⟩ := bnd hm
 replace aU := iff_ (si aW).symm aU
 refine cF (cF (cF (cF (cF (cF ?_)))))
 obtain ⟨ba, aT, hm⟩ := bnd hm
 replace aT := iff_ (si aU).symm aT
 refine cF (cF (cF (cF (cF (cF (cF (cF ?_)))))))
 refine cF ?_
 obtain ⟨aY, aS, hm⟩ := bnd hm
 replace aS := iff_ (si aT).symm aS
 refine cF (cF (cF (cF (cF (cF ?_)))))
 cases hm
 exact en lr ⟨(by rw [← ((si aS).symm).symm] <;> rfl), rfl⟩ (sc [1] rfl)
 replace aX := iff_ (and_g aR aN) aX
 refine cf aN (cf aN (cf aN (cf aN (cf aN (cf aN ?_)))))
 obtain ⟨bm, aW, hm⟩ := bnd hm
 replace aW := iff_ (si aX).symm aW
 refine cF (cF (cF (cF (cF (cF (cF ?_))))))
 obtain ⟨bd, aU, hm⟩ := bnd hm
 replace aU := iff_ (si aW).symm aU
 refine cF (cF (cF (cF (cF (cF ?_)))))
 obtain ⟨ba, aT, hm⟩ := bnd hm
 replace aT := iff_ (si aU).symm aT
 refine cF (cF (cF (cF (cF (cF (cF (cF ?_)))))))
 refine cF ?_
 obtain ⟨aY, aS, hm⟩ := bnd hm
 replace aS := iff_ (si aT).symm aS
 refine cF (cF (cF (cF (cF (cF ?_)))))
 cases hm
 exact en lr ⟨(by rw [← ((si aS).symm).symm] <;> rfl), rfl⟩ (sc [1] rfl)
 refine cf aR (cf aR (cf aR ?_))
 obtain ⟨br, aX, hm⟩ := bnd hm
 replace aX := iff_ (and_f aR) aX
 refine cF (cF (cF (cF (cF (cF (cF ?_))))))
 obtain ⟨bm, aW, hm⟩ := bnd hm
 replace aW := iff_ (si aX).symm aW
 refine cF (cF (cF (cF (cF (cF (cF ?_))))))
 obtain ⟨bd, aU, hm⟩ := bnd hm
 replace aU := iff_ (si aW).symm aU
 refine cF (cF (cF (cF (cF (cF ?_)))))
 obtain ⟨ba, aT, hm⟩ := bnd hm
 replace aT := iff_ (si aU).symm aT
 refine cF (cF (cF (cF (cF (cF (cF (cF ?_)))))))
 refine cF ?_
 obtain ⟨aY, aS, hm⟩ := bnd hm
 replace aS := iff_ (si aT).symm aS
 refine cF (cF (cF (cF (cF (cF ?_)))))
 cases hm
 exact en lr ⟨(by rw [← ((si aS).symm).symm] <;> rfl), rfl⟩ (sc [1] rfl)

def Jbk (s : Str) : List UInt8 → Nat → Str → Option (Fl (Str × Bool) (Str))
  | [], _, ac => some (Fl.go ac)
  | e0 :: aN, i0, ac =>
    (if decide ((e0.toNat : Int) < 32) then some true else some (decide ((e0.toNat : Int) > 126))).bind fun aM =>
    if aM then
    some (Fl.ret (([] : Str), false))
    else
    (if decide ((e0.toNat : Int) = 34) then some true else some (decide ((e0.toNat : Int) = 92))).bind fun aO =>
    if aO then
    (chk (ac.length + ([(92 : UInt8)] : Str).length ≤ lim)).bind fun _ =>
    (chk (0 ≤ (i0 : Int) ∧ (i0 : Int) ≤ ((i0 : Int) + 1) ∧ ((i0 : Int) + 1) ≤ (s.length : Int))).bind fun _ =>
    (chk ((ac ++ ([(92 : UInt8)] : Str)).length + (subL s (i0 : Int) ((i0 : Int) + 1)).length ≤ lim)).bind fun _ =>
    Jbk s aN (i0 + 1) ((ac ++ ([(92 : UInt8)] : Str)) ++ (subL s (i0 : Int) ((i0 : Int) + 1)))
    else
    (chk (0 ≤ (i0 : Int) ∧ (i0 : Int) ≤ ((i0 : Int) + 1) ∧ ((i0 : Int) + 1) ≤ (s.length : Int))).bind fun _ =>
    (chk (ac.length + (subL s (i0 : Int) ((i0 : Int) + 1)).length ≤ lim)).bind fun _ =>
    Jbk s aN (i0 + 1) (ac ++ (subL s (i0 : Int) ((i0 : Int) + 1)))
def JdI (s : Str) : Option (Str × Bool) :=
  (chk (s.length ≤ szMax)).bind fun _ =>
  (Jbk s s 0 ([34] : Str)).bind fun s0 => s0.el some fun t0 =>
  (chk (t0.length + ([34] : Str).length ≤ lim)).bind fun _ =>
  some ((t0 ++ ([34] : Str)), true)
theorem Jfn {s : Str} {K : Hp} {r : Str × Bool}
    (hm : JdI s = some r)  :
    Fn Tryz.prog 197 [str s] K [] (fun v K' H' => v = .tuple #[str r.1, .bool r.2] ∧ H' = []) := by
 refine Fn.enter Tryz.func197 Tryz.call197 rfl fun F => ?_
 unfold JdI at hm
 refine ro (len_str rfl ?_)
 obtain ⟨aT, hm⟩ := chkb hm
 obtain ⟨s0, aM, hm⟩ := bnd hm
 refine lD (σ := (Str)) [2, 3, 4, 5, 8, 9, 10, 11, 12, 13, 14, 15, 16, 17, 18, 19, 20, 21, 22, 23, 24, 25, 26, 27, 28, 29, 30, 31, 32, 33, 34, 35, 36, 37, 38, 39, 40, 41, 42] [0] (fun i0 => [(8, .int .i64 (i0 : Int))]) (fun t0 => [(4, str t0)]) (fun _ => []) (fun _ => True) (fun i0 t0 => Jbk s (s.drop i0) i0 t0 = some s0) (fun t0 => s0 = Fl.go t0) (fun i0 => s.length - i0) 0 _ aM (And.intro qe (And.intro ?_ ?_))
 clear aM
 rintro i0 ac _ aM j0
 conv at aM => whnf
 refine cond_go rfl ?_
 refine cond_s ?_ ?_ <;> intro w0
 obtain ⟨e0, aQ, a8⟩ := ltx w0
 rw [a8, Jbk.eq_2] at aM
 refine block_go rfl ?_
 obtain ⟨aX, aP, aM⟩ := bnd aM
 refine jR (σ := Bool) [11, 12, 13, 14, 15, 16, 17, 18, 19, 20] (fun aR => [(20, .bool aR)]) (fun aR => aR = aX) ?_ ?_
 replace aP := bsm aP
 refine guard_go rfl ?_
 refine idx_str rfl (nn _) aQ ?_
 obtain ⟨a6, aU, aP⟩ := bnd aP
 refine cond_s ?_ ?_ <;> intro aN
 replace aU := ift aN aU
 refine ct aN (ct aN (ct aN (ct aN ?_)))
 exact mt (a6) ⟨(by rw [← ((si aU).symm).symm] <;> rfl), trivial⟩ rfl (pf rfl) lr (si aP)
 replace aU := iff_ aN aU
 refine cf aN (cf aN (idx_str rfl (nn _) aQ (cf aN (cf aN ?_))))
 exact mt (a6) ⟨(by rw [← (si aU)] <;> rfl), trivial⟩ rfl (pf rfl) lr (si aP)
 rintro aR rfl ba
 refine cs rfl rfl aM ?_ ?_ <;> intro bd aM
 exact eE (er aM hm)
 refine guard_go rfl ?_
 refine idx_str rfl (nn _) aQ (eq_int ?_)
 obtain ⟨bf, aS, aM⟩ := bnd aM
 refine cond_s ?_ ?_ <;> intro aO
 replace aS := ift aO aS
 refine ct aO (ct aO (ct aO (ct aO (cond_go rfl (cT ?_)))))
 replace aM := ift (si aS).symm aM
 refine bsO (len := 1) (enc := eU) (l := ([(92 : UInt8)] : Str)) (cl := [.int .u8 92]) elT130 rfl rfl (fun _ _ => rfl) rfl rfl rfl ?_ fun bb => ?_
 · conv => whnf
   refine cT ?_
   first | done | rfl
 refine ro (cv_ownE rfl r0 rfl rfl rfl ?_)
 obtain ⟨aY, aM⟩ := chkb aM
 refine cat_str aY ?_
 refine int_in (cntz aQ aT) ?_
 obtain ⟨aW, aM⟩ := chkb aM
 refine RStep.ofN (sl_str (lo := (some (i0 : Int))) (hi := (some ((i0 : Int) + 1))) rfl aW ?_)
 obtain ⟨aV, aM⟩ := chkb aM
 refine cat_str aV ?_
 refine int_in (cntz aQ aT) ?_
 exact eR aM (_, _)
 replace aS := iff_ aO aS
 refine cf aO (cf aO (idx_str rfl (nn _) aQ (cf aO (eq_int (cf aO (cond_go rfl ?_))))))
 refine cond_s ?_ ?_ <;> intro aZ
 replace aM := ift ((si aS).symm.trans aZ) aM
 refine bsO (len := 1) (enc := eU) (l := ([(92 : UInt8)] : Str)) (cl := [.int .u8 92]) elT130 rfl rfl (fun _ _ => rfl) rfl rfl rfl ?_ fun bb => ?_
 · conv => whnf
   refine cT ?_
   first | done | rfl
 refine ro (cv_ownE rfl r0 rfl rfl rfl ?_)
 obtain ⟨aY, aM⟩ := chkb aM
 refine cat_str aY ?_
 refine int_in (cntz aQ aT) ?_
 obtain ⟨aW, aM⟩ := chkb aM
 refine RStep.ofN (sl_str (lo := (some (i0 : Int))) (hi := (some ((i0 : Int) + 1))) rfl aW ?_)
 obtain ⟨aV, aM⟩ := chkb aM
 refine cat_str aV ?_
 refine int_in (cntz aQ aT) ?_
 exact eR aM (_, _)
 replace aM := iff_ ((si aS).symm.trans aZ) aM
 refine int_in (cntz aQ aT) ?_
 obtain ⟨aW, aM⟩ := chkb aM
 refine RStep.ofN (sl_str (lo := (some (i0 : Int))) (hi := (some ((i0 : Int) + 1))) rfl aW ?_)
 obtain ⟨aV, aM⟩ := chkb aM
 refine cat_str aV ?_
 refine int_in (cntz aQ aT) ?_
 exact eR aM (_, _)
 rw [lty w0, Jbk.eq_1] at aM
 refine cT ?_
 exact eM aM _
 rintro t0 _ rfl j0
 replace hm := elg hm
 obtain ⟨bc, hm⟩ := chkb hm
 refine cat_str bc ?_
 exact eE hm

def Jbr (s : Str) : Option (Bool) :=
  (JdI s).bind fun x7 =>
  some x7.2
theorem JcK {s : Str} {K : Hp} {r : Bool}
    (hm : Jbr s = some r)  :
    Fn Tryz.prog 164 [str s] K [] (fun v K' H' => v = .bool r ∧ H' = []) := by
 refine Fn.enter Tryz.func164 Tryz.call164 rfl fun F => ?_
 unfold Jbr at hm
 refine cb hm fun x7 q7 hm => cg0 (Jfn q7 :) ?_
 exact eE hm
