/- Functions of the program: mirrors, and that a call returns what the mirror says. Printed by gen.py. -/
import Derived.Test.YtmpdebfckeahmaaGreatDoorG1
set_option linter.unusedVariables false
set_option linter.unusedSimpArgs false
open Go Go.SL Go.Proofs
noncomputable section
set_option maxRecDepth 1000000
set_option maxHeartbeats 8000000
def Jcq (a : Int) (b : Int) : Option (Jc) :=
  if (decide (a = 0) || decide (b = 0)) then
  (Jbw 0).bind fun aP =>
  some aP
  else
  (chk (InI (-a))).bind fun _ =>
  (chk (InI (-b))).bind fun _ =>
  (chk ((max b (-b)) ≠ 0 ∧ InI (Int.tdiv 1099511627776 (max b (-b))))).bind fun _ =>
  ((if decide ((max a (-a)) > (Int.tdiv 1099511627776 (max b (-b)))) then
  some (1099511627776, 1)
  else
  some ((max a (-a)), (max b (-b))) : Option (Int × Int))).bind fun aM =>
  if (!((decide (a < 0)) == (decide (b < 0)))) then
  (chk (InI (-aM.1))).bind fun _ =>
  (chk (InI ((-aM.1) * aM.2))).bind fun _ =>
  (Jbw ((-aM.1) * aM.2)).bind fun aN =>
  some aN
  else
  (chk (InI (aM.1 * aM.2))).bind fun _ =>
  (Jbw (aM.1 * aM.2)).bind fun aO =>
  some aO
theorem JeH {a : Int} {b : Int} {K : Hp} {r : Jc}
    (hm : Jcq a b = some r)  :
    Fn Tryz.prog 109 [.int .i64 a, .int .i64 b] K [] (fun v K' H' => v = .agg #[.int .i64 r.kind, .int .i64 r.n, str r.s, .bool r.At] ∧ H' = []) := by
 refine Fn.enter Tryz.func109 Tryz.call109 rfl fun F => ?_
 unfold Jcq at hm
 refine alloc_rule rfl fun b4 => ?_
 refine jR (σ := Unit) [8, 9, 10, 11, 12, 13] (fun _ => [(13, .bool (decide (a = 0) || decide (b = 0)))]) (fun aX => True) ?_ ?_
 refine guard_go rfl ?_
 refine eq_int ?_
 refine cond_s ?_ ?_ <;> intro aM
 refine ct aM (ct aM ?_)
 exact mt (()) ⟨(by rw [← ((or_t aM)).symm] <;> rfl), trivial⟩ rfl (pf rfl) lr trivial
 refine cf aM (eq_int (cf aM ?_))
 exact mt (()) ⟨(by rw [← (or_e (b := decide (b = 0)) aM)] <;> rfl), trivial⟩ rfl (pf rfl) lr trivial
 rintro _ _ aY
 refine cs rfl rfl hm ?_ ?_ <;> intro bc hm
 refine cb hm fun a6 aR hm => cg0 (Jbd aR :) ?_
 refine store_rule r0 rfl ⟨rfl, rfl, (nl rfl), ?_⟩
 exact ro (loadn_s r0 rfl (nl rfl) (eE hm))
 refine neq_bool rfl ?_
 obtain ⟨aS, hm⟩ := chkb hm
 refine un_neg aS ?_
 refine ro (max_int ?_)
 obtain ⟨aW, hm⟩ := chkb hm
 refine un_neg aW ?_
 refine ro (max_int ?_)
 obtain ⟨aQ, hm⟩ := chkb hm
 refine quo_t aQ.1 aQ.2 ?_
 obtain ⟨aP, aN, hm⟩ := bnd hm
 refine jD (σ := (Int × Int)) [6, 7] [0, 1] (fun aO => [(6, .int .i64 aO.1), (7, .int .i64 aO.2)]) (fun aO => []) (fun aO => aO = aP) (And.intro ?_ ?_)
 refine cs rfl rfl aN ?_ ?_ <;> intro ba aN
 exact eM aN _
 exact eM aN _
 rintro aO rfl aV
 refine cs rfl rfl hm ?_ ?_ <;> intro bb hm
 obtain ⟨aT, hm⟩ := chkb hm
 refine un_neg aT ?_
 refine ci hm fun hm => ?_
 refine cb hm fun a8 aZ hm => cg0 (Jbd aZ :) ?_
 refine store_rule r0 rfl ⟨rfl, rfl, (nl rfl), ?_⟩
 exact ro (loadn_s r0 rfl (nl rfl) (eE hm))
 refine ci hm fun hm => ?_
 refine cb hm fun bd aU hm => cg0 (Jbd aU :) ?_
 refine store_rule r0 rfl ⟨rfl, rfl, (nl rfl), ?_⟩
 exact ro (loadn_s r0 rfl (nl rfl) (eE hm))

def Jaz (s : Str) (suffix : Str) : Option (Bool) :=
  (if decide ((s.length : Int) ≥ (suffix.length : Int)) then (chk (InI ((s.length : Int) - (suffix.length : Int)))).bind fun _ =>
  (chk (0 ≤ ((s.length : Int) - (suffix.length : Int)) ∧ ((s.length : Int) - (suffix.length : Int)) ≤ (s.length : Int) ∧ (s.length : Int) ≤ (s.length : Int))).bind fun _ =>
  some (decide ((subL s ((s.length : Int) - (suffix.length : Int)) (s.length : Int)) = suffix)) else some false).bind fun aM =>
  some aM
theorem JcH {s : Str} {suffix : Str} {K : Hp} {r : Bool}
    (hm : Jaz s suffix = some r)  :
    Fn Tryz.prog 147 [str s, str suffix] K [] (fun v K' H' => v = .bool r ∧ H' = []) := by
 refine Fn.enter Tryz.func147 Tryz.call147 rfl fun F => ?_
 unfold Jaz at hm
 refine guard_go rfl ?_
 refine ro (len_str rfl (ro (len_str rfl ?_)))
 obtain ⟨aQ, aN, hm⟩ := bnd hm
 refine cond_s ?_ ?_ <;> intro aM
 replace aN := ift aM aN
 refine ct aM (ct aM (ro (len_str rfl (ct aM (ct aM (ro (len_str rfl (ct aM ?_))))))))
 obtain ⟨aO, aN⟩ := chkb aN
 refine int_in aO (ct aM ?_)
 obtain ⟨aP, aN⟩ := chkb aN
 refine RStep.ofN (sl_str (lo := (some ((s.length : Int) - (suffix.length : Int)))) (hi := none) rfl aP (ct aM (ct aM (eq_str (ct aM ?_)))))
 cases hm
 exact en lr ⟨(by rw [← (si aN)] <;> rfl), rfl⟩ (pf rfl)
 replace aN := iff_ aM aN
 refine cf aM (cf aM (cf aM (cf aM (cf aM (cf aM (cf aM (cf aM ?_)))))))
 refine cf aM ?_
 cases hm
 exact en lr ⟨(by rw [← ((si aN).symm).symm] <;> rfl), rfl⟩ (pf rfl)

def JbS (s : Str) (suffix : Str) : Option (Bool) :=
  (Jaz s suffix).bind fun x7 =>
  some x7
theorem Jea {s : Str} {suffix : Str} {K : Hp} {r : Bool}
    (hm : JbS s suffix = some r)  :
    Fn Tryz.prog 110 [str s, str suffix] K [] (fun v K' H' => v = .bool r ∧ H' = []) := by
 refine Fn.enter Tryz.func110 Tryz.call110 rfl fun F => ?_
 unfold JbS at hm
 refine cb hm fun x7 q7 hm => cg0 (JcH q7 :) ?_
 exact eE hm

def JR (op : Str) (a : Jc) (b : Jc) : Option (Jc × Bool) :=
  if decide (a.kind ≠ b.kind) then
  some ((⟨0, 0, ([] : Str), false⟩ : Jc), false)
  else
  if decide (op = ([43] : Str)) then
  if decide (a.kind = 1) then
  (chk (a.s.length + b.s.length ≤ lim)).bind fun _ =>
  (Jaw (a.s ++ b.s)).bind fun aT =>
  some (aT, true)
  else
  (chk (InI (a.n + b.n))).bind fun _ =>
  (Jbw (a.n + b.n)).bind fun aV =>
  some (aV, decide (a.kind = 2))
  else
  if decide (op = ([45] : Str)) then
  (chk (InI (a.n - b.n))).bind fun _ =>
  (Jbw (a.n - b.n)).bind fun aS =>
  some (aS, decide (a.kind = 2))
  else
  if decide (op = ([42] : Str)) then
  if (!decide (a.kind = 2)) then
  some ((⟨0, 0, ([] : Str), false⟩ : Jc), false)
  else
  (Jcq a.n b.n).bind fun aU =>
  some (aU, true)
  else
  if decide (op = ([61, 61] : Str)) then
  (Jay (decide (a.kind = b.kind) && (decide (a.n = b.n) && (decide (a.s = b.s) && (a.At == b.At))))).bind fun aW =>
  some (aW, true)
  else
  if decide (op = ([33, 61] : Str)) then
  (Jay (!(decide (a.kind = b.kind) && (decide (a.n = b.n) && (decide (a.s = b.s) && (a.At == b.At)))))).bind fun aQ =>
  some (aQ, true)
  else
  if decide (op = ([60] : Str)) then
  (Jay (decide (a.n < b.n))).bind fun aZ =>
  some (aZ, decide (a.kind = 2))
  else
  if decide (op = ([60, 61] : Str)) then
  (Jay (decide (a.n ≤ b.n))).bind fun aY =>
  some (aY, decide (a.kind = 2))
  else
  if decide (op = ([115, 116, 97, 114, 116, 115] : Str)) then
  (J1 a.s b.s).bind fun aR =>
  (Jay aR).bind fun aX =>
  some (aX, decide (a.kind = 1))
  else
  if decide (op = ([101, 110, 100, 115] : Str)) then
  (JbS a.s b.s).bind fun aN =>
  (Jay aN).bind fun aM =>
  some (aM, decide (a.kind = 1))
  else
  (containsM a.s b.s).bind fun aP =>
  (Jay aP).bind fun aO =>
  some (aO, decide (a.kind = 1))
theorem Jdx {op : Str} {a : Jc} {b : Jc} {K : Hp} {r : Jc × Bool}
    (hm : JR op a b = some r) (hG : GG K) :
    Fn Tryz.prog 67 [str op, .agg #[.int .i64 a.kind, .int .i64 a.n, str a.s, .bool a.At], .agg #[.int .i64 b.kind, .int .i64 b.n, str b.s, .bool b.At]] K [] (fun v K' H' => v = .tuple #[.agg #[.int .i64 r.1.kind, .int .i64 r.1.n, str r.1.s, .bool r.1.At], .bool r.2] ∧ H' = []) := by
 refine Fn.enter Tryz.func67 Tryz.call67 rfl fun F => ?_
 unfold JR at hm
 refine box_rule ?_
 intro b4
 refine box_rule ?_
 intro b5
 refine alloc_rule rfl fun b6 => ?_
 refine fa rfl (ro (ld r2 rfl rfl (fa rfl (ro (ld r1 rfl rfl (neq_int ?_))))))
 refine cs rfl rfl hm ?_ ?_ <;> intro bz hm
 refine build_struct rfl rfl ?_
 refine store_rule r0 rfl ⟨rfl, rfl, (nl rfl), ?_⟩
 exact ro (loadn_s r0 rfl (nl rfl) (eE hm))
 refine draw_go ⟨⟨[], false⟩, _, [(_, _)], []⟩ (by kernel_rfl) ⟨Hp.Le.refl _, (sc [2] rfl), ci0⟩ ?_
 refine fa rfl (load1_l m0 rfl rfl (eq_int (fa rfl (load1_l m0 rfl rfl (eq_int ?_)))))
 refine block_go rfl ?_
 refine eq_str (cs rfl rfl hm ?_ ?_) <;> intro bA hm
 refine cs rfl rfl hm ?_ ?_ <;> intro bB hm
 refine fa rfl (ro (ld r2 rfl rfl (fa rfl (ro (ld r1 rfl rfl ?_)))))
 obtain ⟨aZ, hm⟩ := chkb hm
 refine cat_str aZ ?_
 refine cb hm fun bt a6 hm => cg0 (Jaj a6 :) ?_
 refine store_rule r0 rfl ⟨rfl, rfl, (nl rfl), ?_⟩
 exact ro (loadn_s r0 rfl (nl rfl) (eE hm))
 refine fa rfl (ro (ld r2 rfl rfl (fa rfl (ro (ld r1 rfl rfl ?_)))))
 refine ci hm fun hm => ?_
 refine cb hm fun bh aV hm => cg0 (Jbd aV :) ?_
 refine store_rule r0 rfl ⟨rfl, rfl, (nl rfl), ?_⟩
 exact ro (loadn_s r0 rfl (nl rfl) (eE hm))
 refine eq_str (cs rfl rfl hm ?_ ?_) <;> intro bf hm
 refine fa rfl (ro (ld r2 rfl rfl (fa rfl (ro (ld r1 rfl rfl ?_)))))
 refine ci hm fun hm => ?_
 refine cb hm fun bd aS hm => cg0 (Jbd aS :) ?_
 refine store_rule r0 rfl ⟨rfl, rfl, (nl rfl), ?_⟩
 exact ro (loadn_s r0 rfl (nl rfl) (eE hm))
 refine eq_str (cs rfl rfl hm ?_ ?_) <;> intro bm hm
 refine un_not ?_
 refine cs rfl rfl hm ?_ ?_ <;> intro bF hm
 refine build_struct rfl rfl ?_
 refine store_rule r0 rfl ⟨rfl, rfl, (nl rfl), ?_⟩
 exact ro (loadn_s r0 rfl (nl rfl) (eE hm))
 refine fa rfl (ro (ld r2 rfl rfl (fa rfl (ro (ld r1 rfl rfl ?_)))))
 refine cb hm fun bg aU hm => cg0 (JeH aU :) ?_
 refine store_rule r0 rfl ⟨rfl, rfl, (nl rfl), ?_⟩
 exact ro (loadn_s r0 rfl (nl rfl) (eE hm))
 refine eq_str (cs rfl rfl hm ?_ ?_) <;> intro bu hm
 refine ro (loadn_s r2 rfl (nl rfl) (ro (loadn_s r1 rfl (nl rfl) ?_)))
 refine eq_agg (b := (decide (a.kind = b.kind) && (decide (a.n = b.n) && (decide (a.s = b.s) && (a.At == b.At))))) rfl (by kernel_rfl) (by kernel_rfl) (by kernel_rfl) rfl ?_
 refine cb hm fun bG aR hm => cg0 (Jap aR :) ?_
 refine store_rule r0 rfl ⟨rfl, rfl, (nl rfl), ?_⟩
 exact ro (loadn_s r0 rfl (nl rfl) (eE hm))
 refine eq_str (cs rfl rfl hm ?_ ?_) <;> intro bC hm
 refine ro (loadn_s r2 rfl (nl rfl) (ro (loadn_s r1 rfl (nl rfl) ?_)))
 refine neq_agg (b := (decide (a.kind = b.kind) && (decide (a.n = b.n) && (decide (a.s = b.s) && (a.At == b.At))))) rfl (by kernel_rfl) (by kernel_rfl) (by kernel_rfl) rfl ?_
 refine cb hm fun bp aW hm => cg0 (Jap aW :) ?_
 refine store_rule r0 rfl ⟨rfl, rfl, (nl rfl), ?_⟩
 exact ro (loadn_s r0 rfl (nl rfl) (eE hm))
 refine eq_str (cs rfl rfl hm ?_ ?_) <;> intro bj hm
 refine fa rfl (ro (ld r2 rfl rfl (fa rfl (ro (ld r1 rfl rfl ?_)))))
 refine cb hm fun bo aY hm => cg0 (Jap aY :) ?_
 refine store_rule r0 rfl ⟨rfl, rfl, (nl rfl), ?_⟩
 exact ro (loadn_s r0 rfl (nl rfl) (eE hm))
 refine eq_str (cs rfl rfl hm ?_ ?_) <;> intro bE hm
 refine fa rfl (ro (ld r2 rfl rfl (fa rfl (ro (ld r1 rfl rfl ?_)))))
 refine cb hm fun bD ba hm => cg0 (Jap ba :) ?_
 refine store_rule r0 rfl ⟨rfl, rfl, (nl rfl), ?_⟩
 exact ro (loadn_s r0 rfl (nl rfl) (eE hm))
 refine eq_str (cs rfl rfl hm ?_ ?_) <;> intro bw hm
 refine fa rfl (ro (ld r2 rfl rfl (fa rfl (ro (ld r1 rfl rfl ?_)))))
 refine cb hm fun bq aT hm => cg0 (Jbc aT :) ?_
 refine cb hm fun bn aQ hm => cg0 (Jap aQ :) ?_
 refine store_rule r0 rfl ⟨rfl, rfl, (nl rfl), ?_⟩
 exact ro (loadn_s r0 rfl (nl rfl) (eE hm))
 refine eq_str (cs rfl rfl hm ?_ ?_) <;> intro br hm
 refine fa rfl (ro (ld r2 rfl rfl (fa rfl (ro (ld r1 rfl rfl ?_)))))
 refine cb hm fun aX aP hm => cg0 (Jea aP :) ?_
 refine cb hm fun a8 aN hm => cg0 (Jap aN :) ?_
 refine store_rule r0 rfl ⟨rfl, rfl, (nl rfl), ?_⟩
 exact ro (loadn_s r0 rfl (nl rfl) (eE hm))
 refine fa rfl (ro (ld r2 rfl rfl (fa rfl (ro (ld r1 rfl rfl ?_)))))
 refine cb hm fun bc aM hm => cg0 (contains_ok aM (gg3 hG)) ?_
 refine cb hm fun bb aO hm => cg0 (Jap aO :) ?_
 refine store_rule r0 rfl ⟨rfl, rfl, (nl rfl), ?_⟩
 exact ro (loadn_s r0 rfl (nl rfl) (eE hm))

def syntax_tchar (c : UInt8) : Option (Bool) :=
  if (decide ((c.toNat : Int) ≥ 48) && decide ((c.toNat : Int) ≤ 57)) then
  some true
  else
  if (decide ((c.toNat : Int) ≥ 97) && decide ((c.toNat : Int) ≤ 122)) then
  some true
  else
  if (decide ((c.toNat : Int) ≥ 65) && decide ((c.toNat : Int) ≤ 90)) then
  some true
  else
  (ixByteM ([33, 35, 36, 37, 38, 39, 42, 43, 45, 46, 94, 95, 96, 124, 126] : Str) c).bind fun aM =>
  some (decide (aM ≥ 0))
theorem syntax_tchar_ok {c : UInt8} {K : Hp} {r : Bool}
    (hm : syntax_tchar c = some r)  :
    Fn Tryz.prog 213 [.int .u8 (c.toNat : Int)] K [] (fun v K' H' => v = .bool r ∧ H' = []) := by
 refine Fn.enter Tryz.func213 Tryz.call213 rfl fun F => ?_
 unfold syntax_tchar at hm
 refine block_go rfl ?_
 refine jR (σ := Unit) [3, 4, 5, 6, 7, 8, 9] (fun _ => [(3, .bool (decide ((c.toNat : Int) ≥ 48) && decide ((c.toNat : Int) ≤ 57)))]) (fun aR => True) ?_ ?_
 refine guard_go rfl ?_
 refine cond_s ?_ ?_ <;> intro aO
 refine ct aO (ct aO ?_)
 exact mt (()) ⟨(by rw [← (and_e (b := decide ((c.toNat : Int) ≤ 57)) aO)] <;> rfl), trivial⟩ rfl (pf rfl) lr trivial
 refine cf aO (cf aO ?_)
 exact mt (()) ⟨(by rw [← ((and_f aO)).symm] <;> rfl), trivial⟩ rfl (pf rfl) lr trivial
 rintro _ _ aS
 refine cs rfl rfl hm ?_ ?_ <;> intro w3 hm
 refine cond_go rfl (ct w3 ?_)
 exact eE hm
 refine guard_go rfl ?_
 refine cond_s ?_ ?_ <;> intro aN
 refine ct aN (ct aN (cond_go rfl ?_))
 refine cond_s ?_ ?_ <;> intro w3
 replace hm := ift (and_t aN w3) hm
 refine cond_go rfl (ct w3 ?_)
 exact eE hm
 replace hm := iff_ (and_g aN w3) hm
 refine guard_go rfl ?_
 refine cond_s ?_ ?_ <;> intro aM
 refine ct aM (ct aM (cond_go rfl ?_))
 refine cond_s ?_ ?_ <;> intro w3
 replace hm := ift (and_t aM w3) hm
 exact eE hm
 replace hm := iff_ (and_g aM w3) hm
 refine cb hm fun aQ aP hm => cg0 (ixb_ok aP) ?_
 exact eE hm
 refine cf aM (cf aM (cond_go rfl (cF ?_)))
 replace hm := iff_ (and_f aM) hm
 refine cb hm fun aQ aP hm => cg0 (ixb_ok aP) ?_
 exact eE hm
 refine cf aN (cf aN (cond_go rfl (cF ?_)))
 replace hm := iff_ (and_f aN) hm
 refine guard_go rfl ?_
 refine cond_s ?_ ?_ <;> intro aM
 refine ct aM (ct aM (cond_go rfl ?_))
 refine cond_s ?_ ?_ <;> intro w3
 replace hm := ift (and_t aM w3) hm
 exact eE hm
 replace hm := iff_ (and_g aM w3) hm
 refine cb hm fun aQ aP hm => cg0 (ixb_ok aP) ?_
 exact eE hm
 refine cf aM (cf aM (cond_go rfl (cF ?_)))
 replace hm := iff_ (and_f aM) hm
 refine cb hm fun aQ aP hm => cg0 (ixb_ok aP) ?_
 exact eE hm

def syntax_Token_L0 : List UInt8 → Nat → Option (Fl (Bool) (Unit))
  | [], _ => some (Fl.go ())
  | e0 :: aM, i0 =>
    (syntax_tchar e0).bind fun ax =>
    if (!ax) then
    some (Fl.ret false)
    else
    syntax_Token_L0 aM (i0 + 1)
def syntax_Token (s : Str) : Option (Bool) :=
  (chk (s.length ≤ szMax)).bind fun _ =>
  (syntax_Token_L0 s 0).bind fun s0 => s0.el some fun t0 =>
  some (decide (s ≠ ([] : Str)))
theorem syntax_Token_ok {s : Str} {K : Hp} {r : Bool}
    (hm : syntax_Token s = some r)  :
    Fn Tryz.prog 183 [str s] K [] (fun v K' H' => v = .bool r ∧ H' = []) := by
 refine Fn.enter Tryz.func183 Tryz.call183 rfl fun F => ?_
 unfold syntax_Token at hm
 refine ro (len_str rfl ?_)
 obtain ⟨aP, hm⟩ := chkb hm
 obtain ⟨s0, aM, hm⟩ := bnd hm
 refine lD (σ := (Unit)) [2, 3, 6, 7, 8, 9, 10, 11, 12, 13, 14] [0] (fun i0 => [(6, .int .i64 (i0 : Int))]) (fun _ => []) (fun _ => []) (fun _ => True) (fun i0 _ => syntax_Token_L0 (s.drop i0) i0 = some s0) (fun t0 => s0 = Fl.go t0) (fun i0 => s.length - i0) 0 () aM (And.intro qe (And.intro ?_ ?_))
 clear aM
 rintro i0 _ _ aM j0
 conv at aM => whnf
 refine cond_go rfl ?_
 refine cond_s ?_ ?_ <;> intro w0
 obtain ⟨e0, aN, aO⟩ := ltx w0
 rw [aO, syntax_Token_L0.eq_2] at aM
 refine block_go rfl ?_
 refine idx_str rfl (nn _) aN ?_
 refine cb aM fun ax aQ aM => cg0 (syntax_tchar_ok aQ :) ?_
 refine un_not ?_
 refine cs rfl rfl aM ?_ ?_ <;> intro aR aM
 exact eE (er aM hm)
 refine int_in (cntz aN aP) ?_
 exact eR aM (_, ())
 rw [lty w0, syntax_Token_L0.eq_1] at aM
 refine cT ?_
 exact eM aM _
 rintro t0 _ rfl j0
 replace hm := elg hm
 refine neq_str ?_
 exact eE hm

def Jdy (s : Str) : Option (Str × Err) :=
  (syntax_Token s).bind fun x5 =>
  if (!x5) then
  some (([] : Str), (some 8))
  else
  if decide ((s.length : Int) > 64) then
  some (([] : Str), (some 5))
  else
  (JbX s).bind fun aM =>
  some (aM, none)
theorem Jfv {s : Str} {K : Hp} {r : Str × Err}
    (hm : Jdy s = some r)  :
    Fn Tryz.prog 150 [str s] K [] (fun v K' H' => v = .tuple #[str r.1, errV 87 r.2] ∧ H' = []) := by
 refine Fn.enter Tryz.func150 Tryz.call150 rfl fun F => ?_
 unfold Jdy at hm
 refine cb hm fun x5 q5 hm => cg0 (syntax_Token_ok q5 :) ?_
 refine un_not ?_
 refine cs rfl rfl hm ?_ ?_ <;> intro w6 hm
 refine mk_iface rfl ?_
 exact eE hm
 refine ro (len_str rfl ?_)
 refine cs rfl rfl hm ?_ ?_ <;> intro aO hm
 refine mk_iface rfl ?_
 exact eE hm
 refine cb hm fun aN aM hm => cg0 (Jcp aM :) ?_
 exact eE hm

def Ja8 : List UInt8 → Nat → Option (Fl (Bool) (Unit))
  | [], _ => some (Fl.go ())
  | e0 :: aO, i0 =>
    (if decide ((e0.toNat : Int) < 32) then some (decide ((e0.toNat : Int) ≠ 9)) else some false).bind fun aN =>
    (if aN then some true else some (decide ((e0.toNat : Int) = 127))).bind fun aM =>
    if aM then
    some (Fl.ret true)
    else
    Ja8 aO (i0 + 1)
def JcI (s : Str) : Option (Bool) :=
  (chk (s.length ≤ szMax)).bind fun _ =>
  (Ja8 s 0).bind fun s0 => s0.el some fun t0 =>
  some false
theorem JeY {s : Str} {K : Hp} {r : Bool}
    (hm : JcI s = some r)  :
    Fn Tryz.prog 184 [str s] K [] (fun v K' H' => v = .bool r ∧ H' = []) := by
 refine Fn.enter Tryz.func184 Tryz.call184 rfl fun F => ?_
 unfold JcI at hm
 refine ro (len_str rfl ?_)
 obtain ⟨aT, hm⟩ := chkb hm
 obtain ⟨s0, aO, hm⟩ := bnd hm
 refine lD (σ := (Unit)) [2, 3, 6, 7, 8, 9, 10, 11, 12, 13, 14, 15, 16, 17, 18, 19, 20, 21, 22, 23, 24, 25] [0] (fun i0 => [(6, .int .i64 (i0 : Int))]) (fun _ => []) (fun _ => []) (fun _ => True) (fun i0 _ => Ja8 (s.drop i0) i0 = some s0) (fun t0 => s0 = Fl.go t0) (fun i0 => s.length - i0) 0 () aO (And.intro qe (And.intro ?_ ?_))
 clear aO
 rintro i0 _ _ aO j0
 conv at aO => whnf
 refine cond_go rfl ?_
 refine cond_s ?_ ?_ <;> intro w0
 obtain ⟨e0, aR, aU⟩ := ltx w0
 rw [aU, Ja8.eq_2] at aO
 refine block_go rfl ?_
 refine guard_go rfl ?_
 refine idx_str rfl (nn _) aR ?_
 obtain ⟨aW, aQ, aO⟩ := bnd aO
 refine cond_s ?_ ?_ <;> intro aN
 replace aQ := ift aN aQ
 refine ct aN (ct aN (idx_str rfl (nn _) aR (ct aN (neq_int (ct aN ?_)))))
 obtain ⟨aV, aP, aO⟩ := bnd aO
 refine cond_s ?_ ?_ <;> intro aM
 replace aP := ift ((si aQ).symm.trans aM) aP
 refine ct aM (ct aM (ct aM (ct aM (cond_go rfl (cT ?_)))))
 replace aO := ift (si aP).symm aO
 exact eE (er aO hm)
 replace aP := iff_ ((si aQ).symm.trans aM) aP
 refine cf aM (cf aM (idx_str rfl (nn _) aR (cf aM (eq_int (cf aM (cond_go rfl ?_))))))
 refine cond_s ?_ ?_ <;> intro aS
 replace aO := ift ((si aP).symm.trans aS) aO
 exact eE (er aO hm)
 replace aO := iff_ ((si aP).symm.trans aS) aO
 refine int_in (cntz aR aT) ?_
 exact eR aO (_, ())
 replace aQ := iff_ aN aQ
 refine cf aN (cf aN (cf aN (cf aN ?_)))
 obtain ⟨aV, aP, aO⟩ := bnd aO
 replace aP := iff_ (si aQ).symm aP
 refine cF (cF (cF (idx_str rfl (nn _) aR (cF (eq_int (cF (cond_go rfl ?_)))))))
 refine cond_s ?_ ?_ <;> intro aS
 replace aO := ift ((si aP).symm.trans aS) aO
 exact eE (er aO hm)
 replace aO := iff_ ((si aP).symm.trans aS) aO
 refine int_in (cntz aR aT) ?_
 exact eR aO (_, ())
 rw [lty w0, Ja8.eq_1] at aO
 refine cT ?_
 exact eM aO _
 rintro t0 _ rfl j0
 replace hm := elg hm
 exact eE hm

def Jc8 (s : Str) : Option (Str × Err) :=
  (JcI s).bind fun x5 =>
  if x5 then
  some (([] : Str), (some 2))
  else
  (trimM s ([32, 9] : Str)).bind fun x8 =>
  if decide ((x8.length : Int) > 2048) then
  some (([] : Str), (some 5))
  else
  some (x8, none)
theorem Jfg {s : Str} {K : Hp} {r : Str × Err}
    (hm : Jc8 s = some r)  :
    Fn Tryz.prog 151 [str s] K [] (fun v K' H' => v = .tuple #[str r.1, errV 87 r.2] ∧ H' = []) := by
 refine Fn.enter Tryz.func151 Tryz.call151 rfl fun F => ?_
 unfold Jc8 at hm
 refine cb hm fun x5 q5 hm => cg0 (JeY q5 :) ?_
 refine cs rfl rfl hm ?_ ?_ <;> intro w5 hm
 refine mk_iface rfl ?_
 exact eE hm
 refine cb hm fun x8 q8 hm => cg0 (trim_ok q8) ?_
 refine ro (len_str rfl ?_)
 refine cs rfl rfl hm ?_ ?_ <;> intro aM hm
 refine mk_iface rfl ?_
 exact eE hm
 exact eE hm

def Jbi (ax : Str) (value : Str) : List Jd → Nat → (List Jd) → Bool → Option ((List Jd) × Bool)
  | [], _, ac, aM => some (ac, aM)
  | e0 :: aN, i0, ac, aM =>
    (JbX e0.Name).bind fun aO =>
    if decide (aO ≠ ax) then
    (chk (ac.length + [e0].length ≤ lim)).bind fun _ =>
    Jbi ax value aN (i0 + 1) (ac ++ [e0]) aM
    else
    if (!aM) then
    (chk (ac.length + [(⟨ax, value⟩ : Jd)].length ≤ lim)).bind fun _ =>
    Jbi ax value aN (i0 + 1) (ac ++ [(⟨ax, value⟩ : Jd)]) true
    else
    Jbi ax value aN (i0 + 1) ac aM
def JdZ (f : (List Jd)) (name : Str) (value : Str) : Option ((List Jd)) :=
  (JbX name).bind fun ax =>
  (chk (f.length ≤ szMax)).bind fun _ =>
  (Jbi ax value f 0 [] false).bind fun t0 =>
  if (!t0.2) then
  (chk (t0.1.length + [(⟨ax, value⟩ : Jd)].length ≤ lim)).bind fun _ =>
  some (t0.1 ++ [(⟨ax, value⟩ : Jd)])
  else
  some t0.1
theorem JfE {f : (List Jd)} {name : Str} {value : Str} {aa : Option Addr} {ab : Nat} {n0 : Nat} {K : Hp} {r : (List Jd)}
    (hm : JdZ f name value = some r) (hX : RdC Jd.enc K aa ab 2 f ∧ n0 = f.length) :
    Fn Tryz.prog 152 [.slice aa n0 ab, str name, str value] K [] (fun v K' H' => ∃ ar_0 : Option Addr, ∃ cr_0 : Nat, v = .slice ar_0 r.length cr_0 ∧ (0 < r.length → Has ar_0) ∧ H' = [OwnL Jd.enc ar_0 77 2 cr_0 r]) := by
 obtain ⟨ae, aY⟩ := hX
 subst aY
 refine Fn.enter Tryz.func152 Tryz.call152 rfl fun F => ?_
 unfold JdZ at hm
 refine cb hm fun ax a6 hm => cg0 (Jcp a6 :) ?_
 refine ro (len_slice rfl ?_)
 obtain ⟨aQ, hm⟩ := chkb hm
 obtain ⟨s0, aO, hm⟩ := bnd hm
 refine nilC Jd.enc 77 2 ?_
 refine lD (σ := ((List Jd) × Bool) × Option Addr × Nat) [7, 8, 10, 15, 16, 17, 18, 19, 20, 21, 22, 23, 24, 25, 26, 27, 28, 29, 30, 31, 32, 33, 34, 35, 36, 37, 38] [1] (fun i0 => [(15, .int .i64 (i0 : Int))]) (fun (t0, aM, aN) => [(7, .slice aM t0.1.length aN), (8, .bool t0.2)]) (fun (t0, aM, aN) => [OwnL Jd.enc aM 77 2 aN t0.1]) (fun (t0, aM, aN) => (0 < t0.1.length → Has aM) ∧ True) (fun i0 (t0, aM, aN) => Jbi ax value (f.drop i0) i0 t0.1 t0.2 = some s0) (fun (t0, aM, aN) => t0 = s0) (fun i0 => f.length - i0) 0 ((_, _), _, _) aO (And.intro qe (And.intro ?_ ?_))
 clear aO
 rintro i0 ⟨⟨ac, aZ⟩, aR, aT⟩ ⟨aU, _⟩ aO j0
 dsimp only at aO ⊢
 refine cond_go rfl ?_
 refine cond_s ?_ ?_ <;> intro w0
 obtain ⟨e0, aP, aW⟩ := ltx w0
 rw [aW, Jbi.eq_2] at aO
 refine block_go rfl ?_
 refine RStep.ofN (index_addr rfl rfl (hasK ae.rd aP) (nn _) (lt_ofN aP) (ro (load_rd_agg i0 _ ae.rd rfl (mp aP) rfl ?_)))
 refine alloc_rule rfl fun bf => ?_
 refine store_rule r0 rfl ⟨rfl, rfl, (nl rfl), ?_⟩
 refine block_go rfl ?_
 refine fa rfl (ro (ld r0 rfl rfl ?_))
 refine cb aO fun bh aX aO => cg0 (Jcp aX :) ?_
 refine neq_str (cs rfl rfl aO ?_ ?_) <;> intro bz aO
 refine ro (loadn_s r0 rfl (nl rfl) ?_)
 refine bsO (len := 1) (enc := Jd.enc) (l := [e0]) (cl := [str e0.Name, str e0.Value]) elT30 rfl rfl (fun _ _ => rfl) rfl rfl rfl ?_ fun bb => ?_
 · conv => whnf
   refine cT ?_
   first | done | rfl
 obtain ⟨ba, aO⟩ := chkb aO
 refine apE rfl r2 elT30 (src_own' rfl r0 rfl (fun _ => rfl) (fun _ => rfl)) ba ?_
 intro bp bn bc
 refine int_in (cntz aP aQ) ?_
 exact eR aO (_, (_, _), _, _)
 refine un_not ?_
 refine cs rfl rfl aO ?_ ?_ <;> intro bg aO
 refine build_struct rfl rfl (cT (cT ?_))
 refine bsO (len := 1) (enc := Jd.enc) (l := [(⟨ax, value⟩ : Jd)]) (cl := [str ax, str value]) elT30 rfl rfl (fun _ _ => rfl) rfl rfl rfl ?_ fun bq => ?_
 · conv => whnf
   refine cT ?_
   first | done | rfl
 obtain ⟨a8, aO⟩ := chkb aO
 refine apE rfl r2 elT30 (src_own' rfl r0 rfl (fun _ => rfl) (fun _ => rfl)) a8 ?_
 intro bm bd bu
 refine int_in (cntz aP aQ) ?_
 exact eR aO (_, (_, _), _, _)
 refine int_in (cntz aP aQ) ?_
 exact eR aO (_, (_, _), _, _)
 rw [lty w0, Jbi.eq_1] at aO
 refine cT ?_
 exact eM aO (_, _, _)
 rintro ⟨t0, aM, aN⟩ ⟨aS, _⟩ rfl j0
 refine un_not ?_
 refine cs rfl rfl hm ?_ ?_ <;> intro bw hm
 refine build_struct rfl rfl (cT (cT ?_))
 refine bsO (len := 1) (enc := Jd.enc) (l := [(⟨ax, value⟩ : Jd)]) (cl := [str ax, str value]) elT30 rfl rfl (fun _ _ => rfl) rfl rfl rfl ?_ fun br => ?_
 · conv => whnf
   refine cT ?_
   first | done | rfl
 obtain ⟨aV, hm⟩ := chkb hm
 refine apE rfl r1 elT30 (src_own' rfl r0 rfl (fun _ => rfl) (fun _ => rfl)) aV ?_
 intro bj bt bo
 exact eE hm
 exact eE hm

def Ja2 (r' : Jf) (s : Str) (x : Jc) : Option (Err × Jf) :=
  (cutM s ([58] : Str)).bind fun aO =>
  (Jdy aO.2.1).bind fun aM =>
  if aM.2.isSome then
  some ((some 8), r')
  else
  if decide (aO.1 = ([118, 97, 114, 121] : Str)) then
  (JO r'.Vary aM.1).bind fun aQ =>
  if (!aQ) then
  (chk (r'.Vary.length + [aM.1].length ≤ lim)).bind fun _ =>
  some (none, (⟨r'.Ae, r'.Af, r'.Ag, (r'.Vary ++ [aM.1]), r'.Ah, r'.TTL, r'.Ai, r'.Aj, r'.Ak, r'.Al⟩ : Jf))
  else
  some (none, r')
  else
  (Jc8 x.s).bind fun aN =>
  if aN.2.isSome then
  some (aN.2, r')
  else
  (JdZ r'.Ag aM.1 aN.1).bind fun aP =>
  some (none, (⟨r'.Ae, r'.Af, aP, r'.Vary, r'.Ah, r'.TTL, r'.Ai, r'.Aj, r'.Ak, r'.Al⟩ : Jf))
theorem Jdz {r' : Jf} {s : Str} {x : Jc} {b0 : Nat} {aa : Option Addr} {ab : Nat} {aj : Option Addr} {am : Nat} {ak : Option Addr} {an : Nat} {aK : TypeId} {aC aJ : List Value} {K : Hp} {r : Err × Jf}
    (hm : Ja2 r' s x = some r) (hX : (0 < r'.Ag.length → Has aa) ∧ (0 < r'.Vary.length → Has aj) ∧ (0 < r'.Ah.length → Has ak) ∧ GG K) :
    Fn Tryz.prog 114 [.pointer (some ⟨b0, aC.length + 0, none⟩), str s, .agg #[.int .i64 x.kind, .int .i64 x.n, str x.s, .bool x.At]] K [CellsAt b0 aK aC aJ [str r'.Ae, str r'.Af, .slice aa r'.Ag.length ab, .slice aj r'.Vary.length am, .slice ak r'.Ah.length an, .int .i64 r'.TTL, .int .i64 r'.Ai, .int .i64 r'.Aj, .bool r'.Ak, .bool r'.Al], OwnL Jd.enc aa 77 2 ab r'.Ag, OwnL eS aj 9 1 am r'.Vary, OwnL eS ak 9 1 an r'.Ah] (fun v K' H' => ∃ ar_0 : Option Addr, ∃ cr_0 : Nat, ∃ ar_1 : Option Addr, ∃ cr_1 : Nat, ∃ ar_2 : Option Addr, ∃ cr_2 : Nat, v = errV 87 r.1 ∧ (0 < r.2.Ag.length → Has ar_0) ∧ (0 < r.2.Vary.length → Has ar_1) ∧ (0 < r.2.Ah.length → Has ar_2) ∧ H' = [CellsAt b0 aK aC aJ [str r.2.Ae, str r.2.Af, .slice ar_0 r.2.Ag.length cr_0, .slice ar_1 r.2.Vary.length cr_1, .slice ar_2 r.2.Ah.length cr_2, .int .i64 r.2.TTL, .int .i64 r.2.Ai, .int .i64 r.2.Aj, .bool r.2.Ak, .bool r.2.Al], OwnL Jd.enc ar_0 77 2 cr_0 r.2.Ag, OwnL eS ar_1 9 1 cr_1 r.2.Vary, OwnL eS ar_2 9 1 cr_2 r.2.Ah]) := by
 obtain ⟨ae, aV, aS, hG⟩ := hX
 refine Fn.enter Tryz.func114 Tryz.call114 rfl fun F => ?_
 unfold Ja2 at hm
 refine box_rule ?_
 intro b5
 refine cb hm fun bq a8 hm => cg0 (cut_ok a8 (gg3 hG)) ?_
 refine cb hm fun aO a6 hm => cg0 (Jfv a6 :) ?_
 refine neq_err rfl ?_
 refine cs rfl rfl hm ?_ ?_ <;> intro bm hm
 refine mk_iface rfl ?_
 exact eE hm
 refine eq_str (cs rfl rfl hm ?_ ?_) <;> intro bj hm
 refine nil_check ?_
 refine fa_sub (j' := 3) rfl rfl ?_
 refine ro (ld r1 rfl (at_get rfl) ?_)
 refine cb hm fun bn ba hm => ck0 (Fn.lend Tryz.call113 (fun aX aT aN => (Jai (v' := aO.1) ba ⟨aN, rfl⟩)) (by exact fun _ _ _ _ h => h)) ?_
 rintro _ _ _ ⟨_, rfl, rfl, rfl⟩
 refine un_not ?_
 refine cs rfl rfl hm ?_ ?_ <;> intro bh hm
 refine nil_check ?_
 refine fa_sub (j' := 3) rfl rfl ?_
 refine ro (ld r2 rfl (at_get rfl) ?_)
 refine bsO (len := 1) (enc := eS) (l := [aO.1]) (cl := [str aO.1]) elT31 rfl rfl (fun _ _ => rfl) rfl rfl rfl ?_ fun bp => ?_
 · conv => whnf
   refine cT ?_
   first | done | rfl
 obtain ⟨aY, hm⟩ := chkb hm
 refine apE rfl r1 elT31 (src_own' rfl r0 rfl (fun _ => rfl) (fun _ => rfl)) aY ?_
 intro bg bo bf
 refine nil_check ?_
 refine fa_sub (j' := 3) rfl rfl ?_
 refine st_sub r3 rfl ?_
 refine ⟨rfl, rfl, (nl rfl), ?_⟩
 exact eE hm
 exact eE hm
 refine fa rfl (ro (ld r0 rfl rfl ?_))
 refine cb hm fun bc aZ hm => cg0 (Jfg aZ :) ?_
 refine neq_err rfl ?_
 refine cs rfl rfl hm ?_ ?_ <;> intro bd hm
 exact eE hm
 refine nil_check ?_
 refine fa_sub (j' := 2) rfl rfl ?_
 refine ro (ld r1 rfl (at_get rfl) ?_)
 refine cb hm fun br bb hm => ck0 (Fn.lend Tryz.call152 (fun aU aW aM => (JfE (name := aO.1) (value := bc.1) bb ⟨aM, rfl⟩)) (by exact fun _ _ _ _ h => h)) ?_
 rintro _ _ _ ⟨_, rfl, aQ, aP, rfl, aR, rfl⟩
 refine nil_check ?_
 refine fa_sub (j' := 2) rfl rfl ?_
 refine st_sub r3 rfl ?_
 refine ⟨rfl, rfl, (nl rfl), ?_⟩
 exact eE hm

def JaT (r' : Jf) (s : Str) (x : Jc) : Option (Err × Jf) :=
  (((if (decide (s = ([112, 97, 115, 115] : Str)) || decide (s = ([116, 111, 107, 101, 110] : Str))) then some true else (J1 s ([118, 97, 114, 121, 58] : Str)).bind fun aQ =>
  some aQ).bind fun aM =>
  if aM then
  some 0
  else
  if (decide (s = ([116, 116, 108] : Str)) || decide (s = ([100, 101, 110, 121] : Str))) then
  some 2
  else
  some 1 : Option (Int))).bind fun aN =>
  if decide (x.kind ≠ aN) then
  some ((some 9), r')
  else
  if decide (s = ([112, 97, 116, 104] : Str)) then
  some (none, (⟨x.s, r'.Af, r'.Ag, r'.Vary, r'.Ah, r'.TTL, r'.Ai, r'.Aj, r'.Ak, r'.Al⟩ : Jf))
  else
  if decide (s = ([113, 117, 101, 114, 121] : Str)) then
  some (none, (⟨r'.Ae, x.s, r'.Ag, r'.Vary, r'.Ah, r'.TTL, r'.Ai, r'.Aj, r'.Ak, r'.Al⟩ : Jf))
  else
  if decide (s = ([116, 97, 103] : Str)) then
  (JO r'.Ah x.s).bind fun aP =>
  if (!aP) then
  (chk (r'.Ah.length + [x.s].length ≤ lim)).bind fun _ =>
  some (none, (⟨r'.Ae, r'.Af, r'.Ag, r'.Vary, (r'.Ah ++ [x.s]), r'.TTL, r'.Ai, r'.Aj, r'.Ak, r'.Al⟩ : Jf))
  else
  some (none, r')
  else
  if decide (s = ([116, 116, 108] : Str)) then
  some (none, (⟨r'.Ae, r'.Af, r'.Ag, r'.Vary, r'.Ah, (max 0 x.n), r'.Ai, r'.Aj, r'.Ak, r'.Al⟩ : Jf))
  else
  if decide (s = ([100, 101, 110, 121] : Str)) then
  if (decide (x.n < 400) || decide (x.n > 499)) then
  some (none, (⟨r'.Ae, r'.Af, r'.Ag, r'.Vary, r'.Ah, r'.TTL, 403, r'.Aj, r'.Ak, r'.Al⟩ : Jf))
  else
  some (none, (⟨r'.Ae, r'.Af, r'.Ag, r'.Vary, r'.Ah, r'.TTL, x.n, r'.Aj, r'.Ak, r'.Al⟩ : Jf))
  else
  if decide (s = ([112, 97, 115, 115] : Str)) then
  some (none, (⟨r'.Ae, r'.Af, r'.Ag, r'.Vary, r'.Ah, r'.TTL, r'.Ai, r'.Aj, true, r'.Al⟩ : Jf))
  else
  if decide (s = ([116, 111, 107, 101, 110] : Str)) then
  some (none, (⟨r'.Ae, r'.Af, r'.Ag, r'.Vary, r'.Ah, r'.TTL, r'.Ai, r'.Aj, r'.Ak, true⟩ : Jf))
  else
  (Ja2 r' s x).bind fun aO =>
  some (aO.1, aO.2)
theorem JcP {r' : Jf} {s : Str} {x : Jc} {b0 : Nat} {aa : Option Addr} {ab : Nat} {aj : Option Addr} {am : Nat} {ak : Option Addr} {an : Nat} {aK : TypeId} {aC aJ : List Value} {K : Hp} {r : Err × Jf}
    (hm : JaT r' s x = some r) (hX : (0 < r'.Ag.length → Has aa) ∧ (0 < r'.Vary.length → Has aj) ∧ (0 < r'.Ah.length → Has ak) ∧ GG K) :
    Fn Tryz.prog 70 [.pointer (some ⟨b0, aC.length + 0, none⟩), str s, .agg #[.int .i64 x.kind, .int .i64 x.n, str x.s, .bool x.At]] K [CellsAt b0 aK aC aJ [str r'.Ae, str r'.Af, .slice aa r'.Ag.length ab, .slice aj r'.Vary.length am, .slice ak r'.Ah.length an, .int .i64 r'.TTL, .int .i64 r'.Ai, .int .i64 r'.Aj, .bool r'.Ak, .bool r'.Al], OwnL Jd.enc aa 77 2 ab r'.Ag, OwnL eS aj 9 1 am r'.Vary, OwnL eS ak 9 1 an r'.Ah] (fun v K' H' => ∃ ar_0 : Option Addr, ∃ cr_0 : Nat, ∃ ar_1 : Option Addr, ∃ cr_1 : Nat, ∃ ar_2 : Option Addr, ∃ cr_2 : Nat, v = errV 87 r.1 ∧ (0 < r.2.Ag.length → Has ar_0) ∧ (0 < r.2.Vary.length → Has ar_1) ∧ (0 < r.2.Ah.length → Has ar_2) ∧ H' = [CellsAt b0 aK aC aJ [str r.2.Ae, str r.2.Af, .slice ar_0 r.2.Ag.length cr_0, .slice ar_1 r.2.Vary.length cr_1, .slice ar_2 r.2.Ah.length cr_2, .int .i64 r.2.TTL, .int .i64 r.2.Ai, .int .i64 r.2.Aj, .bool r.2.Ak, .bool r.2.Al], OwnL Jd.enc ar_0 77 2 cr_0 r.2.Ag, OwnL eS ar_1 9 1 cr_1 r.2.Vary, OwnL eS ar_2 9 1 cr_2 r.2.Ah]) := by
 obtain ⟨ae, bg, bb, hG⟩ := hX
 refine Fn.enter Tryz.func70 Tryz.call70 rfl fun F => ?_
 unfold JaT at hm
 refine box_rule ?_
 intro b5
 obtain ⟨aX, aM, hm⟩ := bnd hm
 refine jD (σ := (Int)) [7, 8, 9, 10, 11, 12, 13, 14, 15, 16, 17, 18, 19, 20, 21, 22, 23, 24, 25] [0, 1, 2, 3, 4, 5] (fun aT => [(7, .int .i64 aT)]) (fun aT => []) (fun aT => aT = aX) (And.intro ?_ ?_)
 refine block_go rfl ?_
 obtain ⟨aY, aO, aM⟩ := bnd aM
 refine jR (σ := Bool) [8, 9, 10, 11, 12, 13, 14, 15, 16, 17, 18] (fun aU => [(8, .bool aU)]) (fun aU => aU = aY) ?_ ?_
 replace aO := bsm aO
 refine guard_go rfl ?_
 refine eq_str ?_
 refine cond_s ?_ ?_ <;> intro aQ
 refine ct aQ (ct aQ ?_)
 obtain ⟨aW, aS, aO⟩ := bnd aO
 replace aS := ift (or_t aQ) aS
 refine cT (cT (cT ?_))
 exact mt (aW) ⟨(by rw [← ((si aS).symm).symm] <;> rfl), trivial⟩ rfl (pf rfl) lr (si aO)
 refine cf aQ (eq_str (cf aQ ?_))
 obtain ⟨aW, aS, aO⟩ := bnd aO
 refine cond_s ?_ ?_ <;> intro aR
 replace aS := ift (or_u aQ aR) aS
 refine ct aR (ct aR ?_)
 exact mt (aW) ⟨(by rw [← ((si aS).symm).symm] <;> rfl), trivial⟩ rfl (pf rfl) lr (si aO)
 replace aS := iff_ (or_f aQ aR) aS
 refine cf aR ?_
 refine cb aS fun bL br aS => cg0 (Jbc br :) ?_
 refine cf aR ?_
 exact mt (aW) ⟨(by rw [← (si aS)] <;> rfl), trivial⟩ rfl (pf rfl) lr (si aO)
 rintro aU rfl bt
 refine cs rfl rfl aM ?_ ?_ <;> intro w8 aM
 exact eM aM _
 refine guard_go rfl ?_
 refine eq_str ?_
 refine cond_s ?_ ?_ <;> intro aP
 refine ct aP (ct aP (cond_go rfl (cT ?_)))
 replace aM := ift (or_t aP) aM
 exact eM aM _
 refine cf aP (eq_str (cf aP (cond_go rfl ?_)))
 refine cond_s ?_ ?_ <;> intro aZ
 replace aM := ift (or_u aP aZ) aM
 exact eM aM _
 replace aM := iff_ (or_f aP aZ) aM
 exact eM aM _
 rintro aT rfl bz
 refine fa rfl (ro (ld r0 rfl rfl (neq_int ?_)))
 refine cs rfl rfl hm ?_ ?_ <;> intro bG hm
 refine mk_iface rfl ?_
 exact eE hm
 refine block_go rfl ?_
 refine eq_str (cs rfl rfl hm ?_ ?_) <;> intro bE hm
 refine fa rfl (ro (ld r0 rfl rfl (nil_check ?_)))
 refine fa_sub (j' := 0) rfl rfl ?_
 refine st_sub r1 rfl ?_
 refine ⟨rfl, rfl, (nl rfl), ?_⟩
 exact eE hm
 refine eq_str (cs rfl rfl hm ?_ ?_) <;> intro bK hm
 refine fa rfl (ro (ld r0 rfl rfl (nil_check ?_)))
 refine fa_sub (j' := 1) rfl rfl ?_
 refine st_sub r1 rfl ?_
 refine ⟨rfl, rfl, (nl rfl), ?_⟩
 exact eE hm
 refine eq_str (cs rfl rfl hm ?_ ?_) <;> intro bM hm
 refine draw_go ⟨⟨[], false⟩, _, [(_, _), (_, _)], []⟩ (by kernel_rfl) ⟨Hp.Le.refl _, (sc [1,0] rfl), ci0⟩ ?_
 refine nil_check ?_
 refine fa_sub (j' := 4) rfl rfl ?_
 refine load1_l m0 rfl (at_get rfl) (fa rfl (load1_l m1 rfl rfl ?_))
 refine cb hm fun bC bq hm => ck0 (Fn.lend Tryz.call113 (fun a6 bm aV => (Jai (v' := x.s) bq ⟨aV, rfl⟩)) (by exact fun _ _ _ _ h => h)) ?_
 rintro _ _ _ ⟨_, rfl, rfl, rfl⟩
 refine ⟨⟨lr, (sc [2,1] rfl), ci0⟩, ?_⟩
 refine un_not ?_
 refine cs rfl rfl hm ?_ ?_ <;> intro bP hm
 refine draw_go_tail ⟨⟨[], false⟩, _, [(_, _), (_, _)], []⟩ 9 rfl (by kernel_rfl) ⟨Hp.Le.refl _, (sc [2,1] rfl), ci0⟩ ?_
 refine nil_check ?_
 refine fa_sub (j' := 4) rfl rfl ?_
 refine load1_l m0 rfl (at_get rfl) (fa rfl (load1_l m1 rfl rfl ?_))
 refine bsO (len := 1) (enc := eS) (l := [x.s]) (cl := [str x.s]) elT31 rfl rfl (fun _ _ => rfl) rfl rfl rfl ?_ fun bD => ?_
 · conv => whnf
   refine cT ?_
   first | done | rfl
 refine ⟨⟨lr, (sc [3,2] rfl), ci0⟩, ?_⟩
 obtain ⟨bu, hm⟩ := chkb hm
 refine apE rfl r1 elT31 (src_own' rfl r0 rfl (fun _ => rfl) (fun _ => rfl)) bu ?_
 intro bB bH bO
 refine ⟨⟨lr, (sc [3,2] rfl), ci0⟩, ?_⟩
 refine nil_check ?_
 refine fa_sub (j' := 4) rfl rfl ?_
 refine st_sub r3 rfl ?_
 refine ⟨rfl, rfl, (nl rfl), ?_⟩
 refine ⟨⟨Hp.emp_le _, (pf rfl), ci0⟩, ?_⟩
 exact eE hm
 exact eE hm
 refine eq_str (cs rfl rfl hm ?_ ?_) <;> intro bJ hm
 refine fa rfl (ro (ld r0 rfl rfl (ro (max_int (nil_check ?_)))))
 refine fa_sub (j' := 5) rfl rfl ?_
 refine st_sub r1 rfl ?_
 refine ⟨rfl, rfl, (nl rfl), ?_⟩
 exact eE hm
 refine eq_str (cs rfl rfl hm ?_ ?_) <;> intro bN hm
 refine fa rfl (ro (ld r0 rfl rfl (nil_check ?_)))
 refine fa_sub (j' := 6) rfl rfl ?_
 refine st_sub r1 rfl ?_
 refine ⟨rfl, rfl, (nl rfl), ?_⟩
 refine guard_go rfl ?_
 refine fa rfl (ro (ld r1 rfl rfl ?_))
 refine cond_s ?_ ?_ <;> intro aN
 refine ct aN (ct aN (ct aN (cond_go rfl (cT ?_))))
 replace hm := ift (or_t aN) hm
 refine nil_check ?_
 refine fa_sub (j' := 6) rfl rfl ?_
 refine st_sub r0 rfl ?_
 refine ⟨rfl, rfl, (nl rfl), ?_⟩
 exact eE hm
 refine fa rfl (cf aN (ro (ld r1 rfl rfl (cf aN (cf aN (cond_go rfl ?_))))))
 refine cond_s ?_ ?_ <;> intro bp
 replace hm := ift (or_u aN bp) hm
 refine nil_check ?_
 refine fa_sub (j' := 6) rfl rfl ?_
 refine st_sub r0 rfl ?_
 refine ⟨rfl, rfl, (nl rfl), ?_⟩
 exact eE hm
 replace hm := iff_ (or_f aN bp) hm
 exact eE hm
 refine eq_str (cs rfl rfl hm ?_ ?_) <;> intro bI hm
 refine nil_check ?_
 refine fa_sub (j' := 8) rfl rfl ?_
 refine st_sub r1 rfl ?_
 refine ⟨rfl, rfl, (nl rfl), ?_⟩
 exact eE hm
 refine eq_str (cs rfl rfl hm ?_ ?_) <;> intro bA hm
 refine nil_check ?_
 refine fa_sub (j' := 9) rfl rfl ?_
 refine st_sub r1 rfl ?_
 refine ⟨rfl, rfl, (nl rfl), ?_⟩
 exact eE hm
 refine ro (loadn_s r0 rfl (nl rfl) ?_)
 refine cb hm fun bF bw hm => ckx (Jdz bw :) ?_
 rintro _ _ _ ⟨bn, bo, bc, bj, bf, a8, rfl, bd, ba, bh, rfl⟩
 exact eE hm

def Jcv (m : Je) (atZ : Int) (x : Jh) : Option (Int × Err × Je) :=
  (chk (InI (m.result.Aj + 1))).bind fun _ =>
  if decide ((m.result.Aj + 1) > m.most) then
  some (0, (some 13), (⟨m.Ar, m.most, (⟨m.result.Ae, m.result.Af, m.result.Ag, m.result.Vary, m.result.Ah, m.result.TTL, m.result.Ai, (m.result.Aj + 1), m.result.Ak, m.result.Al⟩ : Jf), m.stack, m.Ap⟩ : Je))
  else
  (chk (InI (atZ + 1))).bind fun _ =>
  if decide (x.Op = 1) then
  (Jbw x.N).bind fun bj =>
  (Jaf (⟨m.Ar, m.most, (⟨m.result.Ae, m.result.Af, m.result.Ag, m.result.Vary, m.result.Ah, m.result.TTL, m.result.Ai, (m.result.Aj + 1), m.result.Ak, m.result.Al⟩ : Jf), m.stack, m.Ap⟩ : Je) bj false).bind fun bb =>
  some ((atZ + 1), bb.1, (⟨m.Ar, bb.2.most, bb.2.result, bb.2.stack, bb.2.Ap⟩ : Je))
  else
  if decide (x.Op = 2) then
  (Jaw x.S).bind fun bg =>
  (Jaf (⟨m.Ar, m.most, (⟨m.result.Ae, m.result.Af, m.result.Ag, m.result.Vary, m.result.Ah, m.result.TTL, m.result.Ai, (m.result.Aj + 1), m.result.Ak, m.result.Al⟩ : Jf), m.stack, m.Ap⟩ : Je) bg false).bind fun aZ =>
  some ((atZ + 1), aZ.1, (⟨m.Ar, aZ.2.most, aZ.2.result, aZ.2.stack, aZ.2.Ap⟩ : Je))
  else
  if decide (x.Op = 3) then
  (ix m.Ap x.N).bind fun bh =>
  (Jaf (⟨m.Ar, m.most, (⟨m.result.Ae, m.result.Af, m.result.Ag, m.result.Vary, m.result.Ah, m.result.TTL, m.result.Ai, (m.result.Aj + 1), m.result.Ak, m.result.Al⟩ : Jf), m.stack, m.Ap⟩ : Je) bh false).bind fun ba =>
  some ((atZ + 1), ba.1, (⟨m.Ar, ba.2.most, ba.2.result, ba.2.stack, ba.2.Ap⟩ : Je))
  else
  if decide (x.Op = 5) then
  (Jal x.S m.Ar).bind fun bm =>
  (Jaf (⟨m.Ar, m.most, (⟨m.result.Ae, m.result.Af, m.result.Ag, m.result.Vary, m.result.Ah, m.result.TTL, m.result.Ai, (m.result.Aj + 1), m.result.Ak, m.result.Al⟩ : Jf), m.stack, m.Ap⟩ : Je) bm false).bind fun a6 =>
  some ((atZ + 1), a6.1, (⟨m.Ar, a6.2.most, a6.2.result, a6.2.stack, a6.2.Ap⟩ : Je))
  else
  if decide (x.Op = 4) then
  (Jam (⟨m.Ar, m.most, (⟨m.result.Ae, m.result.Af, m.result.Ag, m.result.Vary, m.result.Ah, m.result.TTL, m.result.Ai, (m.result.Aj + 1), m.result.Ak, m.result.Al⟩ : Jf), m.stack, m.Ap⟩ : Je)).bind fun aX =>
  (ix aX.2.Ap x.N).bind fun bn =>
  some ((atZ + 1), none, (⟨m.Ar, aX.2.most, aX.2.result, aX.2.stack, (aX.2.Ap.set ((x.N).toNat) aX.1)⟩ : Je))
  else
  if decide (x.Op = 6) then
  (Jam (⟨m.Ar, m.most, (⟨m.result.Ae, m.result.Af, m.result.Ag, m.result.Vary, m.result.Ah, m.result.TTL, m.result.Ai, (m.result.Aj + 1), m.result.Ak, m.result.Al⟩ : Jf), m.stack, m.Ap⟩ : Je)).bind fun aW =>
  (JK x.S aW.1 m.Ar).bind fun aY =>
  if (!aY.2) then
  some (0, (some 9), (⟨m.Ar, aW.2.most, aW.2.result, aW.2.stack, aW.2.Ap⟩ : Je))
  else
  (Jaf (⟨m.Ar, aW.2.most, aW.2.result, aW.2.stack, aW.2.Ap⟩ : Je) aY.1 true).bind fun aU =>
  some ((atZ + 1), aU.1, (⟨m.Ar, aU.2.most, aU.2.result, aU.2.stack, aU.2.Ap⟩ : Je))
  else
  if decide (x.Op = 7) then
  (Jam (⟨m.Ar, m.most, (⟨m.result.Ae, m.result.Af, m.result.Ag, m.result.Vary, m.result.Ah, m.result.TTL, m.result.Ai, (m.result.Aj + 1), m.result.Ak, m.result.Al⟩ : Jf), m.stack, m.Ap⟩ : Je)).bind fun aV =>
  (Jam (⟨m.Ar, aV.2.most, aV.2.result, aV.2.stack, aV.2.Ap⟩ : Je)).bind fun aP =>
  (JR x.S aP.1 aV.1).bind fun a8 =>
  if (!a8.2) then
  some (0, (some 9), (⟨m.Ar, aP.2.most, aP.2.result, aP.2.stack, aP.2.Ap⟩ : Je))
  else
  (Jaf (⟨m.Ar, aP.2.most, aP.2.result, aP.2.stack, aP.2.Ap⟩ : Je) a8.1 true).bind fun aT =>
  some ((atZ + 1), aT.1, (⟨m.Ar, aT.2.most, aT.2.result, aT.2.stack, aT.2.Ap⟩ : Je))
  else
  if decide (x.Op = 8) then
  (Jam (⟨m.Ar, m.most, (⟨m.result.Ae, m.result.Af, m.result.Ag, m.result.Vary, m.result.Ah, m.result.TTL, m.result.Ai, (m.result.Aj + 1), m.result.Ak, m.result.Al⟩ : Jf), m.stack, m.Ap⟩ : Je)).bind fun aO =>
  if decide (aO.1.kind ≠ 3) then
  some (0, (some 9), (⟨m.Ar, aO.2.most, aO.2.result, aO.2.stack, aO.2.Ap⟩ : Je))
  else
  (Jay (!aO.1.At)).bind fun bf =>
  (Jaf (⟨m.Ar, aO.2.most, aO.2.result, aO.2.stack, aO.2.Ap⟩ : Je) bf false).bind fun aS =>
  some ((atZ + 1), aS.1, (⟨m.Ar, aS.2.most, aS.2.result, aS.2.stack, aS.2.Ap⟩ : Je))
  else
  if decide (x.Op = 9) then
  some (x.N, none, (⟨m.Ar, m.most, (⟨m.result.Ae, m.result.Af, m.result.Ag, m.result.Vary, m.result.Ah, m.result.TTL, m.result.Ai, (m.result.Aj + 1), m.result.Ak, m.result.Al⟩ : Jf), m.stack, m.Ap⟩ : Je))
  else
  if decide (x.Op = 10) then
  (Jam (⟨m.Ar, m.most, (⟨m.result.Ae, m.result.Af, m.result.Ag, m.result.Vary, m.result.Ah, m.result.TTL, m.result.Ai, (m.result.Aj + 1), m.result.Ak, m.result.Al⟩ : Jf), m.stack, m.Ap⟩ : Je)).bind fun aN =>
  if decide (aN.1.kind ≠ 3) then
  some (0, (some 9), (⟨m.Ar, aN.2.most, aN.2.result, aN.2.stack, aN.2.Ap⟩ : Je))
  else
  if (!aN.1.At) then
  some (x.N, none, (⟨m.Ar, aN.2.most, aN.2.result, aN.2.stack, aN.2.Ap⟩ : Je))
  else
  some ((atZ + 1), none, (⟨m.Ar, aN.2.most, aN.2.result, aN.2.stack, aN.2.Ap⟩ : Je))
  else
  if decide (x.Op = 11) then
  (if (decide (x.S ≠ ([112, 97, 115, 115] : Str)) && decide (x.S ≠ ([116, 111, 107, 101, 110] : Str))) then (J1 x.S ([118, 97, 114, 121, 58] : Str)).bind fun bd =>
  some (!bd) else some false).bind fun bc =>
  ((if bc then
  (Jam (⟨m.Ar, m.most, (⟨m.result.Ae, m.result.Af, m.result.Ag, m.result.Vary, m.result.Ah, m.result.TTL, m.result.Ai, (m.result.Aj + 1), m.result.Ak, m.result.Al⟩ : Jf), m.stack, m.Ap⟩ : Je)).bind fun aQ =>
  some (aQ.1.kind, aQ.1.n, aQ.1.s, aQ.1.At, (⟨m.Ar, aQ.2.most, aQ.2.result, aQ.2.stack, aQ.2.Ap⟩ : Je))
  else
  some (0, 0, ([] : Str), false, (⟨m.Ar, m.most, (⟨m.result.Ae, m.result.Af, m.result.Ag, m.result.Vary, m.result.Ah, m.result.TTL, m.result.Ai, (m.result.Aj + 1), m.result.Ak, m.result.Al⟩ : Jf), m.stack, m.Ap⟩ : Je)) : Option (Int × Int × Str × Bool × Je))).bind fun aM =>
  (JaT aM.2.2.2.2.result x.S (⟨aM.1, aM.2.1, aM.2.2.1, aM.2.2.2.1⟩ : Jc)).bind fun aR =>
  if aR.1.isSome then
  some (0, aR.1, (⟨m.Ar, aM.2.2.2.2.most, aR.2, aM.2.2.2.2.stack, aM.2.2.2.2.Ap⟩ : Je))
  else
  if decide (x.S = ([100, 101, 110, 121] : Str)) then
  some ((-1), none, (⟨m.Ar, aM.2.2.2.2.most, aR.2, aM.2.2.2.2.stack, aM.2.2.2.2.Ap⟩ : Je))
  else
  some ((atZ + 1), none, (⟨m.Ar, aM.2.2.2.2.most, aR.2, aM.2.2.2.2.stack, aM.2.2.2.2.Ap⟩ : Je))
  else
  if decide (x.Op = 12) then
  some ((-1), none, (⟨m.Ar, m.most, (⟨m.result.Ae, m.result.Af, m.result.Ag, m.result.Vary, m.result.Ah, m.result.TTL, m.result.Ai, (m.result.Aj + 1), m.result.Ak, m.result.Al⟩ : Jf), m.stack, m.Ap⟩ : Je))
  else
  some ((atZ + 1), none, (⟨m.Ar, m.most, (⟨m.result.Ae, m.result.Af, m.result.Ag, m.result.Vary, m.result.Ah, m.result.TTL, m.result.Ai, (m.result.Aj + 1), m.result.Ak, m.result.Al⟩ : Jf), m.stack, m.Ap⟩ : Je))
theorem JdT {m : Je} {atZ : Int} {x : Jh} {b0 : Nat} {aa : Option Addr} {ab : Nat} {aj : Option Addr} {am : Nat} {ak : Option Addr} {an : Nat} {ao : Option Addr} {au : Nat} {av : Option Addr} {ay : Nat} {K : Hp} {r : Int × Err × Je}
    (hm : Jcv m atZ x = some r) (hX : RdC Jd.enc K aa ab 2 m.Ar.Ao ∧ (0 < m.result.Ag.length → Has aj) ∧ (0 < m.result.Vary.length → Has ak) ∧ (0 < m.result.Ah.length → Has ao) ∧ (0 < m.stack.length → Has av) ∧ m.Ap.length = 512 ∧ GG K) :
    Fn Tryz.prog 33 [.pointer (some ⟨b0, 0, none⟩), .int .i64 atZ, .agg #[.int .i64 x.Op, .int .i64 x.N, str x.S]] K [Cells b0 98 ((str m.Ar.Am) :: (str m.Ar.An) :: (str m.Ar.Ae) :: (str m.Ar.Af) :: (.slice aa m.Ar.Ao.length ab) :: (.int .i64 m.most) :: (str m.result.Ae) :: (str m.result.Af) :: (.slice aj m.result.Ag.length am) :: (.slice ak m.result.Vary.length an) :: (.slice ao m.result.Ah.length au) :: (.int .i64 m.result.TTL) :: (.int .i64 m.result.Ai) :: (.int .i64 m.result.Aj) :: (.bool m.result.Ak) :: (.bool m.result.Al) :: (.slice av m.stack.length ay) :: (m.Ap.map Jc.enc).flatten), OwnL Jd.enc aj 77 2 am m.result.Ag, OwnL eS ak 9 1 an m.result.Vary, OwnL eS ao 9 1 au m.result.Ah, OwnL Jc.enc av 95 4 ay m.stack] (fun v K' H' => ∃ ar_0 : Option Addr, ∃ cr_0 : Nat, ∃ ar_1 : Option Addr, ∃ cr_1 : Nat, ∃ ar_2 : Option Addr, ∃ cr_2 : Nat, ∃ ar_3 : Option Addr, ∃ cr_3 : Nat, v = .tuple #[.int .i64 r.1, errV 87 r.2.1] ∧ (0 < r.2.2.result.Ag.length → Has ar_0) ∧ (0 < r.2.2.result.Vary.length → Has ar_1) ∧ (0 < r.2.2.result.Ah.length → Has ar_2) ∧ (0 < r.2.2.stack.length → Has ar_3) ∧ r.2.2.Ap.length = 512 ∧ H' = [Cells b0 98 ((str m.Ar.Am) :: (str m.Ar.An) :: (str m.Ar.Ae) :: (str m.Ar.Af) :: (.slice aa m.Ar.Ao.length ab) :: (.int .i64 r.2.2.most) :: (str r.2.2.result.Ae) :: (str r.2.2.result.Af) :: (.slice ar_0 r.2.2.result.Ag.length cr_0) :: (.slice ar_1 r.2.2.result.Vary.length cr_1) :: (.slice ar_2 r.2.2.result.Ah.length cr_2) :: (.int .i64 r.2.2.result.TTL) :: (.int .i64 r.2.2.result.Ai) :: (.int .i64 r.2.2.result.Aj) :: (.bool r.2.2.result.Ak) :: (.bool r.2.2.result.Al) :: (.slice ar_3 r.2.2.stack.length cr_3) :: (r.2.2.Ap.map Jc.enc).flatten), OwnL Jd.enc ar_0 77 2 cr_0 r.2.2.result.Ag, OwnL eS ar_1 9 1 cr_1 r.2.2.result.Vary, OwnL eS ar_2 9 1 cr_2 r.2.2.result.Ah, OwnL Jc.enc ar_3 95 4 cr_3 r.2.2.stack]) := by
 obtain ⟨ae, fh, fp, eF, fk, bw, hG⟩ := hX
 refine Fn.enter Tryz.func33 Tryz.call33 rfl fun F => ?_
 unfold Jcv at hm
 refine box_rule ?_
 intro b5
 refine nil_check (fa rfl (fa rfl (ro (ld r1 rfl rfl ?_))))
 obtain ⟨gE, hm⟩ := chkb hm
 refine int_in gE (nil_check (fa rfl (fa rfl ?_)))
 refine st_tl (cs' := (str m.Ar.Am) :: (str m.Ar.An) :: (str m.Ar.Ae) :: (str m.Ar.Af) :: (.slice aa m.Ar.Ao.length ab) :: (.int .i64 m.most) :: (str m.result.Ae) :: (str m.result.Af) :: (.slice aj m.result.Ag.length am) :: (.slice ak m.result.Vary.length an) :: (.slice ao m.result.Ah.length au) :: (.int .i64 m.result.TTL) :: (.int .i64 m.result.Ai) :: (.int .i64 (m.result.Aj + 1)) :: (.bool m.result.Ak) :: (.bool m.result.Al) :: (.slice av m.stack.length ay) :: (m.Ap.map Jc.enc).flatten) r1 rfl rfl (by exact rfl) (by exact nl rfl) (by exact rfl) ?_
 refine draw_go ⟨⟨[], false⟩, _, [(_, _)], []⟩ (by kernel_rfl) ⟨Hp.Le.refl _, (pf rfl), ci0⟩ ?_
 refine nil_check (fa rfl (fa rfl (load1_l m0 rfl rfl (nil_check (fa rfl (load1_l m0 rfl rfl ?_))))))
 refine cs rfl rfl hm ?_ ?_ <;> intro ig hm
 refine mk_iface rfl ?_
 exact eE hm
 obtain ⟨gq, hm⟩ := chkb hm
 refine int_in gq (fa rfl (ro (ld r1 rfl rfl ?_)))
 refine block_go rfl ?_
 refine eq_int (cs rfl rfl hm ?_ ?_) <;> intro im hm
 refine fa rfl (ro (ld r1 rfl rfl ?_))
 refine cb hm fun iu gM hm => cg0 (Jbd gM :) ?_
 refine cb hm fun ik gF hm => ckx (Jak gF :) ?_
 rintro _ _ _ ⟨fP, fT, fu, eV, fe, fC, eW, fl, rfl, fv, fS, eO, fN, fM, rfl⟩
 exact eE hm
 refine eq_int (cs rfl rfl hm ?_ ?_) <;> intro ic hm
 refine fa rfl (ro (ld r1 rfl rfl ?_))
 refine cb hm fun ii hJ hm => cg0 (Jaj hJ :) ?_
 refine cb hm fun io gj hm => ckx (Jak gj :) ?_
 rintro _ _ _ ⟨fc, fK, eT, ff, fy, fB, fq, fI, rfl, fZ, fO, fD, fH, fw, rfl⟩
 exact eE hm
 refine eq_int (cs rfl rfl hm ?_ ?_) <;> intro hU hm
 refine draw_go ⟨⟨[], true⟩, _, [], []⟩ (by kernel_rfl) ⟨Hp.Le.refl _, (pf rfl), ci0⟩ ?_
 refine fa rfl ?_
 refine ld r1 rfl rfl ?_
 refine nil_check (fa rfl ?_)
 obtain ⟨ir, fg, e5, hm⟩ := ixb hm
 refine arr_addrV (sz := 4) rfl rfl fg (ba_lt bw fg e5) ?_
 refine ld_ba (enc := Jc.enc) (sz := 4) r0 rfl (by exact rfl) e5 (by exact rfl) ?_
 refine cb hm fun iy gR hm => ckx (Jak gR :) ?_
 rintro _ _ _ ⟨fj, eY, fb, eQ, fG, gh, eL, fV, rfl, f9, eJ, ez, eX, fA, rfl⟩
 refine ⟨⟨lr, (pf rfl), ci0⟩, ?_⟩
 exact eE hm
 refine eq_int (cs rfl rfl hm ?_ ?_) <;> intro iw hm
 refine draw_go ⟨⟨[], false⟩, _, [(_, _)], [(b0, [str m.Ar.Am, str m.Ar.An, str m.Ar.Ae, str m.Ar.Af, .slice aa m.Ar.Ao.length ab])]⟩ (by kernel_rfl) ⟨Hp.Le.refl _, (sc [1] rfl), (ci1 r0 (by exact rfl))⟩ ?_
 refine fa rfl (load1_l m0 rfl rfl (nil_check (fa rfl ?_)))
 refine loadn_c m0 rfl (nl rfl) ?_
 refine cb hm fun ip hH hm => cgx (JcX hH :) ?_
 refine ⟨⟨lr, (sc [1] rfl), (ci1 r0 (by exact rfl))⟩, ?_⟩
 refine cb hm fun ij gH hm => ckx (Jak gH :) ?_
 rintro _ _ _ ⟨eH, fQ, gc, ga, eA, f8, e6, ge, rfl, e7, eZ, fJ, eC, fo, rfl⟩
 refine ⟨⟨lr, (sc [5] rfl), (ci1 r0 (by exact rfl))⟩, ?_⟩
 exact eE hm
 refine eq_int (cs rfl rfl hm ?_ ?_) <;> intro ia hm
 refine draw_go ⟨⟨[], false⟩, _, [(_, _)], []⟩ (by kernel_rfl) ⟨Hp.Le.refl _, (sc [1] rfl), ci0⟩ ?_
 refine fa rfl (load1_l m0 rfl rfl ?_)
 refine cb hm fun a6 gB hm => ckx (Jao gB :) ?_
 rintro _ _ _ ⟨bd, bb, bc, bn, bf, bj, bh, bm, rfl, bu, bB, bz, bA, bg, rfl⟩
 refine ⟨⟨lr, (sc [5] rfl), ci0⟩, ?_⟩
 refine nil_check (fa rfl ?_)
 obtain ⟨iz, fm, eP, hm⟩ := ixb hm
 refine arr_addrV (sz := 4) rfl rfl fm (ba_lt bg fm eP) ?_
 refine st_ba (sz := 4) (enc := Jc.enc) (y := a6.1) (cs' := (str m.Ar.Am) :: (str m.Ar.An) :: (str m.Ar.Ae) :: (str m.Ar.Af) :: (.slice aa m.Ar.Ao.length ab) :: (.int .i64 a6.2.most) :: (str a6.2.result.Ae) :: (str a6.2.result.Af) :: (.slice bd a6.2.result.Ag.length bb) :: (.slice bc a6.2.result.Vary.length bn) :: (.slice bf a6.2.result.Ah.length bj) :: (.int .i64 a6.2.result.TTL) :: (.int .i64 a6.2.result.Ai) :: (.int .i64 a6.2.result.Aj) :: (.bool a6.2.result.Ak) :: (.bool a6.2.result.Al) :: (.slice bh a6.2.stack.length bm) :: ((a6.2.Ap.set ((x.N).toNat) a6.1).map Jc.enc).flatten) r0 rfl (by exact rfl) eP rfl (fun _ => rfl) (fun _ => rfl) (by exact rfl) (by decide) ?_
 refine ⟨⟨lr, (sc [5] rfl), ci0⟩, ?_⟩
 cases hm
 exact en lr ⟨bd, bb, bc, bn, bf, bj, bh, bm, rfl, bu, bB, bz, bA, (List.length_set.trans bg), rfl⟩ (sc [0,0,0,0,0,1] rfl)
 refine eq_int (cs rfl rfl hm ?_ ?_) <;> intro iv hm
 refine draw_go_F ⟨⟨[], false⟩, _, [(_, _)], [(b0, [str m.Ar.Am, str m.Ar.An, str m.Ar.Ae, str m.Ar.Af, .slice aa m.Ar.Ao.length ab])]⟩ 15 rfl (by kernel_rfl) ⟨Hp.Le.refl _, (sc [1] rfl), (ci1 r0 (by exact rfl))⟩ ?_
 refine fa rfl (load1_l m0 rfl rfl ?_)
 intro gu
 refine cb hm fun hY gQ hm => ckx (Jao gQ :) ?_
 rintro _ _ _ ⟨fU, eG, e8, eD, fL, gb, gf, fW, rfl, eK, fY, fX, fR, gi, rfl⟩
 refine ⟨⟨lr, (sc [5] rfl), (ci1 r0 (by exact rfl))⟩, ?_⟩
 refine ⟨_, .cons r7 .nil, ⟨lr, (sc [5] rfl), (ci1 r0 (by exact rfl))⟩, ?_⟩
 refine nil_check (fa rfl ?_)
 refine loadn_c m0 rfl (nl rfl) ?_
 intro il
 refine cb hm fun gX bJ hm => cgx (Jef bJ :) ?_
 refine ⟨⟨lr, (sc [5] rfl), (ci1 r0 (by exact rfl))⟩, ?_⟩
 refine ⟨_, .cons r7 .nil, ⟨lr, (sc [5] rfl), (ci1 r0 (by exact rfl))⟩, ?_⟩
 refine allocA rfl ?_
 intro b9
 intro gS
 refine store_rule r0 rfl ⟨rfl, rfl, (nl rfl), ?_⟩
 refine ⟨⟨lr, (sc [6] rfl), (ci1 r1 (by exact rfl))⟩, ?_⟩
 refine ⟨_, .cons r8 .nil, ⟨lr, (sc [6] rfl), (ci1 r1 (by exact rfl))⟩, ?_⟩
 refine un_not ?_
 refine cs rfl rfl hm ?_ ?_ <;> intro gO hm
 refine mk_iface rfl ?_
 exact eE hm
 refine ro (loadn_s r0 rfl (nl rfl) ?_)
 refine cb hm fun gz d8 hm => ckx (Jak d8 :) ?_
 rintro _ _ _ ⟨cD, du, ce, cz, cp, de, dC, bD, rfl, bE, cR, bG, di, ca, rfl⟩
 exact eE hm
 refine eq_int (cs rfl rfl hm ?_ ?_) <;> intro gt hm
 refine cb hm fun gY d7 hm => ckx (Jao d7 :) ?_
 rintro _ _ _ ⟨bY, bP, dq, cX, dH, dN, c6, bF, rfl, dW, bQ, ef, bX, dt, rfl⟩
 refine alloc_rule rfl fun hZ => ?_
 refine store_rule r0 rfl ⟨rfl, rfl, (nl rfl), ?_⟩
 refine draw_go_F ⟨⟨[], false⟩, _, [(_, _), (_, _)], []⟩ 12 rfl (by kernel_rfl) ⟨Hp.Le.refl _, (sc [6,0] rfl), ci0⟩ ?_
 refine fa rfl (load1_l m0 rfl rfl ?_)
 intro gu
 refine cb hm fun gn bT hm => ckx (Jao bT :) ?_
 rintro _ _ _ ⟨cM, cK, cO, bC, dh, dK, cn, db, rfl, eu, ej, dG, dU, bM, rfl⟩
 refine ⟨⟨lr, (sc [6,5] rfl), ci0⟩, ?_⟩
 refine ⟨_, .cons r8 .nil, ⟨lr, (sc [6,5] rfl), ci0⟩, ?_⟩
 refine loadn_l m1 rfl (nl rfl) ?_
 intro iq
 refine cb hm fun gU cE hm => cgx (Jdx cE :) ?_
 refine ⟨⟨lr, (sc [6,5] rfl), ci0⟩, ?_⟩
 refine ⟨_, .cons r8 .nil, ⟨lr, (sc [6,5] rfl), ci0⟩, ?_⟩
 refine allocA rfl ?_
 intro hP
 intro gJ
 refine store_rule r0 rfl ⟨rfl, rfl, (nl rfl), ?_⟩
 refine ⟨⟨lr, (sc [7,6] rfl), ci0⟩, ?_⟩
 refine ⟨_, .cons r9 .nil, ⟨lr, (sc [7,6] rfl), ci0⟩, ?_⟩
 refine un_not ?_
 refine cs rfl rfl hm ?_ ?_ <;> intro gP hm
 refine mk_iface rfl ?_
 exact eE hm
 refine ro (loadn_s r0 rfl (nl rfl) ?_)
 refine cb hm fun gG cB hm => ckx (Jak cB :) ?_
 rintro _ _ _ ⟨d6, cI, dm, dE, dp, cm, cZ, eo, rfl, dA, dB, dO, dc, dg, rfl⟩
 exact eE hm
 refine eq_int (cs rfl rfl hm ?_ ?_) <;> intro gm hm
 refine cb hm fun gV d3 hm => ckx (Jao d3 :) ?_
 rintro _ _ _ ⟨bR, cH, ee, cQ, ei, dI, ep, eg, rfl, bH, da, c5, bI, cS, rfl⟩
 refine alloc_rule rfl fun ib => ?_
 refine store_rule r0 rfl ⟨rfl, rfl, (nl rfl), ?_⟩
 refine fa rfl (ro (ld r0 rfl rfl (neq_int ?_)))
 refine cs rfl rfl hm ?_ ?_ <;> intro gl hm
 refine mk_iface rfl ?_
 exact eE hm
 refine fa rfl (ro (ld r0 rfl rfl (un_not ?_)))
 refine cb hm fun gx dM hm => cg0 (Jap dM :) ?_
 refine cb hm fun gD bZ hm => ckx (Jak bZ :) ?_
 rintro _ _ _ ⟨cd, dT, dS, bO, d4, dF, cY, bS, rfl, dL, dD, bW, bL, dk, rfl⟩
 exact eE hm
 refine eq_int (cs rfl rfl hm ?_ ?_) <;> intro gN hm
 refine fa rfl (ro (ld r1 rfl rfl ?_))
 exact eE hm
 refine eq_int (cs rfl rfl hm ?_ ?_) <;> intro gy hm
 refine cb hm fun gW cj hm => ckx (Jao cj :) ?_
 rintro _ _ _ ⟨eh, dY, bK, bU, cq, em, dP, dV, rfl, d9, dl, dv, d5, cG, rfl⟩
 refine alloc_rule rfl fun ie => ?_
 refine store_rule r0 rfl ⟨rfl, rfl, (nl rfl), ?_⟩
 refine fa rfl (ro (ld r0 rfl rfl (neq_int ?_)))
 refine cs rfl rfl hm ?_ ?_ <;> intro gC hm
 refine mk_iface rfl ?_
 exact eE hm
 refine fa rfl (ro (ld r0 rfl rfl (un_not ?_)))
 refine cs rfl rfl hm ?_ ?_ <;> intro gT hm
 refine fa rfl (ro (ld r6 rfl rfl ?_))
 exact eE hm
 exact eE hm
 refine eq_int (cs rfl rfl hm ?_ ?_) <;> intro gI hm
 refine build_struct rfl rfl ?_
 refine alloc_rule rfl fun gp => ?_
 refine store_rule r0 rfl ⟨rfl, rfl, (nl rfl), ?_⟩
 obtain ⟨co, aX, hm⟩ := bnd hm
 refine jR (σ := Bool) [168, 169, 170, 171, 172, 173, 174, 175, 176, 177, 178, 179, 180, 181] (fun a8 => [(181, .bool a8)]) (fun a8 => a8 = co) ?_ ?_
 replace aX := bsm aX
 refine guard_go rfl ?_
 refine fa rfl (ro (ld r2 rfl rfl (neq_str ?_)))
 refine cond_s ?_ ?_ <;> intro aP
 refine fa rfl (ct aP (ro (ld r2 rfl rfl (ct aP (neq_str (ct aP ?_))))))
 obtain ⟨ba, aY, aX⟩ := bnd aX
 refine cond_s ?_ ?_ <;> intro aO
 replace aY := ift (and_t aP aO) aY
 refine fa rfl (ct aO (ro (ld r2 rfl rfl (ct aO ?_))))
 refine cb aY fun gK cP aY => cg0 (Jbc cP :) ?_
 refine ct aO (un_not (ct aO ?_))
 exact mt (ba) ⟨(by rw [← (si aY)] <;> rfl), trivial⟩ rfl (pf rfl) lr (si aX)
 replace aY := iff_ (and_g aP aO) aY
 refine cf aO (cf aO (cf aO (cf aO ?_)))
 exact mt (ba) ⟨(by rw [← ((si aY).symm).symm] <;> rfl), trivial⟩ rfl (pf rfl) lr (si aX)
 refine cf aP (cf aP (cf aP ?_))
 obtain ⟨ba, aY, aX⟩ := bnd aX
 replace aY := iff_ (and_f aP) aY
 refine cF (cF (cF (cF (cF ?_))))
 exact mt (ba) ⟨(by rw [← ((si aY).symm).symm] <;> rfl), trivial⟩ rfl (pf rfl) lr (si aX)
 rintro a8 rfl gA
 obtain ⟨c9, aZ, hm⟩ := bnd hm
 refine jD (σ := (Int × Int × Str × Bool × Je) × Option Addr × Nat × Option Addr × Nat × Option Addr × Nat × Option Addr × Nat) [182, 183] [2, 7] (fun (aM, aT, aW, aQ, aU, aR, aV, aN, aS) => []) (fun (aM, aT, aW, aQ, aU, aR, aV, aN, aS) => [Cells b0 98 ((str m.Ar.Am) :: (str m.Ar.An) :: (str m.Ar.Ae) :: (str m.Ar.Af) :: (.slice aa m.Ar.Ao.length ab) :: (.int .i64 aM.2.2.2.2.most) :: (str aM.2.2.2.2.result.Ae) :: (str aM.2.2.2.2.result.Af) :: (.slice aT aM.2.2.2.2.result.Ag.length aW) :: (.slice aQ aM.2.2.2.2.result.Vary.length aU) :: (.slice aR aM.2.2.2.2.result.Ah.length aV) :: (.int .i64 aM.2.2.2.2.result.TTL) :: (.int .i64 aM.2.2.2.2.result.Ai) :: (.int .i64 aM.2.2.2.2.result.Aj) :: (.bool aM.2.2.2.2.result.Ak) :: (.bool aM.2.2.2.2.result.Al) :: (.slice aN aM.2.2.2.2.stack.length aS) :: (aM.2.2.2.2.Ap.map Jc.enc).flatten), OwnL Jd.enc aT 77 2 aW aM.2.2.2.2.result.Ag, OwnL eS aQ 9 1 aU aM.2.2.2.2.result.Vary, OwnL eS aR 9 1 aV aM.2.2.2.2.result.Ah, OwnL Jc.enc aN 95 4 aS aM.2.2.2.2.stack, Cells gp 95 [.int .i64 aM.1, .int .i64 aM.2.1, str aM.2.2.1, .bool aM.2.2.2.1]]) (fun (aM, aT, aW, aQ, aU, aR, aV, aN, aS) => (0 < aM.2.2.2.2.result.Ag.length → Has aT) ∧ (0 < aM.2.2.2.2.result.Vary.length → Has aQ) ∧ (0 < aM.2.2.2.2.result.Ah.length → Has aR) ∧ (0 < aM.2.2.2.2.stack.length → Has aN) ∧ aM.2.2.2.2.Ap.length = 512 ∧ aM = c9) (And.intro ?_ ?_)
 refine cs rfl rfl aZ ?_ ?_ <;> intro gL aZ
 refine cb aZ fun gv c8 aZ => ckx (Jao c8 :) ?_
 rintro _ _ _ ⟨df, bN, dj, dQ, dy, cU, cJ, cV, rfl, dZ, dX, dJ, dx, cC, rfl⟩
 refine store_rule r5 rfl ⟨rfl, rfl, (nl rfl), ?_⟩
 exact eM aZ (_, _, _, _, _, _, _, _, _)
 exact eM aZ (_, _, _, _, _, _, _, _, _)
 rintro ⟨aM, aT, aW, aQ, aU, aR, aV, aN, aS⟩ ⟨bt, bo, bq, br, bp, rfl⟩ hO
 refine draw_go ⟨⟨[], false⟩, _, [(_, _), (_, _)], []⟩ (by kernel_rfl) ⟨Hp.Le.refl _, (sc [6,5] rfl), ci0⟩ ?_
 refine nil_check (fa rfl (fa rfl (load1_l m0 rfl rfl (loadn_l m1 rfl (nl rfl) ?_))))
 refine cb hm fun gw bV hm => ckx (JcP (aC := [str m.Ar.Am, str m.Ar.An, str m.Ar.Ae, str m.Ar.Af, .slice aa m.Ar.Ao.length ab, .int .i64 aM.2.2.2.2.most]) (aJ := (.slice aN aM.2.2.2.2.stack.length aS) :: (aM.2.2.2.2.Ap.map Jc.enc).flatten) bV :) ?_
 rintro _ _ _ ⟨ek, cA, dz, cr, ey, cL, rfl, cW, dw, cw, rfl⟩
 refine ⟨⟨lr, (sc [6,5] rfl), ci0⟩, ?_⟩
 refine neq_err rfl ?_
 refine cs rfl rfl hm ?_ ?_ <;> intro gZ hm
 exact eE hm
 refine fa rfl (ro (ld r6 rfl rfl (eq_str ?_)))
 refine cs rfl rfl hm ?_ ?_ <;> intro gr hm
 exact eE hm
 exact eE hm
 refine eq_int (cs rfl rfl hm ?_ ?_) <;> intro gk hm
 exact eE hm
 exact eE hm

def Jbe (code : (List Jh)) (Ar : JE) : Nat → Int → Je → Option (Fl (Jf × Err) (Int × Je))
  | 0, _, _ => none
  | aP + 1, ac, aM =>
    if decide (ac ≥ 0) then
    (ix code ac).bind fun aO =>
    (Jcv (⟨Ar, aM.most, aM.result, aM.stack, aM.Ap⟩ : Je) ac aO).bind fun aN =>
    if aN.2.1.isSome then
    some (Fl.ret ((⟨([] : Str), ([] : Str), [], [], [], 0, 0, 0, false, false⟩ : Jf), aN.2.1))
    else
    Jbe code Ar aP aN.1 (⟨Ar, aN.2.2.most, aN.2.2.result, aN.2.2.stack, aN.2.2.Ap⟩ : Je)
    else
    some (Fl.go (ac, (⟨Ar, aM.most, aM.result, aM.stack, aM.Ap⟩ : Je)))
def Jbx (n : Nat) (code : (List Jh)) (Ar : JE) (most : Int) : Option (Jf × Err) :=
  (Jdq code).bind fun aM =>
  if aM.isSome then
  some ((⟨([] : Str), ([] : Str), [], [], [], 0, 0, 0, false, false⟩ : Jf), (some 2))
  else
  (Jbe code Ar n 0 (⟨Ar, most, (⟨Ar.Ae, Ar.Af, [], [], [], (-1), 0, 0, false, false⟩ : Jf), [], (List.replicate 512 (⟨0, 0, ([] : Str), false⟩ : Jc))⟩ : Je)).bind fun s0 => s0.el some fun t0 =>
  some (t0.2.result, none)
theorem Jfw {n : Nat} {code : (List Jh)} {Ar : JE} {most : Int} {aa : Option Addr} {ab : Nat} {n0 : Nat} {ag : Option Addr} {ah : Nat} {K : Hp} {r : Jf × Err}
    (hm : Jbx n code Ar most = some r) (hX : RdC Jh.enc K aa ab 3 code ∧ n0 = code.length ∧ RdC Jd.enc K ag ah 2 Ar.Ao ∧ GG K) :
    Fn Tryz.prog 13 [.slice aa n0 ab, .agg #[str Ar.Am, str Ar.An, str Ar.Ae, str Ar.Af, .slice ag Ar.Ao.length ah], .int .i64 most] K [] (fun v K' H' => ∃ ar_0 : Option Addr, ∃ cr_0 : Nat, ∃ ar_1 : Option Addr, ∃ cr_1 : Nat, ∃ ar_2 : Option Addr, ∃ cr_2 : Nat, v = .tuple #[.agg #[str r.1.Ae, str r.1.Af, .slice ar_0 r.1.Ag.length cr_0, .slice ar_1 r.1.Vary.length cr_1, .slice ar_2 r.1.Ah.length cr_2, .int .i64 r.1.TTL, .int .i64 r.1.Ai, .int .i64 r.1.Aj, .bool r.1.Ak, .bool r.1.Al], errV 87 r.2] ∧ (0 < r.1.Ag.length → Has ar_0) ∧ (0 < r.1.Vary.length → Has ar_1) ∧ (0 < r.1.Ah.length → Has ar_2) ∧ H' = [OwnL Jd.enc ar_0 77 2 cr_0 r.1.Ag, OwnL eS ar_1 9 1 cr_1 r.1.Vary, OwnL eS ar_2 9 1 cr_2 r.1.Ah]) := by
 obtain ⟨ae, bI, af, hG⟩ := hX
 subst bI
 refine Fn.enter Tryz.func13 Tryz.call13 rfl fun F => ?_
 unfold Jbx at hm
 refine box_rule ?_
 intro b4
 refine alloc_rule rfl fun b6 => ?_
 refine cb hm fun bS bK hm => cgx (JeG bK :) ?_
 refine neq_err rfl ?_
 refine cs rfl rfl hm ?_ ?_ <;> intro bR hm
 refine build_struct rfl rfl ?_
 refine mk_iface rfl ?_
 refine store_rule r0 rfl ⟨rfl, rfl, (nl rfl), ?_⟩
 refine ro (loadn_s r0 rfl (nl rfl) ?_)
 refine nilE Jd.enc 77 2 ?_
 refine nilE eS 9 1 ?_
 refine nilE eS 9 1 ?_
 exact eE hm
 refine ro (loadn_s r1 rfl (nl rfl) (fa rfl (ro (ld r1 rfl rfl (fa rfl (ro (ld r1 rfl rfl (build_struct rfl rfl (cT (cT ?_))))))))))
 refine cT ?_
 refine build_tail (enc := Jc.enc) [str ([] : Str), str ([] : Str), str ([] : Str), str ([] : Str), .slice none 0 0, .int .i64 0, str ([] : Str), str ([] : Str), .slice none 0 0, .slice none 0 0, .slice none 0 0, .int .i64 0, .int .i64 0, .int .i64 0, .bool false, .bool false, .slice none 0 0] (List.replicate 512 (⟨0, 0, ([] : Str), false⟩ : Jc)) (by kernel_rfl) rfl ?_
 refine cT (cT (cT ?_))
 refine box_tail ?_
 intro bM
 obtain ⟨s0, aU, hm⟩ := bnd hm
 refine nilC Jd.enc 77 2 ?_
 refine nilC eS 9 1 ?_
 refine nilC eS 9 1 ?_
 refine nilC Jc.enc 95 4 ?_
 refine lD (σ := (Int × Je) × Option Addr × Nat × Option Addr × Nat × Option Addr × Nat × Option Addr × Nat) [7, 9, 10, 11, 26, 27, 28, 29, 30, 31, 32, 33, 34, 35, 36, 37, 38, 39, 40, 41, 42] [5, 6, 7] (fun _ => []) (fun (t0, aM, aS, aO, aT, aN, aR, aP, aQ) => [(9, .int .i64 t0.1)]) (fun (t0, aM, aS, aO, aT, aN, aR, aP, aQ) => [Cells bM 98 ((str Ar.Am) :: (str Ar.An) :: (str Ar.Ae) :: (str Ar.Af) :: (.slice ag Ar.Ao.length ah) :: (.int .i64 t0.2.most) :: (str t0.2.result.Ae) :: (str t0.2.result.Af) :: (.slice aM t0.2.result.Ag.length aS) :: (.slice aO t0.2.result.Vary.length aT) :: (.slice aN t0.2.result.Ah.length aR) :: (.int .i64 t0.2.result.TTL) :: (.int .i64 t0.2.result.Ai) :: (.int .i64 t0.2.result.Aj) :: (.bool t0.2.result.Ak) :: (.bool t0.2.result.Al) :: (.slice aP t0.2.stack.length aQ) :: (t0.2.Ap.map Jc.enc).flatten), OwnL Jd.enc aM 77 2 aS t0.2.result.Ag, OwnL eS aO 9 1 aT t0.2.result.Vary, OwnL eS aN 9 1 aR t0.2.result.Ah, OwnL Jc.enc aP 95 4 aQ t0.2.stack]) (fun (t0, aM, aS, aO, aT, aN, aR, aP, aQ) => (0 < t0.2.result.Ag.length → Has aM) ∧ (0 < t0.2.result.Vary.length → Has aO) ∧ (0 < t0.2.result.Ah.length → Has aN) ∧ (0 < t0.2.stack.length → Has aP) ∧ t0.2.Ap.length = 512) (fun i0 (t0, aM, aS, aO, aT, aN, aR, aP, aQ) => Jbe code Ar i0 t0.1 t0.2 = some s0) (fun (t0, aM, aS, aO, aT, aN, aR, aP, aQ) => s0 = Fl.go t0) (fun i0 => i0) n ((0, (⟨Ar, most, (⟨Ar.Ae, Ar.Af, [], [], [], (-1), 0, 0, false, false⟩ : Jf), [], (List.replicate 512 (⟨0, 0, ([] : Str), false⟩ : Jc))⟩ : Je)), none, 0, none, 0, none, 0, none, 0) aU (And.intro ⟨⟨(fun h => by simp at h), (fun h => by simp at h), (fun h => by simp at h), (fun h => by simp at h), List.length_replicate⟩, ⟨rfl, trivial⟩, _, (ss [4,3,2,1,0,0,0,0] rfl)⟩ (And.intro ?_ ?_))
 clear aU
 rintro i0 ⟨⟨ac, bL⟩, bd, bc, aX, bo, bn, bm, a8, aZ⟩ ⟨bh, bj, bb, aW, a6⟩ aU j0
 dsimp only at aU ⊢
 cases i0 with
 | zero => rw [Jbe.eq_1] at aU; cases aU
 | succ i0 =>
  rw [Jbe.eq_2] at aU
  refine cs rfl rfl aU ?_ ?_ <;> intro bQ aU
  refine block_go rfl ?_
  obtain ⟨bO, bB, bp, aU⟩ := ixb aU
  refine RStep.ofN (index_addr rfl rfl (hasK ae.rd bp) bB (lt_ofE rfl bB bp) (ro (load_rd_agg ((ac).toNat) _ ae.rd rfl (mp bp) rfl ?_)))
  refine cb aU fun bP bJ aU => ckx (JdT bJ :) ?_
  rintro _ _ _ ⟨bz, bH, bD, bw, bF, br, bt, bA, rfl, bE, bC, bu, bG, bq, rfl⟩
  refine neq_err rfl ?_
  refine cs rfl rfl aU ?_ ?_ <;> intro bN aU
  refine build_struct rfl rfl ?_
  refine store_rule r5 rfl ⟨rfl, rfl, (nl rfl), ?_⟩
  refine ro (loadn_s r0 rfl (nl rfl) ?_)
  refine nilE Jd.enc 77 2 ?_
  refine nilE eS 9 1 ?_
  refine nilE eS 9 1 ?_
  exact eE (er aU hm)
  exact eR aU (_, (_, _), _, _, _, _, _, _, _, _)
  refine cT ?_
  exact eM aU (_, _, _, _, _, _, _, _, _)
 rintro ⟨t0, aM, aS, aO, aT, aN, aR, aP, aQ⟩ ⟨ba, aY, aV, bf, bg⟩ rfl j0
 replace hm := elg hm
 refine nil_check (fa rfl (ro (loadn_s r0 rfl (nl rfl) ?_)))
 refine store_rule r5 rfl ⟨rfl, rfl, (nl rfl), ?_⟩
 exact ro (loadn_s r0 rfl (nl rfl) (eE hm))

def Jax (n : Nat) : Option (Bool) :=
  (Jbx n ([(⟨2, 0, ([120] : Str)⟩ : Jh), (⟨11, 0, ([116, 97, 103] : Str)⟩ : Jh), (⟨12, 0, ([] : Str)⟩ : Jh)]) (⟨([] : Str), ([] : Str), ([47] : Str), ([] : Str), []⟩ : JE) 3).bind fun x9 =>
  (if (x9.2.isNone && decide ((x9.1.Ah.length : Int) = 1)) then (ix x9.1.Ah 0).bind fun aM =>
  some (decide (aM = ([120] : Str))) else some false).bind fun aN =>
  some (((aN && decide (x9.1.Aj = 3)) && decide (x9.1.TTL = (-1))) && decide (x9.1.Ae = ([47] : Str)))
theorem Jeg {n : Nat}  {K : Hp} {r : Bool}
    (hm : Jax n = some r) (hG : GG K) :
    Fn Tryz.prog 10 [] K [] (fun v K' H' => v = .bool r ∧ H' = []) := by
 refine Fn.enter Tryz.func10 Tryz.call10 rfl fun F => ?_
 unfold Jax at hm
 refine build_struct rfl rfl (cT (cT (build_struct rfl rfl (cT (cT (build_struct rfl rfl (cT ?_)))))))
 refine bsO (len := 3) (enc := Jh.enc) (l := [(⟨2, 0, ([120] : Str)⟩ : Jh), (⟨11, 0, ([116, 97, 103] : Str)⟩ : Jh), (⟨12, 0, ([] : Str)⟩ : Jh)]) (cl := [.int .i64 2, .int .i64 0, str ([120] : Str), .int .i64 11, .int .i64 0, str ([116, 97, 103] : Str), .int .i64 12, .int .i64 0, str ([] : Str)]) elT38 rfl rfl (fun _ _ => rfl) rfl rfl rfl ?_ fun b7 => ?_
 · conv => whnf
   refine cT (cT (cT ?_))
   first | done | rfl
 refine build_struct rfl rfl (cT ?_)
 refine cb hm fun x9 q9 hm => ck0 (Fn.lend Tryz.call13 (fun ba aV aU => (Jfw (Ar := (⟨([] : Str), ([] : Str), ([47] : Str), ([] : Str), []⟩ : JE)) (most := 3) q9 ⟨aU, rfl, RdC.nil, (hG.mono aV)⟩)) (by exact fun _ _ _ _ h => h)) ?_
 rintro _ _ _ ⟨_, rfl, a6, bd, aX, bc, bf, aY, rfl, aZ, a8, aS, rfl⟩
 refine alloc_rule rfl fun b1 => ?_
 refine store_rule r0 rfl ⟨rfl, rfl, (nl rfl), ?_⟩
 refine guard_go rfl ?_
 refine eq_err rfl ?_
 refine cond_s ?_ ?_ <;> intro aN
 refine fa rfl (ct aN (ro (ld r0 rfl rfl (ct aN (ro (len_slice rfl (ct aN (eq_int (ct aN ?_)))))))))
 obtain ⟨bb, aR, hm⟩ := bnd hm
 refine cond_s ?_ ?_ <;> intro aM
 replace aR := ift (and_t aN aM) aR
 refine fa rfl (ct aM (ro (ld r0 rfl rfl (ct aM ?_))))
 obtain ⟨bg, aW, aT, aR⟩ := ixb aR
 refine RStep.ofN (index_addr rfl rfl (hasO aS aT) aW (lt_ofE rfl aW aT) (ct aM (ro (ld_own (i := (0 : Int).toNat) (o := 0) r4 rfl aT rfl rfl (ct aM (eq_str (ct aM ?_)))))))
 refine cond_s ?_ ?_ <;> intro aO
 refine fa rfl (ct aO (ro (ld r0 rfl rfl (ct aO (eq_int (ct aO ?_))))))
 refine cond_s ?_ ?_ <;> intro aP
 refine fa rfl (ct aP (ro (ld r0 rfl rfl (ct aP (eq_int (ct aP ?_))))))
 refine cond_s ?_ ?_ <;> intro aQ
 refine fa rfl (ct aQ (ro (ld r0 rfl rfl (ct aQ (eq_str (ct aQ ?_))))))
 cases hm
 exact en lr ⟨(by rw [← (and_e (b := decide (x9.1.Ae = ([47] : Str))) (and_t (and_t ((si aR).symm.trans aO) aP) aQ))] <;> rfl), rfl⟩ (sc [5] rfl)
 refine cf aQ (cf aQ (cf aQ ?_))
 cases hm
 exact en lr ⟨(by rw [← ((and_f (and_g (and_t ((si aR).symm.trans aO) aP) aQ))).symm] <;> rfl), rfl⟩ (sc [5] rfl)
 refine cf aP (cf aP (cf aP (cF (cF (cF (cF ?_))))))
 cases hm
 exact en lr ⟨(by rw [← ((and_f (and_f (and_g ((si aR).symm.trans aO) aP)))).symm] <;> rfl), rfl⟩ (sc [5] rfl)
 refine cf aO (cf aO (cf aO (cF (cF (cF (cF (cF ?_)))))))
 refine cF (cF (cF ?_))
 cases hm
 exact en lr ⟨(by rw [← ((and_f (and_f (and_f ((si aR).symm.trans aO))))).symm] <;> rfl), rfl⟩ (sc [5] rfl)
 replace aR := iff_ (and_g aN aM) aR
 refine cf aM (cf aM (cf aM (cf aM (cf aM (cF (cF (cF ?_)))))))
 refine cF (cF (cF (cF (cF (cF (cF (cF ?_)))))))
 refine cF ?_
 cases hm
 exact en lr ⟨(by rw [← ((and_f (and_f (and_f (si aR).symm)))).symm] <;> rfl), rfl⟩ (sc [5] rfl)
 refine cf aN (cf aN (cf aN (cf aN ?_)))
 obtain ⟨bb, aR, hm⟩ := bnd hm
 replace aR := iff_ (and_f aN) aR
 refine cF (cF (cF (cF (cF (cF (cF (cF ?_)))))))
 refine cF (cF (cF (cF (cF (cF (cF (cF ?_)))))))
 refine cF (cF ?_)
 cases hm
 exact en lr ⟨(by rw [← ((and_f (and_f (and_f (si aR).symm)))).symm] <;> rfl), rfl⟩ (sc [5] rfl)

def JaZ (depth : Int) (rec_ : (Jb → Int → Option (Int))) : List Jb → Nat → Int → Option (Fl (Int) (Int))
  | [], _, ac => some (Fl.go ac)
  | e0 :: aN, i0, ac =>
    (chk (InI (depth - 1))).bind fun _ =>
    (rec_ e0 (depth - 1)).bind fun aM =>
    (chk (InI (ac + aM))).bind fun _ =>
    if decide ((ac + aM) > 700) then
    some (Fl.ret (ac + aM))
    else
    JaZ depth rec_ aN (i0 + 1) (ac + aM)
def JaL : Nat → Jb → Int → Option (Int)
  | 0, _, _ => none
  | n + 1, n', depth =>
    if (decide (depth = 0) || decide ((n'.Ac.length : Int) > 3000)) then
    some 1000
    else
    (chk (n'.Aa.length ≤ szMax)).bind fun _ =>
    (JaZ depth (JaL n) n'.Aa 0 1).bind fun s0 => s0.el some fun t0 =>
    some t0
theorem Jfh : ∀ {n : Nat} {n' : Jb} {depth : Int} {aa : Option Addr} {ab : Nat} {K : Hp} {r : Int}
    (hm : JaL n n' depth = some r) (ae : LiC Jb.R K aa ab 4 n'.Aa),
    Fn Tryz.prog 83 [.agg #[.int .i64 n'.Ab, str n'.Ac, .slice aa n'.Aa.length ab, .int .i64 n'.Ad], .int .i64 depth] K [] (fun v K' H' => v = .int .i64 r ∧ H' = []) := by
 intro n
 induction n with
 | zero =>
   intro n' depth aa ab K r hm ae
   rw [JaL.eq_1] at hm; cases hm
 | succ n ih =>
   intro n' depth aa ab K r hm ae
   refine Fn.enter Tryz.func83 Tryz.call83 rfl fun F => ?_
   rw [JaL.eq_2] at hm
   refine box_rule ?_
   intro b2
   refine jR (σ := Unit) [8, 9, 10, 11, 12, 13, 14, 15] (fun _ => [(15, .bool (decide (depth = 0) || decide ((n'.Ac.length : Int) > 3000)))]) (fun aZ => True) ?_ ?_
   refine guard_go rfl ?_
   refine eq_int ?_
   refine cond_s ?_ ?_ <;> intro aM
   refine ct aM (ct aM (ct aM (ct aM ?_)))
   exact mt (()) ⟨(by rw [← ((or_t aM)).symm] <;> rfl), trivial⟩ rfl (pf rfl) lr trivial
   refine fa rfl (cf aM (ro (ld r0 rfl rfl (cf aM (ro (len_str rfl (cf aM (cf aM ?_))))))))
   exact mt (()) ⟨(by rw [← (or_e (b := decide ((n'.Ac.length : Int) > 3000)) aM)] <;> rfl), trivial⟩ rfl (pf rfl) lr trivial
   rintro _ _ a6
   refine cs rfl rfl hm ?_ ?_ <;> intro bc hm
   exact eE hm
   refine fa rfl (ro (ld r0 rfl rfl (ro (len_slice rfl ?_))))
   obtain ⟨a8, hm⟩ := chkb hm
   obtain ⟨s0, aN, hm⟩ := bnd hm
   refine lD (σ := (Int)) [4, 5, 7, 19, 20, 21, 22, 23, 24, 25, 26, 27, 28, 29, 30, 31, 32] [0, 1] (fun i0 => [(19, .int .i64 (i0 : Int))]) (fun t0 => [(5, .int .i64 t0)]) (fun _ => []) (fun _ => True) (fun i0 t0 => JaZ depth (JaL n) (n'.Aa.drop i0) i0 t0 = some s0) (fun t0 => s0 = Fl.go t0) (fun i0 => n'.Aa.length - i0) 0 _ aN (And.intro qe (And.intro ?_ ?_))
   clear aN
   rintro i0 ac _ aN j0
   conv at aN => whnf
   refine cond_go rfl ?_
   refine cond_s ?_ ?_ <;> intro w0
   obtain ⟨e0, aO, aV⟩ := ltx w0
   rw [aV, JaZ.eq_2] at aN
   refine block_go rfl ?_
   refine RStep.ofN (index_addr rfl rfl (hasR ae.rd aO) (nn _) (lt_ofN aO) ?_)
   obtain ⟨aW, aY, aQ, aP, aR⟩ := LiR.get ae.rd aO
   obtain ⟨aT, aU, rfl, aS⟩ := Jb.out aR
   refine ro (load_rd_agg i0 _ aQ rfl aP rfl ?_)
   refine alloc_rule rfl fun b7 => ?_
   refine store_rule r0 rfl ⟨rfl, rfl, (nl rfl), ?_⟩
   refine ro (loadn_s r0 rfl (nl rfl) ?_)
   refine ci aN fun aN => ?_
   refine cb aN fun bb aX aN => cgx (ih aX :) ?_
   refine ci aN fun aN => ?_
   refine cs rfl rfl aN ?_ ?_ <;> intro ba aN
   exact eE (er aN hm)
   refine int_in (cntz aO a8) ?_
   exact eR aN (_, _)
   rw [lty w0, JaZ.eq_1] at aN
   refine cT ?_
   exact eM aN _
   rintro t0 _ rfl j0
   replace hm := elg hm
   exact eE hm

def JbY (n : Nat) (n' : Jb) : Option (Bool) :=
  (JaL n n' 40).bind fun x4 =>
  some (decide (x4 > 700))
theorem Jfi {n : Nat} {n' : Jb} {aa : Option Addr} {ab : Nat} {K : Hp} {r : Bool}
    (hm : JbY n n' = some r) (ae : LiC Jb.R K aa ab 4 n'.Aa) :
    Fn Tryz.prog 50 [.agg #[.int .i64 n'.Ab, str n'.Ac, .slice aa n'.Aa.length ab, .int .i64 n'.Ad]] K [] (fun v K' H' => v = .bool r ∧ H' = []) := by
 refine Fn.enter Tryz.func50 Tryz.call50 rfl fun F => ?_
 unfold JbY at hm
 refine box_rule ?_
 intro b1
 refine ro (loadn_s r0 rfl (nl rfl) ?_)
 refine cb hm fun x4 q4 hm => cgx (Jfh q4 :) ?_
 exact eE hm

def Jb9 (n : Nat) (n' : Jb) : Option (Bool) :=
  (JbY n n').bind fun x4 =>
  some x4
theorem Jfj {n : Nat} {n' : Jb} {aa : Option Addr} {ab : Nat} {K : Hp} {r : Bool}
    (hm : Jb9 n n' = some r) (ae : LiC Jb.R K aa ab 4 n'.Aa) :
    Fn Tryz.prog 21 [.agg #[.int .i64 n'.Ab, str n'.Ac, .slice aa n'.Aa.length ab, .int .i64 n'.Ad]] K [] (fun v K' H' => v = .bool r ∧ H' = []) := by
 refine Fn.enter Tryz.func21 Tryz.call21 rfl fun F => ?_
 unfold Jb9 at hm
 refine box_rule ?_
 intro b1
 refine ro (loadn_s r0 rfl (nl rfl) ?_)
 refine cb hm fun x4 q4 hm => cgx (Jfi q4 :) ?_
 exact eE hm

def JbZ (Ar : Jw) : Nat → Int → Int → Option (Int × Int)
  | 0, _, _ => none
  | aP + 1, ac, aM =>
    if decide (aM < (Ar.Ao.length : Int)) then
    (ix Ar.Ao aM).bind fun aO =>
    (ix Ar.Ao aM).bind fun aN =>
    JbZ Ar aP (IntKind.i64.wrap (ac + (IntKind.i64.wrap ((aO.Name.length : Int) + (aN.Value.length : Int))))) (IntKind.i64.wrap (aM + 1))
    else
    some (ac, aM)
def Jck (n : Nat) (Ar : Jw) : Option (Bool) :=
  (JbZ Ar n (IntKind.i64.wrap ((IntKind.i64.wrap ((IntKind.i64.wrap ((Ar.Am.length : Int) + (Ar.An.length : Int))) + (Ar.Ae.length : Int))) + (Ar.Af.length : Int))) 0).bind fun t0 =>
  some (decide (t0.1 ≤ 8000) && decide ((Ar.Ao.length : Int) ≤ 40))
theorem Jfx {n : Nat} {Ar : Jw} {aa : Option Addr} {ab : Nat} {K : Hp} {r : Bool}
    (hm : Jck n Ar = some r) (ae : RdC Jj.enc K aa ab 2 Ar.Ao) :
    Fn Tryz.prog 12 [.agg #[str Ar.Am, str Ar.An, str Ar.Ae, str Ar.Af, .slice aa Ar.Ao.length ab]] K [] (fun v K' H' => v = .bool r ∧ H' = []) := by
 refine Fn.enter Tryz.func12 Tryz.call12 rfl fun F => ?_
 unfold Jck at hm
 refine box_rule ?_
 intro b1
 refine fa rfl (ro (ld r0 rfl rfl (ro (len_str rfl (fa rfl (ro (ld r0 rfl rfl (ro (len_str rfl ?_)))))))))
 refine int_wrap ?_
 refine fa rfl (ro (ld r0 rfl rfl (ro (len_str rfl ?_))))
 refine int_wrap ?_
 refine fa rfl (ro (ld r0 rfl rfl (ro (len_str rfl ?_))))
 refine int_wrap ?_
 obtain ⟨s0, aN, hm⟩ := bnd hm
 refine lD (σ := (Int × Int)) [3, 4, 20, 21, 22, 23, 24, 25, 26, 27, 28, 29, 30, 31, 32, 33, 34, 35, 36, 37, 38, 39, 40, 41, 42, 43] [0, 1] (fun _ => []) (fun t0 => [(3, .int .i64 t0.1), (4, .int .i64 t0.2)]) (fun _ => []) (fun _ => True) (fun i0 t0 => JbZ Ar i0 t0.1 t0.2 = some s0) (fun t0 => t0 = s0) (fun i0 => i0) n (_, _) aN (And.intro qe (And.intro ?_ ?_))
 clear aN
 rintro i0 ⟨ac, aO⟩ _ aN j0
 dsimp only at aN ⊢
 cases i0 with
 | zero => rw [JbZ.eq_1] at aN; cases aN
 | succ i0 =>
  rw [JbZ.eq_2] at aN
  refine fa rfl (ro (ld r0 rfl rfl (ro (len_slice rfl ?_))))
  refine cs rfl rfl aN ?_ ?_ <;> intro aV aN
  refine block_go rfl ?_
  refine draw_go ⟨⟨[], false⟩, _, [(_, _)], []⟩ (by kernel_rfl) ⟨Hp.Le.refl _, (pf rfl), ci0⟩ ?_
  refine fa rfl (load1_l m0 rfl rfl ?_)
  obtain ⟨aT, aR, aQ, aN⟩ := ixb aN
  refine index_addr rfl rfl (hasK ae.rd aQ) aR (lt_ofE rfl aR aQ) (eptr_field rfl (hasK ae.rd aQ) (load_rd_l ((aO).toNat) 0 _ _ ae.rd rfl (mp aQ) rfl rfl (len_strN rfl (fa rfl (load1_l m0 rfl rfl ?_)))))
  obtain ⟨aU, aS, aP, aN⟩ := ixb aN
  refine index_addr rfl rfl (hasK ae.rd aP) aS (lt_ofE rfl aS aP) (eptr_field rfl (hasK ae.rd aP) (load_rd_l ((aO).toNat) 1 _ _ ae.rd rfl (mp aP) rfl rfl (len_strN rfl ?_)))
  refine int_wrap ?_
  refine int_wrap ?_
  refine int_wrap ?_
  exact eR aN (_, (_, _))
  refine cT ?_
  exact eM aN _
 rintro t0 _ rfl j0
 refine guard_go rfl ?_
 refine cond_s ?_ ?_ <;> intro aM
 refine fa rfl (ct aM (ro (ld r0 rfl rfl (ct aM (ro (len_slice rfl (ct aM (ct aM ?_))))))))
 cases hm
 exact en lr ⟨(by rw [← (and_e (b := decide ((Ar.Ao.length : Int) ≤ 40)) aM)] <;> rfl), rfl⟩ (sc [1] rfl)
 refine cf aM (cf aM (cf aM (cf aM ?_)))
 cases hm
 exact en lr ⟨(by rw [← ((and_f aM)).symm] <;> rfl), rfl⟩ (sc [1] rfl)

def Jca (rec_ : (Jb → Option (Ja))) : List Jb → Nat → (List Ja) → Option ((List Ja))
  | [], _, ac => some ac
  | e0 :: aN, i0, ac =>
    (rec_ e0).bind fun aM =>
    (chk (ac.length + [aM].length ≤ lim)).bind fun _ =>
    Jca rec_ aN (i0 + 1) (ac ++ [aM])
def Jb6 : Nat → Jb → Option (Ja)
  | 0, _ => none
  | n + 1, n' =>
    (chk (n'.Aa.length ≤ szMax)).bind fun _ =>
    (Jca (Jb6 n) n'.Aa 0 []).bind fun t0 =>
    some (⟨n'.Ab, n'.Ac, t0, n'.Ad⟩ : Ja)
theorem Je5 : ∀ {n : Nat} {n' : Jb} {aa : Option Addr} {ab : Nat} {K : Hp} {r : Ja}
    (hm : Jb6 n n' = some r) (ae : LiC Jb.R K aa ab 4 n'.Aa),
    Fn Tryz.prog 23 [.agg #[.int .i64 n'.Ab, str n'.Ac, .slice aa n'.Aa.length ab, .int .i64 n'.Ad]] K [] (fun v K' H' => ∃ ar_0 : Option Addr, ∃ cr_0 : Nat, ∃ sr_0 : List (List Value), v = .agg #[.int .i64 r.Ab, str r.Ac, .slice ar_0 r.Aa.length cr_0, .int .i64 r.Ad] ∧ (0 < r.Aa.length → Has ar_0) ∧ LR Ja.R K' sr_0 r.Aa ∧ H' = [OwnA ar_0 68 4 cr_0 sr_0]) := by
 intro n
 induction n with
 | zero =>
   intro n' aa ab K r hm ae
   rw [Jb6.eq_1] at hm; cases hm
 | succ n ih =>
   intro n' aa ab K r hm ae
   refine Fn.enter Tryz.func23 Tryz.call23 rfl fun F => ?_
   rw [Jb6.eq_2] at hm
   refine box_rule ?_
   intro b1
   refine alloc_rule rfl fun b2 => ?_
   refine fa rfl (ro (ld r1 rfl rfl (fa rfl (ro (ld r1 rfl rfl (fa rfl (ro (ld r1 rfl rfl (build_struct rfl rfl (cT ?_))))))))))
   refine cT (cT ?_)
   refine alloc_rule rfl fun b3 => ?_
   refine store_rule r0 rfl ⟨rfl, rfl, (nl rfl), ?_⟩
   refine fa rfl (ro (ld r2 rfl rfl (ro (len_slice rfl ?_))))
   obtain ⟨bz, hm⟩ := chkb hm
   obtain ⟨s0, aU, hm⟩ := bnd hm
   refine nilC (fun _ : Ja => []) 68 4 ?_
   refine lC (σ := ((List Ja)) × Option Addr × Nat × List (List Value)) [5, 16, 17, 18, 19, 20, 21, 22, 23, 24, 25, 26, 27] [2, 3, 4] (fun i0 => [(16, .int .i64 (i0 : Int))]) (fun _ => []) (fun (t0, aM, aR, aS) => [OwnA aM 68 4 aR aS, Cells b3 68 [.int .i64 n'.Ab, str n'.Ac, .slice aM t0.length aR, .int .i64 n'.Ad]]) (fun zz K1 => match zz with | (t0, aM, aR, aS) => LR Ja.R K1 aS t0 ∧ (0 < t0.length → Has aM)) (fun i0 (t0, aM, aR, aS) => Jca (Jb6 n) (n'.Aa.drop i0) i0 t0 = some s0) (fun (t0, aM, aR, aS) => t0 = s0) (fun i0 => n'.Aa.length - i0) 0 (_, _, _, _) aU (And.intro qe (And.intro ?_ ?_))
   clear aU
   rintro i0 ⟨ac, bj, bd, bf⟩ bC bq ⟨aW, bg⟩ aU j0
   conv at aU => whnf
   refine cond_go rfl ?_
   refine cond_s ?_ ?_ <;> intro w0
   obtain ⟨e0, aY, bt⟩ := ltx w0
   rw [bt, Jca.eq_2] at aU
   refine block_go rfl ?_
   refine RStep.ofN (index_addr rfl rfl (hasR (LiC.mono Jb.R_ok bq ae).rd aY) (nn _) (lt_ofN aY) ?_)
   obtain ⟨bw, bu, a6, ba, aZ⟩ := LiR.get (LiC.mono Jb.R_ok bq ae).rd aY
   obtain ⟨bb, bo, rfl, bn⟩ := Jb.out aZ
   refine ro (load_rd_agg i0 _ a6 rfl ba rfl ?_)
   refine alloc_rule rfl fun b5 => ?_
   refine store_rule r0 rfl ⟨rfl, rfl, (nl rfl), ?_⟩
   refine draw_go_tail ⟨⟨[], false⟩, _, [(_, _), (_, _)], []⟩ 5 rfl (by kernel_rfl) ⟨Hp.Le.refl _, (sc [2,0] rfl), ci0⟩ ?_
   refine fa rfl (load1_l m0 rfl rfl (loadn_l m1 rfl (nl rfl) ?_))
   refine cb aU fun aQ br aU => cfx (ih br :) ?_
   rintro _ bE _ a8 ⟨aO, aN, bh, rfl, bm, aV, rfl⟩
   refine ⟨⟨a8, (sc [3,1] rfl), ci0⟩, ?_⟩
   refine fzWR Ja.R_ok r0 aV fun aX aT aP => ?_
   refine bsOR (R := Ja.R) (len := 1) (l := [aQ]) (css := [[.int .i64 aQ.Ab, str aQ.Ac, .slice aO aQ.Aa.length aN, .int .i64 aQ.Ad]]) (cl := [.int .i64 aQ.Ab, str aQ.Ac, .slice aO aQ.Aa.length aN, .int .i64 aQ.Ad]) Ja.R_ok elT66 rfl rfl (LR.snoc LR.nil (Ja.of (x := aQ) ⟨aO, aN, rfl, aP⟩)) rfl rfl rfl ?_ fun bH => ?_
   · conv => whnf
     refine cT ?_
     first | done | rfl
   refine ⟨⟨(a8.trans aT), (sc [3,1] rfl), ci0⟩, ?_⟩
   obtain ⟨bA, aU⟩ := chkb aU
   refine apRl r2 (LR.mono Ja.R_ok (a8.trans aT) aW) rfl elT66 (src_ownR rfl r0 rfl Ja.R_ok (show LR Ja.R _ [[.int .i64 aQ.Ab, str aQ.Ac, .slice aO aQ.Aa.length aN, .int .i64 aQ.Ad]] [aQ] from (LR.snoc LR.nil (Ja.of (x := aQ) ⟨aO, aN, rfl, aP⟩)))) (show LR Ja.R _ [[.int .i64 aQ.Ab, str aQ.Ac, .slice aO aQ.Aa.length aN, .int .i64 aQ.Ad]] [aQ] from (LR.snoc LR.nil (Ja.of (x := aQ) ⟨aO, aN, rfl, aP⟩))) bA ?_
   intro bB bD bJ r_25 bF
   refine ⟨⟨Hp.emp_le _, (pf rfl), ci0⟩, ?_⟩
   refine fa rfl ?_
   refine store_rule r3 rfl ⟨rfl, rfl, (nl rfl), ?_⟩
   refine ⟨⟨Hp.emp_le _, (pf rfl), ci0⟩, ?_⟩
   refine int_in (cntz aY bz) ?_
   exact eR aU (_, _, _, _, _)
   rw [lty w0, Jca.eq_1] at aU
   refine cT ?_
   exact eM aU (_, _, _, _)
   rintro ⟨t0, aM, aR, aS⟩ bG bI ⟨bp, bc⟩ rfl j0
   refine ro (loadn_s r1 rfl (nl rfl) ?_)
   refine store_rule r2 rfl ⟨rfl, rfl, (nl rfl), ?_⟩
   exact ro (loadn_s r0 rfl (nl rfl) (eE hm))

def Ja3 : List Jj → Nat → (List Jd) → Option ((List Jd))
  | [], _, ac => some ac
  | e0 :: aM, i0, ac =>
    (chk (ac.length + [(⟨e0.Name, e0.Value⟩ : Jd)].length ≤ lim)).bind fun _ =>
    Ja3 aM (i0 + 1) (ac ++ [(⟨e0.Name, e0.Value⟩ : Jd)])
def JcZ (l : (List Jj)) : Option ((List Jd)) :=
  (chk (l.length ≤ szMax)).bind fun _ =>
  (Ja3 l 0 []).bind fun t0 =>
  some t0
theorem Je6 {l : (List Jj)} {aa : Option Addr} {ab : Nat} {n0 : Nat} {K : Hp} {r : (List Jd)}
    (hm : JcZ l = some r) (hX : RdC Jj.enc K aa ab 2 l ∧ n0 = l.length) :
    Fn Tryz.prog 34 [.slice aa n0 ab] K [] (fun v K' H' => ∃ ar_0 : Option Addr, ∃ cr_0 : Nat, v = .slice ar_0 r.length cr_0 ∧ (0 < r.length → Has ar_0) ∧ H' = [OwnL Jd.enc ar_0 77 2 cr_0 r]) := by
 obtain ⟨ae, aX⟩ := hX
 subst aX
 refine Fn.enter Tryz.func34 Tryz.call34 rfl fun F => ?_
 unfold JcZ at hm
 refine ro (len_slice rfl ?_)
 obtain ⟨aW, hm⟩ := chkb hm
 obtain ⟨s0, aO, hm⟩ := bnd hm
 refine nilC Jd.enc 77 2 ?_
 refine lD (σ := ((List Jd)) × Option Addr × Nat) [3, 5, 8, 9, 10, 11, 12, 13, 14, 15, 16, 17, 18, 19, 20] [1] (fun i0 => [(8, .int .i64 (i0 : Int))]) (fun (t0, aM, aN) => [(3, .slice aM t0.length aN)]) (fun (t0, aM, aN) => [OwnL Jd.enc aM 77 2 aN t0]) (fun (t0, aM, aN) => (0 < t0.length → Has aM) ∧ True) (fun i0 (t0, aM, aN) => Ja3 (l.drop i0) i0 t0 = some s0) (fun (t0, aM, aN) => t0 = s0) (fun i0 => l.length - i0) 0 (_, _, _) aO (And.intro qe (And.intro ?_ ?_))
 clear aO
 rintro i0 ⟨ac, aR, aT⟩ ⟨aQ, _⟩ aO j0
 conv at aO => whnf
 refine cond_go rfl ?_
 refine cond_s ?_ ?_ <;> intro w0
 obtain ⟨e0, aP, aV⟩ := ltx w0
 rw [aV, Ja3.eq_2] at aO
 refine block_go rfl ?_
 refine RStep.ofN (index_addr rfl rfl (hasK ae.rd aP) (nn _) (lt_ofN aP) (ro (load_rd_agg i0 _ ae.rd rfl (mp aP) rfl ?_)))
 refine alloc_rule rfl fun b5 => ?_
 refine store_rule r0 rfl ⟨rfl, rfl, (nl rfl), ?_⟩
 refine fa rfl (ro (ld r0 rfl rfl (fa rfl (ro (ld r0 rfl rfl (build_struct rfl rfl (cT (cT ?_))))))))
 refine bsO (len := 1) (enc := Jd.enc) (l := [(⟨e0.Name, e0.Value⟩ : Jd)]) (cl := [str e0.Name, str e0.Value]) elT30 rfl rfl (fun _ _ => rfl) rfl rfl rfl ?_ fun a6 => ?_
 · conv => whnf
   refine cT ?_
   first | done | rfl
 obtain ⟨aU, aO⟩ := chkb aO
 refine apE rfl r2 elT30 (src_own' rfl r0 rfl (fun _ => rfl) (fun _ => rfl)) aU ?_
 intro a8 aY aZ
 refine int_in (cntz aP aW) ?_
 exact eR aO (_, _, _, _)
 rw [lty w0, Ja3.eq_1] at aO
 refine cT ?_
 exact eM aO (_, _, _)
 rintro ⟨t0, aM, aN⟩ ⟨aS, _⟩ rfl j0
 exact eE hm

def JaU (Ar : Jw) : Option (JE) :=
  (JcZ Ar.Ao).bind fun aM =>
  some (⟨Ar.Am, Ar.An, Ar.Ae, Ar.Af, aM⟩ : JE)
theorem Jeh {Ar : Jw} {aa : Option Addr} {ab : Nat} {K : Hp} {r : JE}
    (hm : JaU Ar = some r) (ae : RdC Jj.enc K aa ab 2 Ar.Ao) :
    Fn Tryz.prog 15 [.agg #[str Ar.Am, str Ar.An, str Ar.Ae, str Ar.Af, .slice aa Ar.Ao.length ab]] K [] (fun v K' H' => ∃ ar_0 : Option Addr, ∃ cr_0 : Nat, v = .agg #[str r.Am, str r.An, str r.Ae, str r.Af, .slice ar_0 r.Ao.length cr_0] ∧ (0 < r.Ao.length → Has ar_0) ∧ H' = [OwnL Jd.enc ar_0 77 2 cr_0 r.Ao]) := by
 refine Fn.enter Tryz.func15 Tryz.call15 rfl fun F => ?_
 unfold JaU at hm
 refine box_rule ?_
 intro b1
 refine alloc_rule rfl fun b2 => ?_
 refine draw_go ⟨⟨[], false⟩, _, [(_, _)], []⟩ (by kernel_rfl) ⟨Hp.Le.refl _, (sc [1] rfl), ci0⟩ ?_
 refine fa rfl (load1_l m0 rfl rfl (fa rfl (load1_l m0 rfl rfl (fa rfl (load1_l m0 rfl rfl (fa rfl (load1_l m0 rfl rfl ?_)))))))
 refine fa rfl (load1_l m0 rfl rfl ?_)
 refine cb hm fun aQ aP hm => ckx (Je6 aP :) ?_
 rintro _ _ _ ⟨aN, aO, rfl, aM, rfl⟩
 refine ⟨⟨lr, (sc [2] rfl), ci0⟩, ?_⟩
 refine build_struct rfl rfl (cT (cT (cT (cT (cT ?_)))))
 refine store_rule r1 rfl ⟨rfl, rfl, (nl rfl), ?_⟩
 refine ⟨⟨lr, (sc [2] rfl), ci0⟩, ?_⟩
 exact ro (loadn_s r0 rfl (nl rfl) (eE hm))

def Jau (depth : Int) (rec_ : (Ja → Int → Int → Option (Bool × Int))) : List Ja → Nat → Int → Option (Fl (Bool × Int) (Int))
  | [], _, ac => some (Fl.go ac)
  | e0 :: aN, i0, ac =>
    (chk (InI (depth - 1))).bind fun _ =>
    (rec_ e0 ac (depth - 1)).bind fun aM =>
    if (!aM.1) then
    some (Fl.ret (false, aM.2))
    else
    Jau depth rec_ aN (i0 + 1) aM.2
def Jas : Nat → Ja → Int → Int → Option (Bool × Int)
  | 0, _, _, _ => none
  | n + 1, n', nodes, depth =>
    (chk (InI (nodes - 1))).bind fun _ =>
    if (decide ((nodes - 1) < 0) || decide (depth < 1)) then
    some (false, (nodes - 1))
    else
    (chk (n'.Aa.length ≤ szMax)).bind fun _ =>
    (Jau depth (Jas n) n'.Aa 0 (nodes - 1)).bind fun s0 => s0.el some fun t0 =>
    some (true, t0)
theorem JeI : ∀ {n : Nat} {n' : Ja} {nodes : Int} {depth : Int} {aa : Option Addr} {ab : Nat} {b1 : Nat} {K : Hp} {r : Bool × Int}
    (hm : Jas n n' nodes depth = some r) (ae : LiC Ja.R K aa ab 4 n'.Aa),
    Fn Tryz.prog 124 [.agg #[.int .i64 n'.Ab, str n'.Ac, .slice aa n'.Aa.length ab, .int .i64 n'.Ad], .pointer (some ⟨b1, 0, none⟩), .int .i64 depth] K [Cells b1 3 [.int .i64 nodes]] (fun v K' H' => v = .bool r.1 ∧ H' = [Cells b1 3 [.int .i64 r.2]]) := by
 intro n
 induction n with
 | zero =>
   intro n' nodes depth aa ab b1 K r hm ae
   rw [Jas.eq_1] at hm; cases hm
 | succ n ih =>
   intro n' nodes depth aa ab b1 K r hm ae
   refine Fn.enter Tryz.func124 Tryz.call124 rfl fun F => ?_
   rw [Jas.eq_2] at hm
   refine box_rule ?_
   intro b3
   refine nil_check (ro (ld r1 rfl rfl ?_))
   obtain ⟨aX, hm⟩ := chkb hm
   refine int_in aX (nil_check ?_)
   refine store_rule r1 rfl ⟨rfl, rfl, (nl rfl), ?_⟩
   refine jR (σ := Unit) [14, 15, 16, 17, 18, 19, 20, 21] (fun _ => [(21, .bool (decide ((nodes - 1) < 0) || decide (depth < 1)))]) (fun aZ => True) ?_ ?_
   refine guard_go rfl ?_
   refine nil_check (ro (ld r0 rfl rfl ?_))
   refine cond_s ?_ ?_ <;> intro aM
   refine ct aM (ct aM ?_)
   exact mt (()) ⟨(by rw [← ((or_t aM)).symm] <;> rfl), trivial⟩ rfl (pf rfl) lr trivial
   refine cf aM (cf aM ?_)
   exact mt (()) ⟨(by rw [← (or_e (b := decide (depth < 1)) aM)] <;> rfl), trivial⟩ rfl (pf rfl) lr trivial
   rintro _ _ a6
   refine cs rfl rfl hm ?_ ?_ <;> intro bc hm
   exact eE hm
   refine fa rfl (ro (ld r1 rfl rfl (ro (len_slice rfl ?_))))
   obtain ⟨a8, hm⟩ := chkb hm
   obtain ⟨s0, aN, hm⟩ := bnd hm
   refine lD (σ := (Int)) [6, 8, 25, 26, 27, 28, 29, 30, 31, 32, 33, 34, 35] [1, 2] (fun i0 => [(25, .int .i64 (i0 : Int))]) (fun _ => []) (fun t0 => [Cells b1 3 [.int .i64 t0]]) (fun _ => True) (fun i0 t0 => Jau depth (Jas n) (n'.Aa.drop i0) i0 t0 = some s0) (fun t0 => s0 = Fl.go t0) (fun i0 => n'.Aa.length - i0) 0 _ aN (And.intro qe (And.intro ?_ ?_))
   clear aN
   rintro i0 ac _ aN j0
   conv at aN => whnf
   refine cond_go rfl ?_
   refine cond_s ?_ ?_ <;> intro w0
   obtain ⟨e0, aO, aV⟩ := ltx w0
   rw [aV, Jau.eq_2] at aN
   refine block_go rfl ?_
   refine RStep.ofN (index_addr rfl rfl (hasR ae.rd aO) (nn _) (lt_ofN aO) ?_)
   obtain ⟨aY, ba, aQ, aP, aR⟩ := LiR.get ae.rd aO
   obtain ⟨aU, aT, rfl, aS⟩ := Ja.out aR
   refine ro (load_rd_agg i0 _ aQ rfl aP rfl ?_)
   refine alloc_rule rfl fun b8 => ?_
   refine store_rule r0 rfl ⟨rfl, rfl, (nl rfl), ?_⟩
   refine ro (loadn_s r0 rfl (nl rfl) ?_)
   refine ci aN fun aN => ?_
   refine cb aN fun bb aW aN => cgx (ih aW :) ?_
   refine un_not ?_
   refine cs rfl rfl aN ?_ ?_ <;> intro bd aN
   exact eE (er aN hm)
   refine int_in (cntz aO a8) ?_
   exact eR aN (_, _)
   rw [lty w0, Jau.eq_1] at aN
   refine cT ?_
   exact eM aN _
   rintro t0 _ rfl j0
   replace hm := elg hm
   exact eE hm

def JaG (kind : Int) (text : Str) : Option (Bool) :=
  if decide (text = ([61, 61] : Str)) then
  some (decide (kind = 4))
  else
  if decide (text = ([33, 61] : Str)) then
  some (decide (kind = 4))
  else
  if decide (text = ([60] : Str)) then
  some (decide (kind = 4))
  else
  if decide (text = ([60, 61] : Str)) then
  some (decide (kind = 4))
  else
  if decide (text = ([115, 116, 97, 114, 116, 115] : Str)) then
  some (decide (kind = 1))
  else
  if decide (text = ([101, 110, 100, 115] : Str)) then
  some (decide (kind = 1))
  else
  if decide (text = ([99, 111, 110, 116, 97, 105, 110, 115] : Str)) then
  some (decide (kind = 1))
  else
  some false
theorem Jc3 {kind : Int} {text : Str} {K : Hp} {r : Bool}
    (hm : JaG kind text = some r)  :
    Fn Tryz.prog 222 [.int .i64 kind, str text] K [] (fun v K' H' => v = .bool r ∧ H' = []) := by
 refine Fn.enter Tryz.func222 Tryz.call222 rfl fun F => ?_
 unfold JaG at hm
 refine block_go rfl ?_
 refine eq_str (cs rfl rfl hm ?_ ?_) <;> intro w6 hm
 refine cond_go rfl (ct w6 (eq_int ?_))
 exact eE hm
 refine eq_str (cs rfl rfl hm ?_ ?_) <;> intro w6 hm
 refine cond_go rfl (ct w6 (eq_int ?_))
 exact eE hm
 refine eq_str (cs rfl rfl hm ?_ ?_) <;> intro w6 hm
 refine cond_go rfl (ct w6 (eq_int ?_))
 exact eE hm
 refine eq_str (cs rfl rfl hm ?_ ?_) <;> intro w6 hm
 refine eq_int ?_
 exact eE hm
 refine eq_str (cs rfl rfl hm ?_ ?_) <;> intro aM hm
 refine cond_go rfl (ct aM (eq_int ?_))
 exact eE hm
 refine eq_str (cs rfl rfl hm ?_ ?_) <;> intro aM hm
 refine cond_go rfl (ct aM (eq_int ?_))
 exact eE hm
 refine eq_str (cs rfl rfl hm ?_ ?_) <;> intro aM hm
 refine eq_int ?_
 exact eE hm
 exact eE hm

def JaM : List UInt8 → Nat → Option (Fl (Bool) (Unit))
  | [], _ => some (Fl.go ())
  | e0 :: aN, i0 =>
    (if decide ((e0.toNat : Int) < 48) then some true else some (decide ((e0.toNat : Int) > 57))).bind fun aM =>
    if aM then
    some (Fl.ret false)
    else
    JaM aN (i0 + 1)
def Jcb (s : Str) : Option (Bool) :=
  (chk (s.length ≤ szMax)).bind fun _ =>
  (JaM s 0).bind fun s0 => s0.el some fun t0 =>
  some (decide ((s.length : Int) ≥ 1) && decide ((s.length : Int) ≤ 9))
theorem Jes {s : Str} {K : Hp} {r : Bool}
    (hm : Jcb s = some r)  :
    Fn Tryz.prog 223 [str s] K [] (fun v K' H' => v = .bool r ∧ H' = []) := by
 refine Fn.enter Tryz.func223 Tryz.call223 rfl fun F => ?_
 unfold Jcb at hm
 refine ro (len_str rfl ?_)
 obtain ⟨aT, hm⟩ := chkb hm
 obtain ⟨s0, aO, hm⟩ := bnd hm
 refine lD (σ := (Unit)) [2, 3, 6, 7, 8, 9, 10, 11, 12, 13, 14, 15, 16, 17, 18, 19] [0] (fun i0 => [(6, .int .i64 (i0 : Int))]) (fun _ => []) (fun _ => []) (fun _ => True) (fun i0 _ => JaM (s.drop i0) i0 = some s0) (fun t0 => s0 = Fl.go t0) (fun i0 => s.length - i0) 0 () aO (And.intro qe (And.intro ?_ ?_))
 clear aO
 rintro i0 _ _ aO j0
 conv at aO => whnf
 refine cond_go rfl ?_
 refine cond_s ?_ ?_ <;> intro w0
 obtain ⟨e0, aQ, aS⟩ := ltx w0
 rw [aS, JaM.eq_2] at aO
 refine block_go rfl ?_
 refine guard_go rfl ?_
 refine idx_str rfl (nn _) aQ ?_
 obtain ⟨aU, aP, aO⟩ := bnd aO
 refine cond_s ?_ ?_ <;> intro aM
 replace aP := ift aM aP
 refine ct aM (ct aM (ct aM (ct aM (cond_go rfl (cT ?_)))))
 replace aO := ift (si aP).symm aO
 exact eE (er aO hm)
 replace aP := iff_ aM aP
 refine cf aM (cf aM (idx_str rfl (nn _) aQ (cf aM (cf aM (cond_go rfl ?_)))))
 refine cond_s ?_ ?_ <;> intro aR
 replace aO := ift ((si aP).symm.trans aR) aO
 exact eE (er aO hm)
 replace aO := iff_ ((si aP).symm.trans aR) aO
 refine int_in (cntz aQ aT) ?_
 exact eR aO (_, ())
 rw [lty w0, JaM.eq_1] at aO
 refine cT ?_
 exact eM aO _
 rintro t0 _ rfl j0
 replace hm := elg hm
 refine guard_go rfl ?_
 refine ro (len_str rfl ?_)
 refine cond_s ?_ ?_ <;> intro aN
 refine ct aN (ro (len_str rfl (ct aN (ct aN ?_))))
 cases hm
 exact en lr ⟨(by rw [← (and_e (b := decide ((s.length : Int) ≤ 9)) aN)] <;> rfl), rfl⟩ (pf rfl)
 refine cf aN (cf aN (cf aN ?_))
 cases hm
 exact en lr ⟨(by rw [← ((and_f aN)).symm] <;> rfl), rfl⟩ (pf rfl)

def JaN (s : Str) : Option (Bool) :=
  (JcE s).bind fun x7 =>
  some x7.2.isNone
theorem Jcc {s : Str} {K : Hp} {r : Bool}
    (hm : JaN s = some r)  :
    Fn Tryz.prog 158 [str s] K [] (fun v K' H' => v = .bool r ∧ H' = []) := by
 refine Fn.enter Tryz.func158 Tryz.call158 rfl fun F => ?_
 unfold JaN at hm
 refine cb hm fun x7 q7 hm => cg0 (JdO q7 :) ?_
 refine eq_err rfl ?_
 exact eE hm

def Ja0 (c : UInt8) : Option (Bool) :=
  some ((decide ((c.toNat : Int) ≥ 97) && decide ((c.toNat : Int) ≤ 122)) || decide ((c.toNat : Int) = 95))
theorem JdA {c : UInt8} {K : Hp} {r : Bool}
    (hm : Ja0 c = some r)  :
    Fn Tryz.prog 248 [.int .u8 (c.toNat : Int)] K [] (fun v K' H' => v = .bool r ∧ H' = []) := by
 refine Fn.enter Tryz.func248 Tryz.call248 rfl fun F => ?_
 unfold Ja0 at hm
 refine guard_go rfl ?_
 refine cond_s ?_ ?_ <;> intro aM
 refine ct aM (ct aM ?_)
 refine cond_s ?_ ?_ <;> intro aN
 refine ct aN (ct aN ?_)
 cases hm
 exact en lr ⟨(by rw [← ((or_t (and_t aM aN))).symm] <;> rfl), rfl⟩ (pf rfl)
 refine cf aN (eq_int (cf aN ?_))
 cases hm
 exact en lr ⟨(by rw [← (or_e (b := decide ((c.toNat : Int) = 95)) (and_g aM aN))] <;> rfl), rfl⟩ (pf rfl)
 refine cf aM (cf aM (cF (cF (eq_int (cF ?_)))))
 cases hm
 exact en lr ⟨(by rw [← (or_e (b := decide ((c.toNat : Int) = 95)) (and_f aM))] <;> rfl), rfl⟩ (pf rfl)

def JaO (c : UInt8) : Option (Bool) :=
  some (decide ((c.toNat : Int) ≥ 48) && decide ((c.toNat : Int) ≤ 57))
theorem Jc1 {c : UInt8} {K : Hp} {r : Bool}
    (hm : JaO c = some r)  :
    Fn Tryz.prog 249 [.int .u8 (c.toNat : Int)] K [] (fun v K' H' => v = .bool r ∧ H' = []) := by
 refine Fn.enter Tryz.func249 Tryz.call249 rfl fun F => ?_
 unfold JaO at hm
 refine guard_go rfl ?_
 refine cond_s ?_ ?_ <;> intro aM
 refine ct aM (ct aM ?_)
 cases hm
 exact en lr ⟨(by rw [← (and_e (b := decide ((c.toNat : Int) ≤ 57)) aM)] <;> rfl), rfl⟩ (pf rfl)
 refine cf aM (cf aM ?_)
 cases hm
 exact en lr ⟨(by rw [← ((and_f aM)).symm] <;> rfl), rfl⟩ (pf rfl)
