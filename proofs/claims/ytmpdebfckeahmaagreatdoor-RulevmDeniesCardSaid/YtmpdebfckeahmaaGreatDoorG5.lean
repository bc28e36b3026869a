/- Functions of the program: mirrors, and that a call returns what the mirror says. Printed by gen.py. -/
import Derived.Test.YtmpdebfckeahmaaGreatDoorG4
set_option linter.unusedVariables false
set_option linter.unusedSimpArgs false
open Go Go.SL Go.Proofs
noncomputable section
set_option maxRecDepth 1000000
set_option maxHeartbeats 8000000
def JcV : Option ((List Str)) :=
  some ([([105, 102] : Str), ([101, 108, 115, 101] : Str), ([108, 101, 116] : Str), ([118, 97, 114, 121] : Str), ([116, 97, 103] : Str), ([116, 116, 108] : Str), ([100, 101, 110, 121] : Str), ([112, 97, 115, 115] : Str), ([116, 111, 107, 101, 110] : Str), ([111, 114] : Str), ([97, 110, 100] : Str), ([110, 111, 116] : Str), ([115, 116, 97, 114, 116, 115] : Str), ([101, 110, 100, 115] : Str), ([99, 111, 110, 116, 97, 105, 110, 115] : Str), ([116, 114, 117, 101] : Str), ([102, 97, 108, 115, 101] : Str)])
theorem JeO  {K : Hp} {r : (List Str)}
    (hm : JcV = some r)  :
    Fn Tryz.prog 226 [] K [] (fun v K' H' => ∃ ar_0 : Option Addr, ∃ cr_0 : Nat, v = .slice ar_0 r.length cr_0 ∧ (0 < r.length → Has ar_0) ∧ H' = [OwnL eS ar_0 9 1 cr_0 r]) := by
 refine Fn.enter Tryz.func226 Tryz.call226 rfl fun F => ?_
 unfold JcV at hm
 refine bsO (len := 17) (enc := eS) (l := [([105, 102] : Str), ([101, 108, 115, 101] : Str), ([108, 101, 116] : Str), ([118, 97, 114, 121] : Str), ([116, 97, 103] : Str), ([116, 116, 108] : Str), ([100, 101, 110, 121] : Str), ([112, 97, 115, 115] : Str), ([116, 111, 107, 101, 110] : Str), ([111, 114] : Str), ([97, 110, 100] : Str), ([110, 111, 116] : Str), ([115, 116, 97, 114, 116, 115] : Str), ([101, 110, 100, 115] : Str), ([99, 111, 110, 116, 97, 105, 110, 115] : Str), ([116, 114, 117, 101] : Str), ([102, 97, 108, 115, 101] : Str)]) (cl := [str ([105, 102] : Str), str ([101, 108, 115, 101] : Str), str ([108, 101, 116] : Str), str ([118, 97, 114, 121] : Str), str ([116, 97, 103] : Str), str ([116, 116, 108] : Str), str ([100, 101, 110, 121] : Str), str ([112, 97, 115, 115] : Str), str ([116, 111, 107, 101, 110] : Str), str ([111, 114] : Str), str ([97, 110, 100] : Str), str ([110, 111, 116] : Str), str ([115, 116, 97, 114, 116, 115] : Str), str ([101, 110, 100, 115] : Str), str ([99, 111, 110, 116, 97, 105, 110, 115] : Str), str ([116, 114, 117, 101] : Str), str ([102, 97, 108, 115, 101] : Str)]) elT31 rfl rfl (fun _ _ => rfl) rfl rfl rfl ?_ fun b1 => ?_
 · conv => whnf
   refine cT (cT (cT (cT (cT (cT (cT (cT ?_)))))))
   refine cT (cT (cT (cT (cT (cT (cT (cT ?_)))))))
   refine cT ?_
   first | done | rfl
 exact eE hm

def Jbb (s : Str) : List Str → Nat → Option (Fl (Bool) (Unit))
  | [], _ => some (Fl.go ())
  | e0 :: aM, i0 =>
    if decide (e0 = s) then
    some (Fl.ret true)
    else
    Jbb s aM (i0 + 1)
def JcL (s : Str) : Option (Bool) :=
  (JcV).bind fun x5 =>
  (chk (x5.length ≤ szMax)).bind fun _ =>
  (Jbb s x5 0).bind fun s0 => s0.el some fun t0 =>
  some false
theorem Je1 {s : Str} {K : Hp} {r : Bool}
    (hm : JcL s = some r)  :
    Fn Tryz.prog 196 [str s] K [] (fun v K' H' => v = .bool r ∧ H' = []) := by
 refine Fn.enter Tryz.func196 Tryz.call196 rfl fun F => ?_
 unfold JcL at hm
 refine cb hm fun x5 q5 hm => ck0 (JeO q5 :) ?_
 rintro _ _ _ ⟨aR, aS, rfl, aO, rfl⟩
 refine ro (len_slice rfl ?_)
 obtain ⟨aQ, hm⟩ := chkb hm
 obtain ⟨s0, aM, hm⟩ := bnd hm
 refine lD (σ := (Unit)) [2, 4, 8, 9, 10, 11, 12, 13, 14, 15, 16, 17] [0, 1] (fun i0 => [(8, .int .i64 (i0 : Int))]) (fun _ => []) (fun _ => []) (fun _ => True) (fun i0 _ => Jbb s (x5.drop i0) i0 = some s0) (fun t0 => s0 = Fl.go t0) (fun i0 => x5.length - i0) 0 () aM (And.intro qe (And.intro ?_ ?_))
 clear aM
 rintro i0 _ _ aM j0
 conv at aM => whnf
 refine cond_go rfl ?_
 refine cond_s ?_ ?_ <;> intro w0
 obtain ⟨e0, aN, aP⟩ := ltx w0
 rw [aP, Jbb.eq_2] at aM
 refine block_go rfl ?_
 refine RStep.ofN (index_addr rfl rfl (hasO aO aN) (nn _) (lt_ofNE rfl aN) (ro (ld_own (i := i0) (o := 0) r0 rfl aN rfl rfl (eq_str ?_))))
 refine cs rfl rfl aM ?_ ?_ <;> intro aT aM
 exact eE (er aM hm)
 refine int_in (cntz aN aQ) ?_
 exact eR aM (_, ())
 rw [lty w0, Jbb.eq_1] at aM
 refine cT ?_
 exact eM aM _
 rintro t0 _ rfl j0
 replace hm := elg hm
 exact eE hm

def Jcw (n : Nat) (s : Str) : Option (Bool) :=
  (JbO n s 1).bind fun x4 =>
  (if x4 then (JcL s).bind fun x7 =>
  some (!x7) else some false).bind fun x9 =>
  some x9
theorem Jdt {n : Nat} {s : Str} {K : Hp} {r : Bool}
    (hm : Jcw n s = some r)  :
    Fn Tryz.prog 162 [str s] K [] (fun v K' H' => v = .bool r ∧ H' = []) := by
 refine Fn.enter Tryz.func162 Tryz.call162 rfl fun F => ?_
 unfold Jcw at hm
 refine guard_go rfl ?_
 refine cb hm fun x4 q4 hm => cg0 (Jej q4 :) ?_
 obtain ⟨x9, e9, hm⟩ := bnd hm
 refine cond_s ?_ ?_ <;> intro aM
 replace e9 := ift aM e9
 refine ct aM ?_
 refine cb e9 fun x7 q7 e9 => cg0 (Je1 q7 :) ?_
 refine ct aM (un_not (ct aM ?_))
 cases hm
 exact en lr ⟨(by rw [← (si e9)] <;> rfl), rfl⟩ (pf rfl)
 replace e9 := iff_ aM e9
 refine cf aM (cf aM (cf aM ?_))
 cases hm
 exact en lr ⟨(by rw [← ((si e9).symm).symm] <;> rfl), rfl⟩ (pf rfl)

def JaJ (aA : (Jb → Option (Bool))) : List Jb → Nat → Option (Fl (Bool) (Unit))
  | [], _ => some (Fl.go ())
  | e0 :: aN, i0 =>
    (aA e0).bind fun aM =>
    if (!aM) then
    some (Fl.ret false)
    else
    JaJ aA aN (i0 + 1)
def Jag (aA : (Jb → Option (Bool))) (n : Nat) (l : (List Jb)) (many : Int) : Option (Bool) :=
  (chk (l.length ≤ szMax)).bind fun _ =>
  (JaJ aA l 0).bind fun s0 => s0.el some fun t0 =>
  some (decide ((l.length : Int) = many))
theorem J5 {aA : (Jb → Option (Bool))} (ihrec1_0 : ∀ {n' : Jb} {aa : Option Addr} {ab : Nat} {K : Hp} {r : Bool} (hm : aA n' = some r) (ae : LiC Jb.R K aa ab 4 n'.Aa), Fn Tryz.prog 160 [.agg #[.int .i64 n'.Ab, str n'.Ac, .slice aa n'.Aa.length ab, .int .i64 n'.Ad]] K [] (fun v K' H' => v = .bool r ∧ H' = [])) {n : Nat} {l : (List Jb)} {many : Int} {aa : Option Addr} {ab : Nat} {n0 : Nat} {K : Hp} {r : Bool}
    (hm : Jag aA n l many = some r) (hX : LiC Jb.R K aa ab 4 l ∧ n0 = l.length) :
    Fn Tryz.prog 163 [.slice aa n0 ab, .int .i64 many] K [] (fun v K' H' => v = .bool r ∧ H' = []) := by
 obtain ⟨ae, aX⟩ := hX
 subst aX
 refine Fn.enter Tryz.func163 Tryz.call163 rfl fun F => ?_
 unfold Jag at hm
 refine ro (len_slice rfl ?_)
 obtain ⟨aV, hm⟩ := chkb hm
 obtain ⟨s0, aM, hm⟩ := bnd hm
 refine lD (σ := (Unit)) [4, 5, 8, 9, 10, 11, 12, 13, 14, 15, 16, 17] [0] (fun i0 => [(8, .int .i64 (i0 : Int))]) (fun _ => []) (fun _ => []) (fun _ => True) (fun i0 _ => JaJ aA (l.drop i0) i0 = some s0) (fun t0 => s0 = Fl.go t0) (fun i0 => l.length - i0) 0 () aM (And.intro qe (And.intro ?_ ?_))
 clear aM
 rintro i0 _ _ aM j0
 conv at aM => whnf
 refine cond_go rfl ?_
 refine cond_s ?_ ?_ <;> intro w0
 obtain ⟨e0, aN, aU⟩ := ltx w0
 rw [aU, JaJ.eq_2] at aM
 refine block_go rfl ?_
 refine RStep.ofN (index_addr rfl rfl (hasR ae.rd aN) (nn _) (lt_ofN aN) ?_)
 obtain ⟨aW, aZ, aO, aP, aQ⟩ := LiR.get ae.rd aN
 obtain ⟨aT, aR, rfl, aS⟩ := Jb.out aQ
 refine ro (load_rd_agg i0 _ aO rfl aP rfl ?_)
 refine cb aM fun a8 aY aM => cgx (ihrec1_0 aY :) ?_
 refine un_not ?_
 refine cs rfl rfl aM ?_ ?_ <;> intro a6 aM
 exact eE (er aM hm)
 refine int_in (cntz aN aV) ?_
 exact eR aM (_, ())
 rw [lty w0, JaJ.eq_1] at aM
 refine cT ?_
 exact eM aM _
 rintro t0 _ rfl j0
 replace hm := elg hm
 refine ro (len_slice rfl (eq_int ?_))
 exact eE hm

def Jt : Nat → Jb → Option (Bool)
  | 0, _ => none
  | n + 1, n' =>
    if decide (n'.Ab = 13) then
    (if decide (n'.Ac = ([] : Str)) then (Jag (Jt n) n n'.Aa 2).bind fun aN =>
    some aN else some false).bind fun aM =>
    some aM
    else
    if decide (n'.Ab = 14) then
    (if decide (n'.Ac = ([] : Str)) then (Jag (Jt n) n n'.Aa 2).bind fun aN =>
    some aN else some false).bind fun aM =>
    some aM
    else
    if decide (n'.Ab = 17) then
    (if decide (n'.Ac = ([] : Str)) then (Jag (Jt n) n n'.Aa 2).bind fun aN =>
    some aN else some false).bind fun aM =>
    some aM
    else
    if decide (n'.Ab = 18) then
    (if decide (n'.Ac = ([] : Str)) then (Jag (Jt n) n n'.Aa 2).bind fun aN =>
    some aN else some false).bind fun aM =>
    some aM
    else
    if decide (n'.Ab = 19) then
    (if decide (n'.Ac = ([] : Str)) then (Jag (Jt n) n n'.Aa 2).bind fun aN =>
    some aN else some false).bind fun aM =>
    some aM
    else
    if decide (n'.Ab = 15) then
    (if decide (n'.Ac = ([] : Str)) then (Jag (Jt n) n n'.Aa 1).bind fun aP =>
    some aP else some false).bind fun aY =>
    some aY
    else
    if decide (n'.Ab = 16) then
    (Jcr n'.Ac).bind fun aU =>
    (if aU then (Jag (Jt n) n n'.Aa 2).bind fun aT =>
    some aT else some false).bind fun aR =>
    some aR
    else
    if decide (n'.Ab = 20) then
    (JbO n n'.Ac 2).bind fun aQ =>
    some (aQ && decide ((n'.Aa.length : Int) = 0))
    else
    if decide (n'.Ab = 21) then
    (Jbr n'.Ac).bind fun aX =>
    some (aX && decide ((n'.Aa.length : Int) = 0))
    else
    if decide (n'.Ab = 22) then
    some ((decide (n'.Ac = ([116, 114, 117, 101] : Str)) || decide (n'.Ac = ([102, 97, 108, 115, 101] : Str))) && decide ((n'.Aa.length : Int) = 0))
    else
    if decide (n'.Ab = 23) then
    (Jcw n n'.Ac).bind fun aV =>
    some (aV && decide ((n'.Aa.length : Int) = 0))
    else
    if decide (n'.Ab = 24) then
    (Jcw n n'.Ac).bind fun aW =>
    (if aW then (Jag (Jt n) n n'.Aa (n'.Aa.length : Int)).bind fun aS =>
    some aS else some false).bind fun aO =>
    some aO
    else
    some false
theorem Jaq : ∀ {n : Nat} {n' : Jb} {aa : Option Addr} {ab : Nat} {K : Hp} {r : Bool}
    (hm : Jt n n' = some r) (ae : LiC Jb.R K aa ab 4 n'.Aa),
    Fn Tryz.prog 160 [.agg #[.int .i64 n'.Ab, str n'.Ac, .slice aa n'.Aa.length ab, .int .i64 n'.Ad]] K [] (fun v K' H' => v = .bool r ∧ H' = []) := by
 intro n
 induction n with
 | zero =>
   intro n' aa ab K r hm ae
   rw [Jt.eq_1] at hm; cases hm
 | succ n ih =>
   intro n' aa ab K r hm ae
   refine Fn.enter Tryz.func160 Tryz.call160 rfl fun F => ?_
   rw [Jt.eq_2] at hm
   refine box_rule ?_
   intro b1
   refine fa rfl (ro (ld r0 rfl rfl ?_))
   refine block_go rfl ?_
   refine eq_int (cs rfl rfl hm ?_ ?_) <;> intro w5 hm
   refine cond_go rfl (ct w5 ?_)
   refine guard_go rfl ?_
   refine fa rfl (ro (ld r0 rfl rfl (eq_str ?_)))
   obtain ⟨a8, aO, hm⟩ := bnd hm
   refine cond_s ?_ ?_ <;> intro aM
   replace aO := ift aM aO
   refine fa rfl (ct aM (ro (ld r0 rfl rfl (ct aM ?_))))
   refine cb aO fun a6 aX aO => cgx (J5 ih aX :) ?_
   refine ct aM ?_
   cases hm
   exact en lr ⟨(by rw [← (si aO)] <;> rfl), rfl⟩ (sc [1] rfl)
   replace aO := iff_ aM aO
   refine cf aM (cf aM (cf aM ?_))
   cases hm
   exact en lr ⟨(by rw [← ((si aO).symm).symm] <;> rfl), rfl⟩ (sc [1] rfl)
   refine eq_int (cs rfl rfl hm ?_ ?_) <;> intro w5 hm
   refine cond_go rfl (ct w5 ?_)
   refine guard_go rfl ?_
   refine fa rfl (ro (ld r0 rfl rfl (eq_str ?_)))
   obtain ⟨a8, aO, hm⟩ := bnd hm
   refine cond_s ?_ ?_ <;> intro aM
   replace aO := ift aM aO
   refine fa rfl (ct aM (ro (ld r0 rfl rfl (ct aM ?_))))
   refine cb aO fun a6 aX aO => cgx (J5 ih aX :) ?_
   refine ct aM ?_
   cases hm
   exact en lr ⟨(by rw [← (si aO)] <;> rfl), rfl⟩ (sc [1] rfl)
   replace aO := iff_ aM aO
   refine cf aM (cf aM (cf aM ?_))
   cases hm
   exact en lr ⟨(by rw [← ((si aO).symm).symm] <;> rfl), rfl⟩ (sc [1] rfl)
   refine eq_int (cs rfl rfl hm ?_ ?_) <;> intro w5 hm
   refine cond_go rfl (ct w5 ?_)
   refine guard_go rfl ?_
   refine fa rfl (ro (ld r0 rfl rfl (eq_str ?_)))
   obtain ⟨a8, aO, hm⟩ := bnd hm
   refine cond_s ?_ ?_ <;> intro aM
   replace aO := ift aM aO
   refine fa rfl (ct aM (ro (ld r0 rfl rfl (ct aM ?_))))
   refine cb aO fun a6 aX aO => cgx (J5 ih aX :) ?_
   refine ct aM ?_
   cases hm
   exact en lr ⟨(by rw [← (si aO)] <;> rfl), rfl⟩ (sc [1] rfl)
   replace aO := iff_ aM aO
   refine cf aM (cf aM (cf aM ?_))
   cases hm
   exact en lr ⟨(by rw [← ((si aO).symm).symm] <;> rfl), rfl⟩ (sc [1] rfl)
   refine eq_int (cs rfl rfl hm ?_ ?_) <;> intro w5 hm
   refine cond_go rfl (ct w5 ?_)
   refine guard_go rfl ?_
   refine fa rfl (ro (ld r0 rfl rfl (eq_str ?_)))
   obtain ⟨a8, aO, hm⟩ := bnd hm
   refine cond_s ?_ ?_ <;> intro aM
   replace aO := ift aM aO
   refine fa rfl (ct aM (ro (ld r0 rfl rfl (ct aM ?_))))
   refine cb aO fun a6 aX aO => cgx (J5 ih aX :) ?_
   refine ct aM ?_
   cases hm
   exact en lr ⟨(by rw [← (si aO)] <;> rfl), rfl⟩ (sc [1] rfl)
   replace aO := iff_ aM aO
   refine cf aM (cf aM (cf aM ?_))
   cases hm
   exact en lr ⟨(by rw [← ((si aO).symm).symm] <;> rfl), rfl⟩ (sc [1] rfl)
   refine eq_int (cs rfl rfl hm ?_ ?_) <;> intro w5 hm
   refine guard_go rfl ?_
   refine fa rfl (ro (ld r0 rfl rfl (eq_str ?_)))
   obtain ⟨a8, aO, hm⟩ := bnd hm
   refine cond_s ?_ ?_ <;> intro aM
   replace aO := ift aM aO
   refine fa rfl (ct aM (ro (ld r0 rfl rfl (ct aM ?_))))
   refine cb aO fun a6 aX aO => cgx (J5 ih aX :) ?_
   refine ct aM ?_
   cases hm
   exact en lr ⟨(by rw [← (si aO)] <;> rfl), rfl⟩ (sc [1] rfl)
   replace aO := iff_ aM aO
   refine cf aM (cf aM (cf aM ?_))
   cases hm
   exact en lr ⟨(by rw [← ((si aO).symm).symm] <;> rfl), rfl⟩ (sc [1] rfl)
   refine eq_int (cs rfl rfl hm ?_ ?_) <;> intro bG hm
   refine guard_go rfl ?_
   refine fa rfl (ro (ld r0 rfl rfl (eq_str ?_)))
   obtain ⟨bE, aY, hm⟩ := bnd hm
   refine cond_s ?_ ?_ <;> intro aV
   replace aY := ift aV aY
   refine fa rfl (ct aV (ro (ld r0 rfl rfl (ct aV ?_))))
   refine cb aY fun bq bf aY => cgx (J5 ih bf :) ?_
   refine ct aV ?_
   cases hm
   exact en lr ⟨(by rw [← (si aY)] <;> rfl), rfl⟩ (sc [1] rfl)
   replace aY := iff_ aV aY
   refine cf aV (cf aV (cf aV ?_))
   cases hm
   exact en lr ⟨(by rw [← ((si aY).symm).symm] <;> rfl), rfl⟩ (sc [1] rfl)
   refine eq_int (cs rfl rfl hm ?_ ?_) <;> intro bu hm
   refine guard_go rfl ?_
   refine fa rfl (ro (ld r0 rfl rfl ?_))
   refine cb hm fun bp bb hm => cg0 (JeN bb :) ?_
   obtain ⟨br, aZ, hm⟩ := bnd hm
   refine cond_s ?_ ?_ <;> intro aU
   replace aZ := ift aU aZ
   refine fa rfl (ct aU (ro (ld r0 rfl rfl (ct aU ?_))))
   refine cb aZ fun bo bg aZ => cgx (J5 ih bg :) ?_
   refine ct aU ?_
   cases hm
   exact en lr ⟨(by rw [← (si aZ)] <;> rfl), rfl⟩ (sc [1] rfl)
   replace aZ := iff_ aU aZ
   refine cf aU (cf aU (cf aU ?_))
   cases hm
   exact en lr ⟨(by rw [← ((si aZ).symm).symm] <;> rfl), rfl⟩ (sc [1] rfl)
   refine eq_int (cs rfl rfl hm ?_ ?_) <;> intro bn hm
   refine guard_go rfl ?_
   refine fa rfl (ro (ld r0 rfl rfl ?_))
   refine cb hm fun bA bh hm => cg0 (Jej bh :) ?_
   refine cond_s ?_ ?_ <;> intro aS
   refine fa rfl (ct aS (ro (ld r0 rfl rfl (ct aS (ro (len_slice rfl (ct aS (eq_int (ct aS ?_)))))))))
   cases hm
   exact en lr ⟨(by rw [← (and_e (b := decide ((n'.Aa.length : Int) = 0)) aS)] <;> rfl), rfl⟩ (sc [1] rfl)
   refine cf aS (cf aS (cf aS (cf aS ?_)))
   cases hm
   exact en lr ⟨(by rw [← ((and_f aS)).symm] <;> rfl), rfl⟩ (sc [1] rfl)
   refine eq_int (cs rfl rfl hm ?_ ?_) <;> intro bF hm
   refine guard_go rfl ?_
   refine fa rfl (ro (ld r0 rfl rfl ?_))
   refine cb hm fun bz bc hm => cg0 (JcK bc :) ?_
   refine cond_s ?_ ?_ <;> intro aP
   refine fa rfl (ct aP (ro (ld r0 rfl rfl (ct aP (ro (len_slice rfl (ct aP (eq_int (ct aP ?_)))))))))
   cases hm
   exact en lr ⟨(by rw [← (and_e (b := decide ((n'.Aa.length : Int) = 0)) aP)] <;> rfl), rfl⟩ (sc [1] rfl)
   refine cf aP (cf aP (cf aP (cf aP ?_)))
   cases hm
   exact en lr ⟨(by rw [← ((and_f aP)).symm] <;> rfl), rfl⟩ (sc [1] rfl)
   refine eq_int (cs rfl rfl hm ?_ ?_) <;> intro bH hm
   refine guard_go rfl ?_
   refine fa rfl (ro (ld r0 rfl rfl (eq_str ?_)))
   refine cond_s ?_ ?_ <;> intro aT
   refine ct aT (ct aT (ct aT (cT (fa rfl (cT (ro (ld r0 rfl rfl (cT ?_))))))))
   refine ro (len_slice rfl (cT (eq_int (cT ?_))))
   cases hm
   exact en lr ⟨(by rw [← (and_e (b := decide ((n'.Aa.length : Int) = 0)) (or_t aT))] <;> rfl), rfl⟩ (sc [1] rfl)
   refine fa rfl (cf aT (ro (ld r0 rfl rfl (cf aT (eq_str (cf aT ?_))))))
   refine cond_s ?_ ?_ <;> intro aQ
   refine fa rfl (ct aQ (ro (ld r0 rfl rfl (ct aQ (ro (len_slice rfl (ct aQ (eq_int (ct aQ ?_)))))))))
   cases hm
   exact en lr ⟨(by rw [← (and_e (b := decide ((n'.Aa.length : Int) = 0)) (or_u aT aQ))] <;> rfl), rfl⟩ (sc [1] rfl)
   refine cf aQ (cf aQ (cf aQ (cf aQ ?_)))
   cases hm
   exact en lr ⟨(by rw [← ((and_f (or_f aT aQ))).symm] <;> rfl), rfl⟩ (sc [1] rfl)
   refine eq_int (cs rfl rfl hm ?_ ?_) <;> intro bt hm
   refine guard_go rfl ?_
   refine fa rfl (ro (ld r0 rfl rfl ?_))
   refine cb hm fun bC bd hm => cg0 (Jdt bd :) ?_
   refine cond_s ?_ ?_ <;> intro aR
   refine fa rfl (ct aR (ro (ld r0 rfl rfl (ct aR (ro (len_slice rfl (ct aR (eq_int (ct aR ?_)))))))))
   cases hm
   exact en lr ⟨(by rw [← (and_e (b := decide ((n'.Aa.length : Int) = 0)) aR)] <;> rfl), rfl⟩ (sc [1] rfl)
   refine cf aR (cf aR (cf aR (cf aR ?_)))
   cases hm
   exact en lr ⟨(by rw [← ((and_f aR)).symm] <;> rfl), rfl⟩ (sc [1] rfl)
   refine eq_int (cs rfl rfl hm ?_ ?_) <;> intro bB hm
   refine guard_go rfl ?_
   refine fa rfl (ro (ld r0 rfl rfl ?_))
   refine cb hm fun bD bm hm => cg0 (Jdt bm :) ?_
   obtain ⟨bj, aW, hm⟩ := bnd hm
   refine cond_s ?_ ?_ <;> intro aN
   replace aW := ift aN aW
   refine fa rfl (ct aN (ro (ld r0 rfl rfl (ct aN (fa rfl (ct aN (ro (ld r0 rfl rfl (ct aN ?_)))))))))
   refine ro (len_slice rfl (ct aN ?_))
   refine cb aW fun bw ba aW => cgx (J5 ih ba :) ?_
   refine ct aN ?_
   cases hm
   exact en lr ⟨(by rw [← (si aW)] <;> rfl), rfl⟩ (sc [1] rfl)
   replace aW := iff_ aN aW
   refine cf aN (cf aN (cf aN (cf aN (cf aN (cf aN ?_)))))
   cases hm
   exact en lr ⟨(by rw [← ((si aW).symm).symm] <;> rfl), rfl⟩ (sc [1] rfl)
   exact eE hm

def Jcz (aw : ((List Jb) → Option (Bool))) (n : Nat) (n' : Jb) : Option (Bool) :=
  (if (decide (n'.Ab = 12) && decide (n'.Ac = ([] : Str))) then (aw n'.Aa).bind fun aM =>
  some aM else some false).bind fun aN =>
  some aN
theorem Jd2 {aw : ((List Jb) → Option (Bool))} (ihrec2_0 : ∀ {l : (List Jb)} {aa : Option Addr} {ab : Nat} {n0 : Nat} {K : Hp} {r : Bool} (hm : aw l = some r) (hX : LiC Jb.R K aa ab 4 l ∧ n0 = l.length), Fn Tryz.prog 90 [.slice aa n0 ab] K [] (fun v K' H' => v = .bool r ∧ H' = [])) {n : Nat} {n' : Jb} {aa : Option Addr} {ab : Nat} {K : Hp} {r : Bool}
    (hm : Jcz aw n n' = some r) (ae : LiC Jb.R K aa ab 4 n'.Aa) :
    Fn Tryz.prog 161 [.agg #[.int .i64 n'.Ab, str n'.Ac, .slice aa n'.Aa.length ab, .int .i64 n'.Ad]] K [] (fun v K' H' => v = .bool r ∧ H' = []) := by
 refine Fn.enter Tryz.func161 Tryz.call161 rfl fun F => ?_
 unfold Jcz at hm
 refine box_rule ?_
 intro b1
 refine guard_go rfl ?_
 refine fa rfl (ro (ld r0 rfl rfl (eq_int ?_)))
 refine cond_s ?_ ?_ <;> intro aN
 refine fa rfl (ct aN (ro (ld r0 rfl rfl (ct aN (eq_str (ct aN ?_))))))
 obtain ⟨aQ, aO, hm⟩ := bnd hm
 refine cond_s ?_ ?_ <;> intro aM
 replace aO := ift (and_t aN aM) aO
 refine fa rfl (ct aM (ro (ld r0 rfl rfl (ct aM ?_))))
 refine cb aO fun aR aP aO => cgx (ihrec2_0 aP :) ?_
 refine ct aM ?_
 cases hm
 exact en lr ⟨(by rw [← (si aO)] <;> rfl), rfl⟩ (sc [1] rfl)
 replace aO := iff_ (and_g aN aM) aO
 refine cf aM (cf aM (cf aM ?_))
 cases hm
 exact en lr ⟨(by rw [← ((si aO).symm).symm] <;> rfl), rfl⟩ (sc [1] rfl)
 refine cf aN (cf aN (cf aN ?_))
 obtain ⟨aQ, aO, hm⟩ := bnd hm
 replace aO := iff_ (and_f aN) aO
 refine cF (cF (cF (cF ?_)))
 cases hm
 exact en lr ⟨(by rw [← ((si aO).symm).symm] <;> rfl), rfl⟩ (sc [1] rfl)

def J4 (aw : ((List Jb) → Option (Bool))) : Nat → Jb → Option (Bool)
  | 0, _ => none
  | n + 1, n' =>
    if decide (n'.Ab = 2) then
    (if ((decide (n'.Ac ≠ ([] : Str)) || decide ((n'.Aa.length : Int) < 2)) || decide ((n'.Aa.length : Int) > 3)) then some true else (ix n'.Aa 0).bind fun aT =>
    (Jt n aT).bind fun ba =>
    some (!ba)).bind fun aY =>
    (if aY then some true else (ix n'.Aa 1).bind fun aX =>
    (Jcz aw n aX).bind fun bc =>
    some (!bc)).bind fun aW =>
    if aW then
    some false
    else
    (if decide ((n'.Aa.length : Int) = 2) then some true else (ix n'.Aa 2).bind fun aQ =>
    (Jcz aw n aQ).bind fun bb =>
    some bb).bind fun aR =>
    if aR then
    some true
    else
    (ix n'.Aa 2).bind fun bg =>
    (if decide (bg.Ab = 2) then (ix n'.Aa 2).bind fun aU =>
    ((J4 aw n) aU).bind fun aP =>
    some aP else some false).bind fun a8 =>
    some a8
    else
    if decide (n'.Ab = 3) then
    (Jcw n n'.Ac).bind fun bd =>
    (if bd then (Jag (Jt n) n n'.Aa 1).bind fun bj =>
    some bj else some false).bind fun bf =>
    some bf
    else
    if decide (n'.Ab = 4) then
    (if (decide (n'.Ac = ([112, 97, 116, 104] : Str)) || decide (n'.Ac = ([113, 117, 101, 114, 121] : Str))) then (Jag (Jt n) n n'.Aa 1).bind fun bh =>
    some bh else some false).bind fun a6 =>
    some a6
    else
    if decide (n'.Ab = 5) then
    (Jbr n'.Ac).bind fun aV =>
    (if aV then (Jag (Jt n) n n'.Aa 1).bind fun aZ =>
    some aZ else some false).bind fun aS =>
    some aS
    else
    if decide (n'.Ab = 6) then
    (Jbr n'.Ac).bind fun aO =>
    some (aO && decide ((n'.Aa.length : Int) = 0))
    else
    if decide (n'.Ab = 7) then
    (if decide (n'.Ac = ([] : Str)) then (Jag (Jt n) n n'.Aa 1).bind fun aM =>
    some aM else some false).bind fun aN =>
    some aN
    else
    if decide (n'.Ab = 8) then
    (if decide (n'.Ac = ([] : Str)) then (Jag (Jt n) n n'.Aa 1).bind fun aM =>
    some aM else some false).bind fun aN =>
    some aN
    else
    if decide (n'.Ab = 9) then
    (if decide (n'.Ac = ([] : Str)) then (Jag (Jt n) n n'.Aa 1).bind fun aM =>
    some aM else some false).bind fun aN =>
    some aN
    else
    if decide (n'.Ab = 10) then
    some (decide (n'.Ac = ([] : Str)) && decide ((n'.Aa.length : Int) = 0))
    else
    if decide (n'.Ab = 11) then
    some (decide (n'.Ac = ([] : Str)) && decide ((n'.Aa.length : Int) = 0))
    else
    some false
theorem Je9 {aw : ((List Jb) → Option (Bool))} (ihrec2_0 : ∀ {l : (List Jb)} {aa : Option Addr} {ab : Nat} {n0 : Nat} {K : Hp} {r : Bool} (hm : aw l = some r) (hX : LiC Jb.R K aa ab 4 l ∧ n0 = l.length), Fn Tryz.prog 90 [.slice aa n0 ab] K [] (fun v K' H' => v = .bool r ∧ H' = [])) : ∀ {n : Nat} {n' : Jb} {aa : Option Addr} {ab : Nat} {K : Hp} {r : Bool}
    (hm : J4 aw n n' = some r) (ae : LiC Jb.R K aa ab 4 n'.Aa),
    Fn Tryz.prog 131 [.agg #[.int .i64 n'.Ab, str n'.Ac, .slice aa n'.Aa.length ab, .int .i64 n'.Ad]] K [] (fun v K' H' => v = .bool r ∧ H' = []) := by
 intro n
 induction n with
 | zero =>
   intro n' aa ab K r hm ae
   rw [J4.eq_1] at hm; cases hm
 | succ n ih =>
   intro n' aa ab K r hm ae
   refine Fn.enter Tryz.func131 Tryz.call131 rfl fun F => ?_
   rw [J4.eq_2] at hm
   refine box_rule ?_
   intro b1
   refine fa rfl (ro (ld r0 rfl rfl ?_))
   refine block_go rfl ?_
   refine eq_int (cs rfl rfl hm ?_ ?_) <;> intro w6 hm
   refine fa rfl (ro (ld r0 rfl rfl (ro (len_slice rfl ?_))))
   refine guard_go rfl ?_
   refine fa rfl (ro (ld r0 rfl rfl (neq_str ?_)))
   refine cond_s ?_ ?_ <;> intro aY
   refine ct aY (ct aY (cT (cT (cT ?_))))
   obtain ⟨cw, ba, hm⟩ := bnd hm
   replace ba := ift (or_t (or_t aY)) ba
   refine cT (cT (cT (cT (cT (cT (cT ?_))))))
   obtain ⟨bq, a6, hm⟩ := bnd hm
   replace a6 := ift (si ba).symm a6
   refine cT (cT (cT (cT (cT (cT (cT (cond_go rfl ?_)))))))
   refine cT ?_
   replace hm := ift (si a6).symm hm
   exact eE hm
   refine cf aY (cf aY ?_)
   refine cond_s ?_ ?_ <;> intro a8
   refine ct a8 (ct a8 ?_)
   obtain ⟨cw, ba, hm⟩ := bnd hm
   replace ba := ift (or_t (or_u aY a8)) ba
   refine cT (cT (cT (cT (cT (cT (cT ?_))))))
   obtain ⟨bq, a6, hm⟩ := bnd hm
   replace a6 := ift (si ba).symm a6
   refine cT (cT (cT (cT (cT (cT (cT (cond_go rfl ?_)))))))
   refine cT ?_
   replace hm := ift (si a6).symm hm
   exact eE hm
   refine cf a8 (cf a8 ?_)
   obtain ⟨cw, ba, hm⟩ := bnd hm
   refine cond_s ?_ ?_ <;> intro aR
   replace ba := ift (or_u (or_f aY a8) aR) ba
   refine ct aR (ct aR (ct aR (ct aR (ct aR (ct aR ?_)))))
   obtain ⟨bq, a6, hm⟩ := bnd hm
   replace a6 := ift (si ba).symm a6
   refine cT (cT (cT (cT (cT (cT (cT (cond_go rfl ?_)))))))
   refine cT ?_
   replace hm := ift (si a6).symm hm
   exact eE hm
   replace ba := iff_ (or_f (or_f aY a8) aR) ba
   refine fa rfl (cf aR (ro (ld r0 rfl rfl (cf aR ?_))))
   obtain ⟨dh, bW, bG, ba⟩ := ixb ba
   refine RStep.ofN (index_addr rfl rfl (hasR ae.rd bG) bW (lt_ofE rfl bW bG) (cf aR ?_))
   obtain ⟨cI, cH, bD, bL, bM⟩ := LiR.get ae.rd bG
   obtain ⟨ce, cj, rfl, bS⟩ := Jb.out bM
   refine ro (load_rd_agg ((0 : Int).toNat) _ bD rfl bL rfl (cf aR ?_))
   refine cb ba fun dl cQ ba => cgx (Jaq cQ :) ?_
   refine cf aR (un_not (cf aR ?_))
   obtain ⟨bq, a6, hm⟩ := bnd hm
   refine cond_s ?_ ?_ <;> intro aS
   replace a6 := ift ((si ba).symm.trans (not_t (ni_t aS))) a6
   refine ct aS (ct aS (ct aS (ct aS (ct aS (ct aS (cond_go rfl (cT ?_)))))))
   replace hm := ift (si a6).symm hm
   exact eE hm
   replace a6 := iff_ ((si ba).symm.trans (not_f (ni_f aS))) a6
   refine fa rfl (cf aS (ro (ld r0 rfl rfl (cf aS ?_))))
   obtain ⟨cZ, bZ, bt, a6⟩ := ixb a6
   refine RStep.ofN (index_addr rfl rfl (hasR ae.rd bt) bZ (lt_ofE rfl bZ bt) (cf aS ?_))
   obtain ⟨cK, cR, bH, bu, bA⟩ := LiR.get ae.rd bt
   obtain ⟨bU, bT, rfl, cm⟩ := Jb.out bA
   refine ro (load_rd_agg ((1 : Int).toNat) _ bH rfl bu rfl (cf aS ?_))
   refine cb a6 fun c6 cD a6 => cgx (Jd2 ihrec2_0 cD :) ?_
   refine cf aS (un_not (cf aS (cond_go rfl ?_)))
   refine cond_s ?_ ?_ <;> intro co
   replace hm := ift ((si a6).symm.trans (not_t (ni_t co))) hm
   exact eE hm
   replace hm := iff_ ((si a6).symm.trans (not_f (ni_f co))) hm
   refine guard_go rfl ?_
   refine eq_int ?_
   obtain ⟨dg, bc, hm⟩ := bnd hm
   refine cond_s ?_ ?_ <;> intro aU
   replace bc := ift aU bc
   refine ct aU (ct aU (ct aU (ct aU (ct aU ?_))))
   replace hm := ift (si bc).symm hm
   refine cT (cT (cT (cT (cT (cT (cT (cT ?_)))))))
   refine cT ?_
   exact eE hm
   replace bc := iff_ aU bc
   refine fa rfl (cf aU (ro (ld r0 rfl rfl (cf aU ?_))))
   obtain ⟨dp, cr, bJ, bc⟩ := ixb bc
   refine RStep.ofN (index_addr rfl rfl (hasR ae.rd bJ) cr (lt_ofE rfl cr bJ) (cf aU ?_))
   obtain ⟨cV, cE, bB, bN, bw⟩ := LiR.get ae.rd bJ
   obtain ⟨cq, cz, rfl, bX⟩ := Jb.out bw
   refine ro (load_rd_agg ((2 : Int).toNat) _ bB rfl bN rfl (cf aU ?_))
   refine cb bc fun c5 cJ bc => cgx (Jd2 ihrec2_0 cJ :) ?_
   refine cf aU ?_
   refine cond_s ?_ ?_ <;> intro aO
   replace hm := ift ((si bc).symm.trans aO) hm
   refine ct aO (ct aO (ct aO (ct aO (ct aO (ct aO (ct aO (ct aO ?_)))))))
   exact eE hm
   replace hm := iff_ ((si bc).symm.trans aO) hm
   refine fa rfl (cf aO (ro (ld r0 rfl rfl (cf aO ?_))))
   obtain ⟨dc, cp, bp, hm⟩ := ixb hm
   refine RStep.ofN (index_addr rfl rfl (hasR ae.rd bp) cp (lt_ofE rfl cp bp) (cf aO (eptr_field rfl (hasR ae.rd bp) (cf aO ?_))))
   obtain ⟨cS, cP, bF, bP, bK⟩ := LiR.get ae.rd bp
   obtain ⟨cd, cn, rfl, bV⟩ := Jb.out bK
   refine ro (load_rd ((2 : Int).toNat) 0 _ _ bF rfl bP rfl rfl (cf aO (eq_int (cf aO ?_))))
   obtain ⟨dk, bf, hm⟩ := bnd hm
   refine cond_s ?_ ?_ <;> intro aV
   replace bf := ift aV bf
   refine fa rfl (ct aV (ro (ld r0 rfl rfl (ct aV ?_))))
   obtain ⟨di, bY, bC, bf⟩ := ixb bf
   refine RStep.ofN (index_addr rfl rfl (hasR ae.rd bC) bY (lt_ofE rfl bY bC) (ct aV ?_))
   obtain ⟨cO, cC, br, bE, bz⟩ := LiR.get ae.rd bC
   obtain ⟨bR, ca, rfl, bQ⟩ := Jb.out bz
   refine ro (load_rd_agg ((2 : Int).toNat) _ br rfl bE rfl (ct aV ?_))
   refine cb bf fun cY cA bf => cgx (ih cA :) ?_
   refine cf aO (ct aV (cf aO ?_))
   cases hm
   exact en lr ⟨(by rw [← (si bf)] <;> rfl), rfl⟩ (sc [1] rfl)
   replace bf := iff_ aV bf
   refine cf aV (cf aV (cf aV (cf aV (cf aO (cf aV (cf aO ?_))))))
   cases hm
   exact en lr ⟨(by rw [← ((si bf).symm).symm] <;> rfl), rfl⟩ (sc [1] rfl)
   refine eq_int (cs rfl rfl hm ?_ ?_) <;> intro de hm
   refine guard_go rfl ?_
   refine fa rfl (ro (ld r0 rfl rfl ?_))
   refine cb hm fun c8 cG hm => cg0 (Jdt cG :) ?_
   obtain ⟨dt, bh, hm⟩ := bnd hm
   refine cond_s ?_ ?_ <;> intro aZ
   replace bh := ift aZ bh
   refine fa rfl (ct aZ (ro (ld r0 rfl rfl (ct aZ ?_))))
   refine cb bh fun df cX bh => cgx (J5 (Jaq (n := n)) cX :) ?_
   refine ct aZ ?_
   cases hm
   exact en lr ⟨(by rw [← (si bh)] <;> rfl), rfl⟩ (sc [1] rfl)
   replace bh := iff_ aZ bh
   refine cf aZ (cf aZ (cf aZ ?_))
   cases hm
   exact en lr ⟨(by rw [← ((si bh).symm).symm] <;> rfl), rfl⟩ (sc [1] rfl)
   refine eq_int (cs rfl rfl hm ?_ ?_) <;> intro c9 hm
   refine guard_go rfl ?_
   refine fa rfl (ro (ld r0 rfl rfl (eq_str ?_)))
   refine cond_s ?_ ?_ <;> intro aT
   refine ct aT (ct aT (ct aT ?_))
   obtain ⟨cU, bb, hm⟩ := bnd hm
   replace bb := ift (or_t aT) bb
   refine cT (fa rfl (cT (ro (ld r0 rfl rfl (cT ?_)))))
   refine cb bb fun cL bO bb => cgx (J5 (Jaq (n := n)) bO :) ?_
   refine cT ?_
   cases hm
   exact en lr ⟨(by rw [← (si bb)] <;> rfl), rfl⟩ (sc [1] rfl)
   refine fa rfl (cf aT (ro (ld r0 rfl rfl (cf aT (eq_str (cf aT ?_))))))
   obtain ⟨cU, bb, hm⟩ := bnd hm
   refine cond_s ?_ ?_ <;> intro aX
   replace bb := ift (or_u aT aX) bb
   refine fa rfl (ct aX (ro (ld r0 rfl rfl (ct aX ?_))))
   refine cb bb fun cL bO bb => cgx (J5 (Jaq (n := n)) bO :) ?_
   refine ct aX ?_
   cases hm
   exact en lr ⟨(by rw [← (si bb)] <;> rfl), rfl⟩ (sc [1] rfl)
   replace bb := iff_ (or_f aT aX) bb
   refine cf aX (cf aX (cf aX ?_))
   cases hm
   exact en lr ⟨(by rw [← ((si bb).symm).symm] <;> rfl), rfl⟩ (sc [1] rfl)
   refine eq_int (cs rfl rfl hm ?_ ?_) <;> intro da hm
   refine guard_go rfl ?_
   refine fa rfl (ro (ld r0 rfl rfl ?_))
   refine cb hm fun dq cB hm => cg0 (JcK cB :) ?_
   obtain ⟨db, bj, hm⟩ := bnd hm
   refine cond_s ?_ ?_ <;> intro aW
   replace bj := ift aW bj
   refine fa rfl (ct aW (ro (ld r0 rfl rfl (ct aW ?_))))
   refine cb bj fun dj cM bj => cgx (J5 (Jaq (n := n)) cM :) ?_
   refine ct aW ?_
   cases hm
   exact en lr ⟨(by rw [← (si bj)] <;> rfl), rfl⟩ (sc [1] rfl)
   replace bj := iff_ aW bj
   refine cf aW (cf aW (cf aW ?_))
   cases hm
   exact en lr ⟨(by rw [← ((si bj).symm).symm] <;> rfl), rfl⟩ (sc [1] rfl)
   refine eq_int (cs rfl rfl hm ?_ ?_) <;> intro dm hm
   refine guard_go rfl ?_
   refine fa rfl (ro (ld r0 rfl rfl ?_))
   refine cb hm fun cW bI hm => cg0 (JcK bI :) ?_
   refine cond_s ?_ ?_ <;> intro aP
   refine fa rfl (ct aP (ro (ld r0 rfl rfl (ct aP (ro (len_slice rfl (ct aP (eq_int (ct aP ?_)))))))))
   cases hm
   exact en lr ⟨(by rw [← (and_e (b := decide ((n'.Aa.length : Int) = 0)) aP)] <;> rfl), rfl⟩ (sc [1] rfl)
   refine cf aP (cf aP (cf aP (cf aP ?_)))
   cases hm
   exact en lr ⟨(by rw [← ((and_f aP)).symm] <;> rfl), rfl⟩ (sc [1] rfl)
   refine eq_int (cs rfl rfl hm ?_ ?_) <;> intro bg hm
   refine cond_go rfl (ct bg ?_)
   refine guard_go rfl ?_
   refine fa rfl (ro (ld r0 rfl rfl (eq_str ?_)))
   obtain ⟨bn, aQ, hm⟩ := bnd hm
   refine cond_s ?_ ?_ <;> intro aM
   replace aQ := ift aM aQ
   refine fa rfl (ct aM (ro (ld r0 rfl rfl (ct aM ?_))))
   refine cb aQ fun bo bd aQ => cgx (J5 (Jaq (n := n)) bd :) ?_
   refine ct aM ?_
   cases hm
   exact en lr ⟨(by rw [← (si aQ)] <;> rfl), rfl⟩ (sc [1] rfl)
   replace aQ := iff_ aM aQ
   refine cf aM (cf aM (cf aM ?_))
   cases hm
   exact en lr ⟨(by rw [← ((si aQ).symm).symm] <;> rfl), rfl⟩ (sc [1] rfl)
   refine eq_int (cs rfl rfl hm ?_ ?_) <;> intro bg hm
   refine cond_go rfl (ct bg ?_)
   refine guard_go rfl ?_
   refine fa rfl (ro (ld r0 rfl rfl (eq_str ?_)))
   obtain ⟨bn, aQ, hm⟩ := bnd hm
   refine cond_s ?_ ?_ <;> intro aM
   replace aQ := ift aM aQ
   refine fa rfl (ct aM (ro (ld r0 rfl rfl (ct aM ?_))))
   refine cb aQ fun bo bd aQ => cgx (J5 (Jaq (n := n)) bd :) ?_
   refine ct aM ?_
   cases hm
   exact en lr ⟨(by rw [← (si aQ)] <;> rfl), rfl⟩ (sc [1] rfl)
   replace aQ := iff_ aM aQ
   refine cf aM (cf aM (cf aM ?_))
   cases hm
   exact en lr ⟨(by rw [← ((si aQ).symm).symm] <;> rfl), rfl⟩ (sc [1] rfl)
   refine eq_int (cs rfl rfl hm ?_ ?_) <;> intro bg hm
   refine guard_go rfl ?_
   refine fa rfl (ro (ld r0 rfl rfl (eq_str ?_)))
   obtain ⟨bn, aQ, hm⟩ := bnd hm
   refine cond_s ?_ ?_ <;> intro aM
   replace aQ := ift aM aQ
   refine fa rfl (ct aM (ro (ld r0 rfl rfl (ct aM ?_))))
   refine cb aQ fun bo bd aQ => cgx (J5 (Jaq (n := n)) bd :) ?_
   refine ct aM ?_
   cases hm
   exact en lr ⟨(by rw [← (si aQ)] <;> rfl), rfl⟩ (sc [1] rfl)
   replace aQ := iff_ aM aQ
   refine cf aM (cf aM (cf aM ?_))
   cases hm
   exact en lr ⟨(by rw [← ((si aQ).symm).symm] <;> rfl), rfl⟩ (sc [1] rfl)
   refine eq_int (cs rfl rfl hm ?_ ?_) <;> intro bm hm
   refine cond_go rfl (ct bm ?_)
   refine guard_go rfl ?_
   refine fa rfl (ro (ld r0 rfl rfl (eq_str ?_)))
   refine cond_s ?_ ?_ <;> intro aN
   refine fa rfl (ct aN (ro (ld r0 rfl rfl (ct aN (ro (len_slice rfl (ct aN (eq_int (ct aN ?_)))))))))
   cases hm
   exact en lr ⟨(by rw [← (and_e (b := decide ((n'.Aa.length : Int) = 0)) aN)] <;> rfl), rfl⟩ (sc [1] rfl)
   refine cf aN (cf aN (cf aN (cf aN ?_)))
   cases hm
   exact en lr ⟨(by rw [← ((and_f aN)).symm] <;> rfl), rfl⟩ (sc [1] rfl)
   refine eq_int (cs rfl rfl hm ?_ ?_) <;> intro bm hm
   refine guard_go rfl ?_
   refine fa rfl (ro (ld r0 rfl rfl (eq_str ?_)))
   refine cond_s ?_ ?_ <;> intro aN
   refine fa rfl (ct aN (ro (ld r0 rfl rfl (ct aN (ro (len_slice rfl (ct aN (eq_int (ct aN ?_)))))))))
   cases hm
   exact en lr ⟨(by rw [← (and_e (b := decide ((n'.Aa.length : Int) = 0)) aN)] <;> rfl), rfl⟩ (sc [1] rfl)
   refine cf aN (cf aN (cf aN (cf aN ?_)))
   cases hm
   exact en lr ⟨(by rw [← ((and_f aN)).symm] <;> rfl), rfl⟩ (sc [1] rfl)
   exact eE hm

def JbV (rec_ : ((List Jb) → Option (Bool))) (n : Nat) : List Jb → Nat → Option (Fl (Bool) (Unit))
  | [], _ => some (Fl.go ())
  | e0 :: aN, i0 =>
    (J4 rec_ n e0).bind fun aM =>
    if (!aM) then
    some (Fl.ret false)
    else
    JbV rec_ n aN (i0 + 1)
def JbE : Nat → (List Jb) → Option (Bool)
  | 0, _ => none
  | n + 1, l =>
    (chk (l.length ≤ szMax)).bind fun _ =>
    (JbV (JbE n) n l 0).bind fun s0 => s0.el some fun t0 =>
    some true
theorem JfF : ∀ {n : Nat} {l : (List Jb)} {aa : Option Addr} {ab : Nat} {n0 : Nat} {K : Hp} {r : Bool}
    (hm : JbE n l = some r) (hX : LiC Jb.R K aa ab 4 l ∧ n0 = l.length),
    Fn Tryz.prog 90 [.slice aa n0 ab] K [] (fun v K' H' => v = .bool r ∧ H' = []) := by
 intro n
 induction n with
 | zero =>
   intro l aa ab n0 K r hm hX
   rw [JbE.eq_1] at hm; cases hm
 | succ n ih =>
   intro l aa ab n0 K r hm hX
   obtain ⟨ae, aX⟩ := hX
   subst aX
   refine Fn.enter Tryz.func90 Tryz.call90 rfl fun F => ?_
   rw [JbE.eq_2] at hm
   refine ro (len_slice rfl ?_)
   obtain ⟨aY, hm⟩ := chkb hm
   obtain ⟨s0, aM, hm⟩ := bnd hm
   refine lD (σ := (Unit)) [2, 3, 6, 7, 8, 9, 10, 11, 12, 13, 14, 15] [0] (fun i0 => [(6, .int .i64 (i0 : Int))]) (fun _ => []) (fun _ => []) (fun _ => True) (fun i0 _ => JbV (JbE n) n (l.drop i0) i0 = some s0) (fun t0 => s0 = Fl.go t0) (fun i0 => l.length - i0) 0 () aM (And.intro qe (And.intro ?_ ?_))
   clear aM
   rintro i0 _ _ aM j0
   conv at aM => whnf
   refine cond_go rfl ?_
   refine cond_s ?_ ?_ <;> intro w0
   obtain ⟨e0, aN, aW⟩ := ltx w0
   rw [aW, JbV.eq_2] at aM
   refine block_go rfl ?_
   refine RStep.ofN (index_addr rfl rfl (hasR ae.rd aN) (nn _) (lt_ofN aN) ?_)
   obtain ⟨aZ, aU, aP, aO, aQ⟩ := LiR.get ae.rd aN
   obtain ⟨aR, aS, rfl, aT⟩ := Jb.out aQ
   refine ro (load_rd_agg i0 _ aP rfl aO rfl ?_)
   refine cb aM fun a8 aV aM => cgx (Je9 ih aV :) ?_
   refine un_not ?_
   refine cs rfl rfl aM ?_ ?_ <;> intro a6 aM
   exact eE (er aM hm)
   refine int_in (cntz aN aY) ?_
   exact eR aM (_, ())
   rw [lty w0, JbV.eq_1] at aM
   refine cT ?_
   exact eM aM _
   rintro t0 _ rfl j0
   replace hm := elg hm
   exact eE hm

def JcR (n : Nat) (n' : Jb) : Option (Bool) :=
  (if (decide (n'.Ab = 1) && decide (n'.Ac = ([] : Str))) then (Jcy n n').bind fun aN =>
  some (decide (aN ≤ 512)) else some false).bind fun aP =>
  (if aP then (Jce n n').bind fun aR =>
  some (decide (aR ≤ 32)) else some false).bind fun aM =>
  (if aM then (JbE n n'.Aa).bind fun aO =>
  some aO else some false).bind fun aQ =>
  some aQ
theorem Jfo {n : Nat} {n' : Jb} {aa : Option Addr} {ab : Nat} {K : Hp} {r : Bool}
    (hm : JcR n n' = some r) (ae : LiC Jb.R K aa ab 4 n'.Aa) :
    Fn Tryz.prog 53 [.agg #[.int .i64 n'.Ab, str n'.Ac, .slice aa n'.Aa.length ab, .int .i64 n'.Ad]] K [] (fun v K' H' => v = .bool r ∧ H' = []) := by
 refine Fn.enter Tryz.func53 Tryz.call53 rfl fun F => ?_
 unfold JcR at hm
 refine box_rule ?_
 intro b1
 refine guard_go rfl ?_
 refine fa rfl (ro (ld r0 rfl rfl (eq_int ?_)))
 refine cond_s ?_ ?_ <;> intro aQ
 refine fa rfl (ct aQ (ro (ld r0 rfl rfl (ct aQ (eq_str (ct aQ ?_))))))
 obtain ⟨aY, aS, hm⟩ := bnd hm
 refine cond_s ?_ ?_ <;> intro aN
 replace aS := ift (and_t aQ aN) aS
 refine ro (loadn_s r0 rfl (nl rfl) (ct aN ?_))
 refine cb aS fun a8 aW aS => cgx (Jfy aW :) ?_
 refine ct aN (ct aN ?_)
 obtain ⟨aU, aR, hm⟩ := bnd hm
 refine cond_s ?_ ?_ <;> intro aO
 replace aR := ift ((si aS).symm.trans aO) aR
 refine ro (loadn_s r0 rfl (nl rfl) (ct aO ?_))
 refine cb aR fun aZ aV aR => cgx (Jfl aV :) ?_
 refine ct aO (ct aO ?_)
 obtain ⟨aT, aP, hm⟩ := bnd hm
 refine cond_s ?_ ?_ <;> intro aM
 replace aP := ift ((si aR).symm.trans aM) aP
 refine fa rfl (ct aM (ro (ld r0 rfl rfl (ct aM ?_))))
 refine cb aP fun a6 aX aP => cgx (JfF aX :) ?_
 refine ct aM ?_
 cases hm
 exact en lr ⟨(by rw [← (si aP)] <;> rfl), rfl⟩ (sc [1] rfl)
 replace aP := iff_ ((si aR).symm.trans aM) aP
 refine cf aM (cf aM (cf aM ?_))
 cases hm
 exact en lr ⟨(by rw [← ((si aP).symm).symm] <;> rfl), rfl⟩ (sc [1] rfl)
 replace aR := iff_ ((si aS).symm.trans aO) aR
 refine cf aO (cf aO (cf aO ?_))
 obtain ⟨aT, aP, hm⟩ := bnd hm
 replace aP := iff_ (si aR).symm aP
 refine cF (cF (cF (cF ?_)))
 cases hm
 exact en lr ⟨(by rw [← ((si aP).symm).symm] <;> rfl), rfl⟩ (sc [1] rfl)
 replace aS := iff_ (and_g aQ aN) aS
 refine cf aN (cf aN (cf aN ?_))
 obtain ⟨aU, aR, hm⟩ := bnd hm
 replace aR := iff_ (si aS).symm aR
 refine cF (cF (cF (cF ?_)))
 obtain ⟨aT, aP, hm⟩ := bnd hm
 replace aP := iff_ (si aR).symm aP
 refine cF (cF (cF (cF ?_)))
 cases hm
 exact en lr ⟨(by rw [← ((si aP).symm).symm] <;> rfl), rfl⟩ (sc [1] rfl)
 refine cf aQ (cf aQ (cf aQ ?_))
 obtain ⟨aY, aS, hm⟩ := bnd hm
 replace aS := iff_ (and_f aQ) aS
 refine cF (cF (cF (cF ?_)))
 obtain ⟨aU, aR, hm⟩ := bnd hm
 replace aR := iff_ (si aS).symm aR
 refine cF (cF (cF (cF ?_)))
 obtain ⟨aT, aP, hm⟩ := bnd hm
 replace aP := iff_ (si aR).symm aP
 refine cF (cF (cF (cF ?_)))
 cases hm
 exact en lr ⟨(by rw [← ((si aP).symm).symm] <;> rfl), rfl⟩ (sc [1] rfl)

def Jcl (s : Str) : Option (Bool) :=
  some (((decide (s = ([109, 101, 116, 104, 111, 100] : Str)) || decide (s = ([104, 111, 115, 116] : Str))) || decide (s = ([112, 97, 116, 104] : Str))) || decide (s = ([113, 117, 101, 114, 121] : Str)))
theorem Jee {s : Str} {K : Hp} {r : Bool}
    (hm : Jcl s = some r)  :
    Fn Tryz.prog 116 [str s] K [] (fun v K' H' => v = .bool r ∧ H' = []) := by
 refine Fn.enter Tryz.func116 Tryz.call116 rfl fun F => ?_
 unfold Jcl at hm
 refine guard_go rfl ?_
 refine eq_str ?_
 refine cond_s ?_ ?_ <;> intro aN
 refine ct aN (ct aN (cT (cT (cT (cT (cT (cT ?_)))))))
 cases hm
 exact en lr ⟨(by rw [← ((or_t (or_t (or_t aN)))).symm] <;> rfl), rfl⟩ (pf rfl)
 refine cf aN (eq_str (cf aN ?_))
 refine cond_s ?_ ?_ <;> intro aO
 refine ct aO (ct aO (cT (cT (cT ?_))))
 cases hm
 exact en lr ⟨(by rw [← ((or_t (or_t (or_u aN aO)))).symm] <;> rfl), rfl⟩ (pf rfl)
 refine cf aO (eq_str (cf aO ?_))
 refine cond_s ?_ ?_ <;> intro aM
 refine ct aM (ct aM ?_)
 cases hm
 exact en lr ⟨(by rw [← ((or_t (or_u (or_f aN aO) aM))).symm] <;> rfl), rfl⟩ (pf rfl)
 refine cf aM (eq_str (cf aM ?_))
 cases hm
 exact en lr ⟨(by rw [← (or_e (b := decide (s = ([113, 117, 101, 114, 121] : Str))) (or_f (or_f aN aO) aM))] <;> rfl), rfl⟩ (pf rfl)

def Ja5 (env : (List JB)) (s : Str) : Nat → Int → Option (Fl (Int) (Int))
  | 0, _ => none
  | aO + 1, ac =>
    if decide (ac ≥ 0) then
    (ix env ac).bind fun aM =>
    if decide (aM.Name = s) then
    (ix env ac).bind fun aN =>
    some (Fl.ret aN.As)
    else
    (chk (InI (ac - 1))).bind fun _ =>
    Ja5 env s aO (ac - 1)
    else
    some (Fl.go ac)
def JcA (n : Nat) (s : Str) (env : (List JB)) : Option (Int) :=
  (chk (InI ((env.length : Int) - 1))).bind fun _ =>
  (Ja5 env s n ((env.length : Int) - 1)).bind fun s0 => s0.el some fun t0 =>
  (Jcl s).bind fun aM =>
  if aM then
  some 1
  else
  some 0
theorem Jd3 {n : Nat} {s : Str} {env : (List JB)} {ag : Option Addr} {ah : Nat} {n1 : Nat} {K : Hp} {r : Int}
    (hm : JcA n s env = some r) (hX : RdC JB.enc K ag ah 2 env ∧ n1 = env.length) :
    Fn Tryz.prog 93 [str s, .slice ag n1 ah] K [] (fun v K' H' => v = .int .i64 r ∧ H' = []) := by
 obtain ⟨af, aS⟩ := hX
 subst aS
 refine Fn.enter Tryz.func93 Tryz.call93 rfl fun F => ?_
 unfold JcA at hm
 refine ro (len_slice rfl ?_)
 refine ci hm fun hm => ?_
 obtain ⟨s0, aM, hm⟩ := bnd hm
 refine lD (σ := (Int)) [4, 5, 9, 10, 11, 12, 13, 14, 15, 16, 17, 18, 19, 20, 21, 22, 23, 24] [0] (fun _ => []) (fun t0 => [(5, .int .i64 t0)]) (fun _ => []) (fun _ => True) (fun i0 t0 => Ja5 env s i0 t0 = some s0) (fun t0 => s0 = Fl.go t0) (fun i0 => i0) n _ aM (And.intro qe (And.intro ?_ ?_))
 clear aM
 rintro i0 ac _ aM j0
 conv at aM => whnf
 cases i0 with
 | zero => rw [Ja5.eq_1] at aM; cases aM
 | succ i0 =>
  rw [Ja5.eq_2] at aM
  refine cs rfl rfl aM ?_ ?_ <;> intro aU aM
  refine block_go rfl ?_
  obtain ⟨aX, aQ, aN, aM⟩ := ixb aM
  refine RStep.ofN (index_addr rfl rfl (hasK af.rd aN) aQ (lt_ofE rfl aQ aN) (eptr_field rfl (hasK af.rd aN) (ro (load_rd ((ac).toNat) 0 _ _ af.rd rfl (mp aN) rfl rfl (eq_str ?_)))))
  refine cs rfl rfl aM ?_ ?_ <;> intro aY aM
  obtain ⟨aW, aP, aO, aM⟩ := ixb aM
  refine RStep.ofN (index_addr rfl rfl (hasK af.rd aO) aP (lt_ofE rfl aP aO) (eptr_field rfl (hasK af.rd aO) (ro (load_rd ((ac).toNat) 1 _ _ af.rd rfl (mp aO) rfl rfl ?_))))
  exact eE (er aM hm)
  refine ci aM fun aM => ?_
  exact eR aM (_, _)
  refine cT ?_
  exact eM aM _
 rintro t0 _ rfl j0
 replace hm := elg hm
 refine cb hm fun aV aR hm => cg0 (Jee aR :) ?_
 refine cs rfl rfl hm ?_ ?_ <;> intro aT hm
 exact eE hm
 exact eE hm

def Jbl (s : Str) : Option (Int × Int × Bool) :=
  if decide (s = ([104, 101, 97, 100, 101, 114] : Str)) then
  some (1, 1, true)
  else
  if decide (s = ([97, 114, 103] : Str)) then
  some (1, 1, true)
  else
  if decide (s = ([108, 111, 119, 101, 114] : Str)) then
  some (1, 1, true)
  else
  if decide (s = ([104, 97, 115] : Str)) then
  some (1, 3, true)
  else
  if decide (s = ([108, 101, 110] : Str)) then
  some (1, 2, true)
  else
  if decide (s = ([110, 117, 109, 98, 101, 114] : Str)) then
  some (1, 2, true)
  else
  if decide (s = ([112, 97, 114, 116] : Str)) then
  some (2, 1, true)
  else
  if decide (s = ([116, 101, 120, 116] : Str)) then
  some (2, 1, true)
  else
  some (0, 0, false)
theorem JdD {s : Str} {K : Hp} {r : Int × Int × Bool}
    (hm : Jbl s = some r)  :
    Fn Tryz.prog 117 [str s] K [] (fun v K' H' => v = .tuple #[.int .i64 r.1, .int .i64 r.2.1, .bool r.2.2] ∧ H' = []) := by
 refine Fn.enter Tryz.func117 Tryz.call117 rfl fun F => ?_
 unfold Jbl at hm
 refine block_go rfl ?_
 refine eq_str (cs rfl rfl hm ?_ ?_) <;> intro w6 hm
 refine cond_go rfl (ct w6 ?_)
 exact eE hm
 refine eq_str (cs rfl rfl hm ?_ ?_) <;> intro w6 hm
 refine cond_go rfl (ct w6 ?_)
 exact eE hm
 refine eq_str (cs rfl rfl hm ?_ ?_) <;> intro w6 hm
 exact eE hm
 refine eq_str (cs rfl rfl hm ?_ ?_) <;> intro aO hm
 exact eE hm
 refine eq_str (cs rfl rfl hm ?_ ?_) <;> intro aM hm
 refine cond_go rfl (ct aM ?_)
 exact eE hm
 refine eq_str (cs rfl rfl hm ?_ ?_) <;> intro aM hm
 exact eE hm
 refine eq_str (cs rfl rfl hm ?_ ?_) <;> intro aN hm
 refine cond_go rfl (ct aN ?_)
 exact eE hm
 refine eq_str (cs rfl rfl hm ?_ ?_) <;> intro aN hm
 exact eE hm
 exact eE hm

def Jar (n' : Jb) (kids : (List Int)) : Option (Int) :=
  (if decide ((kids.length : Int) = 2) then (ix kids 0).bind fun a6 =>
  (ix kids 1).bind fun ba =>
  some (decide (a6 = ba)) else some false).bind fun aM =>
  if decide (n'.Ab = 20) then
  some 2
  else
  if decide (n'.Ab = 21) then
  some 1
  else
  if decide (n'.Ab = 22) then
  some 3
  else
  if decide (n'.Ab = 17) then
  (if aM then (ix kids 0).bind fun a8 =>
  some (decide (a8 ≠ 3)) else some false).bind fun aX =>
  if aX then
  (ix kids 0).bind fun bb =>
  some bb
  else
  some 0
  else
  if decide (n'.Ab = 18) then
  (if aM then (ix kids 0).bind fun aP =>
  some (decide (aP = 2)) else some false).bind fun aQ =>
  if aQ then
  some 2
  else
  some 0
  else
  if decide (n'.Ab = 19) then
  (if aM then (ix kids 0).bind fun aP =>
  some (decide (aP = 2)) else some false).bind fun aQ =>
  if aQ then
  some 2
  else
  some 0
  else
  if decide (n'.Ab = 13) then
  (if aM then (ix kids 0).bind fun aO =>
  some (decide (aO = 3)) else some false).bind fun aW =>
  if aW then
  some 3
  else
  some 0
  else
  if decide (n'.Ab = 14) then
  (if aM then (ix kids 0).bind fun aO =>
  some (decide (aO = 3)) else some false).bind fun aW =>
  if aW then
  some 3
  else
  some 0
  else
  if decide (n'.Ab = 15) then
  (ix kids 0).bind fun aY =>
  if decide (aY = 3) then
  some 3
  else
  some 0
  else
  if decide (n'.Ab = 16) then
  if aM then
  (if (!(decide (n'.Ac = ([60] : Str)) || decide (n'.Ac = ([60, 61] : Str)))) then some true else (ix kids 0).bind fun aZ =>
  some (decide (aZ = 2))).bind fun aV =>
  if aV then
  (if (!((decide (n'.Ac = ([115, 116, 97, 114, 116, 115] : Str)) || decide (n'.Ac = ([101, 110, 100, 115] : Str))) || decide (n'.Ac = ([99, 111, 110, 116, 97, 105, 110, 115] : Str)))) then some true else (ix kids 0).bind fun aS =>
  some (decide (aS = 1))).bind fun aT =>
  if aT then
  some 3
  else
  some 0
  else
  some 0
  else
  some 0
  else
  if decide (n'.Ab = 24) then
  (Jbl n'.Ac).bind fun aN =>
  (if decide ((kids.length : Int) = 1) then (ix kids 0).bind fun aU =>
  some (decide (aU = aN.1)) else some false).bind fun aR =>
  if aR then
  some aN.2.1
  else
  some 0
  else
  some 0
theorem Jd4 {n' : Jb} {kids : (List Int)} {aa : Option Addr} {ab : Nat} {ag : Option Addr} {ah : Nat} {n1 : Nat} {K : Hp} {r : Int}
    (hm : Jar n' kids = some r) (hX : LiC Jb.R K aa ab 4 n'.Aa ∧ RdC eN K ag ah 1 kids ∧ n1 = kids.length) :
    Fn Tryz.prog 132 [.agg #[.int .i64 n'.Ab, str n'.Ac, .slice aa n'.Aa.length ab, .int .i64 n'.Ad], .slice ag n1 ah] K [] (fun v K' H' => v = .int .i64 r ∧ H' = []) := by
 obtain ⟨ae, af, bX⟩ := hX
 subst bX
 refine Fn.enter Tryz.func132 Tryz.call132 rfl fun F => ?_
 unfold Jar at hm
 refine box_rule ?_
 intro b2
 obtain ⟨bz, aZ, hm⟩ := bnd hm
 refine dR (σ := Bool) [5, 11, 12, 13, 14, 15, 16, 17, 18, 19, 20, 21, 22] (fun bj => [(5, .bool bj)]) (fun bj => bj = bz) ?_ ?_
 replace aZ := bsm aZ
 refine draw_go ⟨⟨[], false⟩, _, [], []⟩ (by kernel_rfl) ⟨Hp.Le.refl _, (pf rfl), ci0⟩ ?_
 refine len_sliceN rfl (eq_int ?_)
 obtain ⟨bN, bg, aZ⟩ := bnd aZ
 refine cond_s ?_ ?_ <;> intro aS
 replace bg := ift aS bg
 refine ct aS ?_
 obtain ⟨cE, bM, bE, bg⟩ := ixb bg
 refine index_addr rfl rfl (hasK af.rd bE) bM (lt_ofE rfl bM bE) (ct aS (load_rd_l ((0 : Int).toNat) 0 _ _ af.rd rfl (mp bE) rfl rfl (ct aS (ct aS ?_))))
 obtain ⟨cH, bQ, bD, bg⟩ := ixb bg
 refine index_addr rfl rfl (hasK af.rd bD) bQ (lt_ofE rfl bQ bD) (ct aS (load_rd_l ((1 : Int).toNat) 0 _ _ af.rd rfl (mp bD) rfl rfl (ct aS (eq_int (ct aS ?_)))))
 exact mt (bN) ⟨(by rw [← (si bg)] <;> rfl), trivial⟩ rfl (pf rfl) lr (si aZ)
 replace bg := iff_ aS bg
 refine cf aS (cf aS (cf aS (cf aS (cf aS (cf aS (cf aS ?_))))))
 exact mt (bN) ⟨(by rw [← ((si bg).symm).symm] <;> rfl), trivial⟩ rfl (pf rfl) lr (si aZ)
 rintro bj rfl cj
 refine fa rfl (ro (ld r0 rfl rfl ?_))
 refine block_go rfl ?_
 refine eq_int (cs rfl rfl hm ?_ ?_) <;> intro cC hm
 exact eE hm
 refine eq_int (cs rfl rfl hm ?_ ?_) <;> intro cw hm
 exact eE hm
 refine eq_int (cs rfl rfl hm ?_ ?_) <;> intro cz hm
 exact eE hm
 refine eq_int (cs rfl rfl hm ?_ ?_) <;> intro cq hm
 refine guard_go rfl ?_
 obtain ⟨cI, bh, hm⟩ := bnd hm
 refine cond_s ?_ ?_ <;> intro aT
 replace bh := ift aT bh
 refine ct aT ?_
 obtain ⟨cA, bO, bF, bh⟩ := ixb bh
 refine RStep.ofN (index_addr rfl rfl (hasK af.rd bF) bO (lt_ofE rfl bO bF) (ct aT (ro (load_rd ((0 : Int).toNat) 0 _ _ af.rd rfl (mp bF) rfl rfl (ct aT (neq_int (ct aT (cond_go rfl ?_))))))))
 refine cond_s ?_ ?_ <;> intro bK
 replace hm := ift ((si bh).symm.trans bK) hm
 obtain ⟨cK, bL, bB, hm⟩ := ixb hm
 refine RStep.ofN (index_addr rfl rfl (hasK af.rd bB) bL (lt_ofE rfl bL bB) (ro (load_rd ((0 : Int).toNat) 0 _ _ af.rd rfl (mp bB) rfl rfl ?_)))
 exact eE hm
 replace hm := iff_ ((si bh).symm.trans bK) hm
 exact eE hm
 replace bh := iff_ aT bh
 refine cf aT (cf aT (cf aT (cf aT (cond_go rfl (cF ?_)))))
 replace hm := iff_ (si bh).symm hm
 exact eE hm
 refine eq_int (cs rfl rfl hm ?_ ?_) <;> intro bP hm
 refine cond_go rfl (ct bP ?_)
 refine guard_go rfl ?_
 obtain ⟨bY, a8, hm⟩ := bnd hm
 refine cond_s ?_ ?_ <;> intro aN
 replace a8 := ift aN a8
 refine ct aN ?_
 obtain ⟨bZ, br, bm, a8⟩ := ixb a8
 refine RStep.ofN (index_addr rfl rfl (hasK af.rd bm) br (lt_ofE rfl br bm) (ct aN (ro (load_rd ((0 : Int).toNat) 0 _ _ af.rd rfl (mp bm) rfl rfl (ct aN (eq_int (ct aN (cond_go rfl ?_))))))))
 refine cond_s ?_ ?_ <;> intro bu
 replace hm := ift ((si a8).symm.trans bu) hm
 exact eE hm
 replace hm := iff_ ((si a8).symm.trans bu) hm
 exact eE hm
 replace a8 := iff_ aN a8
 refine cf aN (cf aN (cf aN (cf aN (cond_go rfl (cF ?_)))))
 replace hm := iff_ (si a8).symm hm
 exact eE hm
 refine eq_int (cs rfl rfl hm ?_ ?_) <;> intro bP hm
 refine guard_go rfl ?_
 obtain ⟨bY, a8, hm⟩ := bnd hm
 refine cond_s ?_ ?_ <;> intro aN
 replace a8 := ift aN a8
 refine ct aN ?_
 obtain ⟨bZ, br, bm, a8⟩ := ixb a8
 refine RStep.ofN (index_addr rfl rfl (hasK af.rd bm) br (lt_ofE rfl br bm) (ct aN (ro (load_rd ((0 : Int).toNat) 0 _ _ af.rd rfl (mp bm) rfl rfl (ct aN (eq_int (ct aN (cond_go rfl ?_))))))))
 refine cond_s ?_ ?_ <;> intro bu
 replace hm := ift ((si a8).symm.trans bu) hm
 exact eE hm
 replace hm := iff_ ((si a8).symm.trans bu) hm
 exact eE hm
 replace a8 := iff_ aN a8
 refine cf aN (cf aN (cf aN (cf aN (cond_go rfl (cF ?_)))))
 replace hm := iff_ (si a8).symm hm
 exact eE hm
 refine eq_int (cs rfl rfl hm ?_ ?_) <;> intro bJ hm
 refine cond_go rfl (ct bJ ?_)
 refine guard_go rfl ?_
 obtain ⟨cd, a6, hm⟩ := bnd hm
 refine cond_s ?_ ?_ <;> intro aO
 replace a6 := ift aO a6
 refine ct aO ?_
 obtain ⟨bT, bp, bn, a6⟩ := ixb a6
 refine RStep.ofN (index_addr rfl rfl (hasK af.rd bn) bp (lt_ofE rfl bp bn) (ct aO (ro (load_rd ((0 : Int).toNat) 0 _ _ af.rd rfl (mp bn) rfl rfl (ct aO (eq_int (ct aO (cond_go rfl ?_))))))))
 refine cond_s ?_ ?_ <;> intro bt
 replace hm := ift ((si a6).symm.trans bt) hm
 exact eE hm
 replace hm := iff_ ((si a6).symm.trans bt) hm
 exact eE hm
 replace a6 := iff_ aO a6
 refine cf aO (cf aO (cf aO (cf aO (cond_go rfl (cF ?_)))))
 replace hm := iff_ (si a6).symm hm
 exact eE hm
 refine eq_int (cs rfl rfl hm ?_ ?_) <;> intro bJ hm
 refine guard_go rfl ?_
 obtain ⟨cd, a6, hm⟩ := bnd hm
 refine cond_s ?_ ?_ <;> intro aO
 replace a6 := ift aO a6
 refine ct aO ?_
 obtain ⟨bT, bp, bn, a6⟩ := ixb a6
 refine RStep.ofN (index_addr rfl rfl (hasK af.rd bn) bp (lt_ofE rfl bp bn) (ct aO (ro (load_rd ((0 : Int).toNat) 0 _ _ af.rd rfl (mp bn) rfl rfl (ct aO (eq_int (ct aO (cond_go rfl ?_))))))))
 refine cond_s ?_ ?_ <;> intro bt
 replace hm := ift ((si a6).symm.trans bt) hm
 exact eE hm
 replace hm := iff_ ((si a6).symm.trans bt) hm
 exact eE hm
 replace a6 := iff_ aO a6
 refine cf aO (cf aO (cf aO (cf aO (cond_go rfl (cF ?_)))))
 replace hm := iff_ (si a6).symm hm
 exact eE hm
 refine eq_int (cs rfl rfl hm ?_ ?_) <;> intro cB hm
 obtain ⟨cr, bS, bA, hm⟩ := ixb hm
 refine RStep.ofN (index_addr rfl rfl (hasK af.rd bA) bS (lt_ofE rfl bS bA) (ro (load_rd ((0 : Int).toNat) 0 _ _ af.rd rfl (mp bA) rfl rfl (eq_int ?_))))
 refine cs rfl rfl hm ?_ ?_ <;> intro cD hm
 exact eE hm
 exact eE hm
 refine eq_int (cs rfl rfl hm ?_ ?_) <;> intro cJ hm
 refine jR (σ := Unit) [6, 71, 72, 73, 74, 75, 76, 77, 78] (fun _ => [(6, .bool (decide (n'.Ac = ([60] : Str)) || decide (n'.Ac = ([60, 61] : Str))))]) (fun bU => True) ?_ ?_
 refine guard_go rfl ?_
 refine fa rfl (ro (ld r0 rfl rfl (eq_str ?_)))
 refine cond_s ?_ ?_ <;> intro aX
 refine ct aX (ct aX (ct aX ?_))
 exact mt (()) ⟨(by rw [← ((or_t aX)).symm] <;> rfl), trivial⟩ rfl (pf rfl) lr trivial
 refine fa rfl (cf aX (ro (ld r0 rfl rfl (cf aX (eq_str (cf aX ?_))))))
 exact mt (()) ⟨(by rw [← (or_e (b := decide (n'.Ac = ([60, 61] : Str))) aX)] <;> rfl), trivial⟩ rfl (pf rfl) lr trivial
 rintro _ _ co
 refine jR (σ := Unit) [7, 79, 80, 81, 82, 83, 84, 85, 86, 87, 88, 89, 90, 91] (fun _ => [(7, .bool ((decide (n'.Ac = ([115, 116, 97, 114, 116, 115] : Str)) || decide (n'.Ac = ([101, 110, 100, 115] : Str))) || decide (n'.Ac = ([99, 111, 110, 116, 97, 105, 110, 115] : Str))))]) (fun ce => True) ?_ ?_
 refine guard_go rfl ?_
 refine fa rfl (ro (ld r0 rfl rfl (eq_str ?_)))
 refine cond_s ?_ ?_ <;> intro aW
 refine ct aW (ct aW (ct aW (cT (cT (cT (cT ?_))))))
 exact mt (()) ⟨(by rw [← ((or_t (or_t aW))).symm] <;> rfl), trivial⟩ rfl (pf rfl) lr trivial
 refine fa rfl (cf aW (ro (ld r0 rfl rfl (cf aW (eq_str (cf aW ?_))))))
 refine cond_s ?_ ?_ <;> intro aY
 refine ct aY (ct aY (ct aY ?_))
 exact mt (()) ⟨(by rw [← ((or_t (or_u aW aY))).symm] <;> rfl), trivial⟩ rfl (pf rfl) lr trivial
 refine fa rfl (cf aY (ro (ld r0 rfl rfl (cf aY (eq_str (cf aY ?_))))))
 exact mt (()) ⟨(by rw [← (or_e (b := decide (n'.Ac = ([99, 111, 110, 116, 97, 105, 110, 115] : Str))) (or_f aW aY))] <;> rfl), trivial⟩ rfl (pf rfl) lr trivial
 rintro _ _ cn
 refine guard_go rfl ?_
 refine cond_s ?_ ?_ <;> intro aR
 replace hm := ift aR hm
 refine ct aR (un_not (ct aR ?_))
 obtain ⟨cp, bb, hm⟩ := bnd hm
 refine cond_s ?_ ?_ <;> intro aU
 replace bb := ift (not_t (ni_t aU)) bb
 refine ct aU (ct aU (ct aU (ct aR (ct aU (ct aR ?_)))))
 replace hm := ift (si bb).symm hm
 refine cT (cT (un_not (cT ?_)))
 obtain ⟨bH, aV, hm⟩ := bnd hm
 refine cond_s ?_ ?_ <;> intro aM
 replace aV := ift (not_t (ni_t aM)) aV
 refine ct aM (ct aM (ct aM (cT (ct aM (cT (cond_go rfl (cT ?_)))))))
 replace hm := ift (si aV).symm hm
 exact eE hm
 replace aV := iff_ (not_f (ni_f aM)) aV
 refine cf aM ?_
 obtain ⟨bC, bf, bc, aV⟩ := ixb aV
 refine RStep.ofN (index_addr rfl rfl (hasK af.rd bc) bf (lt_ofE rfl bf bc) (cf aM (ro (load_rd ((0 : Int).toNat) 0 _ _ af.rd rfl (mp bc) rfl rfl (cf aM (eq_int (cT (cf aM (cT ?_)))))))))
 refine cond_go rfl ?_
 refine cond_s ?_ ?_ <;> intro bd
 replace hm := ift ((si aV).symm.trans bd) hm
 exact eE hm
 replace hm := iff_ ((si aV).symm.trans bd) hm
 exact eE hm
 replace bb := iff_ (not_f (ni_f aU)) bb
 refine cf aU ?_
 obtain ⟨cG, bR, bI, bb⟩ := ixb bb
 refine RStep.ofN (index_addr rfl rfl (hasK af.rd bI) bR (lt_ofE rfl bR bI) (cf aU (ro (load_rd ((0 : Int).toNat) 0 _ _ af.rd rfl (mp bI) rfl rfl (cf aU (eq_int (ct aR (cf aU (ct aR ?_)))))))))
 refine cond_s ?_ ?_ <;> intro aP
 replace hm := ift ((si bb).symm.trans aP) hm
 refine ct aP (un_not (ct aP ?_))
 obtain ⟨bH, aV, hm⟩ := bnd hm
 refine cond_s ?_ ?_ <;> intro aM
 replace aV := ift (not_t (ni_t aM)) aV
 refine ct aM (ct aM (ct aM (ct aP (ct aM (ct aP (cond_go rfl (cT ?_)))))))
 replace hm := ift (si aV).symm hm
 exact eE hm
 replace aV := iff_ (not_f (ni_f aM)) aV
 refine cf aM ?_
 obtain ⟨bC, bf, bc, aV⟩ := ixb aV
 refine RStep.ofN (index_addr rfl rfl (hasK af.rd bc) bf (lt_ofE rfl bf bc) (cf aM (ro (load_rd ((0 : Int).toNat) 0 _ _ af.rd rfl (mp bc) rfl rfl (cf aM (eq_int (ct aP (cf aM (ct aP ?_)))))))))
 refine cond_go rfl ?_
 refine cond_s ?_ ?_ <;> intro bd
 replace hm := ift ((si aV).symm.trans bd) hm
 exact eE hm
 replace hm := iff_ ((si aV).symm.trans bd) hm
 exact eE hm
 replace hm := iff_ ((si bb).symm.trans aP) hm
 refine cf aP (cf aP (cf aP (cf aP (cond_go rfl (cF ?_)))))
 exact eE hm
 replace hm := iff_ aR hm
 refine cf aR (cf aR (cf aR (cf aR (cF (cF (cF (cF ?_)))))))
 refine cF (cond_go rfl (cF ?_))
 exact eE hm
 refine eq_int (cs rfl rfl hm ?_ ?_) <;> intro ca hm
 refine fa rfl (ro (ld r0 rfl rfl ?_))
 refine cb hm fun cm bG hm => cg0 (JdD bG :) ?_
 refine guard_go rfl ?_
 refine ro (len_slice rfl (eq_int ?_))
 obtain ⟨bV, ba, hm⟩ := bnd hm
 refine cond_s ?_ ?_ <;> intro aQ
 replace ba := ift aQ ba
 refine ct aQ ?_
 obtain ⟨bW, bw, bo, ba⟩ := ixb ba
 refine RStep.ofN (index_addr rfl rfl (hasK af.rd bo) bw (lt_ofE rfl bw bo) (ct aQ (ro (load_rd ((0 : Int).toNat) 0 _ _ af.rd rfl (mp bo) rfl rfl (ct aQ (ct aQ (eq_int (ct aQ (cond_go rfl ?_)))))))))
 refine cond_s ?_ ?_ <;> intro bq
 replace hm := ift ((si ba).symm.trans bq) hm
 exact eE hm
 replace hm := iff_ ((si ba).symm.trans bq) hm
 exact eE hm
 replace ba := iff_ aQ ba
 refine cf aQ (cf aQ (cf aQ (cf aQ (cf aQ (cond_go rfl (cF ?_))))))
 replace hm := iff_ (si ba).symm hm
 exact eE hm
 exact eE hm

def JbF (rec_ : (Jb → (List JB) → Option (Int × JG))) (env : (List JB)) : List Jb → Nat → (List Int) → Option (Fl (Int × JG) ((List Int)))
  | [], _, ac => some (Fl.go ac)
  | e0 :: aN, i0, ac =>
    (rec_ e0 env).bind fun aM =>
    if decide (aM.2.Code ≠ 0) then
    some (Fl.ret (0, aM.2))
    else
    (chk (ac.length + [aM.1].length ≤ lim)).bind fun _ =>
    JbF rec_ env aN (i0 + 1) (ac ++ [aM.1])
def Jby : Nat → Jb → (List JB) → Option (Int × JG)
  | 0, _, _ => none
  | n + 1, n', env =>
    (chk (n'.Aa.length ≤ szMax)).bind fun _ =>
    (JbF (Jby n) env n'.Aa 0 []).bind fun s0 => s0.el some fun t0 =>
    if decide (n'.Ab = 23) then
    (JcA n n'.Ac env).bind fun aN =>
    if decide (aN ≠ 0) then
    some (aN, (⟨0, 0⟩ : JG))
    else
    some (0, (⟨n'.Ad, 8⟩ : JG))
    else
    if decide (n'.Ab = 24) then
    (Jbl n'.Ac).bind fun aO =>
    if (!aO.2.2) then
    some (0, (⟨n'.Ad, 8⟩ : JG))
    else
    (Jar n' t0).bind fun aM =>
    if decide (aM = 0) then
    some (0, (⟨n'.Ad, 9⟩ : JG))
    else
    some (aM, (⟨0, 0⟩ : JG))
    else
    (Jar n' t0).bind fun aM =>
    if decide (aM = 0) then
    some (0, (⟨n'.Ad, 9⟩ : JG))
    else
    some (aM, (⟨0, 0⟩ : JG))
theorem JfA : ∀ {n : Nat} {n' : Jb} {env : (List JB)} {aa : Option Addr} {ab : Nat} {ag : Option Addr} {ah : Nat} {n1 : Nat} {K : Hp} {r : Int × JG}
    (hm : Jby n n' env = some r) (hX : LiC Jb.R K aa ab 4 n'.Aa ∧ RdC JB.enc K ag ah 2 env ∧ n1 = env.length),
    Fn Tryz.prog 91 [.agg #[.int .i64 n'.Ab, str n'.Ac, .slice aa n'.Aa.length ab, .int .i64 n'.Ad], .slice ag n1 ah] K [] (fun v K' H' => v = .tuple #[.int .i64 r.1, .agg #[.int .i64 r.2.Ad, .int .i64 r.2.Code]] ∧ H' = []) := by
 intro n
 induction n with
 | zero =>
   intro n' env aa ab ag ah n1 K r hm hX
   rw [Jby.eq_1] at hm; cases hm
 | succ n ih =>
   intro n' env aa ab ag ah n1 K r hm hX
   obtain ⟨ae, af, bh⟩ := hX
   subst bh
   refine Fn.enter Tryz.func91 Tryz.call91 rfl fun F => ?_
   rw [Jby.eq_2] at hm
   refine box_rule ?_
   intro b2
   refine alloc_rule rfl fun b5 => ?_
   refine fa rfl (ro (ld r1 rfl rfl (ro (len_slice rfl ?_))))
   obtain ⟨br, hm⟩ := chkb hm
   obtain ⟨s0, aO, hm⟩ := bnd hm
   refine nilC eN 3 1 ?_
   refine lD (σ := ((List Int)) × Option Addr × Nat) [4, 6, 8, 9, 10, 19, 20, 21, 22, 23, 24, 25, 26, 27, 28, 29, 30, 31, 32, 33, 34, 35, 36, 37] [1, 2, 3] (fun i0 => [(19, .int .i64 (i0 : Int))]) (fun (t0, aM, aN) => [(6, .slice aM t0.length aN)]) (fun (t0, aM, aN) => [OwnL eN aM 3 1 aN t0]) (fun (t0, aM, aN) => (0 < t0.length → Has aM) ∧ True) (fun i0 (t0, aM, aN) => JbF (Jby n) env (n'.Aa.drop i0) i0 t0 = some s0) (fun (t0, aM, aN) => s0 = Fl.go t0) (fun i0 => n'.Aa.length - i0) 0 (_, _, _) aO (And.intro qe (And.intro ?_ ?_))
   clear aO
   rintro i0 ⟨ac, bb, aY⟩ ⟨aZ, _⟩ aO j0
   conv at aO => whnf
   refine cond_go rfl ?_
   refine cond_s ?_ ?_ <;> intro w0
   obtain ⟨e0, aS, bf⟩ := ltx w0
   rw [bf, JbF.eq_2] at aO
   refine block_go rfl ?_
   refine RStep.ofN (index_addr rfl rfl (hasR ae.rd aS) (nn _) (lt_ofN aS) ?_)
   obtain ⟨bg, bq, aU, aT, aW⟩ := LiR.get ae.rd aS
   obtain ⟨a8, a6, rfl, ba⟩ := Jb.out aW
   refine ro (load_rd_agg i0 _ aU rfl aT rfl ?_)
   refine alloc_rule rfl fun b8 => ?_
   refine store_rule r0 rfl ⟨rfl, rfl, (nl rfl), ?_⟩
   refine ro (loadn_s r0 rfl (nl rfl) ?_)
   refine cb aO fun bc bm aO => cgx (ih bm :) ?_
   refine alloc_rule rfl fun bu => ?_
   refine store_rule r0 rfl ⟨rfl, rfl, (nl rfl), ?_⟩
   refine fa rfl (ro (ld r0 rfl rfl (neq_int ?_)))
   refine cs rfl rfl aO ?_ ?_ <;> intro bt aO
   refine draw_go ⟨⟨[], false⟩, _, [(_, _)], []⟩ (by kernel_rfl) ⟨Hp.Le.refl _, (pf rfl), ci0⟩ ?_
   refine loadn_l m0 rfl (nl rfl) ?_
   refine store_rule r3 rfl ⟨rfl, rfl, (nl rfl), ?_⟩
   refine ⟨⟨lr, (sc [1] rfl), ci0⟩, ?_⟩
   exact ro (loadn_s r0 rfl (nl rfl) (eE (er aO hm)))
   refine bsO (len := 1) (enc := eN) (l := [bc.1]) (cl := [.int .i64 bc.1]) elT150 rfl rfl (fun _ _ => rfl) rfl rfl rfl ?_ fun bD => ?_
   · conv => whnf
     refine cT ?_
     first | done | rfl
   obtain ⟨bn, aO⟩ := chkb aO
   refine apE rfl r3 elT150 (src_own' rfl r0 rfl (fun _ => rfl) (fun _ => rfl)) bn ?_
   intro bE bB bz
   refine int_in (cntz aS br) ?_
   exact eR aO (_, _, _, _)
   rw [lty w0, JbF.eq_1] at aO
   refine cT ?_
   exact eM aO (_, _, _)
   rintro ⟨t0, aM, aN⟩ ⟨aX, _⟩ rfl j0
   replace hm := elg hm
   refine fa rfl (ro (ld r2 rfl rfl (eq_int ?_)))
   refine cs rfl rfl hm ?_ ?_ <;> intro bH hm
   refine fa rfl (ro (ld r2 rfl rfl ?_))
   refine cb hm fun bC bo hm => cgx (Jd3 bo :) ?_
   refine neq_int (cs rfl rfl hm ?_ ?_) <;> intro bF hm
   refine build_struct rfl rfl ?_
   refine store_rule r1 rfl ⟨rfl, rfl, (nl rfl), ?_⟩
   exact ro (loadn_s r0 rfl (nl rfl) (eE hm))
   refine draw_go ⟨⟨[], false⟩, _, [(_, _)], []⟩ (by kernel_rfl) ⟨Hp.Le.refl _, (sc [2] rfl), ci0⟩ ?_
   refine fa rfl (load1_l m0 rfl rfl (build_struct rfl rfl (cT (cT ?_))))
   refine store_rule r1 rfl ⟨rfl, rfl, (nl rfl), ?_⟩
   refine ⟨⟨lr, (sc [2] rfl), ci0⟩, ?_⟩
   exact ro (loadn_s r0 rfl (nl rfl) (eE hm))
   refine fa rfl (ro (ld r2 rfl rfl (eq_int ?_)))
   refine cs rfl rfl hm ?_ ?_ <;> intro bG hm
   refine fa rfl (ro (ld r2 rfl rfl ?_))
   refine cb hm fun bA bd hm => cg0 (JdD bd :) ?_
   refine un_not ?_
   refine cs rfl rfl hm ?_ ?_ <;> intro bw hm
   refine draw_go ⟨⟨[], false⟩, _, [(_, _)], []⟩ (by kernel_rfl) ⟨Hp.Le.refl _, (sc [2] rfl), ci0⟩ ?_
   refine fa rfl (load1_l m0 rfl rfl (build_struct rfl rfl (cT (cT ?_))))
   refine store_rule r1 rfl ⟨rfl, rfl, (nl rfl), ?_⟩
   refine ⟨⟨lr, (sc [2] rfl), ci0⟩, ?_⟩
   exact ro (loadn_s r0 rfl (nl rfl) (eE hm))
   refine ro (loadn_s r2 rfl (nl rfl) ?_)
   refine cb hm fun bp aV hm => ck0 (Fn.lend Tryz.call132 (fun aR aQ aP => (Jd4 (n' := n') aV ⟨(LiC.mono Jb.R_ok aQ ae), aP, rfl⟩)) (by exact fun _ _ _ _ h => h)) ?_
   rintro _ _ _ ⟨_, rfl, rfl, rfl⟩
   refine eq_int (cs rfl rfl hm ?_ ?_) <;> intro bj hm
   refine draw_go ⟨⟨[], false⟩, _, [(_, _)], []⟩ (by kernel_rfl) ⟨Hp.Le.refl _, (sc [2] rfl), ci0⟩ ?_
   refine fa rfl (load1_l m0 rfl rfl (build_struct rfl rfl (cT (cT ?_))))
   refine store_rule r1 rfl ⟨rfl, rfl, (nl rfl), ?_⟩
   refine ⟨⟨lr, (sc [2] rfl), ci0⟩, ?_⟩
   exact ro (loadn_s r0 rfl (nl rfl) (eE hm))
   refine build_struct rfl rfl ?_
   refine store_rule r1 rfl ⟨rfl, rfl, (nl rfl), ?_⟩
   exact ro (loadn_s r0 rfl (nl rfl) (eE hm))
   refine ro (loadn_s r2 rfl (nl rfl) ?_)
   refine cb hm fun bp aV hm => ck0 (Fn.lend Tryz.call132 (fun aR aQ aP => (Jd4 (n' := n') aV ⟨(LiC.mono Jb.R_ok aQ ae), aP, rfl⟩)) (by exact fun _ _ _ _ h => h)) ?_
   rintro _ _ _ ⟨_, rfl, rfl, rfl⟩
   refine eq_int (cs rfl rfl hm ?_ ?_) <;> intro bj hm
   refine draw_go ⟨⟨[], false⟩, _, [(_, _)], []⟩ (by kernel_rfl) ⟨Hp.Le.refl _, (sc [2] rfl), ci0⟩ ?_
   refine fa rfl (load1_l m0 rfl rfl (build_struct rfl rfl (cT (cT ?_))))
   refine store_rule r1 rfl ⟨rfl, rfl, (nl rfl), ?_⟩
   refine ⟨⟨lr, (sc [2] rfl), ci0⟩, ?_⟩
   exact ro (loadn_s r0 rfl (nl rfl) (eE hm))
   refine build_struct rfl rfl ?_
   refine store_rule r1 rfl ⟨rfl, rfl, (nl rfl), ?_⟩
   exact ro (loadn_s r0 rfl (nl rfl) (eE hm))

def Jdc (kind : Int) : Option (Int) :=
  if decide (kind = 4) then
  some 1
  else
  if decide (kind = 5) then
  some 1
  else
  if decide (kind = 7) then
  some 1
  else
  if decide (kind = 8) then
  some 2
  else
  if decide (kind = 9) then
  some 2
  else
  if decide (kind = 2) then
  some 3
  else
  some 0
theorem Jfp {kind : Int} {K : Hp} {r : Int}
    (hm : Jdc kind = some r)  :
    Fn Tryz.prog 92 [.int .i64 kind] K [] (fun v K' H' => v = .int .i64 r ∧ H' = []) := by
 refine Fn.enter Tryz.func92 Tryz.call92 rfl fun F => ?_
 unfold Jdc at hm
 refine block_go rfl ?_
 refine eq_int (cs rfl rfl hm ?_ ?_) <;> intro w4 hm
 refine cond_go rfl (ct w4 ?_)
 exact eE hm
 refine eq_int (cs rfl rfl hm ?_ ?_) <;> intro w4 hm
 refine cond_go rfl (ct w4 ?_)
 exact eE hm
 refine eq_int (cs rfl rfl hm ?_ ?_) <;> intro w4 hm
 exact eE hm
 refine eq_int (cs rfl rfl hm ?_ ?_) <;> intro w8 hm
 refine cond_go rfl (ct w8 ?_)
 exact eE hm
 refine eq_int (cs rfl rfl hm ?_ ?_) <;> intro w8 hm
 exact eE hm
 refine eq_int (cs rfl rfl hm ?_ ?_) <;> intro aM hm
 exact eE hm
 exact eE hm

def J6 (rec_ : ((List Jb) → (List JB) → Option (JG))) (ac : (List JB)) : List Jb → Nat → Option (Fl (JG) (Unit))
  | [], _ => some (Fl.go ())
  | e3 :: aN, i3 =>
    if decide (e3.Ab = 2) then
    (rec_ [e3] ac).bind fun aM =>
    if decide (aM.Code ≠ 0) then
    some (Fl.ret aM)
    else
    J6 rec_ ac aN (i3 + 1)
    else
    (rec_ e3.Aa ac).bind fun aM =>
    if decide (aM.Code ≠ 0) then
    some (Fl.ret aM)
    else
    J6 rec_ ac aN (i3 + 1)
def JW (n : Nat) (rec_ : ((List Jb) → (List JB) → Option (JG))) : List Jb → Nat → (List JB) → Option (Fl (JG) ((List JB)))
  | [], _, ac => some (Fl.go ac)
  | e0 :: aN, i0, ac =>
    if decide ((e0.Aa.length : Int) = 0) then
    JW n rec_ aN (i0 + 1) ac
    else
    (ix e0.Aa 0).bind fun aP =>
    (Jby n aP ac).bind fun aM =>
    if decide (aM.2.Code ≠ 0) then
    some (Fl.ret aM.2)
    else
    (Jdc e0.Ab).bind fun aO =>
    if (decide (aO ≠ 0) && decide (aO ≠ aM.1)) then
    some (Fl.ret (⟨e0.Ad, 9⟩ : JG))
    else
    if decide (e0.Ab = 3) then
    (JcA n e0.Ac ac).bind fun aQ =>
    if decide (aQ ≠ 0) then
    some (Fl.ret (⟨e0.Ad, 4⟩ : JG))
    else
    (chk (ac.length ≤ lim)).bind fun _ =>
    (chk (ac.length + [(⟨e0.Ac, aM.1⟩ : JB)].length ≤ lim)).bind fun _ =>
    JW n rec_ aN (i0 + 1) (ac ++ [(⟨e0.Ac, aM.1⟩ : JB)])
    else
    if decide (e0.Ab = 2) then
    (chk (0 ≤ (1 : Int) ∧ (1 : Int) ≤ (e0.Aa.length : Int) ∧ (e0.Aa.length : Int) ≤ (e0.Aa.length : Int))).bind fun _ =>
    (chk ((subL e0.Aa (1 : Int) (e0.Aa.length : Int)).length ≤ szMax)).bind fun _ =>
    (J6 rec_ ac (subL e0.Aa (1 : Int) (e0.Aa.length : Int)) 0).bind fun s3 => s3.el (fun r => some (Fl.ret r)) fun t3 =>
    JW n rec_ aN (i0 + 1) ac
    else
    JW n rec_ aN (i0 + 1) ac
def Jah : Nat → (List Jb) → (List JB) → Option (JG)
  | 0, _, _ => none
  | n + 1, list, env =>
    (chk (list.length ≤ szMax)).bind fun _ =>
    (JW n (Jah n) list 0 env).bind fun s0 => s0.el some fun t0 =>
    some (⟨0, 0⟩ : JG)
theorem Jer : ∀ {n : Nat} {list : (List Jb)} {env : (List JB)} {aa : Option Addr} {ab : Nat} {n0 : Nat} {ag : Option Addr} {ah : Nat} {n1 : Nat} {K : Hp} {r : JG}
    (hm : Jah n list env = some r) (hX : LiC Jb.R K aa ab 4 list ∧ n0 = list.length ∧ RdC JB.enc K ag ah 2 env ∧ n1 = env.length),
    Fn Tryz.prog 54 [.slice aa n0 ab, .slice ag n1 ah] K [] (fun v K' H' => v = .agg #[.int .i64 r.Ad, .int .i64 r.Code] ∧ H' = []) := by
 intro n
 induction n with
 | zero =>
   intro list env aa ab n0 ag ah n1 K r hm hX
   rw [Jah.eq_1] at hm; cases hm
 | succ n ih =>
   intro list env aa ab n0 ag ah n1 K r hm hX
   obtain ⟨ae, bO, af, bT⟩ := hX
   subst bO
   subst bT
   refine Fn.enter Tryz.func54 Tryz.call54 rfl fun F => ?_
   rw [Jah.eq_2] at hm
   refine alloc_rule rfl fun b4 => ?_
   refine ro (len_slice rfl ?_)
   obtain ⟨a8, hm⟩ := chkb hm
   obtain ⟨s0, aM, hm⟩ := bnd hm
   refine lC (σ := ((List JB)) × Option Addr × Nat) [1, 6, 7, 8, 9, 11, 12, 13, 16, 17, 18, 19, 20, 21, 22, 23, 24, 25, 26, 27, 28, 29, 30, 31, 32, 33, 34, 35, 36, 37, 38, 39, 40, 41, 42, 43, 44, 45, 46, 47, 48, 49, 50, 51, 52, 53, 54, 55, 56, 57, 58, 59, 60, 61, 62, 63, 64, 65, 66, 67, 68, 69, 70, 71, 72, 73, 74, 75, 76, 77, 78, 79, 80, 81, 82, 83, 84, 85, 86, 87, 88, 89, 90, 91, 92, 93, 94, 95, 96] [0, 1] (fun i0 => [(16, .int .i64 (i0 : Int))]) (fun (t0, aQ, aP) => [(1, .slice aQ t0.length aP)]) (fun _ => []) (fun zz K1 => match zz with | (t0, aQ, aP) => RdC JB.enc K1 aQ aP 2 t0 ∧ True) (fun i0 (t0, aQ, aP) => JW n (Jah n) (list.drop i0) i0 t0 = some s0) (fun (t0, aQ, aP) => s0 = Fl.go t0) (fun i0 => list.length - i0) 0 (_, _, _) aM (And.intro qe (And.intro ?_ ?_))
   clear aM
   rintro i0 ⟨ac, bE, bu⟩ cA bH ⟨aU, _⟩ aM j0
   conv at aM => whnf
   refine cond_go rfl ?_
   refine cond_s ?_ ?_ <;> intro w0
   obtain ⟨e0, aW, bM⟩ := ltx w0
   rw [bM, JW.eq_2] at aM
   refine block_go rfl ?_
   refine RStep.ofN (index_addr rfl rfl (hasR (LiC.mono Jb.R_ok bH ae).rd aW) (nn _) (lt_ofN aW) ?_)
   obtain ⟨bX, bS, bd, bo, ba⟩ := LiR.get (LiC.mono Jb.R_ok bH ae).rd aW
   obtain ⟨br, bG, rfl, aT⟩ := Jb.out ba
   refine ro (load_rd_agg i0 _ bd rfl bo rfl ?_)
   refine alloc_rule rfl fun b6 => ?_
   refine store_rule r0 rfl ⟨rfl, rfl, (nl rfl), ?_⟩
   refine fa rfl (ro (ld r0 rfl rfl (ro (len_slice rfl (eq_int ?_)))))
   refine cs rfl rfl aM ?_ ?_ <;> intro cP aM
   refine cT (int_in (cntz aW a8) ?_)
   exact eR aM (_, _, _, _)
   refine fa rfl (ro (ld r0 rfl rfl ?_))
   obtain ⟨cL, bC, bm, aM⟩ := ixb aM
   refine RStep.ofN (index_addr rfl rfl (hasR aT.rd bm) bC (lt_ofE rfl bC bm) ?_)
   obtain ⟨bV, ca, bf, bb, bg⟩ := LiR.get aT.rd bm
   obtain ⟨bw, bI, rfl, bt⟩ := Jb.out bg
   refine ro (load_rd_agg ((0 : Int).toNat) _ bf rfl bb rfl ?_)
   refine cb aM fun bj bQ aM => cgx (JfA bQ :) ?_
   refine alloc_rule rfl fun b8 => ?_
   refine store_rule r0 rfl ⟨rfl, rfl, (nl rfl), ?_⟩
   refine fa rfl (ro (ld r0 rfl rfl (neq_int ?_)))
   refine cs rfl rfl aM ?_ ?_ <;> intro cO aM
   refine ro (loadn_s r0 rfl (nl rfl) ?_)
   refine store_rule r2 rfl ⟨rfl, rfl, (nl rfl), ?_⟩
   exact ro (loadn_s r0 rfl (nl rfl) (eE (er aM hm)))
   refine fa rfl (ro (ld r1 rfl rfl ?_))
   refine cb aM fun bp bW aM => cg0 (Jfp bW :) ?_
   refine jR (σ := Unit) [40, 41, 42, 43, 44, 45, 46] (fun _ => [(46, .bool (decide (bp ≠ 0) && decide (bp ≠ bj.1)))]) (fun cd => True) ?_ ?_
   refine guard_go rfl ?_
   refine neq_int ?_
   refine cond_s ?_ ?_ <;> intro aN
   refine ct aN (ct aN (neq_int (ct aN ?_)))
   exact mt (()) ⟨(by rw [← (and_e (b := decide (bp ≠ bj.1)) aN)] <;> rfl), trivial⟩ rfl (pf rfl) lr trivial
   refine cf aN (cf aN (cf aN ?_))
   exact mt (()) ⟨(by rw [← ((and_f aN)).symm] <;> rfl), trivial⟩ rfl (pf rfl) lr trivial
   rintro _ _ ce
   refine cs rfl rfl aM ?_ ?_ <;> intro cR aM
   refine fa rfl (ro (ld r1 rfl rfl (build_struct rfl rfl (cT (cT ?_)))))
   refine store_rule r2 rfl ⟨rfl, rfl, (nl rfl), ?_⟩
   exact ro (loadn_s r0 rfl (nl rfl) (eE (er aM hm)))
   refine fa rfl (ro (ld r1 rfl rfl ?_))
   refine block_go rfl ?_
   refine eq_int (cs rfl rfl aM ?_ ?_) <;> intro cI aM
   refine fa rfl (ro (ld r1 rfl rfl ?_))
   refine cb aM fun cJ bN aM => cgx (Jd3 bN :) ?_
   refine neq_int (cs rfl rfl aM ?_ ?_) <;> intro cC aM
   refine fa rfl (ro (ld r1 rfl rfl (build_struct rfl rfl (cT (cT ?_)))))
   refine store_rule r2 rfl ⟨rfl, rfl, (nl rfl), ?_⟩
   exact ro (loadn_s r0 rfl (nl rfl) (eE (er aM hm)))
   refine draw_go_F ⟨⟨[], false⟩, _, [(_, _)], []⟩ 10 rfl (by kernel_rfl) ⟨Hp.Le.refl _, (sc [1] rfl), ci0⟩ ?_
   refine bsA (len := 0) (cl := []) elT181 rfl rfl ?_ fun cD => ?_
   · conv => whnf
     first | done | rfl
   intro cq
   obtain ⟨bZ, aM⟩ := chkb aM
   refine ape (enc := JB.enc) r0 elT181 (src_k rfl aU.rd rfl) bZ ?_
   intro cw cr cH
   refine ⟨⟨lr, (sc [2] rfl), ci0⟩, ?_⟩
   refine ⟨_, .cons r5 .nil, ⟨lr, (sc [2] rfl), ci0⟩, ?_⟩
   refine fa rfl (load1_l m0 rfl rfl (build_struct rfl rfl (cT (cT ?_))))
   refine bsA (len := 1) (cl := [str e0.Ac, .int .i64 bj.1]) elT181 rfl rfl ?_ fun cn => ?_
   · conv => whnf
     refine cT ?_
     first | done | rfl
   intro cG
   obtain ⟨bP, aM⟩ := chkb aM
   refine apE rfl r1 elT181 (src_lit rfl r0 rfl rfl (fun _ _ => rfl) rfl) bP ?_
   intro co cz cS
   refine ⟨⟨lr, (sc [3] rfl), ci0⟩, ?_⟩
   refine ⟨_, .cons r6 .nil, ⟨lr, (sc [3] rfl), ci0⟩, ?_⟩
   refine int_in (cntz aW a8) ?_
   refine fRo r0 fun bA bK bD => ?_
   exact eR aM (_, _, _, _)
   refine eq_int (cs rfl rfl aM ?_ ?_) <;> intro cB aM
   refine fa rfl (ro (ld r1 rfl rfl ?_))
   obtain ⟨bJ, aM⟩ := chkb aM
   have aX := aT.subC bJ
   refine RStep.ofN (sl_slN (l := e0.Aa) (lo := (some 1)) (hi := none) (lo' := (1 : Int)) (hi' := (e0.Aa.length : Int)) rfl rfl rfl rfl rfl aT.le bJ (ro (len_slice rfl ?_)))
   obtain ⟨bF, aM⟩ := chkb aM
   obtain ⟨s3, aO, aM⟩ := bnd aM
   refine lD (σ := (Unit)) [11, 12, 13, 77, 78, 79, 80, 81, 82, 83, 84, 85, 86, 87, 88, 89, 90, 91, 92, 93, 94, 95] [0, 1, 2, 3] (fun i3 => [(77, .int .i64 (i3 : Int))]) (fun _ => []) (fun _ => []) (fun _ => True) (fun i3 _ => J6 (Jah n) ac ((subL e0.Aa (1 : Int) (e0.Aa.length : Int)).drop i3) i3 = some s3) (fun t3 => s3 = Fl.go t3) (fun i3 => (subL e0.Aa (1 : Int) (e0.Aa.length : Int)).length - i3) 0 () aO (And.intro qe (And.intro ?_ ?_))
   clear aO
   rintro i3 _ _ aO j3
   conv at aO => whnf
   refine cond_go rfl ?_
   refine cond_s ?_ ?_ <;> intro w3
   obtain ⟨e3, aZ, bL⟩ := ltx w3
   rw [bL, J6.eq_2] at aO
   refine block_go rfl ?_
   refine RStep.ofN (index_addr rfl rfl (hasR aX.rd aZ) (nn _) (lt_ofN aZ) ?_)
   obtain ⟨bU, cj, bc, bn, bq⟩ := LiR.get aX.rd aZ
   obtain ⟨aS, aR, rfl, aV⟩ := Jb.out bq
   refine ro (load_rd_agg i3 _ bc rfl bn rfl ?_)
   refine alloc_rule rfl fun cK => ?_
   refine store_rule r0 rfl ⟨rfl, rfl, (nl rfl), ?_⟩
   refine fa rfl (ro (ld r0 rfl rfl (fa rfl (ro (ld r0 rfl rfl (eq_int ?_))))))
   refine cs rfl rfl aO ?_ ?_ <;> intro cp aO
   refine ro (loadn_s r0 rfl (nl rfl) ?_)
   refine bsOR (R := Jb.R) (len := 1) (l := [e3]) (css := [[.int .i64 e3.Ab, str e3.Ac, .slice aS e3.Aa.length aR, .int .i64 e3.Ad]]) (cl := [.int .i64 e3.Ab, str e3.Ac, .slice aS e3.Aa.length aR, .int .i64 e3.Ad]) Jb.R_ok elT61 rfl rfl (LR.snoc LR.nil (Jb.of (x := e3) ⟨aS, aR, rfl, aV⟩)) rfl rfl rfl ?_ fun cE => ?_
   · conv => whnf
     refine cT ?_
     first | done | rfl
   refine cb aO fun bR bh aO => ck0 (Fn.lendR Jb.R_ok (show LR Jb.R _ [[.int .i64 e3.Ab, str e3.Ac, .slice aS e3.Aa.length aR, .int .i64 e3.Ad]] [e3] from (LR.snoc LR.nil (Jb.of (x := e3) ⟨aS, aR, rfl, aV⟩))) Tryz.call54 (fun bz aY a6 => (ih bh ⟨a6, rfl, (aU.mono aY), rfl⟩)) (by exact fun _ _ _ _ h => h)) ?_
   rintro _ _ _ ⟨_, rfl, rfl, rfl⟩
   refine alloc_rule rfl fun bY => ?_
   refine store_rule r0 rfl ⟨rfl, rfl, (nl rfl), ?_⟩
   refine fa rfl (ro (ld r0 rfl rfl (neq_int ?_)))
   refine cs rfl rfl aO ?_ ?_ <;> intro cm aO
   refine ro (loadn_s r0 rfl (nl rfl) ?_)
   refine store_rule r5 rfl ⟨rfl, rfl, (nl rfl), ?_⟩
   exact ro (loadn_s r0 rfl (nl rfl) (eE (er (er aO aM :) hm)))
   refine int_in (cntz aZ bF) ?_
   exact eR aO (_, ())
   refine cb aO fun bR bh aO => cgx (ih bh :) ?_
   refine alloc_rule rfl fun bY => ?_
   refine store_rule r0 rfl ⟨rfl, rfl, (nl rfl), ?_⟩
   refine fa rfl (ro (ld r0 rfl rfl (neq_int ?_)))
   refine cs rfl rfl aO ?_ ?_ <;> intro cm aO
   refine ro (loadn_s r0 rfl (nl rfl) ?_)
   refine store_rule r4 rfl ⟨rfl, rfl, (nl rfl), ?_⟩
   exact ro (loadn_s r0 rfl (nl rfl) (eE (er (er aO aM :) hm)))
   refine int_in (cntz aZ bF) ?_
   exact eR aO (_, ())
   rw [lty w3, J6.eq_1] at aO
   refine cT ?_
   exact eM aO _
   rintro t3 _ rfl j3
   replace aM := elg aM
   refine int_in (cntz aW a8) ?_
   exact eR aM (_, _, _, _)
   refine int_in (cntz aW a8) ?_
   exact eR aM (_, _, _, _)
   rw [lty w0, JW.eq_1] at aM
   refine cT ?_
   exact eM aM (_, _, _)
   rintro ⟨t0, aQ, aP⟩ cM cQ ⟨bB, _⟩ rfl j0
   replace hm := elg hm
   refine build_struct rfl rfl ?_
   refine store_rule r0 rfl ⟨rfl, rfl, (nl rfl), ?_⟩
   exact ro (loadn_s r0 rfl (nl rfl) (eE hm))

def JbP (n : Nat) (program : Jb) : Option (JG) :=
  (JcR n program).bind fun x4 =>
  if (!x4) then
  some (⟨0, 2⟩ : JG)
  else
  (Jah n program.Aa []).bind fun x9 =>
  some x9
theorem Jfq {n : Nat} {program : Jb} {aa : Option Addr} {ab : Nat} {K : Hp} {r : JG}
    (hm : JbP n program = some r) (ae : LiC Jb.R K aa ab 4 program.Aa) :
    Fn Tryz.prog 24 [.agg #[.int .i64 program.Ab, str program.Ac, .slice aa program.Aa.length ab, .int .i64 program.Ad]] K [] (fun v K' H' => v = .agg #[.int .i64 r.Ad, .int .i64 r.Code] ∧ H' = []) := by
 refine Fn.enter Tryz.func24 Tryz.call24 rfl fun F => ?_
 unfold JbP at hm
 refine box_rule ?_
 intro b1
 refine alloc_rule rfl fun b2 => ?_
 refine ro (loadn_s r1 rfl (nl rfl) ?_)
 refine cb hm fun x4 q4 hm => cgx (Jfo q4 :) ?_
 refine un_not ?_
 refine cs rfl rfl hm ?_ ?_ <;> intro w5 hm
 refine build_struct rfl rfl (cT (cT ?_))
 refine store_rule r0 rfl ⟨rfl, rfl, (nl rfl), ?_⟩
 exact ro (loadn_s r0 rfl (nl rfl) (eE hm))
 refine fa rfl (ro (ld r1 rfl rfl ?_))
 refine cb hm fun x9 q9 hm => cgx (Jer q9 :) ?_
 refine store_rule r0 rfl ⟨rfl, rfl, (nl rfl), ?_⟩
 exact ro (loadn_s r0 rfl (nl rfl) (eE hm))

def JbW : List Jd → Nat → (List Jj) → Option ((List Jj))
  | [], _, ac => some ac
  | e0 :: aM, i0, ac =>
    (chk (ac.length + [(⟨e0.Name, e0.Value⟩ : Jj)].length ≤ lim)).bind fun _ =>
    JbW aM (i0 + 1) (ac ++ [(⟨e0.Name, e0.Value⟩ : Jj)])
def Jev (l : (List Jd)) : Option ((List Jj)) :=
  (chk (l.length ≤ szMax)).bind fun _ =>
  (JbW l 0 []).bind fun t0 =>
  some t0
theorem JfG {l : (List Jd)} {aa : Option Addr} {ab : Nat} {n0 : Nat} {K : Hp} {r : (List Jj)}
    (hm : Jev l = some r) (hX : RdC Jd.enc K aa ab 2 l ∧ n0 = l.length) :
    Fn Tryz.prog 56 [.slice aa n0 ab] K [] (fun v K' H' => ∃ ar_0 : Option Addr, ∃ cr_0 : Nat, v = .slice ar_0 r.length cr_0 ∧ (0 < r.length → Has ar_0) ∧ H' = [OwnL Jj.enc ar_0 90 2 cr_0 r]) := by
 obtain ⟨ae, aX⟩ := hX
 subst aX
 refine Fn.enter Tryz.func56 Tryz.call56 rfl fun F => ?_
 unfold Jev at hm
 refine ro (len_slice rfl ?_)
 obtain ⟨aW, hm⟩ := chkb hm
 obtain ⟨s0, aO, hm⟩ := bnd hm
 refine nilC Jj.enc 90 2 ?_
 refine lD (σ := ((List Jj)) × Option Addr × Nat) [3, 5, 8, 9, 10, 11, 12, 13, 14, 15, 16, 17, 18, 19, 20] [1] (fun i0 => [(8, .int .i64 (i0 : Int))]) (fun (t0, aM, aN) => [(3, .slice aM t0.length aN)]) (fun (t0, aM, aN) => [OwnL Jj.enc aM 90 2 aN t0]) (fun (t0, aM, aN) => (0 < t0.length → Has aM) ∧ True) (fun i0 (t0, aM, aN) => JbW (l.drop i0) i0 t0 = some s0) (fun (t0, aM, aN) => t0 = s0) (fun i0 => l.length - i0) 0 (_, _, _) aO (And.intro qe (And.intro ?_ ?_))
 clear aO
 rintro i0 ⟨ac, aR, aT⟩ ⟨aQ, _⟩ aO j0
 conv at aO => whnf
 refine cond_go rfl ?_
 refine cond_s ?_ ?_ <;> intro w0
 obtain ⟨e0, aP, aV⟩ := ltx w0
 rw [aV, JbW.eq_2] at aO
 refine block_go rfl ?_
 refine RStep.ofN (index_addr rfl rfl (hasK ae.rd aP) (nn _) (lt_ofN aP) (ro (load_rd_agg i0 _ ae.rd rfl (mp aP) rfl ?_)))
 refine alloc_rule rfl fun b5 => ?_
 refine store_rule r0 rfl ⟨rfl, rfl, (nl rfl), ?_⟩
 refine fa rfl (ro (ld r0 rfl rfl (fa rfl (ro (ld r0 rfl rfl (build_struct rfl rfl (cT (cT ?_))))))))
 refine bsO (len := 1) (enc := Jj.enc) (l := [(⟨e0.Name, e0.Value⟩ : Jj)]) (cl := [str e0.Name, str e0.Value]) elT23 rfl rfl (fun _ _ => rfl) rfl rfl rfl ?_ fun a6 => ?_
 · conv => whnf
   refine cT ?_
   first | done | rfl
 obtain ⟨aU, aO⟩ := chkb aO
 refine apE rfl r2 elT23 (src_own' rfl r0 rfl (fun _ => rfl) (fun _ => rfl)) aU ?_
 intro a8 aY aZ
 refine int_in (cntz aP aW) ?_
 exact eR aO (_, _, _, _)
 rw [lty w0, JbW.eq_1] at aO
 refine cT ?_
 exact eM aO (_, _, _)
 rintro ⟨t0, aM, aN⟩ ⟨aS, _⟩ rfl j0
 exact eE hm

def Jdd (r' : Jf) : Option (Jl) :=
  (Jev r'.Ag).bind fun x9 =>
  some (⟨r'.Ae, r'.Af, x9, r'.Vary, r'.Ah, r'.TTL, r'.Ai, r'.Aj, r'.Ak, r'.Al⟩ : Jl)
theorem JfH {r' : Jf} {aa : Option Addr} {ab : Nat} {aj : Option Addr} {am : Nat} {ak : Option Addr} {an : Nat} {K : Hp} {r : Jl}
    (hm : Jdd r' = some r) (hX : RdC Jd.enc K aa ab 2 r'.Ag ∧ RdC eS K aj am 1 r'.Vary ∧ RdC eS K ak an 1 r'.Ah) :
    Fn Tryz.prog 26 [.agg #[str r'.Ae, str r'.Af, .slice aa r'.Ag.length ab, .slice aj r'.Vary.length am, .slice ak r'.Ah.length an, .int .i64 r'.TTL, .int .i64 r'.Ai, .int .i64 r'.Aj, .bool r'.Ak, .bool r'.Al]] K [] (fun v K' H' => ∃ ar_0 : Option Addr, ∃ cr_0 : Nat, ∃ ar_1 : Option Addr, ∃ cr_1 : Nat, ∃ ar_2 : Option Addr, ∃ cr_2 : Nat, v = .agg #[str r.Ae, str r.Af, .slice ar_0 r.Ag.length cr_0, .slice ar_1 r.Vary.length cr_1, .slice ar_2 r.Ah.length cr_2, .int .i64 r.TTL, .int .i64 r.Ai, .int .i64 r.Aj, .bool r.Ak, .bool r.Al] ∧ RdC Jj.enc K' ar_0 cr_0 2 r.Ag ∧ RdC eS K' ar_1 cr_1 1 r.Vary ∧ RdC eS K' ar_2 cr_2 1 r.Ah ∧ H' = []) := by
 obtain ⟨ae, aM, aN⟩ := hX
 refine Fn.enter Tryz.func26 Tryz.call26 rfl fun F => ?_
 unfold Jdd at hm
 refine box_rule ?_
 intro b1
 refine alloc_rule rfl fun b2 => ?_
 refine draw_go ⟨⟨[], false⟩, _, [(_, _)], []⟩ (by kernel_rfl) ⟨Hp.Le.refl _, (sc [1] rfl), ci0⟩ ?_
 refine fa rfl (load1_l m0 rfl rfl (fa rfl (load1_l m0 rfl rfl (fa rfl (load1_l m0 rfl rfl ?_)))))
 refine cb hm fun x9 q9 hm => ckx (JfG q9 :) ?_
 rintro _ _ _ ⟨aP, aO, rfl, aQ, rfl⟩
 refine ⟨⟨lr, (sc [2] rfl), ci0⟩, ?_⟩
 refine fa rfl (load1_l m0 rfl rfl (fa rfl (load1_l m0 rfl rfl (fa rfl (load1_l m0 rfl rfl (fa rfl (load1_l m0 rfl rfl ?_)))))))
 refine fa rfl (load1_l m0 rfl rfl (fa rfl (load1_l m0 rfl rfl (fa rfl (load1_l m0 rfl rfl (build_struct rfl rfl (cT ?_)))))))
 refine cT (cT (cT (cT (cT (cT (cT (cT ?_)))))))
 refine cT ?_
 refine store_rule r1 rfl ⟨rfl, rfl, (nl rfl), ?_⟩
 refine ⟨⟨lr, (sc [2] rfl), ci0⟩, ?_⟩
 refine ro (loadn_s r0 rfl (nl rfl) ?_)
 refine fE r1 fun aR aS aT => ?_
 exact eE hm

def Jcg (b : (List Jj)) : List Jd → Nat → Option (Fl (Bool) (Unit))
  | [], _ => some (Fl.go ())
  | e0 :: aP, i0 =>
    (ix b (i0 : Int)).bind fun aM =>
    (if decide (e0.Name ≠ aM.Name) then some true else (ix b (i0 : Int)).bind fun aN =>
    some (decide (e0.Value ≠ aN.Value))).bind fun aO =>
    if aO then
    some (Fl.ret false)
    else
    Jcg b aP (i0 + 1)
def Jd5 (a : (List Jd)) (b : (List Jj)) : Option (Bool) :=
  if decide ((a.length : Int) ≠ (b.length : Int)) then
  some false
  else
  (chk (a.length ≤ szMax)).bind fun _ =>
  (Jcg b a 0).bind fun s0 => s0.el some fun t0 =>
  some true
theorem JfI {a : (List Jd)} {b : (List Jj)} {aa : Option Addr} {ab : Nat} {n0 : Nat} {ag : Option Addr} {ah : Nat} {n1 : Nat} {K : Hp} {r : Bool}
    (hm : Jd5 a b = some r) (hX : RdC Jd.enc K aa ab 2 a ∧ n0 = a.length ∧ RdC Jj.enc K ag ah 2 b ∧ n1 = b.length) :
    Fn Tryz.prog 27 [.slice aa n0 ab, .slice ag n1 ah] K [] (fun v K' H' => v = .bool r ∧ H' = []) := by
 obtain ⟨ae, aX, af, aY⟩ := hX
 subst aX
 subst aY
 refine Fn.enter Tryz.func27 Tryz.call27 rfl fun F => ?_
 unfold Jd5 at hm
 refine ro (len_slice rfl (ro (len_slice rfl (neq_int ?_))))
 refine cs rfl rfl hm ?_ ?_ <;> intro a6 hm
 exact eE hm
 refine ro (len_slice rfl ?_)
 obtain ⟨aW, hm⟩ := chkb hm
 obtain ⟨s0, aN, hm⟩ := bnd hm
 refine lD (σ := (Unit)) [4, 5, 13, 14, 15, 16, 17, 18, 19, 20, 21, 22, 23, 24, 25, 26, 27, 28, 29, 30, 31, 32, 33, 34, 35, 36, 37, 38, 39, 40] [0] (fun i0 => [(13, .int .i64 (i0 : Int))]) (fun _ => []) (fun _ => []) (fun _ => True) (fun i0 _ => Jcg b (a.drop i0) i0 = some s0) (fun t0 => s0 = Fl.go t0) (fun i0 => a.length - i0) 0 () aN (And.intro qe (And.intro ?_ ?_))
 clear aN
 rintro i0 _ _ aN j0
 conv at aN => whnf
 refine cond_go rfl ?_
 refine cond_s ?_ ?_ <;> intro w0
 obtain ⟨e0, aO, aV⟩ := ltx w0
 rw [aV, Jcg.eq_2] at aN
 refine block_go rfl ?_
 refine draw_go ⟨⟨[], false⟩, _, [], []⟩ (by kernel_rfl) ⟨Hp.Le.refl _, (pf rfl), ci0⟩ ?_
 refine index_addr rfl rfl (hasK ae.rd aO) (nn _) (lt_ofN aO) (eptr_field rfl (hasK ae.rd aO) (load_rd_l i0 0 _ _ ae.rd rfl (mp aO) rfl rfl ?_))
 obtain ⟨aZ, aT, aQ, aN⟩ := ixb aN
 refine index_addr rfl rfl (hasK af.rd aQ) aT (lt_ofE rfl aT aQ) (eptr_field rfl (hasK af.rd aQ) (load_rd_l (((i0 : Int)).toNat) 0 _ _ af.rd rfl (mp aQ) rfl rfl (neq_str ?_)))
 obtain ⟨ba, aP, aN⟩ := bnd aN
 refine cond_s ?_ ?_ <;> intro aM
 replace aP := ift aM aP
 refine ct aM (ct aM (ct aM (ct aM (ct aM (ct aM (ct aM (ct aM ?_)))))))
 refine ct aM (ct aM (ct aM (cond_go rfl (cT ?_))))
 replace aN := ift (si aP).symm aN
 exact eE (er aN hm)
 replace aP := iff_ aM aP
 refine cf aM (cf aM (index_addr rfl rfl (hasK ae.rd aO) (nn _) (lt_ofN aO) (cf aM (eptr_field rfl (hasK ae.rd aO) (cf aM (load_rd_l i0 1 _ _ ae.rd rfl (mp aO) rfl rfl (cf aM ?_)))))))
 refine cf aM (cf aM ?_)
 obtain ⟨a8, aU, aR, aP⟩ := ixb aP
 refine index_addr rfl rfl (hasK af.rd aR) aU (lt_ofE rfl aU aR) (cf aM (eptr_field rfl (hasK af.rd aR) (cf aM (load_rd_l (((i0 : Int)).toNat) 1 _ _ af.rd rfl (mp aR) rfl rfl (cf aM (neq_str (cf aM ?_)))))))
 refine cond_go rfl ?_
 refine cond_s ?_ ?_ <;> intro aS
 replace aN := ift ((si aP).symm.trans aS) aN
 exact eE (er aN hm)
 replace aN := iff_ ((si aP).symm.trans aS) aN
 refine int_in (cntz aO aW) ?_
 exact eR aN (_, ())
 rw [lty w0, Jcg.eq_1] at aN
 refine cT ?_
 exact eM aN _
 rintro t0 _ rfl j0
 replace hm := elg hm
 exact eE hm

def Jb1 (b : (List Str)) : List Str → Nat → Option (Fl (Bool) (Unit))
  | [], _ => some (Fl.go ())
  | e0 :: aN, i0 =>
    (ix b (i0 : Int)).bind fun aM =>
    if decide (e0 ≠ aM) then
    some (Fl.ret false)
    else
    Jb1 b aN (i0 + 1)
def Jc5 (a : (List Str)) (b : (List Str)) : Option (Bool) :=
  if decide ((a.length : Int) ≠ (b.length : Int)) then
  some false
  else
  (chk (a.length ≤ szMax)).bind fun _ =>
  (Jb1 b a 0).bind fun s0 => s0.el some fun t0 =>
  some true
theorem Jew {a : (List Str)} {b : (List Str)} {aa : Option Addr} {ab : Nat} {n0 : Nat} {ag : Option Addr} {ah : Nat} {n1 : Nat} {K : Hp} {r : Bool}
    (hm : Jc5 a b = some r) (hX : RdC eS K aa ab 1 a ∧ n0 = a.length ∧ RdC eS K ag ah 1 b ∧ n1 = b.length) :
    Fn Tryz.prog 38 [.slice aa n0 ab, .slice ag n1 ah] K [] (fun v K' H' => v = .bool r ∧ H' = []) := by
 obtain ⟨ae, aS, af, aT⟩ := hX
 subst aS
 subst aT
 refine Fn.enter Tryz.func38 Tryz.call38 rfl fun F => ?_
 unfold Jc5 at hm
 refine ro (len_slice rfl (ro (len_slice rfl (neq_int ?_))))
 refine cs rfl rfl hm ?_ ?_ <;> intro aU hm
 exact eE hm
 refine ro (len_slice rfl ?_)
 obtain ⟨aR, hm⟩ := chkb hm
 obtain ⟨s0, aM, hm⟩ := bnd hm
 refine lD (σ := (Unit)) [4, 5, 13, 14, 15, 16, 17, 18, 19, 20, 21, 22, 23, 24, 25] [0] (fun i0 => [(13, .int .i64 (i0 : Int))]) (fun _ => []) (fun _ => []) (fun _ => True) (fun i0 _ => Jb1 b (a.drop i0) i0 = some s0) (fun t0 => s0 = Fl.go t0) (fun i0 => a.length - i0) 0 () aM (And.intro qe (And.intro ?_ ?_))
 clear aM
 rintro i0 _ _ aM j0
 conv at aM => whnf
 refine cond_go rfl ?_
 refine cond_s ?_ ?_ <;> intro w0
 obtain ⟨e0, aN, aQ⟩ := ltx w0
 rw [aQ, Jb1.eq_2] at aM
 refine block_go rfl ?_
 refine draw_go ⟨⟨[], false⟩, _, [], []⟩ (by kernel_rfl) ⟨Hp.Le.refl _, (pf rfl), ci0⟩ ?_
 refine index_addr rfl rfl (hasK ae.rd aN) (nn _) (lt_ofN aN) (load_rd_l i0 0 _ _ ae.rd rfl (mp aN) rfl rfl ?_)
 obtain ⟨aV, aP, aO, aM⟩ := ixb aM
 refine index_addr rfl rfl (hasK af.rd aO) aP (lt_ofE rfl aP aO) (load_rd_l (((i0 : Int)).toNat) 0 _ _ af.rd rfl (mp aO) rfl rfl (neq_str ?_))
 refine cs rfl rfl aM ?_ ?_ <;> intro aW aM
 exact eE (er aM hm)
 refine int_in (cntz aN aR) ?_
 exact eR aM (_, ())
 rw [lty w0, Jb1.eq_1] at aM
 refine cT ?_
 exact eM aM _
 rintro t0 _ rfl j0
 replace hm := elg hm
 exact eE hm
