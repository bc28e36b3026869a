/- Mirrors that the plain texts speak of and this law does not reach. -/
import Derived.Test.YtmpdebfckeahmaaGreatDoorG6
set_option linter.unusedVariables false
set_option linter.unusedSimpArgs false
open Go Go.SL Go.Proofs
noncomputable section
set_option maxRecDepth 1000000
set_option maxHeartbeats 8000000
structure Js where
  As : Int
  N : Int
  S : Str
  Is : Bool
structure Jz where
  stack : (List Js)
  Ap : (List Js)
  atZ : Int
  r : Jl
  done : Bool
  code : Int
structure Jd6 where
  An : Str
  Ae : Str
  Af : Str
  HasQuery : Bool
structure JaC where
  Name : Str
  Value : Js
def base_Clip (n' : Int) (low : Int) (high : Int) : Option (Int) :=
  some (max low (min n' high))
def Jcs (n' : Int) : Option (Js) :=
  (base_Clip n' (-1099511627776) 1099511627776).bind fun x4 =>
  some (⟨2, x4, ([] : Str), false⟩ : Js)
def Ja6 (s : Str) : Option (Js) :=
  some (⟨1, 0, s, false⟩ : Js)
def JdK (name : Str) (Ar : Jw) : Option (Js) :=
  if decide (name = ([109, 101, 116, 104, 111, 100] : Str)) then
  (Ja6 Ar.Am).bind fun aN =>
  some aN
  else
  if decide (name = ([104, 111, 115, 116] : Str)) then
  (Ja6 Ar.An).bind fun aP =>
  some aP
  else
  if decide (name = ([112, 97, 116, 104] : Str)) then
  (Ja6 Ar.Ae).bind fun aO =>
  some aO
  else
  (Ja6 Ar.Af).bind fun aM =>
  some aM
def JcB (byZ : UInt8) (s : Str) : List UInt8 → Nat → (List Str) → Int → Option ((List Str) × Int)
  | [], _, ac, aM => some (ac, aM)
  | e0 :: aN, i0, ac, aM =>
    if decide ((e0.toNat : Int) = (byZ.toNat : Int)) then
    (chk (0 ≤ aM ∧ aM ≤ (i0 : Int) ∧ (i0 : Int) ≤ (s.length : Int))).bind fun _ =>
    (chk (ac.length + [(subL s aM (i0 : Int))].length ≤ lim)).bind fun _ =>
    JcB byZ s aN (i0 + 1) (ac ++ [(subL s aM (i0 : Int))]) ((i0 : Int) + 1)
    else
    JcB byZ s aN (i0 + 1) ac aM
def Jez (s : Str) (byZ : UInt8) : Option ((List Str)) :=
  (chk (s.length ≤ szMax)).bind fun _ =>
  (JcB byZ s s 0 [] 0).bind fun t0 =>
  (chk (0 ≤ t0.2 ∧ t0.2 ≤ (s.length : Int) ∧ (s.length : Int) ≤ (s.length : Int))).bind fun _ =>
  (chk (t0.1.length + [(subL s t0.2 (s.length : Int))].length ≤ lim)).bind fun _ =>
  some (t0.1 ++ [(subL s t0.2 (s.length : Int))])
def Jdu (path : Str) : Option ((List Str)) :=
  (Jez path (47 : UInt8)).bind fun x5 =>
  (chk (0 ≤ (1 : Int) ∧ (1 : Int) ≤ (x5.length : Int) ∧ (x5.length : Int) ≤ (x5.length : Int))).bind fun _ =>
  some (subL x5 (1 : Int) (x5.length : Int))
def JbH : Nat → Int → Option (Str)
  | 0, _ => none
  | n + 1, n' =>
    if decide (n' < 0) then
    (chk (InI (-n'))).bind fun _ =>
    ((JbH n) (-n')).bind fun x8 =>
    (chk (([45] : Str).length + x8.length ≤ lim)).bind fun _ =>
    some (([45] : Str) ++ x8)
    else
    (chk (InI (48 + (Int.tmod n' 10)))).bind fun _ =>
    if decide (n' < 10) then
    some ([(u8of (48 + (Int.tmod n' 10)))] : Str)
    else
    (chk ((10 : Int) ≠ 0 ∧ InI (Int.tdiv n' 10))).bind fun _ =>
    ((JbH n) (Int.tdiv n' 10)).bind fun aM =>
    (chk (aM.length + ([(u8of (48 + (Int.tmod n' 10)))] : Str).length ≤ lim)).bind fun _ =>
    some (aM ++ ([(u8of (48 + (Int.tmod n' 10)))] : Str))
def Jb5 : List UInt8 → Nat → Str → Option (Str)
  | [], _, ac => some ac
  | e0 :: aM, i0, ac =>
    if (decide ((e0.toNat : Int) ≥ 65) && decide ((e0.toNat : Int) ≤ 90)) then
    (chk (ac.length + ([(e0 + (32 : UInt8))] : Str).length ≤ lim)).bind fun _ =>
    Jb5 aM (i0 + 1) (ac ++ ([(e0 + (32 : UInt8))] : Str))
    else
    (chk (ac.length + ([e0] : Str).length ≤ lim)).bind fun _ =>
    Jb5 aM (i0 + 1) (ac ++ ([e0] : Str))
def Jcx (s : Str) : Option (Str) :=
  (chk (s.length ≤ szMax)).bind fun _ =>
  (Jb5 s 0 ([] : Str)).bind fun t0 =>
  some t0
def Je2 (f : Jj) (name : Str) : Option (Bool) :=
  (Jcx f.Name).bind fun x7 =>
  (Jcx name).bind fun x9 =>
  some (decide (x7 = x9))
def JcC (name : Str) : List Jj → Nat → (List Str) → Option ((List Str))
  | [], _, ac => some ac
  | e0 :: aM, i0, ac =>
    (Je2 e0 name).bind fun aN =>
    if aN then
    (chk (ac.length + [e0.Value].length ≤ lim)).bind fun _ =>
    JcC name aM (i0 + 1) (ac ++ [e0.Value])
    else
    JcC name aM (i0 + 1) ac
def Jfc (f : (List Jj)) (name : Str) : Option ((List Str)) :=
  (chk (f.length ≤ szMax)).bind fun _ =>
  (JcC name f 0 []).bind fun t0 =>
  some t0
def Jch : List Str → Nat → Str → Option (Str)
  | [], _, ac => some ac
  | e0 :: aM, i0, ac =>
    if decide ((i0 : Int) > 0) then
    (chk (ac.length + ([44, 32] : Str).length ≤ lim)).bind fun _ =>
    (chk ((ac ++ ([44, 32] : Str)).length + e0.length ≤ lim)).bind fun _ =>
    Jch aM (i0 + 1) ((ac ++ ([44, 32] : Str)) ++ e0)
    else
    (chk (ac.length + e0.length ≤ lim)).bind fun _ =>
    Jch aM (i0 + 1) (ac ++ e0)
def JeA (f : (List Jj)) (name : Str) : Option (Str × Bool) :=
  (Jfc f name).bind fun aM =>
  (chk (aM.length ≤ szMax)).bind fun _ =>
  (Jch aM 0 ([] : Str)).bind fun t0 =>
  some (t0, decide ((aM.length : Int) > 0))
def Jbs (At : Bool) : Option (Js) :=
  some (⟨3, 0, ([] : Str), At⟩ : Js)
def Jdn (name : Str) : List Str → Nat → Option (Fl (Str × Bool) (Unit))
  | [], _ => some (Fl.go ())
  | e0 :: aP, i0 =>
    (((if decide ((e0.length : Int) > (name.length : Int)) then (chk (0 ≤ (0 : Int) ∧ (0 : Int) ≤ (name.length : Int) ∧ (name.length : Int) ≤ (e0.length : Int))).bind fun _ =>
    some (decide ((subL e0 (0 : Int) (name.length : Int)) = name)) else some false).bind fun aQ =>
    (if aQ then (ix e0 (name.length : Int)).bind fun aN =>
    some (decide ((aN.toNat : Int) = 61)) else some false).bind fun aO =>
    some aO) : Option (Bool)).bind fun aM =>
    if aM then
    (chk (InI ((name.length : Int) + 1))).bind fun _ =>
    (chk (0 ≤ ((name.length : Int) + 1) ∧ ((name.length : Int) + 1) ≤ (e0.length : Int) ∧ (e0.length : Int) ≤ (e0.length : Int))).bind fun _ =>
    some (Fl.ret ((subL e0 ((name.length : Int) + 1) (e0.length : Int)), true))
    else
    Jdn name aP (i0 + 1)
def Jfd (a : Jd6) (name : Str) : Option (Str × Bool) :=
  if (!a.HasQuery) then
  some (([] : Str), false)
  else
  (Jez a.Af (38 : UInt8)).bind fun aM =>
  (chk (aM.length ≤ szMax)).bind fun _ =>
  (Jdn name aM 0).bind fun s0 => s0.el some fun t0 =>
  some (([] : Str), false)
def JcN (s : Str) : Nat → Int → Int → Option (Fl (Int) (Int × Int))
  | 0, _, _ => none
  | aP + 1, ac, aM =>
    if decide (aM < (s.length : Int)) then
    (((ix s aM).bind fun aR =>
    (if decide ((aR.toNat : Int) < 48) then some true else (ix s aM).bind fun aS =>
    some (decide ((aS.toNat : Int) > 57))).bind fun aQ =>
    some (aQ || decide (aM = 15))) : Option (Bool)).bind fun aN =>
    if aN then
    some (Fl.ret 0)
    else
    (chk (InI (10 * ac))).bind fun _ =>
    (ix s aM).bind fun aO =>
    (chk (InI ((10 * ac) + ((aO - (48 : UInt8)).toNat : Int)))).bind fun _ =>
    (chk (InI (aM + 1))).bind fun _ =>
    JcN s aP ((10 * ac) + ((aO - (48 : UInt8)).toNat : Int)) (aM + 1)
    else
    some (Fl.go (ac, aM))
def Jdo (n : Nat) (s : Str) : Option (Int) :=
  (JcN s n 0 0).bind fun s0 => s0.el some fun t0 =>
  some t0.1
def Jbn (n : Nat) (name : Str) (x : Js) (Ar : Jw) : Option (Js × Bool) :=
  if decide (name = ([112, 97, 114, 116] : Str)) then
  (Jdu Ar.Ae).bind fun aR =>
  if ((decide (x.As = 2) && decide (x.N ≥ 0)) && decide (x.N < (aR.length : Int))) then
  (ix aR x.N).bind fun aV =>
  (Ja6 aV).bind fun ba =>
  some (ba, true)
  else
  (Ja6 ([] : Str)).bind fun a6 =>
  some (a6, decide (x.As = 2))
  else
  if decide (name = ([116, 101, 120, 116] : Str)) then
  (JbH n x.N).bind fun aY =>
  (Ja6 aY).bind fun aS =>
  some (aS, decide (x.As = 2))
  else
  if decide (name = ([104, 101, 97, 100, 101, 114] : Str)) then
  (JeA Ar.Ao x.S).bind fun a8 =>
  (Ja6 a8.1).bind fun aW =>
  some (aW, decide (x.As = 1))
  else
  if decide (name = ([104, 97, 115] : Str)) then
  (JeA Ar.Ao x.S).bind fun aT =>
  (Jbs aT.2).bind fun aZ =>
  some (aZ, decide (x.As = 1))
  else
  if decide (name = ([97, 114, 103] : Str)) then
  (Jfd (⟨([] : Str), ([] : Str), Ar.Af, true⟩ : Jd6) x.S).bind fun aU =>
  (Ja6 aU.1).bind fun aX =>
  some (aX, decide (x.As = 1))
  else
  if decide (name = ([108, 101, 110] : Str)) then
  (Jcs (x.S.length : Int)).bind fun aQ =>
  some (aQ, decide (x.As = 1))
  else
  if decide (name = ([108, 111, 119, 101, 114] : Str)) then
  (Jcx x.S).bind fun aM =>
  (Ja6 aM).bind fun aN =>
  some (aN, decide (x.As = 1))
  else
  (Jdo n x.S).bind fun aO =>
  (Jcs aO).bind fun aP =>
  some (aP, decide (x.As = 1))
def JdL (a : Int) (b : Int) : Option (Js) :=
  ((if decide (a ≠ 0) then
  (chk (InI (-a))).bind fun _ =>
  (chk ((max a (-a)) ≠ 0 ∧ InI (Int.tdiv 2199023255552 (max a (-a))))).bind fun _ =>
  (if decide (b > (Int.tdiv 2199023255552 (max a (-a)))) then some true else (chk (InI (-a))).bind fun _ =>
  (chk ((max a (-a)) ≠ 0 ∧ InI (Int.tdiv 2199023255552 (max a (-a))))).bind fun _ =>
  (chk (InI (-(Int.tdiv 2199023255552 (max a (-a)))))).bind fun _ =>
  some (decide (b < (-(Int.tdiv 2199023255552 (max a (-a))))))).bind fun aO =>
  some aO
  else
  some false) : Option (Bool)).bind fun aM =>
  if aM then
  if ((decide (a > 0)) == (decide (b > 0))) then
  (Jcs 1099511627776).bind fun aP =>
  some aP
  else
  (Jcs (-1099511627776)).bind fun aQ =>
  some aQ
  else
  (chk (InI (a * b))).bind fun _ =>
  (Jcs (a * b)).bind fun aN =>
  some aN
def Jcm (t : Str) (s : Str) : Nat → Int → Option (Fl (Bool) (Int))
  | 0, _ => none
  | aM + 1, ac =>
    (chk (InI (ac + (t.length : Int)))).bind fun _ =>
    if decide ((ac + (t.length : Int)) ≤ (s.length : Int)) then
    (chk (InI (ac + (t.length : Int)))).bind fun _ =>
    (chk (0 ≤ ac ∧ ac ≤ (ac + (t.length : Int)) ∧ (ac + (t.length : Int)) ≤ (s.length : Int))).bind fun _ =>
    if decide ((subL s ac (ac + (t.length : Int))) = t) then
    some (Fl.ret true)
    else
    (chk (InI (ac + 1))).bind fun _ =>
    Jcm t s aM (ac + 1)
    else
    some (Fl.go ac)
def Jdv (n : Nat) (s : Str) (t : Str) : Option (Bool) :=
  (Jcm t s n 0).bind fun s0 => s0.el some fun t0 =>
  some false
def JZ (n : Nat) (op : Str) (a : Js) (b : Js) : Option (Js × Bool) :=
  if decide (op = ([43] : Str)) then
  if (decide (a.As = 1) && decide (b.As = 1)) then
  (chk (a.S.length + b.S.length ≤ lim)).bind fun _ =>
  (Ja6 (a.S ++ b.S)).bind fun aT =>
  some (aT, true)
  else
  (chk (InI (a.N + b.N))).bind fun _ =>
  (Jcs (a.N + b.N)).bind fun aZ =>
  some (aZ, (decide (a.As = 2) && decide (b.As = 2)))
  else
  if decide (op = ([45] : Str)) then
  (chk (InI (a.N - b.N))).bind fun _ =>
  (Jcs (a.N - b.N)).bind fun aW =>
  some (aW, (decide (a.As = 2) && decide (b.As = 2)))
  else
  if decide (op = ([42] : Str)) then
  (JdL a.N b.N).bind fun aU =>
  some (aU, (decide (a.As = 2) && decide (b.As = 2)))
  else
  if decide (op = ([61, 61] : Str)) then
  (Jbs (decide (a.As = b.As) && (decide (a.N = b.N) && (decide (a.S = b.S) && (a.Is == b.Is))))).bind fun aX =>
  some (aX, decide (a.As = b.As))
  else
  if decide (op = ([33, 61] : Str)) then
  (Jbs (!(decide (a.As = b.As) && (decide (a.N = b.N) && (decide (a.S = b.S) && (a.Is == b.Is)))))).bind fun aS =>
  some (aS, decide (a.As = b.As))
  else
  if decide (op = ([60] : Str)) then
  (Jbs (decide (a.N < b.N))).bind fun aY =>
  some (aY, (decide (a.As = 2) && decide (b.As = 2)))
  else
  if decide (op = ([60, 61] : Str)) then
  (Jbs (decide (a.N ≤ b.N))).bind fun aV =>
  some (aV, (decide (a.As = 2) && decide (b.As = 2)))
  else
  if decide (op = ([115, 116, 97, 114, 116, 115] : Str)) then
  (if decide ((a.S.length : Int) ≥ (b.S.length : Int)) then (chk (0 ≤ (0 : Int) ∧ (0 : Int) ≤ (min (a.S.length : Int) (b.S.length : Int)) ∧ (min (a.S.length : Int) (b.S.length : Int)) ≤ (a.S.length : Int))).bind fun _ =>
  some (decide ((subL a.S (0 : Int) (min (a.S.length : Int) (b.S.length : Int))) = b.S)) else some false).bind fun aQ =>
  (Jbs aQ).bind fun aO =>
  some (aO, (decide (a.As = 1) && decide (b.As = 1)))
  else
  if decide (op = ([101, 110, 100, 115] : Str)) then
  (if decide ((a.S.length : Int) ≥ (b.S.length : Int)) then (chk (InI ((a.S.length : Int) - (b.S.length : Int)))).bind fun _ =>
  (chk (0 ≤ (max 0 ((a.S.length : Int) - (b.S.length : Int))) ∧ (max 0 ((a.S.length : Int) - (b.S.length : Int))) ≤ (a.S.length : Int) ∧ (a.S.length : Int) ≤ (a.S.length : Int))).bind fun _ =>
  some (decide ((subL a.S (max 0 ((a.S.length : Int) - (b.S.length : Int))) (a.S.length : Int)) = b.S)) else some false).bind fun aM =>
  (Jbs aM).bind fun aR =>
  some (aR, (decide (a.As = 1) && decide (b.As = 1)))
  else
  (Jdv n a.S b.S).bind fun aP =>
  (Jbs aP).bind fun aN =>
  some (aN, (decide (a.As = 1) && decide (b.As = 1)))
def Jem (c : UInt8) : List UInt8 → Nat → Option (Fl (Bool) (Unit))
  | [], _ => some (Fl.go ())
  | e0 :: aM, i0 =>
    if decide ((e0.toNat : Int) = (c.toNat : Int)) then
    some (Fl.ret true)
    else
    Jem c aM (i0 + 1)
def JdM (c : UInt8) : Option (Bool) :=
  ((if (decide ((c.toNat : Int) ≥ 48) && decide ((c.toNat : Int) ≤ 57)) then
  some true
  else
  if (decide ((c.toNat : Int) ≥ 97) && decide ((c.toNat : Int) ≤ 122)) then
  some true
  else
  some (decide ((c.toNat : Int) ≥ 65) && decide ((c.toNat : Int) ≤ 90))) : Option (Bool)).bind fun aM =>
  if aM then
  some true
  else
  (chk (([33, 35, 36, 37, 38, 39, 42, 43, 45, 46, 94, 95, 96, 124, 126] : Str).length ≤ szMax)).bind fun _ =>
  (Jem c ([33, 35, 36, 37, 38, 39, 42, 43, 45, 46, 94, 95, 96, 124, 126] : Str) 0).bind fun s0 => s0.el some fun t0 =>
  some false
def JcW : List UInt8 → Nat → Option (Fl (Bool) (Unit))
  | [], _ => some (Fl.go ())
  | e0 :: aM, i0 =>
    (JdM e0).bind fun ax =>
    if (!ax) then
    some (Fl.ret false)
    else
    JcW aM (i0 + 1)
def Jdf (s : Str) : Option (Bool) :=
  (chk (s.length ≤ szMax)).bind fun _ =>
  (JcW s 0).bind fun s0 => s0.el some fun t0 =>
  some (decide ((s.length : Int) > 0))
