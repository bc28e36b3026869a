/- Mirrors that the plain texts speak of and this law does not reach. -/
import Derived.Test.YtmpdebfckeahmaaGreatDoorG5
set_option linter.unusedVariables false
set_option linter.unusedSimpArgs false
open Go Go.SL Go.Proofs
noncomputable section
set_option maxRecDepth 1000000
set_option maxHeartbeats 8000000
structure Jt where
  As : Int
  N : Int
  S : Str
  Is : Bool
structure JC where
  stack : (List Jt)
  Ap : (List Jt)
  atZ : Int
  r : Jq
  done : Bool
  code : Int
structure JdA where
  An : Str
  Ae : Str
  Af : Str
  HasQuery : Bool
structure JaN where
  Name : Str
  Value : Jt
def Ja7 (s : Str) : Option (Int × Int × Bool) :=
  if decide (s = ([104, 101, 97, 100, 101, 114] : Str)) then
  some (1, 1, true)
  else
  if decide (s = ([97, 114, 103] : Str)) then
  some (1, 1, true)
  else
  if decide (s = ([108, 111, 119, 101, 114] : Str)) then
  some (1, 1, true)
  else
  if decide (s = ([104, 97, 115] : Str)) then
  some (1, 3, true)
  else
  if decide (s = ([108, 101, 110] : Str)) then
  some (1, 2, true)
  else
  if decide (s = ([110, 117, 109, 98, 101, 114] : Str)) then
  some (1, 2, true)
  else
  if decide (s = ([112, 97, 114, 116] : Str)) then
  some (2, 1, true)
  else
  if decide (s = ([116, 101, 120, 116] : Str)) then
  some (2, 1, true)
  else
  some (0, 0, false)
def qnt (n' : Int) (low : Int) (high : Int) : Option (Int) :=
  some (max low (min n' high))
def Jca (n' : Int) : Option (Jt) :=
  (qnt n' (-1099511627776) 1099511627776).bind fun x4 =>
  some (⟨2, x4, ([] : Str), false⟩ : Jt)
def Jbb (s : Str) : Option (Jt) :=
  some (⟨1, 0, s, false⟩ : Jt)
def Jdj (name : Str) (Ar : Jw) : Option (Jt) :=
  if decide (name = ([109, 101, 116, 104, 111, 100] : Str)) then
  (Jbb Ar.Am).bind fun aM =>
  some aM
  else
  if decide (name = ([104, 111, 115, 116] : Str)) then
  (Jbb Ar.An).bind fun aN =>
  some aN
  else
  if decide (name = ([112, 97, 116, 104] : Str)) then
  (Jbb Ar.Ae).bind fun aL =>
  some aL
  else
  (Jbb Ar.Af).bind fun aO =>
  some aO
def Jce (byZ : UInt8) (s : Str) : List UInt8 → Nat → (List Str) → Int → Option ((List Str) × Int)
  | [], _, ac, aL => some (ac, aL)
  | e0 :: aM, i0, ac, aL =>
    if decide ((e0.toNat : Int) = (byZ.toNat : Int)) then
    (chk (0 ≤ aL ∧ aL ≤ (i0 : Int) ∧ (i0 : Int) ≤ (s.length : Int))).bind fun _ =>
    (chk (ac.length + [(subL s aL (i0 : Int))].length ≤ lim)).bind fun _ =>
    Jce byZ s aM (i0 + 1) (ac ++ [(subL s aL (i0 : Int))]) ((i0 : Int) + 1)
    else
    Jce byZ s aM (i0 + 1) ac aL
def Jd6 (s : Str) (byZ : UInt8) : Option ((List Str)) :=
  (chk (s.length ≤ qau)).bind fun _ =>
  (Jce byZ s s 0 [] 0).bind fun t0 =>
  (chk (0 ≤ t0.2 ∧ t0.2 ≤ (s.length : Int) ∧ (s.length : Int) ≤ (s.length : Int))).bind fun _ =>
  (chk (t0.1.length + [(subL s t0.2 (s.length : Int))].length ≤ lim)).bind fun _ =>
  some (t0.1 ++ [(subL s t0.2 (s.length : Int))])
def Jc3 (path : Str) : Option ((List Str)) :=
  (Jd6 path (47 : UInt8)).bind fun x5 =>
  (chk (0 ≤ (1 : Int) ∧ (1 : Int) ≤ (x5.length : Int) ∧ (x5.length : Int) ≤ (x5.length : Int))).bind fun _ =>
  some (subL x5 (1 : Int) (x5.length : Int))
def Jby : Nat → Int → Option (Str)
  | 0, _ => none
  | n + 1, n' =>
    if decide (n' < 0) then
    (chk (InI (-n'))).bind fun _ =>
    ((Jby n) (-n')).bind fun x8 =>
    (chk (([45] : Str).length + x8.length ≤ lim)).bind fun _ =>
    some (([45] : Str) ++ x8)
    else
    (chk (InI (48 + (Int.tmod n' 10)))).bind fun _ =>
    if decide (n' < 10) then
    some ([(qsz (48 + (Int.tmod n' 10)))] : Str)
    else
    (chk ((10 : Int) ≠ 0 ∧ InI (Int.tdiv n' 10))).bind fun _ =>
    ((Jby n) (Int.tdiv n' 10)).bind fun aL =>
    (chk (aL.length + ([(qsz (48 + (Int.tmod n' 10)))] : Str).length ≤ lim)).bind fun _ =>
    some (aL ++ ([(qsz (48 + (Int.tmod n' 10)))] : Str))
def JbR : List UInt8 → Nat → Str → Option (Str)
  | [], _, ac => some ac
  | e0 :: aL, i0, ac =>
    if (decide ((e0.toNat : Int) ≥ 65) && decide ((e0.toNat : Int) ≤ 90)) then
    (chk (ac.length + ([(e0 + (32 : UInt8))] : Str).length ≤ lim)).bind fun _ =>
    JbR aL (i0 + 1) (ac ++ ([(e0 + (32 : UInt8))] : Str))
    else
    (chk (ac.length + ([e0] : Str).length ≤ lim)).bind fun _ =>
    JbR aL (i0 + 1) (ac ++ ([e0] : Str))
def Jcc (s : Str) : Option (Str) :=
  (chk (s.length ≤ qau)).bind fun _ =>
  (JbR s 0 ([] : Str)).bind fun t0 =>
  some t0
def JeH (f : Jo) (name : Str) : Option (Bool) :=
  (Jcc f.Name).bind fun x7 =>
  (Jcc name).bind fun x9 =>
  some (decide (x7 = x9))
def Jcf (name : Str) : List Jo → Nat → (List Str) → Option ((List Str))
  | [], _, ac => some ac
  | e0 :: aL, i0, ac =>
    (JeH e0 name).bind fun aM =>
    if aM then
    (chk (ac.length + [e0.Value].length ≤ lim)).bind fun _ =>
    Jcf name aL (i0 + 1) (ac ++ [e0.Value])
    else
    Jcf name aL (i0 + 1) ac
def JeO (f : (List Jo)) (name : Str) : Option ((List Str)) :=
  (chk (f.length ≤ qau)).bind fun _ =>
  (Jcf name f 0 []).bind fun t0 =>
  some t0
def Jb0 : List Str → Nat → Str → Option (Str)
  | [], _, ac => some ac
  | e0 :: aL, i0, ac =>
    if decide ((i0 : Int) > 0) then
    (chk (ac.length + ([44, 32] : Str).length ≤ lim)).bind fun _ =>
    (chk ((ac ++ ([44, 32] : Str)).length + e0.length ≤ lim)).bind fun _ =>
    Jb0 aL (i0 + 1) ((ac ++ ([44, 32] : Str)) ++ e0)
    else
    (chk (ac.length + e0.length ≤ lim)).bind fun _ =>
    Jb0 aL (i0 + 1) (ac ++ e0)
def Jd7 (f : (List Jo)) (name : Str) : Option (Str × Bool) :=
  (JeO f name).bind fun aL =>
  (chk (aL.length ≤ qau)).bind fun _ =>
  (Jb0 aL 0 ([] : Str)).bind fun t0 =>
  some (t0, decide ((aL.length : Int) > 0))
def Jbs (Au : Bool) : Option (Jt) :=
  some (⟨3, 0, ([] : Str), Au⟩ : Jt)
def JcZ (name : Str) : List Str → Nat → Option (Fl (Str × Bool) (Unit))
  | [], _ => some (Fl.go ())
  | e0 :: aM, i0 =>
    (((if decide ((e0.length : Int) > (name.length : Int)) then (chk (0 ≤ (0 : Int) ∧ (0 : Int) ≤ (name.length : Int) ∧ (name.length : Int) ≤ (e0.length : Int))).bind fun _ =>
    some (decide ((subL e0 (0 : Int) (name.length : Int)) = name)) else some false).bind fun aN =>
    (if aN then (ix e0 (name.length : Int)).bind fun aP =>
    some (decide ((aP.toNat : Int) = 61)) else some false).bind fun aO =>
    some aO) : Option (Bool)).bind fun aL =>
    if aL then
    (chk (InI ((name.length : Int) + 1))).bind fun _ =>
    (chk (0 ≤ ((name.length : Int) + 1) ∧ ((name.length : Int) + 1) ≤ (e0.length : Int) ∧ (e0.length : Int) ≤ (e0.length : Int))).bind fun _ =>
    some (Fl.ret ((subL e0 ((name.length : Int) + 1) (e0.length : Int)), true))
    else
    JcZ name aM (i0 + 1)
def JeP (a : JdA) (name : Str) : Option (Str × Bool) :=
  if (!a.HasQuery) then
  some (([] : Str), false)
  else
  (Jd6 a.Af (38 : UInt8)).bind fun aL =>
  (chk (aL.length ≤ qau)).bind fun _ =>
  (JcZ name aL 0).bind fun s0 => s0.el some fun t0 =>
  some (([] : Str), false)
def Jco (s : Str) : Nat → Int → Int → Option (Fl (Int) (Int × Int))
  | 0, _, _ => none
  | aP + 1, ac, aL =>
    if decide (aL < (s.length : Int)) then
    (((ix s aL).bind fun aR =>
    (if decide ((aR.toNat : Int) < 48) then some true else (ix s aL).bind fun aQ =>
    some (decide ((aQ.toNat : Int) > 57))).bind fun aO =>
    some (aO || decide (aL = 15))) : Option (Bool)).bind fun aM =>
    if aM then
    some (Fl.ret 0)
    else
    (chk (InI (10 * ac))).bind fun _ =>
    (ix s aL).bind fun aN =>
    (chk (InI ((10 * ac) + ((aN - (48 : UInt8)).toNat : Int)))).bind fun _ =>
    (chk (InI (aL + 1))).bind fun _ =>
    Jco s aP ((10 * ac) + ((aN - (48 : UInt8)).toNat : Int)) (aL + 1)
    else
    some (Fl.go (ac, aL))
def Jc0 (n : Nat) (s : Str) : Option (Int) :=
  (Jco s n 0 0).bind fun s0 => s0.el some fun t0 =>
  some t0.1
def Jbn (n : Nat) (name : Str) (x : Jt) (Ar : Jw) : Option (Jt × Bool) :=
  if decide (name = ([112, 97, 114, 116] : Str)) then
  (Jc3 Ar.Ae).bind fun aQ =>
  if ((decide (x.As = 2) && decide (x.N ≥ 0)) && decide (x.N < (aQ.length : Int))) then
  (ix aQ x.N).bind fun aS =>
  (Jbb aS).bind fun ba =>
  some (ba, true)
  else
  (Jbb ([] : Str)).bind fun aT =>
  some (aT, decide (x.As = 2))
  else
  if decide (name = ([116, 101, 120, 116] : Str)) then
  (Jby n x.N).bind fun a8 =>
  (Jbb a8).bind fun aU =>
  some (aU, decide (x.As = 2))
  else
  if decide (name = ([104, 101, 97, 100, 101, 114] : Str)) then
  (Jd7 Ar.Ao x.S).bind fun aW =>
  (Jbb aW.1).bind fun aY =>
  some (aY, decide (x.As = 1))
  else
  if decide (name = ([104, 97, 115] : Str)) then
  (Jd7 Ar.Ao x.S).bind fun aX =>
  (Jbs aX.2).bind fun aV =>
  some (aV, decide (x.As = 1))
  else
  if decide (name = ([97, 114, 103] : Str)) then
  (JeP (⟨([] : Str), ([] : Str), Ar.Af, true⟩ : JdA) x.S).bind fun aR =>
  (Jbb aR.1).bind fun aZ =>
  some (aZ, decide (x.As = 1))
  else
  if decide (name = ([108, 101, 110] : Str)) then
  (Jca (x.S.length : Int)).bind fun aL =>
  some (aL, decide (x.As = 1))
  else
  if decide (name = ([108, 111, 119, 101, 114] : Str)) then
  (Jcc x.S).bind fun aM =>
  (Jbb aM).bind fun aP =>
  some (aP, decide (x.As = 1))
  else
  (Jc0 n x.S).bind fun aO =>
  (Jca aO).bind fun aN =>
  some (aN, decide (x.As = 1))
def Jdk (a : Int) (b : Int) : Option (Jt) :=
  ((if decide (a ≠ 0) then
  (chk (InI (-a))).bind fun _ =>
  (chk ((max a (-a)) ≠ 0 ∧ InI (Int.tdiv 2199023255552 (max a (-a))))).bind fun _ =>
  (if decide (b > (Int.tdiv 2199023255552 (max a (-a)))) then some true else (chk (InI (-a))).bind fun _ =>
  (chk ((max a (-a)) ≠ 0 ∧ InI (Int.tdiv 2199023255552 (max a (-a))))).bind fun _ =>
  (chk (InI (-(Int.tdiv 2199023255552 (max a (-a)))))).bind fun _ =>
  some (decide (b < (-(Int.tdiv 2199023255552 (max a (-a))))))).bind fun aM =>
  some aM
  else
  some false) : Option (Bool)).bind fun aL =>
  if aL then
  if ((decide (a > 0)) == (decide (b > 0))) then
  (Jca 1099511627776).bind fun aP =>
  some aP
  else
  (Jca (-1099511627776)).bind fun aO =>
  some aO
  else
  (chk (InI (a * b))).bind fun _ =>
  (Jca (a * b)).bind fun aN =>
  some aN
def Jb4 (t : Str) (s : Str) : Nat → Int → Option (Fl (Bool) (Int))
  | 0, _ => none
  | aL + 1, ac =>
    (chk (InI (ac + (t.length : Int)))).bind fun _ =>
    if decide ((ac + (t.length : Int)) ≤ (s.length : Int)) then
    (chk (InI (ac + (t.length : Int)))).bind fun _ =>
    (chk (0 ≤ ac ∧ ac ≤ (ac + (t.length : Int)) ∧ (ac + (t.length : Int)) ≤ (s.length : Int))).bind fun _ =>
    if decide ((subL s ac (ac + (t.length : Int))) = t) then
    some (Fl.ret true)
    else
    (chk (InI (ac + 1))).bind fun _ =>
    Jb4 t s aL (ac + 1)
    else
    some (Fl.go ac)
def Jc4 (n : Nat) (s : Str) (t : Str) : Option (Bool) :=
  (Jb4 t s n 0).bind fun s0 => s0.el some fun t0 =>
  some false
def J7 (n : Nat) (op : Str) (a : Jt) (b : Jt) : Option (Jt × Bool) :=
  if decide (op = ([43] : Str)) then
  if (decide (a.As = 1) && decide (b.As = 1)) then
  (chk (a.S.length + b.S.length ≤ lim)).bind fun _ =>
  (Jbb (a.S ++ b.S)).bind fun aX =>
  some (aX, true)
  else
  (chk (InI (a.N + b.N))).bind fun _ =>
  (Jca (a.N + b.N)).bind fun aY =>
  some (aY, (decide (a.As = 2) && decide (b.As = 2)))
  else
  if decide (op = ([45] : Str)) then
  (chk (InI (a.N - b.N))).bind fun _ =>
  (Jca (a.N - b.N)).bind fun aW =>
  some (aW, (decide (a.As = 2) && decide (b.As = 2)))
  else
  if decide (op = ([42] : Str)) then
  (Jdk a.N b.N).bind fun aS =>
  some (aS, (decide (a.As = 2) && decide (b.As = 2)))
  else
  if decide (op = ([61, 61] : Str)) then
  (Jbs (decide (a.As = b.As) && (decide (a.N = b.N) && (decide (a.S = b.S) && (a.Is == b.Is))))).bind fun aR =>
  some (aR, decide (a.As = b.As))
  else
  if decide (op = ([33, 61] : Str)) then
  (Jbs (!(decide (a.As = b.As) && (decide (a.N = b.N) && (decide (a.S = b.S) && (a.Is == b.Is)))))).bind fun aU =>
  some (aU, decide (a.As = b.As))
  else
  if decide (op = ([60] : Str)) then
  (Jbs (decide (a.N < b.N))).bind fun aT =>
  some (aT, (decide (a.As = 2) && decide (b.As = 2)))
  else
  if decide (op = ([60, 61] : Str)) then
  (Jbs (decide (a.N ≤ b.N))).bind fun aV =>
  some (aV, (decide (a.As = 2) && decide (b.As = 2)))
  else
  if decide (op = ([115, 116, 97, 114, 116, 115] : Str)) then
  (if decide ((a.S.length : Int) ≥ (b.S.length : Int)) then (chk (0 ≤ (0 : Int) ∧ (0 : Int) ≤ (min (a.S.length : Int) (b.S.length : Int)) ∧ (min (a.S.length : Int) (b.S.length : Int)) ≤ (a.S.length : Int))).bind fun _ =>
  some (decide ((subL a.S (0 : Int) (min (a.S.length : Int) (b.S.length : Int))) = b.S)) else some false).bind fun aN =>
  (Jbs aN).bind fun aP =>
  some (aP, (decide (a.As = 1) && decide (b.As = 1)))
  else
  if decide (op = ([101, 110, 100, 115] : Str)) then
  (if decide ((a.S.length : Int) ≥ (b.S.length : Int)) then (chk (InI ((a.S.length : Int) - (b.S.length : Int)))).bind fun _ =>
  (chk (0 ≤ (max 0 ((a.S.length : Int) - (b.S.length : Int))) ∧ (max 0 ((a.S.length : Int) - (b.S.length : Int))) ≤ (a.S.length : Int) ∧ (a.S.length : Int) ≤ (a.S.length : Int))).bind fun _ =>
  some (decide ((subL a.S (max 0 ((a.S.length : Int) - (b.S.length : Int))) (a.S.length : Int)) = b.S)) else some false).bind fun aQ =>
  (Jbs aQ).bind fun aM =>
  some (aM, (decide (a.As = 1) && decide (b.As = 1)))
  else
  (Jc4 n a.S b.S).bind fun aL =>
  (Jbs aL).bind fun aO =>
  some (aO, (decide (a.As = 1) && decide (b.As = 1)))
def JdN (c : UInt8) : List UInt8 → Nat → Option (Fl (Bool) (Unit))
  | [], _ => some (Fl.go ())
  | e0 :: aL, i0 =>
    if decide ((e0.toNat : Int) = (c.toNat : Int)) then
    some (Fl.ret true)
    else
    JdN c aL (i0 + 1)
def Jdl (c : UInt8) : Option (Bool) :=
  ((if (decide ((c.toNat : Int) ≥ 48) && decide ((c.toNat : Int) ≤ 57)) then
  some true
  else
  if (decide ((c.toNat : Int) ≥ 97) && decide ((c.toNat : Int) ≤ 122)) then
  some true
  else
  some (decide ((c.toNat : Int) ≥ 65) && decide ((c.toNat : Int) ≤ 90))) : Option (Bool)).bind fun aL =>
  if aL then
  some true
  else
  (chk (([33, 35, 36, 37, 38, 39, 42, 43, 45, 46, 94, 95, 96, 124, 126] : Str).length ≤ qau)).bind fun _ =>
  (JdN c ([33, 35, 36, 37, 38, 39, 42, 43, 45, 46, 94, 95, 96, 124, 126] : Str) 0).bind fun s0 => s0.el some fun t0 =>
  some false
def Jcv : List UInt8 → Nat → Option (Fl (Bool) (Unit))
  | [], _ => some (Fl.go ())
  | e0 :: aL, i0 =>
    (Jdl e0).bind fun au =>
    if (!au) then
    some (Fl.ret false)
    else
    Jcv aL (i0 + 1)
def JcQ (s : Str) : Option (Bool) :=
  (chk (s.length ≤ qau)).bind fun _ =>
  (Jcv s 0).bind fun s0 => s0.el some fun t0 =>
  some (decide ((s.length : Int) > 0))
def Jeo (s : Str) : Option (Str × Int) :=
  (JcQ s).bind fun x5 =>
  if (!x5) then
  some (([] : Str), 8)
  else
  if decide ((s.length : Int) > 64) then
  some (([] : Str), 5)
  else
  (Jcc s).bind fun aL =>
  some (aL, 0)
