/- Mirrors that the plain texts speak of and this law does not reach. -/
import Derived.Test.YtmpdebfckeahmaaGreatDoorG4
set_option linter.unusedVariables false
set_option linter.unusedSimpArgs false
open Go Go.SL Go.Proofs
noncomputable section
set_option maxRecDepth 1000000
set_option maxHeartbeats 8000000
structure Jt where
  As : Int
  N : Int
  S : Str
  Is : Bool
structure JC where
  stack : (List Jt)
  Ap : (List Jt)
  atZ : Int
  r : Jp
  done : Bool
  code : Int
structure JdB where
  An : Str
  Ae : Str
  Af : Str
  HasQuery : Bool
structure Ju where
  Ar : JI
  result : Jl
  Aq : Bool
structure JaD where
  name : Str
  value : Jf
structure JaN where
  Name : Str
  Value : Jt
def Jba (s : Str) : Option (Int × Int × Bool) :=
  if decide (s = ([104, 101, 97, 100, 101, 114] : Str)) then
  some (1, 1, true)
  else
  if decide (s = ([97, 114, 103] : Str)) then
  some (1, 1, true)
  else
  if decide (s = ([108, 111, 119, 101, 114] : Str)) then
  some (1, 1, true)
  else
  if decide (s = ([104, 97, 115] : Str)) then
  some (1, 3, true)
  else
  if decide (s = ([108, 101, 110] : Str)) then
  some (1, 2, true)
  else
  if decide (s = ([110, 117, 109, 98, 101, 114] : Str)) then
  some (1, 2, true)
  else
  if decide (s = ([112, 97, 114, 116] : Str)) then
  some (2, 1, true)
  else
  if decide (s = ([116, 101, 120, 116] : Str)) then
  some (2, 1, true)
  else
  some (0, 0, false)
def qn7 (n' : Int) (low : Int) (high : Int) : Option (Int) :=
  some (max low (min n' high))
def Jcd (n' : Int) : Option (Jt) :=
  (qn7 n' (-1099511627776) 1099511627776).bind fun x4 =>
  some (⟨2, x4, ([] : Str), false⟩ : Jt)
def Jbf (s : Str) : Option (Jt) :=
  some (⟨1, 0, s, false⟩ : Jt)
def Jdk (name : Str) (Ar : Jw) : Option (Jt) :=
  if decide (name = ([109, 101, 116, 104, 111, 100] : Str)) then
  (Jbf Ar.Am).bind fun aM =>
  some aM
  else
  if decide (name = ([104, 111, 115, 116] : Str)) then
  (Jbf Ar.An).bind fun aN =>
  some aN
  else
  if decide (name = ([112, 97, 116, 104] : Str)) then
  (Jbf Ar.Ae).bind fun aL =>
  some aL
  else
  (Jbf Ar.Af).bind fun aO =>
  some aO
def Jci (byZ : UInt8) (s : Str) : List UInt8 → Nat → (List Str) → Int → Option ((List Str) × Int)
  | [], _, ac, aL => some (ac, aL)
  | e0 :: aM, i0, ac, aL =>
    if decide ((e0.toNat : Int) = (byZ.toNat : Int)) then
    (chk (0 ≤ aL ∧ aL ≤ (i0 : Int) ∧ (i0 : Int) ≤ (s.length : Int))).bind fun _ =>
    (chk (ac.length + [(subL s aL (i0 : Int))].length ≤ lim)).bind fun _ =>
    Jci byZ s aM (i0 + 1) (ac ++ [(subL s aL (i0 : Int))]) ((i0 : Int) + 1)
    else
    Jci byZ s aM (i0 + 1) ac aL
def Jd3 (s : Str) (byZ : UInt8) : Option ((List Str)) :=
  (chk (s.length ≤ qau)).bind fun _ =>
  (Jci byZ s s 0 [] 0).bind fun t0 =>
  (chk (0 ≤ t0.2 ∧ t0.2 ≤ (s.length : Int) ∧ (s.length : Int) ≤ (s.length : Int))).bind fun _ =>
  (chk (t0.1.length + [(subL s t0.2 (s.length : Int))].length ≤ lim)).bind fun _ =>
  some (t0.1 ++ [(subL s t0.2 (s.length : Int))])
def Jc5 (path : Str) : Option ((List Str)) :=
  (Jd3 path (47 : UInt8)).bind fun x5 =>
  (chk (0 ≤ (1 : Int) ∧ (1 : Int) ≤ (x5.length : Int) ∧ (x5.length : Int) ≤ (x5.length : Int))).bind fun _ =>
  some (subL x5 (1 : Int) (x5.length : Int))
def JbC : Nat → Int → Option (Str)
  | 0, _ => none
  | n + 1, n' =>
    if decide (n' < 0) then
    (chk (InI (-n'))).bind fun _ =>
    ((JbC n) (-n')).bind fun x8 =>
    (chk (([45] : Str).length + x8.length ≤ lim)).bind fun _ =>
    some (([45] : Str) ++ x8)
    else
    (chk (InI (48 + (Int.tmod n' 10)))).bind fun _ =>
    if decide (n' < 10) then
    some ([(qs7 (48 + (Int.tmod n' 10)))] : Str)
    else
    (chk ((10 : Int) ≠ 0 ∧ InI (Int.tdiv n' 10))).bind fun _ =>
    ((JbC n) (Int.tdiv n' 10)).bind fun aL =>
    (chk (aL.length + ([(qs7 (48 + (Int.tmod n' 10)))] : Str).length ≤ lim)).bind fun _ =>
    some (aL ++ ([(qs7 (48 + (Int.tmod n' 10)))] : Str))
def JbT : List UInt8 → Nat → Str → Option (Str)
  | [], _, ac => some ac
  | e0 :: aL, i0, ac =>
    if (decide ((e0.toNat : Int) ≥ 65) && decide ((e0.toNat : Int) ≤ 90)) then
    (chk (ac.length + ([(e0 + (32 : UInt8))] : Str).length ≤ lim)).bind fun _ =>
    JbT aL (i0 + 1) (ac ++ ([(e0 + (32 : UInt8))] : Str))
    else
    (chk (ac.length + ([e0] : Str).length ≤ lim)).bind fun _ =>
    JbT aL (i0 + 1) (ac ++ ([e0] : Str))
def Jcf (s : Str) : Option (Str) :=
  (chk (s.length ≤ qau)).bind fun _ =>
  (JbT s 0 ([] : Str)).bind fun t0 =>
  some t0
def JeK (f : Jq) (name : Str) : Option (Bool) :=
  (Jcf f.Name).bind fun x7 =>
  (Jcf name).bind fun x9 =>
  some (decide (x7 = x9))
def Jcj (name : Str) : List Jq → Nat → (List Str) → Option ((List Str))
  | [], _, ac => some ac
  | e0 :: aL, i0, ac =>
    (JeK e0 name).bind fun aM =>
    if aM then
    (chk (ac.length + [e0.Value].length ≤ lim)).bind fun _ =>
    Jcj name aL (i0 + 1) (ac ++ [e0.Value])
    else
    Jcj name aL (i0 + 1) ac
def JeQ (f : (List Jq)) (name : Str) : Option ((List Str)) :=
  (chk (f.length ≤ qau)).bind fun _ =>
  (Jcj name f 0 []).bind fun t0 =>
  some t0
def Jb2 : List Str → Nat → Str → Option (Str)
  | [], _, ac => some ac
  | e0 :: aL, i0, ac =>
    if decide ((i0 : Int) > 0) then
    (chk (ac.length + ([44, 32] : Str).length ≤ lim)).bind fun _ =>
    (chk ((ac ++ ([44, 32] : Str)).length + e0.length ≤ lim)).bind fun _ =>
    Jb2 aL (i0 + 1) ((ac ++ ([44, 32] : Str)) ++ e0)
    else
    (chk (ac.length + e0.length ≤ lim)).bind fun _ =>
    Jb2 aL (i0 + 1) (ac ++ e0)
def Jd4 (f : (List Jq)) (name : Str) : Option (Str × Bool) :=
  (JeQ f name).bind fun aL =>
  (chk (aL.length ≤ qau)).bind fun _ =>
  (Jb2 aL 0 ([] : Str)).bind fun t0 =>
  some (t0, decide ((aL.length : Int) > 0))
def Jbv (Au : Bool) : Option (Jt) :=
  some (⟨3, 0, ([] : Str), Au⟩ : Jt)
def Jc0 (name : Str) : List Str → Nat → Option (Fl (Str × Bool) (Unit))
  | [], _ => some (Fl.go ())
  | e0 :: aM, i0 =>
    (((if decide ((e0.length : Int) > (name.length : Int)) then (chk (0 ≤ (0 : Int) ∧ (0 : Int) ≤ (name.length : Int) ∧ (name.length : Int) ≤ (e0.length : Int))).bind fun _ =>
    some (decide ((subL e0 (0 : Int) (name.length : Int)) = name)) else some false).bind fun aN =>
    (if aN then (ix e0 (name.length : Int)).bind fun aP =>
    some (decide ((aP.toNat : Int) = 61)) else some false).bind fun aO =>
    some aO) : Option (Bool)).bind fun aL =>
    if aL then
    (chk (InI ((name.length : Int) + 1))).bind fun _ =>
    (chk (0 ≤ ((name.length : Int) + 1) ∧ ((name.length : Int) + 1) ≤ (e0.length : Int) ∧ (e0.length : Int) ≤ (e0.length : Int))).bind fun _ =>
    some (Fl.ret ((subL e0 ((name.length : Int) + 1) (e0.length : Int)), true))
    else
    Jc0 name aM (i0 + 1)
def JeR (a : JdB) (name : Str) : Option (Str × Bool) :=
  if (!a.HasQuery) then
  some (([] : Str), false)
  else
  (Jd3 a.Af (38 : UInt8)).bind fun aL =>
  (chk (aL.length ≤ qau)).bind fun _ =>
  (Jc0 name aL 0).bind fun s0 => s0.el some fun t0 =>
  some (([] : Str), false)
def Jct (s : Str) : Nat → Int → Int → Option (Fl (Int) (Int × Int))
  | 0, _, _ => none
  | aP + 1, ac, aL =>
    if decide (aL < (s.length : Int)) then
    (((ix s aL).bind fun aR =>
    (if decide ((aR.toNat : Int) < 48) then some true else (ix s aL).bind fun aQ =>
    some (decide ((aQ.toNat : Int) > 57))).bind fun aO =>
    some (aO || decide (aL = 15))) : Option (Bool)).bind fun aM =>
    if aM then
    some (Fl.ret 0)
    else
    (chk (InI (10 * ac))).bind fun _ =>
    (ix s aL).bind fun aN =>
    (chk (InI ((10 * ac) + ((aN - (48 : UInt8)).toNat : Int)))).bind fun _ =>
    (chk (InI (aL + 1))).bind fun _ =>
    Jct s aP ((10 * ac) + ((aN - (48 : UInt8)).toNat : Int)) (aL + 1)
    else
    some (Fl.go (ac, aL))
def Jc1 (n : Nat) (s : Str) : Option (Int) :=
  (Jct s n 0 0).bind fun s0 => s0.el some fun t0 =>
  some t0.1
def Jbr (n : Nat) (name : Str) (x : Jt) (Ar : Jw) : Option (Jt × Bool) :=
  if decide (name = ([112, 97, 114, 116] : Str)) then
  (Jc5 Ar.Ae).bind fun aQ =>
  if ((decide (x.As = 2) && decide (x.N ≥ 0)) && decide (x.N < (aQ.length : Int))) then
  (ix aQ x.N).bind fun aS =>
  (Jbf aS).bind fun ba =>
  some (ba, true)
  else
  (Jbf ([] : Str)).bind fun aT =>
  some (aT, decide (x.As = 2))
  else
  if decide (name = ([116, 101, 120, 116] : Str)) then
  (JbC n x.N).bind fun a8 =>
  (Jbf a8).bind fun aU =>
  some (aU, decide (x.As = 2))
  else
  if decide (name = ([104, 101, 97, 100, 101, 114] : Str)) then
  (Jd4 Ar.Ao x.S).bind fun aW =>
  (Jbf aW.1).bind fun aY =>
  some (aY, decide (x.As = 1))
  else
  if decide (name = ([104, 97, 115] : Str)) then
  (Jd4 Ar.Ao x.S).bind fun aX =>
  (Jbv aX.2).bind fun aV =>
  some (aV, decide (x.As = 1))
  else
  if decide (name = ([97, 114, 103] : Str)) then
  (JeR (⟨([] : Str), ([] : Str), Ar.Af, true⟩ : JdB) x.S).bind fun aR =>
  (Jbf aR.1).bind fun aZ =>
  some (aZ, decide (x.As = 1))
  else
  if decide (name = ([108, 101, 110] : Str)) then
  (Jcd (x.S.length : Int)).bind fun aL =>
  some (aL, decide (x.As = 1))
  else
  if decide (name = ([108, 111, 119, 101, 114] : Str)) then
  (Jcf x.S).bind fun aM =>
  (Jbf aM).bind fun aP =>
  some (aP, decide (x.As = 1))
  else
  (Jc1 n x.S).bind fun aO =>
  (Jcd aO).bind fun aN =>
  some (aN, decide (x.As = 1))
def Jdl (a : Int) (b : Int) : Option (Jt) :=
  ((if decide (a ≠ 0) then
  (chk (InI (-a))).bind fun _ =>
  (chk ((max a (-a)) ≠ 0 ∧ InI (Int.tdiv 2199023255552 (max a (-a))))).bind fun _ =>
  (if decide (b > (Int.tdiv 2199023255552 (max a (-a)))) then some true else (chk (InI (-a))).bind fun _ =>
  (chk ((max a (-a)) ≠ 0 ∧ InI (Int.tdiv 2199023255552 (max a (-a))))).bind fun _ =>
  (chk (InI (-(Int.tdiv 2199023255552 (max a (-a)))))).bind fun _ =>
  some (decide (b < (-(Int.tdiv 2199023255552 (max a (-a))))))).bind fun aM =>
  some aM
  else
  some false) : Option (Bool)).bind fun aL =>
  if aL then
  if ((decide (a > 0)) == (decide (b > 0))) then
  (Jcd 1099511627776).bind fun aP =>
  some aP
  else
  (Jcd (-1099511627776)).bind fun aO =>
  some aO
  else
  (chk (InI (a * b))).bind fun _ =>
  (Jcd (a * b)).bind fun aN =>
  some aN
def Jb7 (t : Str) (s : Str) : Nat → Int → Option (Fl (Bool) (Int))
  | 0, _ => none
  | aL + 1, ac =>
    (chk (InI (ac + (t.length : Int)))).bind fun _ =>
    if decide ((ac + (t.length : Int)) ≤ (s.length : Int)) then
    (chk (InI (ac + (t.length : Int)))).bind fun _ =>
    (chk (0 ≤ ac ∧ ac ≤ (ac + (t.length : Int)) ∧ (ac + (t.length : Int)) ≤ (s.length : Int))).bind fun _ =>
    if decide ((subL s ac (ac + (t.length : Int))) = t) then
    some (Fl.ret true)
    else
    (chk (InI (ac + 1))).bind fun _ =>
    Jb7 t s aL (ac + 1)
    else
    some (Fl.go ac)
def Jc6 (n : Nat) (s : Str) (t : Str) : Option (Bool) :=
  (Jb7 t s n 0).bind fun s0 => s0.el some fun t0 =>
  some false
def J5 (n : Nat) (op : Str) (a : Jt) (b : Jt) : Option (Jt × Bool) :=
  if decide (op = ([43] : Str)) then
  if (decide (a.As = 1) && decide (b.As = 1)) then
  (chk (a.S.length + b.S.length ≤ lim)).bind fun _ =>
  (Jbf (a.S ++ b.S)).bind fun aX =>
  some (aX, true)
  else
  (chk (InI (a.N + b.N))).bind fun _ =>
  (Jcd (a.N + b.N)).bind fun aY =>
  some (aY, (decide (a.As = 2) && decide (b.As = 2)))
  else
  if decide (op = ([45] : Str)) then
  (chk (InI (a.N - b.N))).bind fun _ =>
  (Jcd (a.N - b.N)).bind fun aW =>
  some (aW, (decide (a.As = 2) && decide (b.As = 2)))
  else
  if decide (op = ([42] : Str)) then
  (Jdl a.N b.N).bind fun aS =>
  some (aS, (decide (a.As = 2) && decide (b.As = 2)))
  else
  if decide (op = ([61, 61] : Str)) then
  (Jbv (decide (a.As = b.As) && (decide (a.N = b.N) && (decide (a.S = b.S) && (a.Is == b.Is))))).bind fun aR =>
  some (aR, decide (a.As = b.As))
  else
  if decide (op = ([33, 61] : Str)) then
  (Jbv (!(decide (a.As = b.As) && (decide (a.N = b.N) && (decide (a.S = b.S) && (a.Is == b.Is)))))).bind fun aU =>
  some (aU, decide (a.As = b.As))
  else
  if decide (op = ([60] : Str)) then
  (Jbv (decide (a.N < b.N))).bind fun aT =>
  some (aT, (decide (a.As = 2) && decide (b.As = 2)))
  else
  if decide (op = ([60, 61] : Str)) then
  (Jbv (decide (a.N ≤ b.N))).bind fun aV =>
  some (aV, (decide (a.As = 2) && decide (b.As = 2)))
  else
  if decide (op = ([115, 116, 97, 114, 116, 115] : Str)) then
  (if decide ((a.S.length : Int) ≥ (b.S.length : Int)) then (chk (0 ≤ (0 : Int) ∧ (0 : Int) ≤ (min (a.S.length : Int) (b.S.length : Int)) ∧ (min (a.S.length : Int) (b.S.length : Int)) ≤ (a.S.length : Int))).bind fun _ =>
  some (decide ((subL a.S (0 : Int) (min (a.S.length : Int) (b.S.length : Int))) = b.S)) else some false).bind fun aN =>
  (Jbv aN).bind fun aP =>
  some (aP, (decide (a.As = 1) && decide (b.As = 1)))
  else
  if decide (op = ([101, 110, 100, 115] : Str)) then
  (if decide ((a.S.length : Int) ≥ (b.S.length : Int)) then (chk (InI ((a.S.length : Int) - (b.S.length : Int)))).bind fun _ =>
  (chk (0 ≤ (max 0 ((a.S.length : Int) - (b.S.length : Int))) ∧ (max 0 ((a.S.length : Int) - (b.S.length : Int))) ≤ (a.S.length : Int) ∧ (a.S.length : Int) ≤ (a.S.length : Int))).bind fun _ =>
  some (decide ((subL a.S (max 0 ((a.S.length : Int) - (b.S.length : Int))) (a.S.length : Int)) = b.S)) else some false).bind fun aQ =>
  (Jbv aQ).bind fun aM =>
  some (aM, (decide (a.As = 1) && decide (b.As = 1)))
  else
  (Jc6 n a.S b.S).bind fun aL =>
  (Jbv aL).bind fun aO =>
  some (aO, (decide (a.As = 1) && decide (b.As = 1)))
def JdL (c : UInt8) : List UInt8 → Nat → Option (Fl (Bool) (Unit))
  | [], _ => some (Fl.go ())
  | e0 :: aL, i0 =>
    if decide ((e0.toNat : Int) = (c.toNat : Int)) then
    some (Fl.ret true)
    else
    JdL c aL (i0 + 1)
def Jdm (c : UInt8) : Option (Bool) :=
  ((if (decide ((c.toNat : Int) ≥ 48) && decide ((c.toNat : Int) ≤ 57)) then
  some true
  else
  if (decide ((c.toNat : Int) ≥ 97) && decide ((c.toNat : Int) ≤ 122)) then
  some true
  else
  some (decide ((c.toNat : Int) ≥ 65) && decide ((c.toNat : Int) ≤ 90))) : Option (Bool)).bind fun aL =>
  if aL then
  some true
  else
  (chk (([33, 35, 36, 37, 38, 39, 42, 43, 45, 46, 94, 95, 96, 124, 126] : Str).length ≤ qau)).bind fun _ =>
  (JdL c ([33, 35, 36, 37, 38, 39, 42, 43, 45, 46, 94, 95, 96, 124, 126] : Str) 0).bind fun s0 => s0.el some fun t0 =>
  some false
def Jcz : List UInt8 → Nat → Option (Fl (Bool) (Unit))
  | [], _ => some (Fl.go ())
  | e0 :: aL, i0 =>
    (Jdm e0).bind fun av =>
    if (!av) then
    some (Fl.ret false)
    else
    Jcz aL (i0 + 1)
def JcT (s : Str) : Option (Bool) :=
  (chk (s.length ≤ qau)).bind fun _ =>
  (Jcz s 0).bind fun s0 => s0.el some fun t0 =>
  some (decide ((s.length : Int) > 0))
def Jeq (s : Str) : Option (Str × Int) :=
  (JcT s).bind fun x5 =>
  if (!x5) then
  some (([] : Str), 8)
  else
  if decide ((s.length : Int) > 64) then
  some (([] : Str), 5)
  else
  (Jcf s).bind fun aL =>
  some (aL, 0)
def Jck (x : Jf) : Option (Jf × Err) :=
  if decide ((x.s.length : Int) > 2048) then
  some ((⟨0, 0, ([] : Str), false⟩ : Jf), (some 5))
  else
  some (x, none)
def Jbd (env : (List JaD)) (n' : Ja) : Nat → Int → Option (Fl (Jf × Err) (Int))
  | 0, _ => none
  | aO + 1, aL =>
    if decide (aL ≥ 0) then
    (ix env aL).bind fun aN =>
    if decide (aN.name = n'.Ac) then
    (ix env aL).bind fun aM =>
    some (Fl.ret (aM.value, none))
    else
    (chk (InI (aL - 1))).bind fun _ =>
    Jbd env n' aO (aL - 1)
    else
    some (Fl.go aL)
def JaL : Nat → Ju → Ja → (List JaD) → Option (Jf × Err)
  | 0, _, _, _ => none
  | n + 1, w', n', env =>
    if decide (n'.Ab = 20) then
    (Jb3 n'.Ac).bind fun a8 =>
    (JaZ a8).bind fun bj =>
    some (bj, none)
    else
    if decide (n'.Ab = 21) then
    (Jaq n'.Ac).bind fun bf =>
    (Jck bf).bind fun aZ =>
    some (aZ.1, aZ.2)
    else
    if decide (n'.Ab = 22) then
    (Jaj (decide (n'.Ac = ([116, 114, 117, 101] : Str)))).bind fun bg =>
    some (bg, none)
    else
    if decide (n'.Ab = 23) then
    (chk (InI ((env.length : Int) - 1))).bind fun _ =>
    (Jbd env n' n ((env.length : Int) - 1)).bind fun s1 => s1.el some fun t1 =>
    (Jar n'.Ac w'.Ar).bind fun ba =>
    (Jck ba).bind fun aY =>
    some (aY.1, aY.2)
    else
    (ix n'.Aa 0).bind fun bb =>
    ((JaL n) w' bb env).bind fun aL =>
    if aL.2.isSome then
    some ((⟨0, 0, ([] : Str), false⟩ : Jf), aL.2)
    else
    ((if decide (n'.Ab = 24) then
    (JD n'.Ac aL.1 w'.Ar).bind fun bh =>
    (Jck bh.1).bind fun aQ =>
    some (Fl.ret (aQ.1, aQ.2))
    else
    if decide (n'.Ab = 15) then
    (Jaj (!aL.1.Au)).bind fun aS =>
    some (Fl.ret (aS, none))
    else
    if decide (n'.Ab = 14) then
    if (!aL.1.Au) then
    some (Fl.ret (aL.1, none))
    else
    (ix n'.Aa 1).bind fun aT =>
    ((JaL n) w' aT env).bind fun aP =>
    some (Fl.ret (aP.1, aP.2))
    else
    if decide (n'.Ab = 13) then
    if aL.1.Au then
    some (Fl.ret (aL.1, none))
    else
    (ix n'.Aa 1).bind fun aR =>
    ((JaL n) w' aR env).bind fun aN =>
    some (Fl.ret (aN.1, aN.2))
    else
    if decide (n'.Ab = 17) then
    some (Fl.go ([43] : Str))
    else
    if decide (n'.Ab = 18) then
    some (Fl.go ([45] : Str))
    else
    if decide (n'.Ab = 19) then
    some (Fl.go ([42] : Str))
    else
    some (Fl.go n'.Ac) : Option (Fl (Jf × Err) (Str)))).bind fun aV => aV.el some fun aX =>
    (ix n'.Aa 1).bind fun aU =>
    ((JaL n) w' aU env).bind fun aM =>
    if aM.2.isSome then
    some ((⟨0, 0, ([] : Str), false⟩ : Jf), aM.2)
    else
    (JG aX aL.1 aM.1).bind fun aW =>
    (Jck aW.1).bind fun aO =>
    some (aO.1, aO.2)
def JdT (n' : Ja) : Option (Str) :=
  if decide (n'.Ab = 5) then
  (chk (([104, 101, 97, 100, 101, 114, 58] : Str).length + n'.Ac.length ≤ lim)).bind fun _ =>
  some (([104, 101, 97, 100, 101, 114, 58] : Str) ++ n'.Ac)
  else
  if decide (n'.Ab = 6) then
  (chk (([118, 97, 114, 121, 58] : Str).length + n'.Ac.length ≤ lim)).bind fun _ =>
  some (([118, 97, 114, 121, 58] : Str) ++ n'.Ac)
  else
  if decide (n'.Ab = 7) then
  some ([116, 97, 103] : Str)
  else
  if decide (n'.Ab = 8) then
  some ([116, 116, 108] : Str)
  else
  if decide (n'.Ab = 9) then
  some ([100, 101, 110, 121] : Str)
  else
  if decide (n'.Ab = 10) then
  some ([112, 97, 115, 115] : Str)
  else
  if decide (n'.Ab = 11) then
  some ([116, 111, 107, 101, 110] : Str)
  else
  some n'.Ac
def Jaz (w' : Ju) (n : Nat) (rec_ : (Ju → (List Ja) → (List JaD) → Option (Err × Ju))) : List Ja → Nat → (List JaD) → Ju → Option (Fl (Err × Ju) ((List JaD) × Ju))
  | [], _, ac, aL => some (Fl.go (ac, (⟨w'.Ar, aL.result, aL.Aq⟩ : Ju)))
  | e0 :: aW, i0, ac, aL =>
    if aL.Aq then
    some (Fl.ret (none, (⟨w'.Ar, aL.result, aL.Aq⟩ : Ju)))
    else
    ((if decide ((e0.Aa.length : Int) > 0) then
    (ix e0.Aa 0).bind fun aX =>
    (JaL n (⟨w'.Ar, aL.result, aL.Aq⟩ : Ju) aX ac).bind fun aQ =>
    if aQ.2.isSome then
    some (Fl.ret (aQ.2, (⟨w'.Ar, aL.result, aL.Aq⟩ : Ju)))
    else
    some (Fl.go (aQ.1.kind, aQ.1.n, aQ.1.s, aQ.1.Au))
    else
    some (Fl.go (0, 0, ([] : Str), false)) : Option (Fl (Err × Ju) (Int × Int × Str × Bool)))).bind fun aS => aS.el (fun r => some (Fl.ret r)) fun aM =>
    ((if decide (e0.Ab = 3) then
    (chk (ac.length + [(⟨e0.Ac, (⟨aM.1, aM.2.1, aM.2.2.1, aM.2.2.2⟩ : Jf)⟩ : JaD)].length ≤ lim)).bind fun _ =>
    some ((ac ++ [(⟨e0.Ac, (⟨aM.1, aM.2.1, aM.2.2.1, aM.2.2.2⟩ : Jf)⟩ : JaD)]), none, (⟨w'.Ar, aL.result, aL.Aq⟩ : Ju))
    else
    if decide (e0.Ab = 2) then
    if aM.2.2.2 then
    (ix e0.Aa 1).bind fun a8 =>
    (rec_ (⟨w'.Ar, aL.result, aL.Aq⟩ : Ju) a8.Aa ac).bind fun aR =>
    some (ac, aR.1, (⟨w'.Ar, aR.2.result, aR.2.Aq⟩ : Ju))
    else
    (if decide ((e0.Aa.length : Int) > 2) then (ix e0.Aa 2).bind fun aZ =>
    some (decide (aZ.Ab = 2)) else some false).bind fun aT =>
    if aT then
    (chk (0 ≤ (2 : Int) ∧ (2 : Int) ≤ (e0.Aa.length : Int) ∧ (e0.Aa.length : Int) ≤ (e0.Aa.length : Int))).bind fun _ =>
    (rec_ (⟨w'.Ar, aL.result, aL.Aq⟩ : Ju) (subL e0.Aa (2 : Int) (e0.Aa.length : Int)) ac).bind fun aP =>
    some (ac, aP.1, (⟨w'.Ar, aP.2.result, aP.2.Aq⟩ : Ju))
    else
    if decide ((e0.Aa.length : Int) > 2) then
    (ix e0.Aa 2).bind fun aU =>
    (rec_ (⟨w'.Ar, aL.result, aL.Aq⟩ : Ju) aU.Aa ac).bind fun aO =>
    some (ac, aO.1, (⟨w'.Ar, aO.2.result, aO.2.Aq⟩ : Ju))
    else
    some (ac, none, (⟨w'.Ar, aL.result, aL.Aq⟩ : Ju))
    else
    (JdT e0).bind fun aY =>
    (JaP aL.result aY (⟨aM.1, aM.2.1, aM.2.2.1, aM.2.2.2⟩ : Jf)).bind fun aV =>
    some (ac, aV.1, (⟨w'.Ar, aV.2, decide (e0.Ab = 9)⟩ : Ju)) : Option ((List JaD) × Err × Ju))).bind fun aN =>
    if aN.2.1.isSome then
    some (Fl.ret (aN.2.1, (⟨w'.Ar, aN.2.2.result, aN.2.2.Aq⟩ : Ju)))
    else
    Jaz w' n rec_ aW (i0 + 1) aN.1 (⟨w'.Ar, aN.2.2.result, aN.2.2.Aq⟩ : Ju)
def J9 : Nat → Ju → (List Ja) → (List JaD) → Option (Err × Ju)
  | 0, _, _, _ => none
  | n + 1, w', list, env =>
    (chk (list.length ≤ qau)).bind fun _ =>
    (Jaz w' n (J9 n) list 0 env w').bind fun s0 => s0.el some fun t0 =>
    some (none, (⟨w'.Ar, t0.2.result, t0.2.Aq⟩ : Ju))
def Jcx (n : Nat) (program : Ja) (Ar : JI) : Option (Jl × Err) :=
  (JbH n program).bind fun av =>
  if av.2.isSome then
  some ((⟨([] : Str), ([] : Str), [], [], [], 0, 0, 0, false, false⟩ : Jl), av.2)
  else
  (J9 n (⟨Ar, (⟨Ar.Ae, Ar.Af, [], [], [], (-1), 0, 0, false, false⟩ : Jl), false⟩ : Ju) program.Aa []).bind fun aL =>
  if aL.1.isSome then
  some ((⟨([] : Str), ([] : Str), [], [], [], 0, 0, 0, false, false⟩ : Jl), aL.1)
  else
  some (aL.2.result, none)
