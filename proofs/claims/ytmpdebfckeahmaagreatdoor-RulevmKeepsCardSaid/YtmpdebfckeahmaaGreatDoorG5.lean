/- Mirrors that the plain texts speak of and this law does not reach. -/
import Derived.Test.YtmpdebfckeahmaaGreatDoorG4
set_option linter.unusedVariables false
set_option linter.unusedSimpArgs false
open Go Go.SL Go.Proofs
noncomputable section
set_option maxRecDepth 1000000
set_option maxHeartbeats 8000000
structure Jq where
  As : Int
  N : Int
  S : Str
  Is : Bool
structure Jx where
  stack : (List Jq)
  Ap : (List Jq)
  atZ : Int
  r : Ji
  done : Bool
  code : Int
structure Jdt where
  An : Str
  Ae : Str
  Af : Str
  HasQuery : Bool
structure Jay where
  Name : Str
  Value : Jq
def ql9 (n' : Int) (low : Int) (high : Int) : Option (Int) :=
  some (max low (min n' high))
def JbW (n' : Int) : Option (Jq) :=
  (ql9 n' (-1099511627776) 1099511627776).bind fun x4 =>
  some (⟨2, x4, ([] : Str), false⟩ : Jq)
def JaT (s : Str) : Option (Jq) :=
  some (⟨1, 0, s, false⟩ : Jq)
def Jc9 (name : Str) (Ar : Js) : Option (Jq) :=
  if decide (name = ([109, 101, 116, 104, 111, 100] : Str)) then
  (JaT Ar.Am).bind fun aK =>
  some aK
  else
  if decide (name = ([104, 111, 115, 116] : Str)) then
  (JaT Ar.An).bind fun aL =>
  some aL
  else
  if decide (name = ([112, 97, 116, 104] : Str)) then
  (JaT Ar.Ae).bind fun aJ =>
  some aJ
  else
  (JaT Ar.Af).bind fun aM =>
  some aM
def Jb3 (byZ : UInt8) (s : Str) : List UInt8 → Nat → (List Str) → Int → Option ((List Str) × Int)
  | [], _, ab, aJ => some (ab, aJ)
  | e0 :: aK, i0, ab, aJ =>
    if decide ((e0.toNat : Int) = (byZ.toNat : Int)) then
    (chk (0 ≤ aJ ∧ aJ ≤ (i0 : Int) ∧ (i0 : Int) ≤ (s.length : Int))).bind fun _ =>
    (chk (ab.length + [(subL s aJ (i0 : Int))].length ≤ lim)).bind fun _ =>
    Jb3 byZ s aK (i0 + 1) (ab ++ [(subL s aJ (i0 : Int))]) ((i0 : Int) + 1)
    else
    Jb3 byZ s aK (i0 + 1) ab aJ
def JdY (s : Str) (byZ : UInt8) : Option ((List Str)) :=
  (chk (s.length ≤ qav)).bind fun _ =>
  (Jb3 byZ s s 0 [] 0).bind fun t0 =>
  (chk (0 ≤ t0.2 ∧ t0.2 ≤ (s.length : Int) ∧ (s.length : Int) ≤ (s.length : Int))).bind fun _ =>
  (chk (t0.1.length + [(subL s t0.2 (s.length : Int))].length ≤ lim)).bind fun _ =>
  some (t0.1 ++ [(subL s t0.2 (s.length : Int))])
def JcS (path : Str) : Option ((List Str)) :=
  (JdY path (47 : UInt8)).bind fun x5 =>
  (chk (0 ≤ (1 : Int) ∧ (1 : Int) ≤ (x5.length : Int) ∧ (x5.length : Int) ≤ (x5.length : Int))).bind fun _ =>
  some (subL x5 (1 : Int) (x5.length : Int))
def Jbl : Nat → Int → Option (Str)
  | 0, _ => none
  | n + 1, n' =>
    if decide (n' < 0) then
    (chk (InI (-n'))).bind fun _ =>
    ((Jbl n) (-n')).bind fun x8 =>
    (chk (([45] : Str).length + x8.length ≤ lim)).bind fun _ =>
    some (([45] : Str) ++ x8)
    else
    (chk (InI (48 + (Int.tmod n' 10)))).bind fun _ =>
    if decide (n' < 10) then
    some ([(qqr (48 + (Int.tmod n' 10)))] : Str)
    else
    (chk ((10 : Int) ≠ 0 ∧ InI (Int.tdiv n' 10))).bind fun _ =>
    ((Jbl n) (Int.tdiv n' 10)).bind fun aJ =>
    (chk (aJ.length + ([(qqr (48 + (Int.tmod n' 10)))] : Str).length ≤ lim)).bind fun _ =>
    some (aJ ++ ([(qqr (48 + (Int.tmod n' 10)))] : Str))
def JbE : List UInt8 → Nat → Str → Option (Str)
  | [], _, ab => some ab
  | e0 :: aJ, i0, ab =>
    if (decide ((e0.toNat : Int) ≥ 65) && decide ((e0.toNat : Int) ≤ 90)) then
    (chk (ab.length + ([(e0 + (32 : UInt8))] : Str).length ≤ lim)).bind fun _ =>
    JbE aJ (i0 + 1) (ab ++ ([(e0 + (32 : UInt8))] : Str))
    else
    (chk (ab.length + ([e0] : Str).length ≤ lim)).bind fun _ =>
    JbE aJ (i0 + 1) (ab ++ ([e0] : Str))
def Jb1 (s : Str) : Option (Str) :=
  (chk (s.length ≤ qav)).bind fun _ =>
  (JbE s 0 ([] : Str)).bind fun t0 =>
  some t0
def JeB (f : Jh) (name : Str) : Option (Bool) :=
  (Jb1 f.Name).bind fun x7 =>
  (Jb1 name).bind fun x9 =>
  some (decide (x7 = x9))
def Jb4 (name : Str) : List Jh → Nat → (List Str) → Option ((List Str))
  | [], _, ab => some ab
  | e0 :: aJ, i0, ab =>
    (JeB e0 name).bind fun aK =>
    if aK then
    (chk (ab.length + [e0.Value].length ≤ lim)).bind fun _ =>
    Jb4 name aJ (i0 + 1) (ab ++ [e0.Value])
    else
    Jb4 name aJ (i0 + 1) ab
def JeI (f : (List Jh)) (name : Str) : Option ((List Str)) :=
  (chk (f.length ≤ qav)).bind fun _ =>
  (Jb4 name f 0 []).bind fun t0 =>
  some t0
def JbM : List Str → Nat → Str → Option (Str)
  | [], _, ab => some ab
  | e0 :: aJ, i0, ab =>
    if decide ((i0 : Int) > 0) then
    (chk (ab.length + ([44, 32] : Str).length ≤ lim)).bind fun _ =>
    (chk ((ab ++ ([44, 32] : Str)).length + e0.length ≤ lim)).bind fun _ =>
    JbM aJ (i0 + 1) ((ab ++ ([44, 32] : Str)) ++ e0)
    else
    (chk (ab.length + e0.length ≤ lim)).bind fun _ =>
    JbM aJ (i0 + 1) (ab ++ e0)
def JdZ (f : (List Jh)) (name : Str) : Option (Str × Bool) :=
  (JeI f name).bind fun aJ =>
  (chk (aJ.length ≤ qav)).bind fun _ =>
  (JbM aJ 0 ([] : Str)).bind fun t0 =>
  some (t0, decide ((aJ.length : Int) > 0))
def Jba (At : Bool) : Option (Jq) :=
  some (⟨3, 0, ([] : Str), At⟩ : Jq)
def JcM (name : Str) : List Str → Nat → Option (Fl (Str × Bool) (Unit))
  | [], _ => some (Fl.go ())
  | e0 :: aK, i0 =>
    (((if decide ((e0.length : Int) > (name.length : Int)) then (chk (0 ≤ (0 : Int) ∧ (0 : Int) ≤ (name.length : Int) ∧ (name.length : Int) ≤ (e0.length : Int))).bind fun _ =>
    some (decide ((subL e0 (0 : Int) (name.length : Int)) = name)) else some false).bind fun aL =>
    (if aL then (ix e0 (name.length : Int)).bind fun aN =>
    some (decide ((aN.toNat : Int) = 61)) else some false).bind fun aM =>
    some aM) : Option (Bool)).bind fun aJ =>
    if aJ then
    (chk (InI ((name.length : Int) + 1))).bind fun _ =>
    (chk (0 ≤ ((name.length : Int) + 1) ∧ ((name.length : Int) + 1) ≤ (e0.length : Int) ∧ (e0.length : Int) ≤ (e0.length : Int))).bind fun _ =>
    some (Fl.ret ((subL e0 ((name.length : Int) + 1) (e0.length : Int)), true))
    else
    JcM name aK (i0 + 1)
def JeJ (a : Jdt) (name : Str) : Option (Str × Bool) :=
  if (!a.HasQuery) then
  some (([] : Str), false)
  else
  (JdY a.Af (38 : UInt8)).bind fun aJ =>
  (chk (aJ.length ≤ qav)).bind fun _ =>
  (JcM name aJ 0).bind fun s0 => s0.el some fun t0 =>
  some (([] : Str), false)
def Jcf (s : Str) : Nat → Int → Int → Option (Fl (Int) (Int × Int))
  | 0, _, _ => none
  | aN + 1, ab, aJ =>
    if decide (aJ < (s.length : Int)) then
    (((ix s aJ).bind fun aP =>
    (if decide ((aP.toNat : Int) < 48) then some true else (ix s aJ).bind fun aO =>
    some (decide ((aO.toNat : Int) > 57))).bind fun aM =>
    some (aM || decide (aJ = 15))) : Option (Bool)).bind fun aK =>
    if aK then
    some (Fl.ret 0)
    else
    (chk (InI (10 * ab))).bind fun _ =>
    (ix s aJ).bind fun aL =>
    (chk (InI ((10 * ab) + ((aL - (48 : UInt8)).toNat : Int)))).bind fun _ =>
    (chk (InI (aJ + 1))).bind fun _ =>
    Jcf s aN ((10 * ab) + ((aL - (48 : UInt8)).toNat : Int)) (aJ + 1)
    else
    some (Fl.go (ab, aJ))
def JcN (n : Nat) (s : Str) : Option (Int) :=
  (Jcf s n 0 0).bind fun s0 => s0.el some fun t0 =>
  some t0.1
def Ja6 (n : Nat) (name : Str) (x : Jq) (Ar : Js) : Option (Jq × Bool) :=
  if decide (name = ([112, 97, 114, 116] : Str)) then
  (JcS Ar.Ae).bind fun aO =>
  if ((decide (x.As = 2) && decide (x.N ≥ 0)) && decide (x.N < (aO.length : Int))) then
  (ix aO x.N).bind fun aQ =>
  (JaT aQ).bind fun aZ =>
  some (aZ, true)
  else
  (JaT ([] : Str)).bind fun aR =>
  some (aR, decide (x.As = 2))
  else
  if decide (name = ([116, 101, 120, 116] : Str)) then
  (Jbl n x.N).bind fun aY =>
  (JaT aY).bind fun aS =>
  some (aS, decide (x.As = 2))
  else
  if decide (name = ([104, 101, 97, 100, 101, 114] : Str)) then
  (JdZ Ar.Ao x.S).bind fun aU =>
  (JaT aU.1).bind fun aW =>
  some (aW, decide (x.As = 1))
  else
  if decide (name = ([104, 97, 115] : Str)) then
  (JdZ Ar.Ao x.S).bind fun aV =>
  (Jba aV.2).bind fun aT =>
  some (aT, decide (x.As = 1))
  else
  if decide (name = ([97, 114, 103] : Str)) then
  (JeJ (⟨([] : Str), ([] : Str), Ar.Af, true⟩ : Jdt) x.S).bind fun aP =>
  (JaT aP.1).bind fun aX =>
  some (aX, decide (x.As = 1))
  else
  if decide (name = ([108, 101, 110] : Str)) then
  (JbW (x.S.length : Int)).bind fun aJ =>
  some (aJ, decide (x.As = 1))
  else
  if decide (name = ([108, 111, 119, 101, 114] : Str)) then
  (Jb1 x.S).bind fun aK =>
  (JaT aK).bind fun aN =>
  some (aN, decide (x.As = 1))
  else
  (JcN n x.S).bind fun aM =>
  (JbW aM).bind fun aL =>
  some (aL, decide (x.As = 1))
def Jda (a : Int) (b : Int) : Option (Jq) :=
  ((if decide (a ≠ 0) then
  (chk (InI (-a))).bind fun _ =>
  (chk ((max a (-a)) ≠ 0 ∧ InI (Int.tdiv 2199023255552 (max a (-a))))).bind fun _ =>
  (if decide (b > (Int.tdiv 2199023255552 (max a (-a)))) then some true else (chk (InI (-a))).bind fun _ =>
  (chk ((max a (-a)) ≠ 0 ∧ InI (Int.tdiv 2199023255552 (max a (-a))))).bind fun _ =>
  (chk (InI (-(Int.tdiv 2199023255552 (max a (-a)))))).bind fun _ =>
  some (decide (b < (-(Int.tdiv 2199023255552 (max a (-a))))))).bind fun aK =>
  some aK
  else
  some false) : Option (Bool)).bind fun aJ =>
  if aJ then
  if ((decide (a > 0)) == (decide (b > 0))) then
  (JbW 1099511627776).bind fun aN =>
  some aN
  else
  (JbW (-1099511627776)).bind fun aM =>
  some aM
  else
  (chk (InI (a * b))).bind fun _ =>
  (JbW (a * b)).bind fun aL =>
  some aL
def JbR (t : Str) (s : Str) : Nat → Int → Option (Fl (Bool) (Int))
  | 0, _ => none
  | aJ + 1, ab =>
    (chk (InI (ab + (t.length : Int)))).bind fun _ =>
    if decide ((ab + (t.length : Int)) ≤ (s.length : Int)) then
    (chk (InI (ab + (t.length : Int)))).bind fun _ =>
    (chk (0 ≤ ab ∧ ab ≤ (ab + (t.length : Int)) ∧ (ab + (t.length : Int)) ≤ (s.length : Int))).bind fun _ =>
    if decide ((subL s ab (ab + (t.length : Int))) = t) then
    some (Fl.ret true)
    else
    (chk (InI (ab + 1))).bind fun _ =>
    JbR t s aJ (ab + 1)
    else
    some (Fl.go ab)
def JcT (n : Nat) (s : Str) (t : Str) : Option (Bool) :=
  (JbR t s n 0).bind fun s0 => s0.el some fun t0 =>
  some false
def JT (n : Nat) (op : Str) (a : Jq) (b : Jq) : Option (Jq × Bool) :=
  if decide (op = ([43] : Str)) then
  if (decide (a.As = 1) && decide (b.As = 1)) then
  (chk (a.S.length + b.S.length ≤ lim)).bind fun _ =>
  (JaT (a.S ++ b.S)).bind fun aV =>
  some (aV, true)
  else
  (chk (InI (a.N + b.N))).bind fun _ =>
  (JbW (a.N + b.N)).bind fun aW =>
  some (aW, (decide (a.As = 2) && decide (b.As = 2)))
  else
  if decide (op = ([45] : Str)) then
  (chk (InI (a.N - b.N))).bind fun _ =>
  (JbW (a.N - b.N)).bind fun aU =>
  some (aU, (decide (a.As = 2) && decide (b.As = 2)))
  else
  if decide (op = ([42] : Str)) then
  (Jda a.N b.N).bind fun aQ =>
  some (aQ, (decide (a.As = 2) && decide (b.As = 2)))
  else
  if decide (op = ([61, 61] : Str)) then
  (Jba (decide (a.As = b.As) && (decide (a.N = b.N) && (decide (a.S = b.S) && (a.Is == b.Is))))).bind fun aP =>
  some (aP, decide (a.As = b.As))
  else
  if decide (op = ([33, 61] : Str)) then
  (Jba (!(decide (a.As = b.As) && (decide (a.N = b.N) && (decide (a.S = b.S) && (a.Is == b.Is)))))).bind fun aS =>
  some (aS, decide (a.As = b.As))
  else
  if decide (op = ([60] : Str)) then
  (Jba (decide (a.N < b.N))).bind fun aR =>
  some (aR, (decide (a.As = 2) && decide (b.As = 2)))
  else
  if decide (op = ([60, 61] : Str)) then
  (Jba (decide (a.N ≤ b.N))).bind fun aT =>
  some (aT, (decide (a.As = 2) && decide (b.As = 2)))
  else
  if decide (op = ([115, 116, 97, 114, 116, 115] : Str)) then
  (if decide ((a.S.length : Int) ≥ (b.S.length : Int)) then (chk (0 ≤ (0 : Int) ∧ (0 : Int) ≤ (min (a.S.length : Int) (b.S.length : Int)) ∧ (min (a.S.length : Int) (b.S.length : Int)) ≤ (a.S.length : Int))).bind fun _ =>
  some (decide ((subL a.S (0 : Int) (min (a.S.length : Int) (b.S.length : Int))) = b.S)) else some false).bind fun aL =>
  (Jba aL).bind fun aN =>
  some (aN, (decide (a.As = 1) && decide (b.As = 1)))
  else
  if decide (op = ([101, 110, 100, 115] : Str)) then
  (if decide ((a.S.length : Int) ≥ (b.S.length : Int)) then (chk (InI ((a.S.length : Int) - (b.S.length : Int)))).bind fun _ =>
  (chk (0 ≤ (max 0 ((a.S.length : Int) - (b.S.length : Int))) ∧ (max 0 ((a.S.length : Int) - (b.S.length : Int))) ≤ (a.S.length : Int) ∧ (a.S.length : Int) ≤ (a.S.length : Int))).bind fun _ =>
  some (decide ((subL a.S (max 0 ((a.S.length : Int) - (b.S.length : Int))) (a.S.length : Int)) = b.S)) else some false).bind fun aO =>
  (Jba aO).bind fun aK =>
  some (aK, (decide (a.As = 1) && decide (b.As = 1)))
  else
  (JcT n a.S b.S).bind fun aJ =>
  (Jba aJ).bind fun aM =>
  some (aM, (decide (a.As = 1) && decide (b.As = 1)))
def JdI (c : UInt8) : List UInt8 → Nat → Option (Fl (Bool) (Unit))
  | [], _ => some (Fl.go ())
  | e0 :: aJ, i0 =>
    if decide ((e0.toNat : Int) = (c.toNat : Int)) then
    some (Fl.ret true)
    else
    JdI c aJ (i0 + 1)
def Jdb (c : UInt8) : Option (Bool) :=
  ((if (decide ((c.toNat : Int) ≥ 48) && decide ((c.toNat : Int) ≤ 57)) then
  some true
  else
  if (decide ((c.toNat : Int) ≥ 97) && decide ((c.toNat : Int) ≤ 122)) then
  some true
  else
  some (decide ((c.toNat : Int) ≥ 65) && decide ((c.toNat : Int) ≤ 90))) : Option (Bool)).bind fun aJ =>
  if aJ then
  some true
  else
  (chk (([33, 35, 36, 37, 38, 39, 42, 43, 45, 46, 94, 95, 96, 124, 126] : Str).length ≤ qav)).bind fun _ =>
  (JdI c ([33, 35, 36, 37, 38, 39, 42, 43, 45, 46, 94, 95, 96, 124, 126] : Str) 0).bind fun s0 => s0.el some fun t0 =>
  some false
def Jcm : List UInt8 → Nat → Option (Fl (Bool) (Unit))
  | [], _ => some (Fl.go ())
  | e0 :: aJ, i0 =>
    (Jdb e0).bind fun av =>
    if (!av) then
    some (Fl.ret false)
    else
    Jcm aJ (i0 + 1)
def JcD (s : Str) : Option (Bool) :=
  (chk (s.length ≤ qav)).bind fun _ =>
  (Jcm s 0).bind fun s0 => s0.el some fun t0 =>
  some (decide ((s.length : Int) > 0))
def Jdw (r' : Je) : Option (Ji) :=
  (Jds r'.Ag).bind fun x9 =>
  some (⟨r'.Ae, r'.Af, x9, r'.Vary, r'.Ah, r'.TTL, r'.Ai, r'.Aj, r'.Ak, r'.Al⟩ : Ji)
