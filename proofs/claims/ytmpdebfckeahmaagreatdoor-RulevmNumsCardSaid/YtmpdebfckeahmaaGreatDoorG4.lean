/- Mirrors that the plain texts speak of and this law does not reach. -/
import Derived.Test.YtmpdebfckeahmaaGreatDoorG3
set_option linter.unusedVariables false
set_option linter.unusedSimpArgs false
open Go Go.SL Go.Proofs
set_option maxRecDepth 1000000
structure Jw where
  Op : Int
  N : Int
  S : Str
structure Jk where
  Path : Str
  Query : Str
  Headers : (List Jj)
  Vary : (List Str)
  Tags : (List Str)
  TTL : Int
  Deny : Int
  Steps : Int
  Pass : Bool
  Token : Bool
structure Jx where
  reached : Bool
  depth : Int
  stored : (List Int)
structure Jl where
  stack : (List Ji)
  slots : (List Ji)
  atZ : Int
  r : Jk
  done : Bool
  code : Int
noncomputable def Jcc (code : (List Jw)) : Nat → Int → Int → Option (Int × Int)
  | 0, _, _ => none
  | xs0 + 1, y0_0, y0_1 =>
    if decide (y0_1 < (code.length : Int)) then
    (ix code y0_1).bind fun x14 =>
    Jcc code xs0 (IntKind.i64.wrap (y0_0 + (x14.S.length : Int))) (IntKind.i64.wrap (y0_1 + 1))
    else
    some (y0_0, y0_1)
noncomputable def law46_few (n : Nat) (code : (List Jw)) : Option (Bool) :=
  (Jcc code n 0 0).bind fun t0 =>
  some (decide ((code.length : Int) ≤ 300) && decide (t0.1 ≤ 12000))
noncomputable def JbX (inZ : Ju) : Nat → Int → Int → Option (Int × Int)
  | 0, _, _ => none
  | xs0 + 1, y0_0, y0_1 =>
    if decide (y0_1 < (inZ.Fields.length : Int)) then
    (ix inZ.Fields y0_1).bind fun x31 =>
    (ix inZ.Fields y0_1).bind fun x38 =>
    JbX inZ xs0 (IntKind.i64.wrap (y0_0 + (IntKind.i64.wrap ((x31.Name.length : Int) + (x38.Value.length : Int))))) (IntKind.i64.wrap (y0_1 + 1))
    else
    some (y0_0, y0_1)
noncomputable def JcI (n : Nat) (inZ : Ju) : Option (Bool) :=
  (JbX inZ n (IntKind.i64.wrap ((IntKind.i64.wrap ((IntKind.i64.wrap ((inZ.Method.length : Int) + (inZ.Host.length : Int))) + (inZ.Path.length : Int))) + (inZ.Query.length : Int))) 0).bind fun t0 =>
  some (decide (t0.1 ≤ 8000) && decide ((inZ.Fields.length : Int) ≤ 40))
noncomputable def JbY : List Jw → Nat → (List Je) → Option ((List Je))
  | [], _, y0_0 => some y0_0
  | e0 :: xs0, i0, y0_0 =>
    (chk (y0_0.length + [(⟨e0.Op, e0.N, e0.S⟩ : Je)].length ≤ lim)).bind fun _ =>
    JbY xs0 (i0 + 1) (y0_0 ++ [(⟨e0.Op, e0.N, e0.S⟩ : Je)])
noncomputable def JcJ (code : (List Jw)) : Option ((List Je)) :=
  (chk (code.length ≤ szMax)).bind fun _ =>
  (JbY code 0 []).bind fun t0 =>
  some t0
noncomputable def JbJ : List Jj → Nat → (List Jg) → Option ((List Jg))
  | [], _, y0_0 => some y0_0
  | e0 :: xs0, i0, y0_0 =>
    (chk (y0_0.length + [(⟨e0.Name, e0.Value⟩ : Jg)].length ≤ lim)).bind fun _ =>
    JbJ xs0 (i0 + 1) (y0_0 ++ [(⟨e0.Name, e0.Value⟩ : Jg)])
noncomputable def JcF (l : (List Jj)) : Option ((List Jg)) :=
  (chk (l.length ≤ szMax)).bind fun _ =>
  (JbJ l 0 []).bind fun t0 =>
  some t0
noncomputable def JcH (inZ : Ju) : Option (Jt) :=
  (JcF inZ.Fields).bind fun x13 =>
  some (⟨inZ.Method, inZ.Host, inZ.Path, inZ.Query, x13⟩ : Jt)
noncomputable def Jao : List UInt8 → Nat → Option (Fl (Bool) (Unit))
  | [], _ => some (Fl.go ())
  | e0 :: xs0, i0 =>
    (if decide ((e0.toNat : Int) < 32) then some true else some (decide ((e0.toNat : Int) > 126))).bind fun x18 =>
    if x18 then
    some (Fl.ret false)
    else
    Jao xs0 (i0 + 1)
noncomputable def JaX (s : Str) : Option (Bool) :=
  (chk (s.length ≤ szMax)).bind fun _ =>
  (Jao s 0).bind fun s0 => s0.el some fun t0 =>
  some true
noncomputable def Ja1 (s : Str) : Option (Bool) :=
  some (((decide (s = ([109, 101, 116, 104, 111, 100] : Str)) || decide (s = ([104, 111, 115, 116] : Str))) || decide (s = ([112, 97, 116, 104] : Str))) || decide (s = ([113, 117, 101, 114, 121] : Str)))
noncomputable def Jbn (s : Str) : Option (Int × Int × Bool) :=
  if decide (s = ([104, 101, 97, 100, 101, 114] : Str)) then
  some (1, 1, true)
  else
  if decide (s = ([97, 114, 103] : Str)) then
  some (1, 1, true)
  else
  if decide (s = ([108, 111, 119, 101, 114] : Str)) then
  some (1, 1, true)
  else
  if decide (s = ([104, 97, 115] : Str)) then
  some (1, 3, true)
  else
  if decide (s = ([108, 101, 110] : Str)) then
  some (1, 2, true)
  else
  if decide (s = ([110, 117, 109, 98, 101, 114] : Str)) then
  some (1, 2, true)
  else
  if decide (s = ([112, 97, 114, 116] : Str)) then
  some (2, 1, true)
  else
  if decide (s = ([116, 101, 120, 116] : Str)) then
  some (2, 1, true)
  else
  some (0, 0, false)
noncomputable def Ja6 (s : Str) : List Str → Nat → Option (Fl (Bool) (Unit))
  | [], _ => some (Fl.go ())
  | e0 :: xs0, i0 =>
    if decide (e0 = s) then
    some (Fl.ret true)
    else
    Ja6 s xs0 (i0 + 1)
noncomputable def Ja7 (s : Str) (list : (List Str)) : Option (Bool) :=
  (chk (list.length ≤ szMax)).bind fun _ =>
  (Ja6 s list 0).bind fun s0 => s0.el some fun t0 =>
  some false
noncomputable def JaQ (s : Str) (word : Str) : Option (Bool) :=
  (if decide ((s.length : Int) ≥ (word.length : Int)) then (chk (0 ≤ (0 : Int) ∧ (0 : Int) ≤ (word.length : Int) ∧ (word.length : Int) ≤ (s.length : Int))).bind fun _ =>
  some (decide ((subL s (0 : Int) (word.length : Int)) = word)) else some false).bind fun x17 =>
  (if x17 then (JaX s).bind fun x20 =>
  some x20 else some false).bind fun x21 =>
  some x21
noncomputable def Ja8 (x : Jw) : Option (Int × Int × Bool) :=
  if decide (x.Op = 1) then
  some (0, 1, ((decide (x.S = ([] : Str)) && decide (x.N ≥ 0)) && decide (x.N ≤ 999999999)))
  else
  if decide (x.Op = 2) then
  (if decide (x.N = 0) then (JaX x.S).bind fun x49 =>
  some x49 else some false).bind fun x50 =>
  some (0, 1, x50)
  else
  if decide (x.Op = 3) then
  some (0, 1, ((decide (x.S = ([] : Str)) && decide (x.N ≥ 0)) && decide (x.N < 512)))
  else
  if decide (x.Op = 4) then
  some (1, 0, ((decide (x.S = ([] : Str)) && decide (x.N ≥ 0)) && decide (x.N < 512)))
  else
  if decide (x.Op = 5) then
  (if decide (x.N = 0) then (Ja1 x.S).bind fun x63 =>
  some x63 else some false).bind fun x64 =>
  some (0, 1, x64)
  else
  if decide (x.Op = 6) then
  (Jbn x.S).bind fun x70 =>
  some (1, 1, (decide (x.N = 0) && x70.2.2))
  else
  if decide (x.Op = 7) then
  (if decide (x.N = 0) then (Ja7 x.S ([([43] : Str), ([45] : Str), ([42] : Str), ([61, 61] : Str), ([33, 61] : Str), ([60] : Str), ([60, 61] : Str), ([115, 116, 97, 114, 116, 115] : Str), ([101, 110, 100, 115] : Str), ([99, 111, 110, 116, 97, 105, 110, 115] : Str)])).bind fun x85 =>
  some x85 else some false).bind fun x86 =>
  some (2, 1, x86)
  else
  if decide (x.Op = 8) then
  some (1, 1, (decide (x.S = ([] : Str)) && decide (x.N = 0)))
  else
  if decide (x.Op = 9) then
  some (0, 0, decide (x.S = ([] : Str)))
  else
  if decide (x.Op = 10) then
  some (1, 0, decide (x.S = ([] : Str)))
  else
  if decide (x.Op = 11) then
  (Ja7 x.S ([([112, 97, 115, 115] : Str), ([116, 111, 107, 101, 110] : Str)])).bind fun x104 =>
  (if x104 then some true else (JaQ x.S ([118, 97, 114, 121, 58] : Str)).bind fun x108 =>
  some x108).bind fun x109 =>
  if x109 then
  some (0, 0, decide (x.N = 0))
  else
  if decide (x.N = 0) then
  (Ja7 x.S ([([112, 97, 116, 104] : Str), ([113, 117, 101, 114, 121] : Str), ([116, 97, 103] : Str), ([116, 116, 108] : Str), ([100, 101, 110, 121] : Str)])).bind fun x116 =>
  (if x116 then some true else (JaQ x.S ([104, 101, 97, 100, 101, 114, 58] : Str)).bind fun x120 =>
  some x120).bind fun x121 =>
  some (1, 0, x121)
  else
  some (1, 0, false)
  else
  if decide (x.Op = 12) then
  some (0, 0, (decide (x.S = ([] : Str)) && decide (x.N = 0)))
  else
  some (0, 0, false)
noncomputable def Jac (e0 : Int) : List Int → Nat → (List Int) → Option ((List Int))
  | [], _, y2_0 => some y2_0
  | e2 :: xs2, i2, y2_0 =>
    if decide (e0 = e2) then
    (chk (y2_0.length + [e0].length ≤ lim)).bind fun _ =>
    Jac e0 xs2 (i2 + 1) (y2_0 ++ [e0])
    else
    Jac e0 xs2 (i2 + 1) y2_0
noncomputable def JaY (b : (List Int)) : List Int → Nat → (List Int) → Option ((List Int))
  | [], _, y0_0 => some y0_0
  | e0 :: xs0, i0, y0_0 =>
    (chk (b.length ≤ szMax)).bind fun _ =>
    (Jac e0 b 0 y0_0).bind fun t2 =>
    JaY b xs0 (i0 + 1) t2
noncomputable def Jbt (a : (List Int)) (b : (List Int)) : Option ((List Int)) :=
  (chk (a.length ≤ szMax)).bind fun _ =>
  (JaY b a 0 []).bind fun t0 =>
  some t0
noncomputable def Jbj (b : (List Int)) : List Int → Nat → Option (Fl (Bool) (Unit))
  | [], _ => some (Fl.go ())
  | e0 :: xs0, i0 =>
    (ix b (i0 : Int)).bind fun x22 =>
    if decide (e0 ≠ x22) then
    some (Fl.ret false)
    else
    Jbj b xs0 (i0 + 1)
noncomputable def JbK (a : (List Int)) (b : (List Int)) : Option (Bool) :=
  if decide ((a.length : Int) ≠ (b.length : Int)) then
  some false
  else
  (chk (a.length ≤ szMax)).bind fun _ =>
  (Jbj b a 0).bind fun s0 => s0.el some fun t0 =>
  some true
noncomputable def J6 (n' : Int) : List Int → Nat → (List Int) → Bool → Option ((List Int) × Bool)
  | [], _, y0_0, y0_1 => some (y0_0, y0_1)
  | e0 :: xs0, i0, y0_0, y0_1 =>
    if ((!y0_1) && decide (n' ≤ e0)) then
    (chk (y0_0.length + [n'].length ≤ lim)).bind fun _ =>
    if decide (e0 ≠ n') then
    (chk ((y0_0 ++ [n']).length + [e0].length ≤ lim)).bind fun _ =>
    J6 n' xs0 (i0 + 1) ((y0_0 ++ [n']) ++ [e0]) true
    else
    J6 n' xs0 (i0 + 1) (y0_0 ++ [n']) true
    else
    if decide (e0 ≠ n') then
    (chk (y0_0.length + [e0].length ≤ lim)).bind fun _ =>
    J6 n' xs0 (i0 + 1) (y0_0 ++ [e0]) y0_1
    else
    J6 n' xs0 (i0 + 1) y0_0 y0_1
noncomputable def JbM (l : (List Int)) (n' : Int) : Option ((List Int)) :=
  (chk (l.length ≤ szMax)).bind fun _ =>
  (J6 n' l 0 [] false).bind fun t0 =>
  if (!t0.2) then
  (chk (t0.1.length + [n'].length ≤ lim)).bind fun _ =>
  some (t0.1 ++ [n'])
  else
  some t0.1
noncomputable def Jbk (s : Jx) (depth : Int) (stored : (List Int)) : Option (Jx × Bool) :=
  if (!s.reached) then
  some ((⟨true, depth, stored⟩ : Jx), true)
  else
  (Jbt s.stored stored).bind fun x18 =>
  some ((⟨true, depth, x18⟩ : Jx), decide (s.depth = depth))
noncomputable def JB (i0 : Nat) (code : (List Jw)) (e0 : Jw) (x48 : Jx) (x42 : Int × Int × Bool) (t908 : (List Int)) : List Int → Nat → (List Jx) → Option (Fl (Int × Bool) ((List Jx)))
  | [], _, y2_0 => some (Fl.go y2_0)
  | e2 :: xs2, i2, y2_0 =>
    if decide (e2 ≤ (i0 : Int)) then
    some (Fl.ret (0, false))
    else
    if (decide (e2 ≥ (code.length : Int)) && decide (e0.Op ≠ 12)) then
    some (Fl.ret (0, false))
    else
    (ix y2_0 e2).bind fun x162 =>
    (Jbk x162 ((x48.depth - x42.1) + x42.2.1) t908).bind fun x166 =>
    (ix y2_0 e2).bind fun x169 =>
    if (!x166.2) then
    some (Fl.ret (0, false))
    else
    JB i0 code e0 x48 x42 t908 xs2 (i2 + 1) (y2_0.set ((e2).toNat) x166.1)
noncomputable def JaN (code : (List Jw)) : List Jw → Nat → Int → (List Jx) → Option (Fl (Int × Bool) (Int × (List Jx)))
  | [], _, y0_0, y0_1 => some (Fl.go (y0_0, y0_1))
  | e0 :: xs0, i0, y0_0, y0_1 =>
    (Ja8 e0).bind fun x42 =>
    (ix y0_1 (i0 : Int)).bind fun x48 =>
    (if (((!x42.2.2) || (!x48.reached)) || decide (x48.depth < x42.1)) then some true else (chk (InI ((code.length : Int) - 1))).bind fun _ =>
    some (!((decide (e0.Op = 12)) == (decide ((i0 : Int) = ((code.length : Int) - 1)))))).bind fun x73 =>
    if x73 then
    some (Fl.ret (0, false))
    else
    if (decide (e0.Op = 12) && decide (x48.depth > 0)) then
    some (Fl.ret (0, false))
    else
    (if decide (e0.Op = 3) then (Jbt x48.stored [e0.N]).bind fun x93 =>
    (JbK x93 [e0.N]).bind fun x97 =>
    some (!x97) else some false).bind fun t926 =>
    if t926 then
    some (Fl.ret (0, false))
    else
    (chk (InI (x48.depth - x42.1))).bind fun _ =>
    (chk (InI ((x48.depth - x42.1) + x42.2.1))).bind fun _ =>
    ((if decide (e0.Op = 4) then
    (JbM x48.stored e0.N).bind fun x114 =>
    some x114
    else
    some x48.stored : Option ((List Int)))).bind fun t928 =>
    ((if decide (e0.Op = 9) then
    some [e0.N]
    else
    some [((i0 : Int) + 1)] : Option ((List Int)))).bind fun t930 =>
    ((if decide (e0.Op = 10) then
    (chk (t930.length + [e0.N].length ≤ lim)).bind fun _ =>
    some (t930 ++ [e0.N])
    else
    some t930 : Option ((List Int)))).bind fun t932 =>
    (chk (t932.length ≤ szMax)).bind fun _ =>
    (JB i0 code e0 x48 x42 t928 t932 0 y0_1).bind fun s2 => s2.el (fun r => some (Fl.ret r)) fun t2 =>
    JaN code xs0 (i0 + 1) (max (max y0_0 x48.depth) ((x48.depth - x42.1) + x42.2.1)) t2
noncomputable def JbS (code : (List Jw)) : Option (Int × Bool) :=
  if (decide ((code.length : Int) < 1) || decide ((code.length : Int) > 2048)) then
  some (0, false)
  else
  (chk (InI ((code.length : Int) + 1))).bind fun _ =>
  (chk ((0 : Int) ≤ ((code.length : Int) + 1) ∧ ((code.length : Int) + 1) ≤ (lim : Int))).bind fun _ =>
  (ix (List.replicate (Int.toNat ((code.length : Int) + 1)) ((⟨false, 0, []⟩ : Jx) : Jx)) 0).bind fun x31 =>
  (chk (code.length ≤ szMax)).bind fun _ =>
  (JaN code code 0 0 ((List.replicate (Int.toNat ((code.length : Int) + 1)) ((⟨false, 0, []⟩ : Jx) : Jx)).set ((0 : Int).toNat) (⟨true, x31.depth, x31.stored⟩ : Jx))).bind fun s0 => s0.el some fun t0 =>
  some (t0.1, true)
noncomputable def Jco (inZ : Ju) : Option (Jk) :=
  some (⟨inZ.Path, inZ.Query, [], [], [], (-1), 0, 0, false, false⟩ : Jk)
noncomputable def Jbu (m : Jl) (e : Int) : Option (Jl) :=
  some (⟨m.stack, m.slots, m.atZ, m.r, m.done, e⟩ : Jl)
noncomputable def JbT (x : Jw) (v' : Ji) : Option (Bool) :=
  if decide (v'.TypeZ = 1) then
  some (decide (x.Op = 7) || decide (x.Op = 6))
  else
  some false
noncomputable def Jaz (m : Jl) (x : Jw) (v' : Ji) (most : Int) : Option (Jl) :=
  if decide ((v'.S.length : Int) > 2048) then
  (Jbu m 5).bind fun x14 =>
  some x14
  else
  (JbT x v').bind fun x17 =>
  if x17 then
  (chk ((64 : Int) ≠ 0 ∧ InI (Int.tdiv (v'.S.length : Int) 64))).bind fun _ =>
  (chk (InI (m.r.Steps + (Int.tdiv (v'.S.length : Int) 64)))).bind fun _ =>
  if decide ((m.r.Steps + (Int.tdiv (v'.S.length : Int) 64)) > most) then
  (Jbu (⟨m.stack, m.slots, m.atZ, (⟨m.r.Path, m.r.Query, m.r.Headers, m.r.Vary, m.r.Tags, m.r.TTL, m.r.Deny, (m.r.Steps + (Int.tdiv (v'.S.length : Int) 64)), m.r.Pass, m.r.Token⟩ : Jk), m.done, m.code⟩ : Jl) 13).bind fun x34 =>
  some x34
  else
  (chk (m.stack.length ≤ lim)).bind fun _ =>
  (chk (m.stack.length + [v'].length ≤ lim)).bind fun _ =>
  some (⟨(m.stack ++ [v']), m.slots, m.atZ, (⟨m.r.Path, m.r.Query, m.r.Headers, m.r.Vary, m.r.Tags, m.r.TTL, m.r.Deny, (m.r.Steps + (Int.tdiv (v'.S.length : Int) 64)), m.r.Pass, m.r.Token⟩ : Jk), m.done, m.code⟩ : Jl)
  else
  (chk (m.stack.length ≤ lim)).bind fun _ =>
  (chk (m.stack.length + [v'].length ≤ lim)).bind fun _ =>
  some (⟨(m.stack ++ [v']), m.slots, m.atZ, m.r, m.done, m.code⟩ : Jl)
noncomputable def Jbw (name : Str) (inZ : Ju) : Option (Ji) :=
  if decide (name = ([109, 101, 116, 104, 111, 100] : Str)) then
  (J1 inZ.Method).bind fun x10 =>
  some x10
  else
  if decide (name = ([104, 111, 115, 116] : Str)) then
  (J1 inZ.Host).bind fun x15 =>
  some x15
  else
  if decide (name = ([112, 97, 116, 104] : Str)) then
  (J1 inZ.Path).bind fun x20 =>
  some x20
  else
  (J1 inZ.Query).bind fun x23 =>
  some x23
noncomputable def Jbd (l : (List Str)) (s : Str) : Nat → Int → Option (Fl ((List Str)) (Int))
  | 0, _ => none
  | xs0 + 1, y0_0 =>
    if decide (y0_0 < (l.length : Int)) then
    (ix l y0_0).bind fun x14 =>
    if decide (x14 = s) then
    some (Fl.ret l)
    else
    (chk (InI (y0_0 + 1))).bind fun _ =>
    Jbd l s xs0 (y0_0 + 1)
    else
    some (Fl.go y0_0)
noncomputable def JbN (n : Nat) (l : (List Str)) (s : Str) : Option ((List Str)) :=
  (Jbd l s n 0).bind fun s0 => s0.el some fun t0 =>
  (chk (([] : List Str).length + l.length ≤ lim)).bind fun _ =>
  (chk ((([] : List Str) ++ l).length + [s].length ≤ lim)).bind fun _ =>
  some ((([] : List Str) ++ l) ++ [s])
noncomputable def JbP (c : UInt8) : List UInt8 → Nat → Option (Fl (Bool) (Unit))
  | [], _ => some (Fl.go ())
  | e0 :: xs0, i0 =>
    if decide ((e0.toNat : Int) = (c.toNat : Int)) then
    some (Fl.ret true)
    else
    JbP c xs0 (i0 + 1)
noncomputable def Jbx (c : UInt8) : Option (Bool) :=
  ((if (decide ((c.toNat : Int) ≥ 48) && decide ((c.toNat : Int) ≤ 57)) then
  some true
  else
  if (decide ((c.toNat : Int) ≥ 97) && decide ((c.toNat : Int) ≤ 122)) then
  some true
  else
  some (decide ((c.toNat : Int) ≥ 65) && decide ((c.toNat : Int) ≤ 90))) : Option (Bool)).bind fun t901 =>
  if t901 then
  some true
  else
  (chk (([33, 35, 36, 37, 38, 39, 42, 43, 45, 46, 94, 95, 96, 124, 126] : Str).length ≤ szMax)).bind fun _ =>
  (JbP c ([33, 35, 36, 37, 38, 39, 42, 43, 45, 46, 94, 95, 96, 124, 126] : Str) 0).bind fun s0 => s0.el some fun t0 =>
  some false
noncomputable def Ja2 : List UInt8 → Nat → Option (Fl (Bool) (Unit))
  | [], _ => some (Fl.go ())
  | e0 :: xs0, i0 =>
    (Jbx e0).bind fun x12 =>
    if (!x12) then
    some (Fl.ret false)
    else
    Ja2 xs0 (i0 + 1)
noncomputable def Jbh (s : Str) : Option (Bool) :=
  (chk (s.length ≤ szMax)).bind fun _ =>
  (Ja2 s 0).bind fun s0 => s0.el some fun t0 =>
  some (decide ((s.length : Int) > 0))
noncomputable def Jb7 (s : Str) : Option (Str × Int) :=
  (Jbh s).bind fun x5 =>
  if (!x5) then
  some (([] : Str), 8)
  else
  if decide ((s.length : Int) > 64) then
  some (([] : Str), 5)
  else
  (Jay s).bind fun x11 =>
  some (x11, 0)
noncomputable def JaP : List UInt8 → Nat → Option (Fl (Bool) (Unit))
  | [], _ => some (Fl.go ())
  | e0 :: xs0, i0 =>
    (if decide ((e0.toNat : Int) < 32) then some (decide ((e0.toNat : Int) ≠ 9)) else some false).bind fun x18 =>
    (if x18 then some true else some (decide ((e0.toNat : Int) = 127))).bind fun x24 =>
    if x24 then
    some (Fl.ret true)
    else
    JaP xs0 (i0 + 1)
noncomputable def Jby (s : Str) : Option (Bool) :=
  (chk (s.length ≤ szMax)).bind fun _ =>
  (JaP s 0).bind fun s0 => s0.el some fun t0 =>
  some false
noncomputable def JaZ : Nat → Str → Option (Str)
  | 0, _ => none
  | xs0 + 1, y0_0 =>
    if decide ((y0_0.length : Int) > 0) then
    (ix y0_0 0).bind fun x8 =>
    (if decide ((x8.toNat : Int) = 32) then some true else (ix y0_0 0).bind fun x12 =>
    some (decide ((x12.toNat : Int) = 9))).bind fun x14 =>
    if x14 then
    (chk (0 ≤ (1 : Int) ∧ (1 : Int) ≤ (y0_0.length : Int) ∧ (y0_0.length : Int) ≤ (y0_0.length : Int))).bind fun _ =>
    JaZ xs0 (subL y0_0 (1 : Int) (y0_0.length : Int))
    else
    some y0_0
    else
    some y0_0
noncomputable def Ja0 : Nat → Str → Option (Str)
  | 0, _ => none
  | xs2 + 1, y2_0 =>
    if decide ((y2_0.length : Int) > 0) then
    (chk (InI ((y2_0.length : Int) - 1))).bind fun _ =>
    (ix y2_0 ((y2_0.length : Int) - 1)).bind fun x26 =>
    (if decide ((x26.toNat : Int) = 32) then some true else (chk (InI ((y2_0.length : Int) - 1))).bind fun _ =>
    (ix y2_0 ((y2_0.length : Int) - 1)).bind fun x33 =>
    some (decide ((x33.toNat : Int) = 9))).bind fun x35 =>
    if x35 then
    (chk (InI ((y2_0.length : Int) - 1))).bind fun _ =>
    (chk (0 ≤ (0 : Int) ∧ (0 : Int) ≤ ((y2_0.length : Int) - 1) ∧ ((y2_0.length : Int) - 1) ≤ (y2_0.length : Int))).bind fun _ =>
    Ja0 xs2 (subL y2_0 (0 : Int) ((y2_0.length : Int) - 1))
    else
    some y2_0
    else
    some y2_0
noncomputable def Jb8 (n : Nat) (s : Str) : Option (Str) :=
  (JaZ n s).bind fun t0 =>
  (Ja0 n t0).bind fun t2 =>
  some t2
noncomputable def JbU (n : Nat) (s : Str) : Option (Str × Int) :=
  (Jby s).bind fun x5 =>
  if x5 then
  some (([] : Str), 2)
  else
  (Jb8 n s).bind fun x7 =>
  if decide ((x7.length : Int) > 2048) then
  some (([] : Str), 5)
  else
  some (x7, 0)
noncomputable def JbZ (f : (List Jj)) (name : Str) (value : Str) : Option ((List Jj)) :=
  (chk (([] : List Jj).length + f.length ≤ lim)).bind fun _ =>
  (Jay name).bind fun x11 =>
  (chk ((([] : List Jj) ++ f).length + [(⟨x11, value⟩ : Jj)].length ≤ lim)).bind fun _ =>
  some ((([] : List Jj) ++ f) ++ [(⟨x11, value⟩ : Jj)])
noncomputable def Jau (name : Str) : List Jj → Nat → (List Jj) → Option ((List Jj))
  | [], _, y0_0 => some y0_0
  | e0 :: xs0, i0, y0_0 =>
    (Jbi e0 name).bind fun x17 =>
    if (!x17) then
    (chk (y0_0.length + [e0].length ≤ lim)).bind fun _ =>
    Jau name xs0 (i0 + 1) (y0_0 ++ [e0])
    else
    Jau name xs0 (i0 + 1) y0_0
noncomputable def JbL (f : (List Jj)) (name : Str) : Option ((List Jj)) :=
  (chk (f.length ≤ szMax)).bind fun _ =>
  (Jau name f 0 []).bind fun t0 =>
  some t0
noncomputable def Jbl (name : Str) (f : (List Jj)) (value : Str) : List Jj → Nat → Option (Fl ((List Jj)) (Unit))
  | [], _ => some (Fl.go ())
  | e0 :: xs0, i0 =>
    (Jbi e0 name).bind fun x18 =>
    if x18 then
    (chk (0 ≤ (0 : Int) ∧ (0 : Int) ≤ (i0 : Int) ∧ (i0 : Int) ≤ (f.length : Int))).bind fun _ =>
    (JbZ (subL f (0 : Int) (i0 : Int)) name value).bind fun x24 =>
    (chk (0 ≤ ((i0 : Int) + 1) ∧ ((i0 : Int) + 1) ≤ (f.length : Int) ∧ (f.length : Int) ≤ (f.length : Int))).bind fun _ =>
    (JbL (subL f ((i0 : Int) + 1) (f.length : Int)) name).bind fun x30 =>
    (chk (x24.length + x30.length ≤ lim)).bind fun _ =>
    some (Fl.ret (x24 ++ x30))
    else
    Jbl name f value xs0 (i0 + 1)
noncomputable def Jcp (f : (List Jj)) (name : Str) (value : Str) : Option ((List Jj)) :=
  (chk (f.length ≤ szMax)).bind fun _ =>
  (Jbl name f value f 0).bind fun s0 => s0.el some fun t0 =>
  (JbZ f name value).bind fun x36 =>
  some x36
noncomputable def JbV (n : Nat) (r' : Jk) (s : Str) (x : Ji) : Option (Jk × Int) :=
  (chk (0 ≤ (0 : Int) ∧ (0 : Int) ≤ (5 : Int) ∧ (5 : Int) ≤ (s.length : Int))).bind fun _ =>
  ((if decide ((subL s (0 : Int) (5 : Int)) ≠ ([118, 97, 114, 121, 58] : Str)) then
  some 7
  else
  some 5 : Option (Int))).bind fun t901 =>
  (chk (0 ≤ t901 ∧ t901 ≤ (s.length : Int) ∧ (s.length : Int) ≤ (s.length : Int))).bind fun _ =>
  (Jb7 (subL s t901 (s.length : Int))).bind fun x21 =>
  if decide (x21.2 ≠ 0) then
  some (r', 8)
  else
  if decide (t901 = 5) then
  (JbN n r'.Vary x21.1).bind fun x32 =>
  some ((⟨r'.Path, r'.Query, r'.Headers, x32, r'.Tags, r'.TTL, r'.Deny, r'.Steps, r'.Pass, r'.Token⟩ : Jk), 0)
  else
  (JbU n x.S).bind fun x38 =>
  if decide (x38.2 ≠ 0) then
  some (r', x38.2)
  else
  (Jcp r'.Headers x21.1 x38.1).bind fun x49 =>
  some ((⟨r'.Path, r'.Query, x49, r'.Vary, r'.Tags, r'.TTL, r'.Deny, r'.Steps, r'.Pass, r'.Token⟩ : Jk), 0)
noncomputable def Jcy (n : Nat) (r' : Jk) (s : Str) (x : Ji) : Option (Jk × Int) :=
  ((((if (decide (s = ([112, 97, 115, 115] : Str)) || decide (s = ([116, 111, 107, 101, 110] : Str))) then
  some true
  else
  (if decide ((s.length : Int) > 5) then (chk (0 ≤ (0 : Int) ∧ (0 : Int) ≤ (5 : Int) ∧ (5 : Int) ≤ (s.length : Int))).bind fun _ =>
  some (decide ((subL s (0 : Int) (5 : Int)) = ([118, 97, 114, 121, 58] : Str))) else some false).bind fun x24 =>
  some (x24 || decide (s = ([118, 97, 114, 121, 58] : Str)))) : Option (Bool)).bind fun t902 =>
  if t902 then
  some 0
  else
  if (decide (s = ([116, 116, 108] : Str)) || decide (s = ([100, 101, 110, 121] : Str))) then
  some 2
  else
  some 1 : Option (Int))).bind fun t901 =>
  if decide (x.TypeZ ≠ t901) then
  some (r', 9)
  else
  ((if decide (s = ([112, 97, 116, 104] : Str)) then
  some (Fl.go (x.S, r'.Query, r'.Tags, r'.TTL, r'.Deny, r'.Pass, r'.Token))
  else
  if decide (s = ([113, 117, 101, 114, 121] : Str)) then
  some (Fl.go (r'.Path, x.S, r'.Tags, r'.TTL, r'.Deny, r'.Pass, r'.Token))
  else
  if decide (s = ([116, 97, 103] : Str)) then
  (JbN n r'.Tags x.S).bind fun x65 =>
  some (Fl.go (r'.Path, r'.Query, x65, r'.TTL, r'.Deny, r'.Pass, r'.Token))
  else
  if decide (s = ([116, 116, 108] : Str)) then
  some (Fl.go (r'.Path, r'.Query, r'.Tags, (max x.N 0), r'.Deny, r'.Pass, r'.Token))
  else
  if decide (s = ([100, 101, 110, 121] : Str)) then
  if (decide (x.N < 400) || decide (x.N > 499)) then
  some (Fl.go (r'.Path, r'.Query, r'.Tags, r'.TTL, 403, r'.Pass, r'.Token))
  else
  some (Fl.go (r'.Path, r'.Query, r'.Tags, r'.TTL, x.N, r'.Pass, r'.Token))
  else
  if decide (s = ([112, 97, 115, 115] : Str)) then
  some (Fl.go (r'.Path, r'.Query, r'.Tags, r'.TTL, r'.Deny, true, r'.Token))
  else
  if decide (s = ([116, 111, 107, 101, 110] : Str)) then
  some (Fl.go (r'.Path, r'.Query, r'.Tags, r'.TTL, r'.Deny, r'.Pass, true))
  else
  (JbV n r' s x).bind fun x46 =>
  some (Fl.ret (x46.1, x46.2)) : Option (Fl (Jk × Int) (Str × Str × (List Str) × Int × Int × Bool × Bool)))).bind fun s906 => s906.el some fun t906 =>
  some ((⟨t906.1, t906.2.1, r'.Headers, r'.Vary, t906.2.2.1, t906.2.2.2.1, t906.2.2.2.2.1, r'.Steps, t906.2.2.2.2.2.1, t906.2.2.2.2.2.2⟩ : Jk), 0)
noncomputable def Jbv (n : Nat) (m : Jl) (x : Jw) (inZ : Ju) (most : Int) : Option (Jl) :=
  (chk (InI (m.r.Steps + 1))).bind fun _ =>
  if decide ((m.r.Steps + 1) > most) then
  (Jbu (⟨m.stack, m.slots, m.atZ, (⟨m.r.Path, m.r.Query, m.r.Headers, m.r.Vary, m.r.Tags, m.r.TTL, m.r.Deny, (m.r.Steps + 1), m.r.Pass, m.r.Token⟩ : Jk), m.done, m.code⟩ : Jl) 13).bind fun x31 =>
  some x31
  else
  (Ja8 x).bind fun x34 =>
  (chk (InI ((m.stack.length : Int) - x34.1))).bind fun _ =>
  ((if decide (x34.1 > 0) then
  (chk (InI ((m.stack.length : Int) - 1))).bind fun _ =>
  (ix m.stack ((m.stack.length : Int) - 1)).bind fun x51 =>
  some (x51.TypeZ, x51.N, x51.S, x51.Is)
  else
  some (0, 0, ([] : Str), false) : Option (Int × Int × Str × Bool))).bind fun t902 =>
  ((if decide (x34.1 > 1) then
  (ix m.stack ((m.stack.length : Int) - x34.1)).bind fun x58 =>
  some (x58.TypeZ, x58.N, x58.S, x58.Is)
  else
  some (0, 0, ([] : Str), false) : Option (Int × Int × Str × Bool))).bind fun t904 =>
  (chk (0 ≤ (0 : Int) ∧ (0 : Int) ≤ ((m.stack.length : Int) - x34.1) ∧ ((m.stack.length : Int) - x34.1) ≤ (m.stack.length : Int))).bind fun _ =>
  (chk (InI (m.atZ + 1))).bind fun _ =>
  ((if decide (x.Op = 1) then
  (JaE x.N).bind fun x80 =>
  (Jaz (⟨(subL m.stack (0 : Int) ((m.stack.length : Int) - x34.1)), m.slots, (m.atZ + 1), (⟨m.r.Path, m.r.Query, m.r.Headers, m.r.Vary, m.r.Tags, m.r.TTL, m.r.Deny, (m.r.Steps + 1), m.r.Pass, m.r.Token⟩ : Jk), m.done, m.code⟩ : Jl) x x80 most).bind fun x82 =>
  some (Fl.ret x82)
  else
  if decide (x.Op = 2) then
  (J1 x.S).bind fun x89 =>
  (Jaz (⟨(subL m.stack (0 : Int) ((m.stack.length : Int) - x34.1)), m.slots, (m.atZ + 1), (⟨m.r.Path, m.r.Query, m.r.Headers, m.r.Vary, m.r.Tags, m.r.TTL, m.r.Deny, (m.r.Steps + 1), m.r.Pass, m.r.Token⟩ : Jk), m.done, m.code⟩ : Jl) x x89 most).bind fun x91 =>
  some (Fl.ret x91)
  else
  if decide (x.Op = 3) then
  (ix m.slots x.N).bind fun x100 =>
  (Jaz (⟨(subL m.stack (0 : Int) ((m.stack.length : Int) - x34.1)), m.slots, (m.atZ + 1), (⟨m.r.Path, m.r.Query, m.r.Headers, m.r.Vary, m.r.Tags, m.r.TTL, m.r.Deny, (m.r.Steps + 1), m.r.Pass, m.r.Token⟩ : Jk), m.done, m.code⟩ : Jl) x x100 most).bind fun x103 =>
  some (Fl.ret x103)
  else
  if decide (x.Op = 5) then
  (Jbw x.S inZ).bind fun x111 =>
  (Jaz (⟨(subL m.stack (0 : Int) ((m.stack.length : Int) - x34.1)), m.slots, (m.atZ + 1), (⟨m.r.Path, m.r.Query, m.r.Headers, m.r.Vary, m.r.Tags, m.r.TTL, m.r.Deny, (m.r.Steps + 1), m.r.Pass, m.r.Token⟩ : Jk), m.done, m.code⟩ : Jl) x x111 most).bind fun x113 =>
  some (Fl.ret x113)
  else
  if decide (x.Op = 4) then
  (chk (([] : List Ji).length + m.slots.length ≤ lim)).bind fun _ =>
  (ix (([] : List Ji) ++ m.slots) x.N).bind fun x126 =>
  some (Fl.ret (⟨(subL m.stack (0 : Int) ((m.stack.length : Int) - x34.1)), ((([] : List Ji) ++ m.slots).set ((x.N).toNat) (⟨t902.1, t902.2.1, t902.2.2.1, t902.2.2.2⟩ : Ji)), (m.atZ + 1), (⟨m.r.Path, m.r.Query, m.r.Headers, m.r.Vary, m.r.Tags, m.r.TTL, m.r.Deny, (m.r.Steps + 1), m.r.Pass, m.r.Token⟩ : Jk), m.done, m.code⟩ : Jl))
  else
  if decide (x.Op = 6) then
  (JV n x.S (⟨t902.1, t902.2.1, t902.2.2.1, t902.2.2.2⟩ : Ji) inZ).bind fun x135 =>
  some (Fl.go (x135.2, x135.1.TypeZ, x135.1.N, x135.1.S, x135.1.Is))
  else
  if decide (x.Op = 7) then
  (Js n x.S (⟨t904.1, t904.2.1, t904.2.2.1, t904.2.2.2⟩ : Ji) (⟨t902.1, t902.2.1, t902.2.2.1, t902.2.2.2⟩ : Ji)).bind fun x145 =>
  some (Fl.go (x145.2, x145.1.TypeZ, x145.1.N, x145.1.S, x145.1.Is))
  else
  if decide (x.Op = 8) then
  (Jab (!t902.2.2.2)).bind fun x153 =>
  some (Fl.go (decide (t902.1 = 3), x153.TypeZ, x153.N, x153.S, x153.Is))
  else
  if decide (x.Op = 9) then
  some (Fl.ret (⟨(subL m.stack (0 : Int) ((m.stack.length : Int) - x34.1)), m.slots, x.N, (⟨m.r.Path, m.r.Query, m.r.Headers, m.r.Vary, m.r.Tags, m.r.TTL, m.r.Deny, (m.r.Steps + 1), m.r.Pass, m.r.Token⟩ : Jk), m.done, m.code⟩ : Jl))
  else
  if decide (x.Op = 10) then
  if decide (t902.1 ≠ 3) then
  (Jbu (⟨(subL m.stack (0 : Int) ((m.stack.length : Int) - x34.1)), m.slots, (m.atZ + 1), (⟨m.r.Path, m.r.Query, m.r.Headers, m.r.Vary, m.r.Tags, m.r.TTL, m.r.Deny, (m.r.Steps + 1), m.r.Pass, m.r.Token⟩ : Jk), m.done, m.code⟩ : Jl) 9).bind fun x169 =>
  some (Fl.ret x169)
  else
  if (!t902.2.2.2) then
  some (Fl.ret (⟨(subL m.stack (0 : Int) ((m.stack.length : Int) - x34.1)), m.slots, x.N, (⟨m.r.Path, m.r.Query, m.r.Headers, m.r.Vary, m.r.Tags, m.r.TTL, m.r.Deny, (m.r.Steps + 1), m.r.Pass, m.r.Token⟩ : Jk), m.done, m.code⟩ : Jl))
  else
  some (Fl.ret (⟨(subL m.stack (0 : Int) ((m.stack.length : Int) - x34.1)), m.slots, (m.atZ + 1), (⟨m.r.Path, m.r.Query, m.r.Headers, m.r.Vary, m.r.Tags, m.r.TTL, m.r.Deny, (m.r.Steps + 1), m.r.Pass, m.r.Token⟩ : Jk), m.done, m.code⟩ : Jl))
  else
  if decide (x.Op = 11) then
  (Jcy n (⟨m.r.Path, m.r.Query, m.r.Headers, m.r.Vary, m.r.Tags, m.r.TTL, m.r.Deny, (m.r.Steps + 1), m.r.Pass, m.r.Token⟩ : Jk) x.S (⟨t902.1, t902.2.1, t902.2.2.1, t902.2.2.2⟩ : Ji)).bind fun x185 =>
  some (Fl.ret (⟨(subL m.stack (0 : Int) ((m.stack.length : Int) - x34.1)), m.slots, (m.atZ + 1), x185.1, decide (x.S = ([100, 101, 110, 121] : Str)), x185.2⟩ : Jl))
  else
  some (Fl.ret (⟨(subL m.stack (0 : Int) ((m.stack.length : Int) - x34.1)), m.slots, (m.atZ + 1), (⟨m.r.Path, m.r.Query, m.r.Headers, m.r.Vary, m.r.Tags, m.r.TTL, m.r.Deny, (m.r.Steps + 1), m.r.Pass, m.r.Token⟩ : Jk), true, m.code⟩ : Jl)) : Option (Fl (Jl) (Bool × Int × Int × Str × Bool)))).bind fun s906 => s906.el some fun t906 =>
  if (!t906.1) then
  (Jbu (⟨(subL m.stack (0 : Int) ((m.stack.length : Int) - x34.1)), m.slots, (m.atZ + 1), (⟨m.r.Path, m.r.Query, m.r.Headers, m.r.Vary, m.r.Tags, m.r.TTL, m.r.Deny, (m.r.Steps + 1), m.r.Pass, m.r.Token⟩ : Jk), m.done, m.code⟩ : Jl) 9).bind fun x200 =>
  some x200
  else
  (Jaz (⟨(subL m.stack (0 : Int) ((m.stack.length : Int) - x34.1)), m.slots, (m.atZ + 1), (⟨m.r.Path, m.r.Query, m.r.Headers, m.r.Vary, m.r.Tags, m.r.TTL, m.r.Deny, (m.r.Steps + 1), m.r.Pass, m.r.Token⟩ : Jk), m.done, m.code⟩ : Jl) x (⟨t906.2.1, t906.2.2.1, t906.2.2.2.1, t906.2.2.2.2⟩ : Ji) most).bind fun x205 =>
  some x205
noncomputable def Ja9 (code : (List Jw)) (n : Nat) (inZ : Ju) (most : Int) : Nat → (List Ji) → (List Ji) → Int → Str → Str → (List Jj) → (List Str) → (List Str) → Int → Int → Int → Bool → Bool → Bool → Int → Option ((List Ji) × (List Ji) × Int × Str × Str × (List Jj) × (List Str) × (List Str) × Int × Int × Int × Bool × Bool × Bool × Int)
  | 0, _, _, _, _, _, _, _, _, _, _, _, _, _, _, _ => none
  | xs0 + 1, y0_0, y0_1, y0_2, y0_3, y0_4, y0_5, y0_6, y0_7, y0_8, y0_9, y0_10, y0_11, y0_12, y0_13, y0_14 =>
    ((if (!y0_13) then
    some (decide (y0_14 = 0))
    else
    some false) : Option (Bool)).bind fun t902 =>
    if t902 then
    (ix code y0_2).bind fun x35 =>
    (Jbv n (⟨y0_0, y0_1, y0_2, (⟨y0_3, y0_4, y0_5, y0_6, y0_7, y0_8, y0_9, y0_10, y0_11, y0_12⟩ : Jk), y0_13, y0_14⟩ : Jl) x35 inZ most).bind fun x39 =>
    Ja9 code n inZ most xs0 x39.stack x39.slots x39.atZ x39.r.Path x39.r.Query x39.r.Headers x39.r.Vary x39.r.Tags x39.r.TTL x39.r.Deny x39.r.Steps x39.r.Pass x39.r.Token x39.done x39.code
    else
    some (y0_0, y0_1, y0_2, y0_3, y0_4, y0_5, y0_6, y0_7, y0_8, y0_9, y0_10, y0_11, y0_12, y0_13, y0_14)
noncomputable def Jcq (n : Nat) (code : (List Jw)) (inZ : Ju) (most : Int) : Option (Jk × Int) :=
  (JbS code).bind fun x13 =>
  if (!x13.2) then
  some ((⟨([] : Str), ([] : Str), [], [], [], 0, 0, 0, false, false⟩ : Jk), 2)
  else
  (Jco inZ).bind fun x21 =>
  (chk ((0 : Int) ≤ 512 ∧ 512 ≤ (lim : Int))).bind fun _ =>
  (Ja9 code n inZ most n [] (List.replicate (Int.toNat 512) ((⟨0, 0, ([] : Str), false⟩ : Ji) : Ji)) 0 x21.Path x21.Query x21.Headers x21.Vary x21.Tags x21.TTL x21.Deny x21.Steps x21.Pass x21.Token false 0).bind fun t0 =>
  if decide (t0.2.2.2.2.2.2.2.2.2.2.2.2.2.2 ≠ 0) then
  some ((⟨([] : Str), ([] : Str), [], [], [], 0, 0, 0, false, false⟩ : Jk), t0.2.2.2.2.2.2.2.2.2.2.2.2.2.2)
  else
  some ((⟨t0.2.2.2.1, t0.2.2.2.2.1, t0.2.2.2.2.2.1, t0.2.2.2.2.2.2.1, t0.2.2.2.2.2.2.2.1, t0.2.2.2.2.2.2.2.2.1, t0.2.2.2.2.2.2.2.2.2.1, t0.2.2.2.2.2.2.2.2.2.2.1, t0.2.2.2.2.2.2.2.2.2.2.2.1, t0.2.2.2.2.2.2.2.2.2.2.2.2.1⟩ : Jk), 0)
noncomputable def base_Num (e : Err) : Option (Int) :=
  if e.isNone then
  some 0
  else
  if (!e.isSome) then
  some (-1)
  else
  some (e.getD 0)
noncomputable def Jcd (b : (List Jj)) : List Jg → Nat → Option (Fl (Bool) (Unit))
  | [], _ => some (Fl.go ())
  | e0 :: xs0, i0 =>
    (ix b (i0 : Int)).bind fun x23 =>
    (if decide (e0.Name ≠ x23.Name) then some true else (ix b (i0 : Int)).bind fun x35 =>
    some (decide (e0.Value ≠ x35.Value))).bind fun x39 =>
    if x39 then
    some (Fl.ret false)
    else
    Jcd b xs0 (i0 + 1)
noncomputable def law02_Are (a : (List Jg)) (b : (List Jj)) : Option (Bool) :=
  if decide ((a.length : Int) ≠ (b.length : Int)) then
  some false
  else
  (chk (a.length ≤ szMax)).bind fun _ =>
  (Jcd b a 0).bind fun s0 => s0.el some fun t0 =>
  some true
noncomputable def Jb0 (b : (List Str)) : List Str → Nat → Option (Fl (Bool) (Unit))
  | [], _ => some (Fl.go ())
  | e0 :: xs0, i0 =>
    (ix b (i0 : Int)).bind fun x22 =>
    if decide (e0 ≠ x22) then
    some (Fl.ret false)
    else
    Jb0 b xs0 (i0 + 1)
noncomputable def Jcv (a : (List Str)) (b : (List Str)) : Option (Bool) :=
  if decide ((a.length : Int) ≠ (b.length : Int)) then
  some false
  else
  (chk (a.length ≤ szMax)).bind fun _ =>
  (Jb0 b a 0).bind fun s0 => s0.el some fun t0 =>
  some true
noncomputable def law46_Is (r' : Jf) (w' : Jk) : Option (Bool) :=
  (if (decide (r'.Path = w'.Path) && decide (r'.Query = w'.Query)) then (law02_Are r'.Headers w'.Headers).bind fun x22 =>
  some x22 else some false).bind fun x23 =>
  (if x23 then (Jcv r'.Vary w'.Vary).bind fun x29 =>
  some x29 else some false).bind fun x30 =>
  (if x30 then (Jcv r'.Tags w'.Tags).bind fun x36 =>
  some x36 else some false).bind fun x37 =>
  some (((((x37 && decide (r'.TTL = w'.TTL)) && decide (r'.Deny = w'.Deny)) && decide (r'.Steps = w'.Steps)) && (r'.Pass == w'.Pass)) && (r'.Token == w'.Token))
noncomputable def JcK (n : Nat) (code : (List Jw)) (inZ : Ju) (most : Int) : Option (Bool) :=
  (((JaD n).bind fun x11 =>
  (if (!x11) then some true else (law46_few n code).bind fun x15 =>
  some (!x15)).bind fun x17 =>
  (if x17 then some true else (JcI n inZ).bind fun x20 =>
  some (!x20)).bind fun x22 =>
  some x22) : Option (Bool)).bind fun t901 =>
  if t901 then
  (JaD n).bind fun x23 =>
  some x23
  else
  (JcJ code).bind fun x26 =>
  (JcH inZ).bind fun x28 =>
  (JaB n x26 x28 most).bind fun x30 =>
  (Jcq n code inZ most).bind fun x37 =>
  (base_Num x30.2).bind fun x41 =>
  (if decide (x41 = x37.2) then (law46_Is x30.1 x37.1).bind fun x47 =>
  some x47 else some false).bind fun x48 =>
  some x48
def Jw.ok (x : Jw) : Prop := InK .i64 x.Op ∧ InK .i64 x.N ∧ x.S.length ≤ szMax
def Jj.ok (x : Jj) : Prop := x.Name.length ≤ szMax ∧ x.Value.length ≤ szMax
def Ju.ok (x : Ju) : Prop := x.Method.length ≤ szMax ∧ x.Host.length ≤ szMax ∧ x.Path.length ≤ szMax ∧ x.Query.length ≤ szMax ∧ (x.Fields.length ≤ szMax ∧ ∀ y0 ∈ x.Fields, Jj.ok y0)
