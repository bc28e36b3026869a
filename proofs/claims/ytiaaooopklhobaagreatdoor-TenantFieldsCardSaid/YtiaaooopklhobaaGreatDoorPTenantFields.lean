import Derived.Test.YtiaaooopklhobaaGreatDoorRtAll
import Derived.KernelRfl
set_option linter.unusedVariables false
set_option linter.unusedSimpArgs false
set_option maxRecDepth 100000
open Go Go.SL Go.Proofs Pl Vary
namespace Tn
def hE : Str := [101, 120, 97, 109, 112, 108, 101, 46, 99, 111, 109]
def hostS : Str := [104, 111, 115, 116]
def qn7 : List Jf := [⟨12, 0, []⟩]
def dirE : JH := ⟨[(hE, ⟨0, qn7⟩)]⟩
def zP : JF := ⟨0, 0, 0, zAd, zAd, [], [], [], false, false⟩
theorem qh9 : Jdi 30000 = some true := by decide +kernel
theorem qqc : Jcr hE = some (hE, none) := by decide +kernel
theorem qs3 : qdk 30000 [(⟨[101, 120, 97, 109, 112, 108, 101, 46, 99, 111, 109], 0, []⟩ : JK)] = some (some dirE, 0, none) := by kernel_rfl
theorem qs4 (m h p q : Str) (f : List Fd) : JdY 30000 qn7 ⟨m, h, p, q, f⟩ 10000 = some (⟨p, q, [], [], [], -1, 0, 1, false, false⟩, none) := by kernel_rfl
theorem qrb {a : Jn} {hs vs ts : _} {x y z : Int} {b c : Bool} (l1 : a.Ae.length + a.Af.length ≤ 5000) (h : a.HasQuery = false → a.Af = []) : qcf a (⟨a.Ae, a.Af, hs, vs, ts, x, y, z, b, c⟩ : Jp) = some (tgt a) := by
  unfold qcf tgt
  cases q : a.HasQuery with
  | true =>
    have : ((if decide (a.Af ≠ ([] : Str)) then some true else some (true && decide (a.Af = a.Af))) : Option Bool) = some true := by split <;> simp
    rw [this, qtc, qte rfl, qte rfl, qap (by simp only [lim, List.length_singleton]; omega), qap (by simp only [lim, List.length_append, List.length_singleton]; omega)]
    simp
  | false =>
    have e := h q
    dsimp only
    rw [e, qtd (by simp), qtc, qtd (by simp), qtd (by simp)]
/-- what qjd upstream of r's fields -/
noncomputable def upF (f : List Fd) : List Fd := (strp 30000 f).filter qjd
theorem qqd {m tg : Str} {f : List Fd} {a : Jn} {e : Int} (hv : vls f hostS = [hE]) (hF : FOK 41 f) (hl : tg.length ≤ 9000) (h : prs hE tg = (a, some e)) : qa4 30000 dirE ⟨m, tg, f⟩ = some (zP, some 27) := by
  unfold qa4
  rw [qo9 hF (by omega) (by simp), show low ([104, 111, 115, 116] : Str) = hostS from by decide, hv, qtc, qtd (by simp), show ix [hE] 0 = some hE from rfl, qtc, qm1 (by decide), show low hE = hE from by decide, qtc, show mget dirE.sites hE = some ⟨0, qn7⟩ from by unfold dirE; rw [qb8, qte rfl], qtd (by simp), qid qqc (by decide) hl (by decide), qtc, h]; rfl
theorem qn8 {m tg : Str} {f : List Fd} {a : Jn} (hv : vls f hostS = [hE]) (hF : FOK 41 f) (hl : tg.length ≤ 9000) (h : prs hE tg = (a, none)) : ∃ p, qa4 30000 dirE ⟨m, tg, f⟩ = some (p, none) ∧ p.Ao = upF f := by
  obtain ⟨h1, h2, h3, h4, h5, h6⟩ := qrm h
  have l1 : a.Ae.length + a.Af.length ≤ 1024 := by
    unfold txl at h4
    cases q : a.HasQuery with
    | true => rw [q, qte rfl] at h4; omega
    | false => rw [q, qtd (by simp)] at h4; rw [h5 q]; simp only [List.length_nil]; omega
  have l2 : (tgt a).length ≤ 5000 := by
    unfold tgt
    split
    · simp only [List.length_append, List.length_cons]; omega
    · omega
  unfold qa4
  rw [qo9 hF (by omega) (by simp), show low ([104, 111, 115, 116] : Str) = hostS from by decide, hv, qtc, qtd (by simp), show ix [hE] 0 = some hE from rfl, qtc, qm1 (by decide), show low hE = hE from by decide, qtc, show mget dirE.sites hE = some ⟨0, qn7⟩ from by unfold dirE; rw [qb8, qte rfl], qtd (by simp), qid qqc (by decide) hl (by decide), qtc, h, qtd (by simp)]
  dsimp only [Option.getD]
  rw [qs4, qtc, qtd (by simp)]
  dsimp only
  rw [qrb (by omega) h5, qtc, qid qqc (by decide) (by omega) (by decide), qtc, h6, qtd (by simp), show JbL [] = some [] from by decide +kernel, qtc, show qft [] = some [] from by decide +kernel, qtc, tup hF (by omega) (by decide) ⟨by simp, fun x hx => by cases hx⟩, qtc, show qdv [] = some [] from by decide +kernel, qtc, show qdb 30000 [] = some [] from by decide +kernel, qtc, qtd (by simp)]
  by_cases q : (decide (m ≠ ([71, 69, 84] : Str)) && decide (m ≠ ([72, 69, 65, 68] : Str))) = true
  · rw [qte q, qtc]; exact ⟨_, rfl, rfl⟩
  · rw [qtd q, qo9 hF (by omega) (by simp), qtc, qtc]; exact ⟨_, rfl, rfl⟩
theorem qn9 {x y : Fd} (h : low x.Name = low y.Name) : qjd x = qjd y := by
  have hl : x.Name.length = y.Name.length := by rw [← qfj x.Name, ← qfj y.Name, h]
  unfold qjd kq isq
  rw [h, hl]
theorem qky (f : List Fd) (n : Str) (h : ∀ x : Fd, low x.Name = n → qjd x = true) : vls (f.filter qjd) n = vls f n := by
  unfold vls
  rw [List.filter_filter]
  congr 1
  apply List.filter_congr
  intro x _
  by_cases q : low x.Name = n
  · rw [decide_eq_true q, h x q]; rfl
  · rw [decide_eq_false q]; rfl
theorem qoa : low quay = quay := by decide
theorem qo0 {f : List Fd} (hF : FOK 41 f) {p : JF × Err} (hp : p.1.Ao = upF f) : ∀ (l : List Fd) (i : Nat), (∀ x ∈ l, x ∈ upF f) → JR p (strp 30000 f) l i = some (Fl.go ())
  | [], i, _ => rfl
  | x :: l, i, h => by
    have hx := h x (by simp)
    obtain ⟨hx1, hx2⟩ := List.mem_filter.1 hx
    obtain ⟨hx0, hx3⟩ := List.mem_filter.1 hx1
    have n1 : low x.Name ∉ cut7 := by
      unfold qjd at hx2
      simp only [Bool.and_eq_true, decide_eq_true_eq] at hx2; exact hx2.1
    have n2 : isq x = false := by
      unfold qjd kq at hx2
      simp only [Bool.and_eq_true, Bool.not_eq_true'] at hx2; exact hx2.2
    have n3 : low x.Name ∉ hop := fun e => by
      simp only [decide_eq_true_eq] at hx3
      exact hx3 (by unfold qsx; exact List.mem_append.2 (.inl e))
    have no : ∀ w : Str, low w = w → (w ∈ cut7 ∨ w ∈ hop) → ¬ (decide (x.Name = w)) = true := fun w e hw => by
      rw [decide_eq_true_eq]
      intro q
      rcases hw with hw | hw
      · exact n1 (by rw [q, e]; exact hw)
      · exact n3 (by rw [q, e]; exact hw)
    rw [JR, qtd (no _ (by decide) (by decide)), qtd (no _ (by decide) (by decide)), qtd (no _ (by decide) (by decide)), qtd (no _ (by decide) (by decide)), qtd (no _ (by decide) (by decide)), qtd (no _ (by decide) (by decide)), qtd (no _ (by decide) (by decide)), qtd (no _ (by decide) (by decide)), qtd (no _ (by decide) (by decide)), qtd (no _ (by decide) (by decide))]
    have e5 : ((if decide ((x.Name.length : Int) ≥ 5) = true then (chk (0 ≤ (0 : Int) ∧ (0 : Int) ≤ (5 : Int) ∧ (5 : Int) ≤ (x.Name.length : Int))).bind fun _ => some (decide ((subL x.Name (0 : Int) (5 : Int)) = ([113, 117, 97, 121, 45] : Str))) else some false) : Option Bool) = some false := by
      by_cases q : (x.Name.length : Int) ≥ 5
      · rw [qte (decide_eq_true q), qap (by omega), decide_eq_false]
        intro e
        have e2 : x.Name.take 5 = quay := e
        have : isq x = true := by
          unfold isq
          rw [decide_eq_true (show quay.length ≤ x.Name.length by show 5 ≤ _; omega), decide_eq_true (show (low x.Name).take 5 = quay by unfold low; rw [← List.map_take, e2]; exact qoa)]; rfl
        rw [this] at n2; cases n2
      · rw [qtd (by simpa using q)]
    have hs : FOK 41 (strp 30000 f) := hF.filter _
    have hu : FOK 41 (upF f) := hs.filter _
    have hb := (hF.b x hx0).1
    have vl := qj9 (strp 30000 f) (low x.Name)
    have hn := hs.n
    rw [e5, qtc, qtd (by simp), hp, qo9 hu (by omega) (by omega), qtc, qo9 hs (by omega) (by omega), qtc, show vls (upF f) (low x.Name) = vls (strp 30000 f) (low x.Name) from qky _ _ fun y hy => by rw [qn9 hy]; exact hx2, qhs (by simp only [qa3]; omega), qtc, qtc, qtd (by simp)]
    exact qo0 hF hp l (i + 1) fun y hy => h y (by simp [hy])
def four : List Str := [([97, 99, 99, 101, 112, 116] : Str), ([99, 111, 111, 107, 105, 101] : Str), ([99, 97, 99, 104, 101, 45, 99, 111, 110, 116, 114, 111, 108] : Str), ([120, 45, 97] : Str)]
theorem qms : ∀ w ∈ four, low w = w ∧ w.length ≤ 100 ∧ w ∉ cut7 ∧ w.take 5 ≠ quay := by decide
theorem qo1 {f : List Fd} (hF : FOK 41 f) {p : JF × Err} (hp : p.1.Ao = upF f) : ∀ (m i : Nat), m + i = 4 → JS p (strp 30000 f) m i = some (Fl.go ())
  | 0, i, h => rfl
  | m + 1, i, h => by
    have hi : i < four.length := by show i < 4; omega
    have hs : FOK 41 (strp 30000 f) := hF.filter _
    have hu : FOK 41 (upF f) := hs.filter _
    have hn := hs.n
    obtain ⟨w1, w2, w3, w4⟩ := qms _ (List.getElem_mem hi)
    have vl := qj9 (strp 30000 f) four[i]
    rw [JS]
    show ((ix four (i : Int)).bind _) = _
    rw [show ix four (i : Int) = some four[i] from by unfold ix; rw [qte (by omega), Int.toNat_natCast, List.getElem?_eq_getElem hi], qtc, hp, qo9 hu (by omega) (by omega), qtc, qo9 hs (by omega) (by omega), qtc, w1]
    generalize four[i] = w at *
    rw [show vls (upF f) w = vls (strp 30000 f) w from qky _ _ fun y hy => by
      unfold qjd kq isq
      rw [hy, decide_eq_true w3, decide_eq_false w4]; simp, qhs (by simp only [qa3]; omega), qtc, qtd (by simp)]
    exact qo1 hF hp m (i + 1) (by omega)
end Tn
open Tn
theorem JdC (r' : JA) (o0 : JA.ok r') : ∃ n, Jb1 n r' = some true := by
  refine ⟨30000, ?_⟩
  unfold Jb1
  obtain ⟨b, hb, hsm⟩ := qoh (l := []) (by simp) (fun x hx => by cases hx) o0.2
  rw [hb, qtc]
  cases b with
  | true => rw [qte rfl, qtc, qte rfl, qtc, qtc, qte rfl, qh9]; rfl
  | false =>
    obtain ⟨ht, hF, _, _⟩ := hsm rfl
    obtain ⟨e, he⟩ := qm6 hF (by omega)
    rw [qtd (by simp), show Jdc r' = some e.isNone from by unfold Jdc; rw [he]; rfl, qtc, qtc]
    cases e with
    | some e => rw [qte (by rfl), qtc, qtc, qte rfl, qh9]; rfl
    | none =>
      rw [qtd (by simp), qh9, qtc, qtc, qtc, qtd (by simp), qsw hF (by omega) (by simp), qtc, qs3, qtc]
      dsimp only [Option.elim]
      rw [qtd (by simp), show low ([104, 111, 115, 116] : Str) = hostS from by decide, show ([101, 120, 97, 109, 112, 108, 101, 46, 99, 111, 109] : Str) = hE from rfl]
      have hG : FOK 41 (setQ hostS hE r'.Ao) := hF.setQ (by decide) (by decide)
      have hv : vls (setQ hostS hE r'.Ao) hostS = [hE] := qoe (by decide) _
      generalize setQ hostS hE r'.Ao = f at hG hv
      rcases hpr : prs hE r'.Target with ⟨a, _ | e⟩
      · obtain ⟨p, hp, hpf⟩ := qn8 (m := r'.Am) hv hG (by omega) hpr
        have hs : FOK 41 (strp 30000 f) := hG.filter _
        have hu : FOK 41 (upF f) := hs.filter _
        have hn := hu.n
        rw [hp, qtc, qtd (by simp), qpa hG (by omega) (by decide), qtc]
        dsimp only
        rw [hpf, qap (by simp only [qa3]; omega), qo0 hG (p := (p, none)) hpf (upF f) 0 (fun x hx => hx), qtc]
        rw [show ∀ (u : Unit → Option Bool), (Fl.go () : Fl Bool Unit).el some u = u () from fun u => rfl, qap (by constructor <;> omega), show ((4 : Int)).toNat = 4 from rfl, qo1 hG (p := (p, none)) hpf 4 0 rfl]
        rfl
      · rw [qqd hv hG (by omega) hpr, qtc, qte (by rfl), show Jey (zP, (some 27 : Err)).2 27 = some true from by decide +kernel]; rfl
