/- Functions of the program: mirrors, and that a call returns what the mirror says. Printed by gen.py. -/
import Derived.Test.YtkpipkpdnbconaaGreatDoorG6
set_option linter.unusedVariables false
set_option linter.unusedSimpArgs false
open Go Go.SL Go.Proofs
set_option maxRecDepth 1000000
noncomputable def Jaq (rec_ : (Jc → (List Int) → (List Str) → Option ((List Jd)))) (visible : (List Int)) (names : (List Str)) : List Jc → Nat → (List (List Jd)) → Option ((List (List Jd)))
  | [], _, y0_0 => some y0_0
  | e0 :: xs0, i0, y0_0 =>
    (rec_ e0 visible names).bind fun x30 =>
    (chk (y0_0.length + 1 ≤ lim)).bind fun _ =>
    Jaq rec_ visible names xs0 (i0 + 1) (y0_0 ++ [x30])
noncomputable def JbC : Nat → Jc → (List Int) → (List Str) → Option ((List Jd))
  | 0, _, _, _ => none
  | n + 1, n', visible, names =>
    (chk (n'.Kids.length ≤ szMax)).bind fun _ =>
    (Jaq (JbC n) visible names n'.Kids 0 []).bind fun t0 =>
    if decide (n'.Kind = 20) then
    (Jb1 n'.Text).bind fun x40 =>
    some ([(⟨1, x40, ([] : Str)⟩ : Jd)])
    else
    if decide (n'.Kind = 21) then
    some [(⟨2, 0, n'.Text⟩ : Jd)]
    else
    if decide (n'.Kind = 22) then
    (JbV (decide (n'.Text = ([116, 114, 117, 101] : Str)))).bind fun x54 =>
    some x54
    else
    if decide (n'.Kind = 23) then
    (Jbm n'.Text).bind fun x59 =>
    if x59 then
    some [(⟨5, 0, n'.Text⟩ : Jd)]
    else
    (Jcu n visible names n'.Text).bind fun x68 =>
    some ([(⟨3, x68, ([] : Str)⟩ : Jd)])
    else
    if decide (n'.Kind = 24) then
    (ix t0 0).bind fun x74 =>
    (chk (x74.length + [(⟨6, 0, n'.Text⟩ : Jd)].length ≤ lim)).bind fun _ =>
    some (x74 ++ [(⟨6, 0, n'.Text⟩ : Jd)])
    else
    if decide (n'.Kind = 15) then
    (ix t0 0).bind fun x84 =>
    (chk (x84.length + ([(⟨8, 0, ([] : Str)⟩ : Jd)]).length ≤ lim)).bind fun _ =>
    some (x84 ++ [(⟨8, 0, ([] : Str)⟩ : Jd)])
    else
    if decide (n'.Kind = 14) then
    (ix t0 0).bind fun x92 =>
    (ix t0 1).bind fun x96 =>
    (chk (InI ((x92.length : Int) + 1))).bind fun _ =>
    (chk (InI (((x92.length : Int) + 1) + (x96.length : Int)))).bind fun _ =>
    (chk (InI ((((x92.length : Int) + 1) + (x96.length : Int)) + 1))).bind fun _ =>
    (chk (InI ((x92.length : Int) + 1))).bind fun _ =>
    (chk (InI (((x92.length : Int) + 1) + (x96.length : Int)))).bind fun _ =>
    (chk (InI ((((x92.length : Int) + 1) + (x96.length : Int)) + 1))).bind fun _ =>
    (chk (InI (((((x92.length : Int) + 1) + (x96.length : Int)) + 1) + 3))).bind fun _ =>
    (ix t0 0).bind fun x112 =>
    (chk (x112.length ≤ lim)).bind fun _ =>
    (chk (x112.length + ([(⟨10, ((((x92.length : Int) + 1) + (x96.length : Int)) + 1), ([] : Str)⟩ : Jd)]).length ≤ lim)).bind fun _ =>
    (ix t0 1).bind fun x120 =>
    (chk (InI ((x92.length : Int) + 1))).bind fun _ =>
    (JN x120 ((x92.length : Int) + 1)).bind fun x124 =>
    (chk ((x112 ++ [(⟨10, ((((x92.length : Int) + 1) + (x96.length : Int)) + 1), ([] : Str)⟩ : Jd)]).length + x124.length ≤ lim)).bind fun _ =>
    (chk (((x112 ++ [(⟨10, ((((x92.length : Int) + 1) + (x96.length : Int)) + 1), ([] : Str)⟩ : Jd)]) ++ x124).length + ([(⟨9, (((((x92.length : Int) + 1) + (x96.length : Int)) + 1) + 3), ([] : Str)⟩ : Jd)]).length ≤ lim)).bind fun _ =>
    (JbV false).bind fun x130 =>
    (chk ((((x112 ++ [(⟨10, ((((x92.length : Int) + 1) + (x96.length : Int)) + 1), ([] : Str)⟩ : Jd)]) ++ x124) ++ [(⟨9, (((((x92.length : Int) + 1) + (x96.length : Int)) + 1) + 3), ([] : Str)⟩ : Jd)]).length + x130.length ≤ lim)).bind fun _ =>
    some ((((x112 ++ [(⟨10, ((((x92.length : Int) + 1) + (x96.length : Int)) + 1), ([] : Str)⟩ : Jd)]) ++ x124) ++ [(⟨9, (((((x92.length : Int) + 1) + (x96.length : Int)) + 1) + 3), ([] : Str)⟩ : Jd)]) ++ x130)
    else
    if decide (n'.Kind = 13) then
    (ix t0 0).bind fun x135 =>
    (ix t0 1).bind fun x139 =>
    (chk (InI ((x135.length : Int) + 1))).bind fun _ =>
    (chk (InI (((x135.length : Int) + 1) + 3))).bind fun _ =>
    (chk (InI ((((x135.length : Int) + 1) + 3) + 1))).bind fun _ =>
    (chk (InI ((x135.length : Int) + 1))).bind fun _ =>
    (chk (InI (((x135.length : Int) + 1) + 3))).bind fun _ =>
    (chk (InI ((((x135.length : Int) + 1) + 3) + 1))).bind fun _ =>
    (chk (InI (((((x135.length : Int) + 1) + 3) + 1) + (x139.length : Int)))).bind fun _ =>
    (ix t0 0).bind fun x154 =>
    (chk (x154.length ≤ lim)).bind fun _ =>
    (chk (x154.length + ([(⟨10, ((((x135.length : Int) + 1) + 3) + 1), ([] : Str)⟩ : Jd)]).length ≤ lim)).bind fun _ =>
    (JbV true).bind fun x161 =>
    (chk ((x154 ++ [(⟨10, ((((x135.length : Int) + 1) + 3) + 1), ([] : Str)⟩ : Jd)]).length + x161.length ≤ lim)).bind fun _ =>
    (chk (((x154 ++ [(⟨10, ((((x135.length : Int) + 1) + 3) + 1), ([] : Str)⟩ : Jd)]) ++ x161).length + ([(⟨9, (((((x135.length : Int) + 1) + 3) + 1) + (x139.length : Int)), ([] : Str)⟩ : Jd)]).length ≤ lim)).bind fun _ =>
    (ix t0 1).bind fun x168 =>
    (JN x168 ((((x135.length : Int) + 1) + 3) + 1)).bind fun x171 =>
    (chk ((((x154 ++ [(⟨10, ((((x135.length : Int) + 1) + 3) + 1), ([] : Str)⟩ : Jd)]) ++ x161) ++ [(⟨9, (((((x135.length : Int) + 1) + 3) + 1) + (x139.length : Int)), ([] : Str)⟩ : Jd)]).length + x171.length ≤ lim)).bind fun _ =>
    some ((((x154 ++ [(⟨10, ((((x135.length : Int) + 1) + 3) + 1), ([] : Str)⟩ : Jd)]) ++ x161) ++ [(⟨9, (((((x135.length : Int) + 1) + 3) + 1) + (x139.length : Int)), ([] : Str)⟩ : Jd)]) ++ x171)
    else
    if decide (n'.Kind = 17) then
    (Jbc t0).bind fun x184 =>
    (chk (x184.length + ([(⟨7, 0, ([43] : Str)⟩ : Jd)]).length ≤ lim)).bind fun _ =>
    some (x184 ++ [(⟨7, 0, ([43] : Str)⟩ : Jd)])
    else
    if decide (n'.Kind = 18) then
    (Jbc t0).bind fun x184 =>
    (chk (x184.length + ([(⟨7, 0, ([45] : Str)⟩ : Jd)]).length ≤ lim)).bind fun _ =>
    some (x184 ++ [(⟨7, 0, ([45] : Str)⟩ : Jd)])
    else
    if decide (n'.Kind = 19) then
    (Jbc t0).bind fun x184 =>
    (chk (x184.length + ([(⟨7, 0, ([42] : Str)⟩ : Jd)]).length ≤ lim)).bind fun _ =>
    some (x184 ++ [(⟨7, 0, ([42] : Str)⟩ : Jd)])
    else
    (Jbc t0).bind fun x184 =>
    (chk (x184.length + [(⟨7, 0, n'.Text⟩ : Jd)].length ≤ lim)).bind fun _ =>
    some (x184 ++ [(⟨7, 0, n'.Text⟩ : Jd)])
set_option maxHeartbeats 8000000 in
theorem Jdo : ∀ {n : Nat} {n' : Jc} {visible : (List Int)} {names : (List Str)} {ap0_0 : Option Addr} {cp0_0 : Nat} {ap1_0 : Option Addr} {cp1_0 : Nat} {n1 : Nat} {ap2_0 : Option Addr} {cp2_0 : Nat} {n2 : Nat} {K : Hp} {r : (List Jd)}
    (hm : JbC n n' visible names = some r) (hp0_0 : LiC Jc.R K ap0_0 cp0_0 4 n'.Kids) (hp1_0 : RdC eN K ap1_0 cp1_0 1 visible) (en1 : n1 = visible.length) (hp2_0 : RdC eS K ap2_0 cp2_0 1 names) (en2 : n2 = names.length),
    Fn Tryz.prog 52 [.agg #[.int .i64 n'.Kind, str n'.Text, .slice ap0_0 n'.Kids.length cp0_0, .int .i64 n'.Line], .slice ap1_0 n1 cp1_0, .slice ap2_0 n2 cp2_0] K [] (fun v K' H' => ∃ ar_0 : Option Addr, ∃ cr_0 : Nat, v = .slice ar_0 r.length cr_0 ∧ (0 < r.length → Has ar_0) ∧ H' = [OwnL Jd.enc ar_0 73 3 cr_0 r]) := by
 intro n
 induction n with
 | zero =>
   intro n' visible names ap0_0 cp0_0 ap1_0 cp1_0 n1 ap2_0 cp2_0 n2 K r hm hp0_0 hp1_0 en1 hp2_0 en2
   rw [JbC.eq_1] at hm; cases hm
 | succ n ih =>
   intro n' visible names ap0_0 cp0_0 ap1_0 cp1_0 n1 ap2_0 cp2_0 n2 K r hm hp0_0 hp1_0 en1 hp2_0 en2
   subst en1
   subst en2
   refine Fn.enter Tryz.func52 Tryz.call52 rfl fun F => ?_
   rw [JbC.eq_2] at hm
   refine box_rule ?_
   intro b3
   refine Jb rfl (RStep.of (load1_s r0 rfl rfl (RStep.of (len_slice rfl ?_))))
   obtain ⟨hk0, hm⟩ := chkb hm
   obtain ⟨s0, hl0, hm⟩ := bnd hm
   refine nilCE Jd.enc 36 73 3 ?_
   refine code_cut (σ := ((List (List Jd))) × Option Addr × Nat × List (List Value)) [7, 9, 22, 23, 24, 25, 26, 27, 28, 29, 30, 31, 32, 33] (fun (t0, t0_a0, t0_c0, t0_s0) => [(7, .slice t0_a0 t0.length t0_c0)]) (fun (t0, t0_a0, t0_c0, t0_s0) => [OwnE Jd.enc 36 73 3 t0_a0 t0_c0 t0_s0 t0, Cells b3 24 [.int .i64 n'.Kind, str n'.Text, .slice ap0_0 n'.Kids.length cp0_0, .int .i64 n'.Line], F]) (fun zz K1 => match zz with | (t0, t0_a0, t0_c0, t0_s0) => LR hdR K1 t0_s0 t0 ∧ (0 < t0.length → Has t0_a0) ∧ t0 = s0) ?_ ?_
   refine block_go rfl ?_
   refine loop_rule (σ := Nat × (List (List Jd)) × Option Addr × Nat × List (List Value)) [7, 9, 22, 23, 24, 25, 26, 27, 28, 29, 30, 31, 32, 33] (fun (i0, y0_0, y0_a0, y0_c0, y0_s0) => [(22, .int .i64 (i0 : Int)), (7, .slice y0_a0 y0_0.length y0_c0)]) (fun (i0, y0_0, y0_a0, y0_c0, y0_s0) => [OwnE Jd.enc 36 73 3 y0_a0 y0_c0 y0_s0 y0_0, Cells b3 24 [.int .i64 n'.Kind, str n'.Text, .slice ap0_0 n'.Kids.length cp0_0, .int .i64 n'.Line], F]) (fun zz K1 => match zz with | (i0, y0_0, y0_a0, y0_c0, y0_s0) => LR hdR K1 y0_s0 y0_0 ∧ (0 < y0_0.length → Has y0_a0) ∧ Jaq (JbC n) visible names (n'.Kids.drop i0) i0 y0_0 = some s0) (fun zz => n'.Kids.length - zz.1) (0, [], none, 0, []) rfl ⟨rfl, rfl, trivial⟩ (ConvH.of (.cons r0 (.cons r0 (.cons r0 .nil)))) ⟨LR.nil, (fun h => by simp at h), hl0⟩ ?_
   clear hl0
   rintro ⟨i0, y0_0, y0_a0, y0_c0, y0_s0⟩ Kb0 lk0 ⟨y0_r0, y0_h0, hl0⟩ j0
   refine cond_go rfl ?_
   refine cond_s (fun w0 => ?_) (fun w0 => ?_)
   obtain ⟨e0, hx0, hd0⟩ := ltx w0
   rw [hd0, Jaq.eq_2] at hl0
   refine block_go rfl ?_
   refine RStep.ofN (index_addr rfl rfl (hasR (LiC.mono Jc.R_ok lk0 hp0_0).rd hx0) (nn _) (lt_ofN hx0) ?_)
   obtain ⟨ss25, cc25, hr25, hc25, hR25⟩ := LiR.get (LiC.mono Jc.R_ok lk0 hp0_0).rd hx0
   obtain ⟨a25_0, c25_0, rfl, h25_0⟩ := Jc.out hR25
   refine RStep.of (load_rd_agg i0 _ hr25 rfl hc25 rfl ?_)
   refine alloc_rule rfl ?_
   intro b9
   refine store_rule r0 rfl ?_
   refine ⟨rfl, rfl, (Nat.le_of_ble_eq_true rfl), ?_⟩
   refine RStep.of (loadn_s r0 rfl (Nat.le_of_ble_eq_true rfl) ?_)
   obtain ⟨x30, q30, hl0⟩ := bnd hl0
   refine call_fn (ih (n' := e0) q30 h25_0 (hp1_0.mono lk0) rfl (hp2_0.mono lk0) rfl) .nil ?_
   rintro _ K30 _ l30 ⟨a30_0, c30_0, rfl, h30_0, rfl⟩
   refine bsW (len := 1) (cl := [.slice a30_0 x30.length c30_0]) elT142 rfl rfl ?_ fun b31 => ?_
   · conv => whnf
     refine cond_T ?_
     first | done | rfl
   obtain ⟨h32, hl0⟩ := chkb hl0
   refine apEl r3 (LR.mono hdR_ok l30 y0_r0) r1 rfl elT142 (src_litR (news := [[.slice a30_0 x30.length c30_0]]) rfl r0 rfl rfl (by simp) rfl) h32 ?_
   intro a32 c32 o32
   refine int_in (cntz hx0 hk0) ?_
   refine RoundStep.mk (i0 + 1, (y0_0 ++ [x30]), a32, c32, (y0_s0 ++ [[.slice a30_0 x30.length c30_0]])) ⟨rfl, rfl, trivial⟩ (by repeat (first | exact trivial | refine And.intro rfl ?_)) (ConvH.of (.cons r0 (.cons r2 (.cons r2 .nil)))) (lk0.trans l30) (ltm hx0) ⟨(show LR hdR _ (y0_s0 ++ [[.slice a30_0 x30.length c30_0]]) (y0_0 ++ [x30]) from LR.snoc (LR.mono hdR_ok l30 y0_r0) ⟨_, _, rfl⟩), (fun _ => o32), hl0⟩
   rw [lty w0, Jaq.eq_1] at hl0
   refine cond_T ?_
   refine MeetStep.mk (y0_0, y0_a0, y0_c0, y0_s0) ⟨rfl, trivial⟩ (by repeat (first | exact trivial | refine And.intro rfl ?_)) (ConvH.of (.cons r0 (.cons r0 (.cons r0 .nil)))) lk0 ⟨y0_r0, y0_h0, (si hl0)⟩
   rintro ⟨t0, t0_a0, t0_c0, t0_s0⟩ Kt0 lt0 ⟨t0_r0, t0_h0, rfl⟩ j0
   refine Jb rfl (RStep.of (load1_s r1 rfl rfl ?_))
   refine block_go rfl ?_
   refine eq_int (cond_go rfl ?_)
   refine cond_s (fun w36 => ?_) (fun w36 => ?_)
   replace hm := ift w36 hm
   refine Jb rfl (RStep.of (load1_s r1 rfl rfl ?_))
   obtain ⟨x40, q40, hm⟩ := bnd hm
   refine call_fn (Jdb (s := n'.Text) q40) .nil ?_
   rintro _ K40 _ l40 ⟨rfl, rfl⟩
   refine build_struct rfl rfl (cond_T (cond_T ?_))
   refine bsO (len := 1) (enc := Jd.enc) (l := [(⟨1, x40, ([] : Str)⟩ : Jd)]) (cl := [.int .i64 1, .int .i64 x40, str ([] : Str)]) elT36 rfl rfl (fun _ _ => rfl) rfl rfl rfl ?_ fun b42 => ?_
   · conv => whnf
     refine cond_T ?_
     first | done | rfl
   obtain rfl := si hm
   refine EndStep.mk _ (lt0.trans l40) ⟨(some ⟨b42, 0, none⟩), 1, rfl, (fun _ => ⟨_, _, rfl⟩), rfl⟩ (ConvH.of (.cons r0 (.cons r2 .nil)))
   replace hm := iff_ w36 hm
   refine eq_int (cond_go rfl ?_)
   refine cond_s (fun w43 => ?_) (fun w43 => ?_)
   replace hm := ift w43 hm
   refine Jb rfl (RStep.of (load1_s r1 rfl rfl (build_struct rfl rfl (cond_T (cond_T ?_)))))
   refine bsO (len := 1) (enc := Jd.enc) (l := [(⟨2, 0, n'.Text⟩ : Jd)]) (cl := [.int .i64 2, .int .i64 0, str n'.Text]) elT36 rfl rfl (fun _ _ => rfl) rfl rfl rfl ?_ fun b48 => ?_
   · conv => whnf
     refine cond_T ?_
     first | done | rfl
   obtain rfl := si hm
   refine EndStep.mk _ lt0 ⟨(some ⟨b48, 0, none⟩), 1, rfl, (fun _ => ⟨_, _, rfl⟩), rfl⟩ (ConvH.of (.cons r0 (.cons r2 .nil)))
   replace hm := iff_ w43 hm
   refine eq_int (cond_go rfl ?_)
   refine cond_s (fun w49 => ?_) (fun w49 => ?_)
   replace hm := ift w49 hm
   refine Jb rfl (RStep.of (load1_s r1 rfl rfl (eq_str ?_)))
   obtain ⟨x54, q54, hm⟩ := bnd hm
   refine call_fn (Jcp (isZ := (decide (n'.Text = ([116, 114, 117, 101] : Str)))) q54) .nil ?_
   rintro _ K54 _ l54 ⟨a54_0, c54_0, rfl, h54_0, rfl⟩
   obtain rfl := si hm
   refine EndStep.mk _ (lt0.trans l54) ⟨a54_0, c54_0, rfl, h54_0, rfl⟩ (ConvH.of (.cons r0 (.cons r2 .nil)))
   replace hm := iff_ w49 hm
   refine eq_int (cond_go rfl ?_)
   refine cond_s (fun w55 => ?_) (fun w55 => ?_)
   replace hm := ift w55 hm
   refine Jb rfl (RStep.of (load1_s r1 rfl rfl ?_))
   obtain ⟨x59, q59, hm⟩ := bnd hm
   refine call_fn (Jb5 (s := n'.Text) q59) .nil ?_
   rintro _ K59 _ l59 ⟨rfl, rfl⟩
   refine cond_go rfl ?_
   refine cond_s (fun w59 => ?_) (fun w59 => ?_)
   replace hm := ift w59 hm
   refine Jb rfl (RStep.of (load1_s r1 rfl rfl (build_struct rfl rfl (cond_T (cond_T ?_)))))
   refine bsO (len := 1) (enc := Jd.enc) (l := [(⟨5, 0, n'.Text⟩ : Jd)]) (cl := [.int .i64 5, .int .i64 0, str n'.Text]) elT36 rfl rfl (fun _ _ => rfl) rfl rfl rfl ?_ fun b63 => ?_
   · conv => whnf
     refine cond_T ?_
     first | done | rfl
   obtain rfl := si hm
   refine EndStep.mk _ (lt0.trans l59) ⟨(some ⟨b63, 0, none⟩), 1, rfl, (fun _ => ⟨_, _, rfl⟩), rfl⟩ (ConvH.of (.cons r0 (.cons r2 .nil)))
   replace hm := iff_ w59 hm
   refine Jb rfl (RStep.of (load1_s r1 rfl rfl ?_))
   obtain ⟨x68, q68, hm⟩ := bnd hm
   refine call_fn (Jdn (name := n'.Text) q68 (hp1_0.mono (lt0.trans l59)) rfl (hp2_0.mono (lt0.trans l59)) rfl) .nil ?_
   rintro _ K68 _ l68 ⟨rfl, rfl⟩
   refine build_struct rfl rfl (cond_T (cond_T ?_))
   refine bsO (len := 1) (enc := Jd.enc) (l := [(⟨3, x68, ([] : Str)⟩ : Jd)]) (cl := [.int .i64 3, .int .i64 x68, str ([] : Str)]) elT36 rfl rfl (fun _ _ => rfl) rfl rfl rfl ?_ fun b70 => ?_
   · conv => whnf
     refine cond_T ?_
     first | done | rfl
   obtain rfl := si hm
   refine EndStep.mk _ ((lt0.trans l59).trans l68) ⟨(some ⟨b70, 0, none⟩), 1, rfl, (fun _ => ⟨_, _, rfl⟩), rfl⟩ (ConvH.of (.cons r0 (.cons r2 .nil)))
   replace hm := iff_ w55 hm
   refine eq_int (cond_go rfl ?_)
   refine cond_s (fun w71 => ?_) (fun w71 => ?_)
   replace hm := ift w71 hm
   refine fzEoD r0 t0_r0 fun Kd19_7 ld19_7 fd19_7 fd19_7s => ?_
   refine draw_go ⟨⟨[], false⟩, _, [(_, _)]⟩ (by kernel_rfl) ⟨Hp.Le.refl _, (ConvH.of (.cons r1 .nil))⟩ ?_
   obtain ⟨x74, l74, k74, hm⟩ := ixb hm
   refine index_addr rfl rfl (hasR fd19_7.rd k74) l74 (lt_ofE rfl l74 k74) ?_
   obtain ⟨cc75, hc75, a75_, c75_, rfl⟩ := LR.get (LR.mono hdR_ok ld19_7 t0_r0) k74
   refine load_rd_l ((0 : Int).toNat) 0 _ _ fd19_7s rfl hc75 rfl rfl (Jb rfl (load1_l m0 rfl rfl (build_struct rfl rfl (cond_T (cond_T ?_)))))
   refine bsO (len := 1) (enc := Jd.enc) (l := [(⟨6, 0, n'.Text⟩ : Jd)]) (cl := [.int .i64 6, .int .i64 0, str n'.Text]) elT36 rfl rfl (fun _ _ => rfl) rfl rfl rfl ?_ fun b79 => ?_
   · conv => whnf
     refine cond_T ?_
     first | done | rfl
   refine ⟨⟨(Hp.Le.refl _), (ConvH.of (.cons r2 .nil))⟩, ?_⟩
   obtain ⟨h80, hm⟩ := chkb hm
   refine apES r1 k74 hc75 rfl elT36 (src_own' rfl r0 rfl (fun _ => rfl) (fun _ => rfl)) h80 ?_
   intro a80 c80 o80
   refine ⟨⟨(Hp.Le.refl _), (ConvH.of (.cons r3 .nil))⟩, ?_⟩
   obtain rfl := si hm
   refine EndStep.mk _ (lt0.trans ld19_7) ⟨a80, c80, rfl, o80, rfl⟩ (ConvH.of (.cons r0 (.cons r3 .nil)))
   replace hm := iff_ w71 hm
   refine eq_int (cond_go rfl ?_)
   refine cond_s (fun w81 => ?_) (fun w81 => ?_)
   replace hm := ift w81 hm
   obtain ⟨x84, l84, k84, hm⟩ := ixb hm
   refine RStep.ofN (index_addr rfl rfl (hasO t0_h0 k84) l84 (lt_ofE rfl l84 k84) ?_)
   obtain ⟨cc85, hc85, a85_, c85_, rfl⟩ := LR.get t0_r0 k84
   refine RStep.of (ldE (i := (0 : Int).toNat) r0 rfl hc85 rfl rfl (build_struct rfl rfl (cond_T ?_)))
   refine bsO (len := 1) (enc := Jd.enc) (l := [(⟨8, 0, ([] : Str)⟩ : Jd)]) (cl := [.int .i64 8, .int .i64 0, str ([] : Str)]) elT36 rfl rfl (fun _ _ => rfl) rfl rfl rfl ?_ fun b87 => ?_
   · conv => whnf
     refine cond_T ?_
     first | done | rfl
   obtain ⟨h88, hm⟩ := chkb hm
   refine apEE r1 t0_r0 k84 hc85 rfl elT36 (src_own' rfl r0 rfl (fun _ => rfl) (fun _ => rfl)) h88 ?_
   intro a88 c88 o88
   obtain rfl := si hm
   refine EndStep.mk _ lt0 ⟨a88, c88, rfl, o88, rfl⟩ (ConvH.of (.cons r0 (.cons r4 .nil)))
   replace hm := iff_ w81 hm
   refine eq_int (cond_go rfl ?_)
   refine cond_s (fun w89 => ?_) (fun w89 => ?_)
   replace hm := ift w89 hm
   refine draw_go ⟨⟨[], true⟩, _, []⟩ (by kernel_rfl) ⟨Hp.Le.refl _, (ConvH.of .nil)⟩ ?_
   obtain ⟨x92, l92, k92, hm⟩ := ixb hm
   refine index_addr rfl rfl (hasO t0_h0 k92) l92 (lt_ofE rfl l92 k92) ?_
   obtain ⟨cc93, hc93, a93_, c93_, rfl⟩ := LR.get t0_r0 k92
   refine ldE (i := (0 : Int).toNat) r0 rfl hc93 rfl rfl ?_
   refine len_sliceN rfl ?_
   obtain ⟨x96, l96, k96, hm⟩ := ixb hm
   refine index_addr rfl rfl (hasO t0_h0 k96) l96 (lt_ofE rfl l96 k96) ?_
   obtain ⟨cc97, hc97, a97_, c97_, rfl⟩ := LR.get t0_r0 k96
   refine ldE (i := (1 : Int).toNat) r0 rfl hc97 rfl rfl ?_
   refine len_sliceN rfl ?_
   obtain ⟨h100, hm⟩ := chkb hm
   refine int_in h100 ?_
   obtain ⟨h102, hm⟩ := chkb hm
   refine int_in h102 ?_
   obtain ⟨h103, hm⟩ := chkb hm
   refine int_in h103 ?_
   obtain ⟨h105, hm⟩ := chkb hm
   refine int_in h105 ?_
   obtain ⟨h107, hm⟩ := chkb hm
   refine int_in h107 ?_
   obtain ⟨h108, hm⟩ := chkb hm
   refine int_in h108 ?_
   obtain ⟨h109, hm⟩ := chkb hm
   refine int_in h109 ?_
   refine fzEaD r0 t0_r0 fun Kd25_10 ld25_10 fd25_10 => ?_
   refine draw_go_F ⟨⟨[], false⟩, _, []⟩ 23 rfl (by kernel_rfl) ⟨Hp.Le.refl _, (ConvH.of .nil)⟩ ?_
   refine bsA (len := 0) (cl := []) elT36 rfl rfl ?_ fun b110 => ?_
   · conv => whnf
     first | done | rfl
   obtain ⟨x112, l112, k112, hm⟩ := ixb hm
   refine index_addr rfl rfl (hasR fd25_10.rd k112) l112 (lt_ofE rfl l112 k112) ?_
   obtain ⟨ss113, cc113, hr113, hc113, hR113⟩ := LiR.get fd25_10.rd k112
   obtain ⟨a113_0, c113_0, rfl, h113_0⟩ := hR113
   refine load_rd_l ((0 : Int).toNat) 0 _ _ hr113 rfl hc113 rfl rfl ?_
   intro GG4
   obtain ⟨h114, hm⟩ := chkb hm
   refine ape (enc := Jd.enc) r0 elT36 (src_k rfl h113_0.rd rfl) h114 ?_
   intro a114 c114 o114
   refine ⟨⟨(Hp.Le.refl _), (ConvH.of .nil)⟩, ?_⟩
   refine ⟨_, .cons r3 .nil, ⟨(Hp.Le.refl _), (ConvH.of .nil)⟩, ?_⟩
   refine build_struct rfl rfl (cond_T (cond_T ?_))
   refine bsA (len := 1) (cl := [.int .i64 10, .int .i64 ((((x92.length : Int) + 1) + (x96.length : Int)) + 1), str ([] : Str)]) elT36 rfl rfl ?_ fun b117 => ?_
   · conv => whnf
     refine cond_T ?_
     first | done | rfl
   intro GG8
   obtain ⟨h118, hm⟩ := chkb hm
   refine apE rfl r1 elT36 (src_lit rfl r0 rfl rfl (fun _ _ => rfl) rfl) h118 ?_
   intro a118 c118 o118
   refine ⟨⟨(Hp.Le.refl _), (ConvH.of .nil)⟩, ?_⟩
   refine ⟨_, .cons r4 .nil, ⟨(Hp.Le.refl _), (ConvH.of .nil)⟩, ?_⟩
   obtain ⟨x120, l120, k120, hm⟩ := ixb hm
   refine index_addr rfl rfl (hasR fd25_10.rd k120) l120 (lt_ofE rfl l120 k120) ?_
   obtain ⟨ss121, cc121, hr121, hc121, hR121⟩ := LiR.get fd25_10.rd k120
   obtain ⟨a121_0, c121_0, rfl, h121_0⟩ := hR121
   refine load_rd_l ((1 : Int).toNat) 0 _ _ hr121 rfl hc121 rfl rfl ?_
   obtain ⟨h123, hm⟩ := chkb hm
   refine int_in h123 ?_
   intro GG14
   obtain ⟨x124, q124, hm⟩ := bnd hm
   refine call_fn (JaR (byZ := ((x92.length : Int) + 1)) q124 h121_0 rfl) .nil ?_
   rintro _ K124 _ l124 ⟨a124_0, c124_0, rfl, h124_0, rfl⟩
   refine ⟨⟨l124, (ConvH.of .nil)⟩, ?_⟩
   refine ⟨_, .cons r5 .nil, ⟨l124, (ConvH.of .nil)⟩, ?_⟩
   intro GG15
   obtain ⟨h125, hm⟩ := chkb hm
   refine apE rfl r1 elT36 (src_own' rfl r0 rfl (fun _ => rfl) (fun _ => rfl)) h125 ?_
   intro a125 c125 o125
   refine ⟨⟨l124, (ConvH.of .nil)⟩, ?_⟩
   refine ⟨_, .cons r5 .nil, ⟨l124, (ConvH.of .nil)⟩, ?_⟩
   refine build_struct rfl rfl (cond_T (cond_T ?_))
   refine bsA (len := 1) (cl := [.int .i64 9, .int .i64 (((((x92.length : Int) + 1) + (x96.length : Int)) + 1) + 3), str ([] : Str)]) elT36 rfl rfl ?_ fun b128 => ?_
   · conv => whnf
     refine cond_T ?_
     first | done | rfl
   intro GG19
   obtain ⟨h129, hm⟩ := chkb hm
   refine apE rfl r1 elT36 (src_lit rfl r0 rfl rfl (fun _ _ => rfl) rfl) h129 ?_
   intro a129 c129 o129
   refine ⟨⟨l124, (ConvH.of .nil)⟩, ?_⟩
   refine ⟨_, .cons r6 .nil, ⟨l124, (ConvH.of .nil)⟩, ?_⟩
   intro GG20
   obtain ⟨x130, q130, hm⟩ := bnd hm
   refine call_fn (Jcp (isZ := false) q130) .nil ?_
   rintro _ K130 _ l130 ⟨a130_0, c130_0, rfl, h130_0, rfl⟩
   refine ⟨⟨(l124.trans l130), (ConvH.of .nil)⟩, ?_⟩
   refine ⟨_, .cons r7 .nil, ⟨(l124.trans l130), (ConvH.of .nil)⟩, ?_⟩
   intro GG21
   obtain ⟨h131, hm⟩ := chkb hm
   refine apE rfl r1 elT36 (src_own' rfl r0 rfl (fun _ => rfl) (fun _ => rfl)) h131 ?_
   intro a131 c131 o131
   refine ⟨⟨(l124.trans l130), (ConvH.of .nil)⟩, ?_⟩
   refine ⟨_, .cons r7 .nil, ⟨(l124.trans l130), (ConvH.of .nil)⟩, ?_⟩
   obtain rfl := si hm
   refine EndStep.mk _ (((lt0.trans ld25_10).trans l124).trans l130) ⟨a131, c131, rfl, o131, rfl⟩ (ConvH.of (.cons r0 (.cons r5 .nil)))
   replace hm := iff_ w89 hm
   refine eq_int (cond_go rfl ?_)
   refine cond_s (fun w132 => ?_) (fun w132 => ?_)
   replace hm := ift w132 hm
   refine draw_go ⟨⟨[], true⟩, _, []⟩ (by kernel_rfl) ⟨Hp.Le.refl _, (ConvH.of .nil)⟩ ?_
   obtain ⟨x135, l135, k135, hm⟩ := ixb hm
   refine index_addr rfl rfl (hasO t0_h0 k135) l135 (lt_ofE rfl l135 k135) ?_
   obtain ⟨cc136, hc136, a136_, c136_, rfl⟩ := LR.get t0_r0 k135
   refine ldE (i := (0 : Int).toNat) r0 rfl hc136 rfl rfl ?_
   refine len_sliceN rfl ?_
   obtain ⟨x139, l139, k139, hm⟩ := ixb hm
   refine index_addr rfl rfl (hasO t0_h0 k139) l139 (lt_ofE rfl l139 k139) ?_
   obtain ⟨cc140, hc140, a140_, c140_, rfl⟩ := LR.get t0_r0 k139
   refine ldE (i := (1 : Int).toNat) r0 rfl hc140 rfl rfl ?_
   refine len_sliceN rfl ?_
   obtain ⟨h143, hm⟩ := chkb hm
   refine int_in h143 ?_
   obtain ⟨h144, hm⟩ := chkb hm
   refine int_in h144 ?_
   obtain ⟨h145, hm⟩ := chkb hm
   refine int_in h145 ?_
   obtain ⟨h147, hm⟩ := chkb hm
   refine int_in h147 ?_
   obtain ⟨h148, hm⟩ := chkb hm
   refine int_in h148 ?_
   obtain ⟨h149, hm⟩ := chkb hm
   refine int_in h149 ?_
   obtain ⟨h151, hm⟩ := chkb hm
   refine int_in h151 ?_
   refine fzEaD r0 t0_r0 fun Kd29_12 ld29_12 fd29_12 => ?_
   refine draw_go_F ⟨⟨[], false⟩, _, []⟩ 22 rfl (by kernel_rfl) ⟨Hp.Le.refl _, (ConvH.of .nil)⟩ ?_
   refine bsA (len := 0) (cl := []) elT36 rfl rfl ?_ fun b152 => ?_
   · conv => whnf
     first | done | rfl
   obtain ⟨x154, l154, k154, hm⟩ := ixb hm
   refine index_addr rfl rfl (hasR fd29_12.rd k154) l154 (lt_ofE rfl l154 k154) ?_
   obtain ⟨ss155, cc155, hr155, hc155, hR155⟩ := LiR.get fd29_12.rd k154
   obtain ⟨a155_0, c155_0, rfl, h155_0⟩ := hR155
   refine load_rd_l ((0 : Int).toNat) 0 _ _ hr155 rfl hc155 rfl rfl ?_
   intro GG4
   obtain ⟨h156, hm⟩ := chkb hm
   refine ape (enc := Jd.enc) r0 elT36 (src_k rfl h155_0.rd rfl) h156 ?_
   intro a156 c156 o156
   refine ⟨⟨(Hp.Le.refl _), (ConvH.of .nil)⟩, ?_⟩
   refine ⟨_, .cons r3 .nil, ⟨(Hp.Le.refl _), (ConvH.of .nil)⟩, ?_⟩
   refine build_struct rfl rfl (cond_T (cond_T ?_))
   refine bsA (len := 1) (cl := [.int .i64 10, .int .i64 ((((x135.length : Int) + 1) + 3) + 1), str ([] : Str)]) elT36 rfl rfl ?_ fun b159 => ?_
   · conv => whnf
     refine cond_T ?_
     first | done | rfl
   intro GG8
   obtain ⟨h160, hm⟩ := chkb hm
   refine apE rfl r1 elT36 (src_lit rfl r0 rfl rfl (fun _ _ => rfl) rfl) h160 ?_
   intro a160 c160 o160
   refine ⟨⟨(Hp.Le.refl _), (ConvH.of .nil)⟩, ?_⟩
   refine ⟨_, .cons r4 .nil, ⟨(Hp.Le.refl _), (ConvH.of .nil)⟩, ?_⟩
   intro GG9
   obtain ⟨x161, q161, hm⟩ := bnd hm
   refine call_fn (Jcp (isZ := true) q161) .nil ?_
   rintro _ K161 _ l161 ⟨a161_0, c161_0, rfl, h161_0, rfl⟩
   refine ⟨⟨l161, (ConvH.of .nil)⟩, ?_⟩
   refine ⟨_, .cons r5 .nil, ⟨l161, (ConvH.of .nil)⟩, ?_⟩
   intro GG10
   obtain ⟨h162, hm⟩ := chkb hm
   refine apE rfl r1 elT36 (src_own' rfl r0 rfl (fun _ => rfl) (fun _ => rfl)) h162 ?_
   intro a162 c162 o162
   refine ⟨⟨l161, (ConvH.of .nil)⟩, ?_⟩
   refine ⟨_, .cons r5 .nil, ⟨l161, (ConvH.of .nil)⟩, ?_⟩
   refine build_struct rfl rfl (cond_T (cond_T ?_))
   refine bsA (len := 1) (cl := [.int .i64 9, .int .i64 (((((x135.length : Int) + 1) + 3) + 1) + (x139.length : Int)), str ([] : Str)]) elT36 rfl rfl ?_ fun b165 => ?_
   · conv => whnf
     refine cond_T ?_
     first | done | rfl
   intro GG14
   obtain ⟨h166, hm⟩ := chkb hm
   refine apE rfl r1 elT36 (src_lit rfl r0 rfl rfl (fun _ _ => rfl) rfl) h166 ?_
   intro a166 c166 o166
   refine ⟨⟨l161, (ConvH.of .nil)⟩, ?_⟩
   refine ⟨_, .cons r6 .nil, ⟨l161, (ConvH.of .nil)⟩, ?_⟩
   obtain ⟨x168, l168, k168, hm⟩ := ixb hm
   refine index_addr rfl rfl (hasR (LiC.mono sliL_ok l161 fd29_12).rd k168) l168 (lt_ofE rfl l168 k168) ?_
   obtain ⟨ss169, cc169, hr169, hc169, hR169⟩ := LiR.get fd29_12.rd k168
   obtain ⟨a169_0, c169_0, rfl, h169_0⟩ := hR169
   refine load_rd_l ((1 : Int).toNat) 0 _ _ hr169 rfl hc169 rfl rfl ?_
   intro GG19
   obtain ⟨x171, q171, hm⟩ := bnd hm
   refine call_fn (JaR (byZ := ((((x135.length : Int) + 1) + 3) + 1)) q171 (h169_0.mono l161) rfl) .nil ?_
   rintro _ K171 _ l171 ⟨a171_0, c171_0, rfl, h171_0, rfl⟩
   refine ⟨⟨(l161.trans l171), (ConvH.of .nil)⟩, ?_⟩
   refine ⟨_, .cons r7 .nil, ⟨(l161.trans l171), (ConvH.of .nil)⟩, ?_⟩
   intro GG20
   obtain ⟨h172, hm⟩ := chkb hm
   refine apE rfl r1 elT36 (src_own' rfl r0 rfl (fun _ => rfl) (fun _ => rfl)) h172 ?_
   intro a172 c172 o172
   refine ⟨⟨(l161.trans l171), (ConvH.of .nil)⟩, ?_⟩
   refine ⟨_, .cons r7 .nil, ⟨(l161.trans l171), (ConvH.of .nil)⟩, ?_⟩
   obtain rfl := si hm
   refine EndStep.mk _ (((lt0.trans ld29_12).trans l161).trans l171) ⟨a172, c172, rfl, o172, rfl⟩ (ConvH.of (.cons r0 (.cons r5 .nil)))
   replace hm := iff_ w132 hm
   refine Jb rfl (RStep.of (load1_s r1 rfl rfl (Jb rfl (RStep.of (load1_s r1 rfl rfl ?_)))))
   refine block_go rfl ?_
   refine eq_int (cond_go rfl ?_)
   refine cond_s (fun w177 => ?_) (fun w177 => ?_)
   replace hm := ift w177 hm
   obtain ⟨x184, q184, hm⟩ := bnd hm
   refine fzEaF Tryz.call84 r0 t0_r0 fun K184_0 l184_0 f184_0 => ?_
   refine call_fn (JbR q184 f184_0 rfl) .nil ?_
   rintro _ K184 _ l184 ⟨a184_0, c184_0, rfl, h184_0, rfl⟩
   refine build_struct rfl rfl (cond_T (cond_T ?_))
   refine bsO (len := 1) (enc := Jd.enc) (l := [(⟨7, 0, ([43] : Str)⟩ : Jd)]) (cl := [.int .i64 7, .int .i64 0, str ([43] : Str)]) elT36 rfl rfl (fun _ _ => rfl) rfl rfl rfl ?_ fun b187 => ?_
   · conv => whnf
     refine cond_T ?_
     first | done | rfl
   obtain ⟨h188, hm⟩ := chkb hm
   refine apE rfl r1 elT36 (src_own' rfl r0 rfl (fun _ => rfl) (fun _ => rfl)) h188 ?_
   intro a188 c188 o188
   obtain rfl := si hm
   refine EndStep.mk _ ((lt0.trans l184_0).trans l184) ⟨a188, c188, rfl, o188, rfl⟩ (ConvH.of (.cons r0 (.cons r2 .nil)))
   replace hm := iff_ w177 hm
   refine eq_int (cond_go rfl ?_)
   refine cond_s (fun w179 => ?_) (fun w179 => ?_)
   replace hm := ift w179 hm
   obtain ⟨x184, q184, hm⟩ := bnd hm
   refine fzEaF Tryz.call84 r0 t0_r0 fun K184_0 l184_0 f184_0 => ?_
   refine call_fn (JbR q184 f184_0 rfl) .nil ?_
   rintro _ K184 _ l184 ⟨a184_0, c184_0, rfl, h184_0, rfl⟩
   refine build_struct rfl rfl (cond_T (cond_T ?_))
   refine bsO (len := 1) (enc := Jd.enc) (l := [(⟨7, 0, ([45] : Str)⟩ : Jd)]) (cl := [.int .i64 7, .int .i64 0, str ([45] : Str)]) elT36 rfl rfl (fun _ _ => rfl) rfl rfl rfl ?_ fun b187 => ?_
   · conv => whnf
     refine cond_T ?_
     first | done | rfl
   obtain ⟨h188, hm⟩ := chkb hm
   refine apE rfl r1 elT36 (src_own' rfl r0 rfl (fun _ => rfl) (fun _ => rfl)) h188 ?_
   intro a188 c188 o188
   obtain rfl := si hm
   refine EndStep.mk _ ((lt0.trans l184_0).trans l184) ⟨a188, c188, rfl, o188, rfl⟩ (ConvH.of (.cons r0 (.cons r2 .nil)))
   replace hm := iff_ w179 hm
   refine eq_int (cond_go rfl ?_)
   refine cond_s (fun w181 => ?_) (fun w181 => ?_)
   replace hm := ift w181 hm
   obtain ⟨x184, q184, hm⟩ := bnd hm
   refine fzEaF Tryz.call84 r0 t0_r0 fun K184_0 l184_0 f184_0 => ?_
   refine call_fn (JbR q184 f184_0 rfl) .nil ?_
   rintro _ K184 _ l184 ⟨a184_0, c184_0, rfl, h184_0, rfl⟩
   refine build_struct rfl rfl (cond_T (cond_T ?_))
   refine bsO (len := 1) (enc := Jd.enc) (l := [(⟨7, 0, ([42] : Str)⟩ : Jd)]) (cl := [.int .i64 7, .int .i64 0, str ([42] : Str)]) elT36 rfl rfl (fun _ _ => rfl) rfl rfl rfl ?_ fun b187 => ?_
   · conv => whnf
     refine cond_T ?_
     first | done | rfl
   obtain ⟨h188, hm⟩ := chkb hm
   refine apE rfl r1 elT36 (src_own' rfl r0 rfl (fun _ => rfl) (fun _ => rfl)) h188 ?_
   intro a188 c188 o188
   obtain rfl := si hm
   refine EndStep.mk _ ((lt0.trans l184_0).trans l184) ⟨a188, c188, rfl, o188, rfl⟩ (ConvH.of (.cons r0 (.cons r2 .nil)))
   replace hm := iff_ w181 hm
   obtain ⟨x184, q184, hm⟩ := bnd hm
   refine fzEaF Tryz.call84 r0 t0_r0 fun K184_0 l184_0 f184_0 => ?_
   refine call_fn (JbR q184 f184_0 rfl) .nil ?_
   rintro _ K184 _ l184 ⟨a184_0, c184_0, rfl, h184_0, rfl⟩
   refine build_struct rfl rfl (cond_T (cond_T ?_))
   refine bsO (len := 1) (enc := Jd.enc) (l := [(⟨7, 0, n'.Text⟩ : Jd)]) (cl := [.int .i64 7, .int .i64 0, str n'.Text]) elT36 rfl rfl (fun _ _ => rfl) rfl rfl rfl ?_ fun b187 => ?_
   · conv => whnf
     refine cond_T ?_
     first | done | rfl
   obtain ⟨h188, hm⟩ := chkb hm
   refine apE rfl r1 elT36 (src_own' rfl r0 rfl (fun _ => rfl) (fun _ => rfl)) h188 ?_
   intro a188 c188 o188
   obtain rfl := si hm
   refine EndStep.mk _ ((lt0.trans l184_0).trans l184) ⟨a188, c188, rfl, o188, rfl⟩ (ConvH.of (.cons r0 (.cons r2 .nil)))

noncomputable def JW (n : Nat) (rec_ : ((List Jc) → (List Int) → (List Str) → Option ((List Jd) × (List Str)))) : List Jc → Nat → (List Int) → (List Str) → (List Jd) → Option ((List Int) × (List Str) × (List Jd))
  | [], _, y0_0, y0_1, y0_2 => some (y0_0, y0_1, y0_2)
  | e0 :: xs0, i0, y0_0, y0_1, y0_2 =>
    ((if decide ((e0.Kids.length : Int) > 0) then
    (ix e0.Kids 0).bind fun x29 =>
    (JbC n x29 y0_0 y0_1).bind fun x33 =>
    some x33
    else
    some [] : Option ((List Jd)))).bind fun t901 =>
    ((if decide (e0.Kind = 3) then
    (chk (t901.length + ([(⟨4, (y0_1.length : Int), ([] : Str)⟩ : Jd)]).length ≤ lim)).bind fun _ =>
    (chk (([] : List Int).length + y0_0.length ≤ lim)).bind fun _ =>
    (chk ((([] : List Int) ++ y0_0).length + [(y0_1.length : Int)].length ≤ lim)).bind fun _ =>
    (chk (y0_1.length ≤ lim)).bind fun _ =>
    (chk (y0_1.length + [e0.Text].length ≤ lim)).bind fun _ =>
    some (((([] : List Int) ++ y0_0) ++ [(y0_1.length : Int)]), (y0_1 ++ [e0.Text]), (t901 ++ [(⟨4, (y0_1.length : Int), ([] : Str)⟩ : Jd)]))
    else
    if decide (e0.Kind = 4) then
    (chk (t901.length + [(⟨11, 0, e0.Text⟩ : Jd)].length ≤ lim)).bind fun _ =>
    some (y0_0, y0_1, (t901 ++ [(⟨11, 0, e0.Text⟩ : Jd)]))
    else
    if decide (e0.Kind = 5) then
    (chk (([104, 101, 97, 100, 101, 114, 58] : Str).length + e0.Text.length ≤ lim)).bind fun _ =>
    (chk (t901.length + ([(⟨11, 0, (([104, 101, 97, 100, 101, 114, 58] : Str) ++ e0.Text)⟩ : Jd)]).length ≤ lim)).bind fun _ =>
    some (y0_0, y0_1, (t901 ++ [(⟨11, 0, (([104, 101, 97, 100, 101, 114, 58] : Str) ++ e0.Text)⟩ : Jd)]))
    else
    if decide (e0.Kind = 6) then
    (chk (([118, 97, 114, 121, 58] : Str).length + e0.Text.length ≤ lim)).bind fun _ =>
    (chk (t901.length + ([(⟨11, 0, (([118, 97, 114, 121, 58] : Str) ++ e0.Text)⟩ : Jd)]).length ≤ lim)).bind fun _ =>
    some (y0_0, y0_1, (t901 ++ [(⟨11, 0, (([118, 97, 114, 121, 58] : Str) ++ e0.Text)⟩ : Jd)]))
    else
    if decide (e0.Kind = 7) then
    (chk (t901.length + ([(⟨11, 0, ([116, 97, 103] : Str)⟩ : Jd)]).length ≤ lim)).bind fun _ =>
    some (y0_0, y0_1, (t901 ++ [(⟨11, 0, ([116, 97, 103] : Str)⟩ : Jd)]))
    else
    if decide (e0.Kind = 8) then
    (chk (t901.length + ([(⟨11, 0, ([116, 116, 108] : Str)⟩ : Jd)]).length ≤ lim)).bind fun _ =>
    some (y0_0, y0_1, (t901 ++ [(⟨11, 0, ([116, 116, 108] : Str)⟩ : Jd)]))
    else
    if decide (e0.Kind = 9) then
    (chk (t901.length + ([(⟨11, 0, ([100, 101, 110, 121] : Str)⟩ : Jd)]).length ≤ lim)).bind fun _ =>
    some (y0_0, y0_1, (t901 ++ [(⟨11, 0, ([100, 101, 110, 121] : Str)⟩ : Jd)]))
    else
    if decide (e0.Kind = 10) then
    (chk (t901.length + ([(⟨11, 0, ([112, 97, 115, 115] : Str)⟩ : Jd)]).length ≤ lim)).bind fun _ =>
    some (y0_0, y0_1, (t901 ++ [(⟨11, 0, ([112, 97, 115, 115] : Str)⟩ : Jd)]))
    else
    if decide (e0.Kind = 11) then
    (chk (t901.length + ([(⟨11, 0, ([116, 111, 107, 101, 110] : Str)⟩ : Jd)]).length ≤ lim)).bind fun _ =>
    some (y0_0, y0_1, (t901 ++ [(⟨11, 0, ([116, 111, 107, 101, 110] : Str)⟩ : Jd)]))
    else
    if decide (e0.Kind = 2) then
    (ix e0.Kids 1).bind fun x119 =>
    (rec_ x119.Kids y0_0 y0_1).bind fun x124 =>
    (chk (InI ((t901.length : Int) + 1))).bind fun _ =>
    if decide ((e0.Kids.length : Int) = 2) then
    (chk (InI (((t901.length : Int) + 1) + (x124.1.length : Int)))).bind fun _ =>
    (chk (t901.length + ([(⟨10, (((t901.length : Int) + 1) + (x124.1.length : Int)), ([] : Str)⟩ : Jd)]).length ≤ lim)).bind fun _ =>
    (JN x124.1 ((t901.length : Int) + 1)).bind fun x144 =>
    (chk ((t901 ++ [(⟨10, (((t901.length : Int) + 1) + (x124.1.length : Int)), ([] : Str)⟩ : Jd)]).length + x144.length ≤ lim)).bind fun _ =>
    some (y0_0, x124.2, ((t901 ++ [(⟨10, (((t901.length : Int) + 1) + (x124.1.length : Int)), ([] : Str)⟩ : Jd)]) ++ x144))
    else
    (ix e0.Kids 2).bind fun x148 =>
    (ix e0.Kids 2).bind fun x153 =>
    ((if decide (x153.Kind = 2) then
    (ix e0.Kids 2).bind fun x159 =>
    some [x159]
    else
    some x148.Kids : Option ((List Jc)))).bind fun t915 =>
    (rec_ t915 y0_0 x124.2).bind fun x166 =>
    (chk (InI (((t901.length : Int) + 1) + (x124.1.length : Int)))).bind fun _ =>
    (chk (InI ((((t901.length : Int) + 1) + (x124.1.length : Int)) + 1))).bind fun _ =>
    (chk (t901.length + ([(⟨10, ((((t901.length : Int) + 1) + (x124.1.length : Int)) + 1), ([] : Str)⟩ : Jd)]).length ≤ lim)).bind fun _ =>
    (JN x124.1 ((t901.length : Int) + 1)).bind fun x181 =>
    (chk ((t901 ++ [(⟨10, ((((t901.length : Int) + 1) + (x124.1.length : Int)) + 1), ([] : Str)⟩ : Jd)]).length + x181.length ≤ lim)).bind fun _ =>
    (chk (InI (((((t901.length : Int) + 1) + (x124.1.length : Int)) + 1) + (x166.1.length : Int)))).bind fun _ =>
    (chk (((t901 ++ [(⟨10, ((((t901.length : Int) + 1) + (x124.1.length : Int)) + 1), ([] : Str)⟩ : Jd)]) ++ x181).length + ([(⟨9, (((((t901.length : Int) + 1) + (x124.1.length : Int)) + 1) + (x166.1.length : Int)), ([] : Str)⟩ : Jd)]).length ≤ lim)).bind fun _ =>
    (JN x166.1 ((((t901.length : Int) + 1) + (x124.1.length : Int)) + 1)).bind fun x193 =>
    (chk ((((t901 ++ [(⟨10, ((((t901.length : Int) + 1) + (x124.1.length : Int)) + 1), ([] : Str)⟩ : Jd)]) ++ x181) ++ [(⟨9, (((((t901.length : Int) + 1) + (x124.1.length : Int)) + 1) + (x166.1.length : Int)), ([] : Str)⟩ : Jd)]).length + x193.length ≤ lim)).bind fun _ =>
    some (y0_0, x166.2, ((((t901 ++ [(⟨10, ((((t901.length : Int) + 1) + (x124.1.length : Int)) + 1), ([] : Str)⟩ : Jd)]) ++ x181) ++ [(⟨9, (((((t901.length : Int) + 1) + (x124.1.length : Int)) + 1) + (x166.1.length : Int)), ([] : Str)⟩ : Jd)]) ++ x193))
    else
    some (y0_0, y0_1, t901) : Option ((List Int) × (List Str) × (List Jd)))).bind fun t903 =>
    (JN t903.2.2 (y0_2.length : Int)).bind fun x199 =>
    (chk (y0_2.length + x199.length ≤ lim)).bind fun _ =>
    JW n rec_ xs0 (i0 + 1) t903.1 t903.2.1 (y0_2 ++ x199)
noncomputable def Jaa : Nat → (List Jc) → (List Int) → (List Str) → Option ((List Jd) × (List Str))
  | 0, _, _, _ => none
  | n + 1, list, visible, names =>
    (chk (list.length ≤ szMax)).bind fun _ =>
    (JW n (Jaa n) list 0 visible names []).bind fun t0 =>
    some (t0.2.2, t0.2.1)
set_option maxHeartbeats 8000000 in
theorem JcO : ∀ {n : Nat} {list : (List Jc)} {visible : (List Int)} {names : (List Str)} {ap0_0 : Option Addr} {cp0_0 : Nat} {n0 : Nat} {ap1_0 : Option Addr} {cp1_0 : Nat} {n1 : Nat} {ap2_0 : Option Addr} {cp2_0 : Nat} {n2 : Nat} {K : Hp} {r : (List Jd) × (List Str)}
    (hm : Jaa n list visible names = some r) (hp0_0 : LiC Jc.R K ap0_0 cp0_0 4 list) (en0 : n0 = list.length) (hp1_0 : RdC eN K ap1_0 cp1_0 1 visible) (en1 : n1 = visible.length) (hp2_0 : RdC eS K ap2_0 cp2_0 1 names) (en2 : n2 = names.length),
    Fn Tryz.prog 33 [.slice ap0_0 n0 cp0_0, .slice ap1_0 n1 cp1_0, .slice ap2_0 n2 cp2_0] K [] (fun v K' H' => ∃ ar_0 : Option Addr, ∃ cr_0 : Nat, ∃ ar_1 : Option Addr, ∃ cr_1 : Nat, v = .tuple #[.slice ar_0 r.1.length cr_0, .slice ar_1 r.2.length cr_1] ∧ (0 < r.1.length → Has ar_0) ∧ RdC eS K' ar_1 cr_1 1 r.2 ∧ H' = [OwnL Jd.enc ar_0 73 3 cr_0 r.1]) := by
 intro n
 induction n with
 | zero =>
   intro list visible names ap0_0 cp0_0 n0 ap1_0 cp1_0 n1 ap2_0 cp2_0 n2 K r hm hp0_0 en0 hp1_0 en1 hp2_0 en2
   rw [Jaa.eq_1] at hm; cases hm
 | succ n ih =>
   intro list visible names ap0_0 cp0_0 n0 ap1_0 cp1_0 n1 ap2_0 cp2_0 n2 K r hm hp0_0 en0 hp1_0 en1 hp2_0 en2
   subst en0
   subst en1
   subst en2
   refine Fn.enter Tryz.func33 Tryz.call33 rfl fun F => ?_
   rw [Jaa.eq_2] at hm
   refine RStep.of (len_slice rfl ?_)
   obtain ⟨hk0, hm⟩ := chkb hm
   obtain ⟨s0, hl0, hm⟩ := bnd hm
   refine nilC Jd.enc 73 3 ?_
   refine code_cut (σ := ((List Int) × (List Str) × (List Jd)) × Option Addr × Nat × Option Addr × Nat × Option Addr × Nat) [1, 2, 8, 10, 11, 12, 13, 14, 15, 16, 19, 20, 21, 22, 23, 24, 25, 26, 27, 28, 29, 30, 31, 32, 33, 34, 35, 36, 37, 38, 39, 40, 41, 42, 43, 44, 45, 46, 47, 48, 49, 50, 51, 52, 53, 54, 55, 56, 57, 58, 59, 60, 61, 62, 63, 64, 65, 66, 67, 68, 69, 70, 71, 72, 73, 74, 75, 76, 77, 78, 79, 80, 81, 82, 83, 84, 85, 86, 87, 88, 89, 90, 91, 92, 93, 94, 95, 96, 97, 98, 99, 100, 101, 102, 103, 104, 105, 106, 107, 108, 109, 110, 111, 112, 113, 114, 115, 116, 117, 118, 119, 120, 121, 122, 123, 124, 125, 126, 127, 128, 129, 130, 131, 132, 133, 134, 135, 136, 137, 138, 139, 140, 141, 142, 143, 144, 145, 146, 147, 148, 149, 150, 151, 152, 153, 154, 155, 156, 157, 158, 159, 160, 161, 162, 163, 164, 165, 166, 167, 168, 169, 170, 171, 172, 173, 174, 175, 176, 177, 178, 179, 180, 181, 182, 183, 184, 185, 186, 187, 188, 189, 190, 191, 192, 193, 194, 195, 196, 197, 198, 199, 200, 201] (fun (t0, t0_a0, t0_c0, t0_a1, t0_c1, t0_a2, t0_c2) => [(1, .slice t0_a0 t0.1.length t0_c0), (2, .slice t0_a1 t0.2.1.length t0_c1), (8, .slice t0_a2 t0.2.2.length t0_c2)]) (fun (t0, t0_a0, t0_c0, t0_a1, t0_c1, t0_a2, t0_c2) => [OwnL Jd.enc t0_a2 73 3 t0_c2 t0.2.2, F]) (fun zz K1 => match zz with | (t0, t0_a0, t0_c0, t0_a1, t0_c1, t0_a2, t0_c2) => RdC eN K1 t0_a0 t0_c0 1 t0.1 ∧ RdC eS K1 t0_a1 t0_c1 1 t0.2.1 ∧ (0 < t0.2.2.length → Has t0_a2) ∧ t0 = s0) ?_ ?_
   refine block_go rfl ?_
   refine loop_rule (σ := Nat × (List Int) × (List Str) × (List Jd) × Option Addr × Nat × Option Addr × Nat × Option Addr × Nat) [1, 2, 8, 10, 11, 12, 13, 14, 15, 16, 19, 20, 21, 22, 23, 24, 25, 26, 27, 28, 29, 30, 31, 32, 33, 34, 35, 36, 37, 38, 39, 40, 41, 42, 43, 44, 45, 46, 47, 48, 49, 50, 51, 52, 53, 54, 55, 56, 57, 58, 59, 60, 61, 62, 63, 64, 65, 66, 67, 68, 69, 70, 71, 72, 73, 74, 75, 76, 77, 78, 79, 80, 81, 82, 83, 84, 85, 86, 87, 88, 89, 90, 91, 92, 93, 94, 95, 96, 97, 98, 99, 100, 101, 102, 103, 104, 105, 106, 107, 108, 109, 110, 111, 112, 113, 114, 115, 116, 117, 118, 119, 120, 121, 122, 123, 124, 125, 126, 127, 128, 129, 130, 131, 132, 133, 134, 135, 136, 137, 138, 139, 140, 141, 142, 143, 144, 145, 146, 147, 148, 149, 150, 151, 152, 153, 154, 155, 156, 157, 158, 159, 160, 161, 162, 163, 164, 165, 166, 167, 168, 169, 170, 171, 172, 173, 174, 175, 176, 177, 178, 179, 180, 181, 182, 183, 184, 185, 186, 187, 188, 189, 190, 191, 192, 193, 194, 195, 196, 197, 198, 199, 200, 201] (fun (i0, y0_0, y0_1, y0_2, y0_a0, y0_c0, y0_a1, y0_c1, y0_a2, y0_c2) => [(19, .int .i64 (i0 : Int)), (1, .slice y0_a0 y0_0.length y0_c0), (2, .slice y0_a1 y0_1.length y0_c1), (8, .slice y0_a2 y0_2.length y0_c2)]) (fun (i0, y0_0, y0_1, y0_2, y0_a0, y0_c0, y0_a1, y0_c1, y0_a2, y0_c2) => [OwnL Jd.enc y0_a2 73 3 y0_c2 y0_2, F]) (fun zz K1 => match zz with | (i0, y0_0, y0_1, y0_2, y0_a0, y0_c0, y0_a1, y0_c1, y0_a2, y0_c2) => RdC eN K1 y0_a0 y0_c0 1 y0_0 ∧ RdC eS K1 y0_a1 y0_c1 1 y0_1 ∧ (0 < y0_2.length → Has y0_a2) ∧ JW n (Jaa n) (list.drop i0) i0 y0_0 y0_1 y0_2 = some s0) (fun zz => list.length - zz.1) (0, visible, names, [], ap1_0, cp1_0, ap2_0, cp2_0, none, 0) rfl ⟨rfl, rfl, rfl, rfl, trivial⟩ (ConvH.of (.cons r0 (.cons r0 .nil))) ⟨hp1_0, hp2_0, (fun h => by simp at h), hl0⟩ ?_
   clear hl0
   rintro ⟨i0, y0_0, y0_1, y0_2, y0_a0, y0_c0, y0_a1, y0_c1, y0_a2, y0_c2⟩ Kb0 lk0 ⟨y0_h0, y0_h1, y0_h2, hl0⟩ j0
   refine cond_go rfl ?_
   refine cond_s (fun w0 => ?_) (fun w0 => ?_)
   obtain ⟨e0, hx0, hd0⟩ := ltx w0
   rw [hd0, JW.eq_2] at hl0
   refine block_go rfl ?_
   refine RStep.ofN (index_addr rfl rfl (hasR (LiC.mono Jc.R_ok lk0 hp0_0).rd hx0) (nn _) (lt_ofN hx0) ?_)
   obtain ⟨ss22, cc22, hr22, hc22, hR22⟩ := LiR.get (LiC.mono Jc.R_ok lk0 hp0_0).rd hx0
   obtain ⟨a22_0, c22_0, rfl, h22_0⟩ := Jc.out hR22
   refine RStep.of (load_rd_agg i0 _ hr22 rfl hc22 rfl ?_)
   refine alloc_rule rfl ?_
   intro b10
   refine store_rule r0 rfl ?_
   refine ⟨rfl, rfl, (Nat.le_of_ble_eq_true rfl), ?_⟩
   refine Jb rfl (RStep.of (load1_s r0 rfl rfl (RStep.of (len_slice rfl ?_))))
   obtain ⟨s901, hl901, hl0⟩ := bnd hl0
   refine code_cut (σ := ((List Jd)) × Option Addr × Nat) [11, 27, 28, 29, 30, 31, 32, 33] (fun (t901, t901_a0, t901_c0) => [(11, .slice t901_a0 t901.length t901_c0)]) (fun (t901, t901_a0, t901_c0) => [OwnL Jd.enc t901_a0 73 3 t901_c0 t901, Cells b10 24 [.int .i64 e0.Kind, str e0.Text, .slice a22_0 e0.Kids.length c22_0, .int .i64 e0.Line], OwnL Jd.enc y0_a2 73 3 y0_c2 y0_2, F]) (fun zz K1 => match zz with | (t901, t901_a0, t901_c0) => (0 < t901.length → Has t901_a0) ∧ t901 = s901) ?_ ?_
   refine cond_go rfl ?_
   refine cond_s (fun w26 => ?_) (fun w26 => ?_)
   replace hl901 := ift w26 hl901
   refine Jb rfl (RStep.of (load1_s r0 rfl rfl ?_))
   obtain ⟨x29, l29, k29, hl901⟩ := ixb hl901
   refine RStep.ofN (index_addr rfl rfl (hasR h22_0.rd k29) l29 (lt_ofE rfl l29 k29) ?_)
   obtain ⟨ss30, cc30, hr30, hc30, hR30⟩ := LiR.get h22_0.rd k29
   obtain ⟨a30_0, c30_0, rfl, h30_0⟩ := Jc.out hR30
   refine RStep.of (load_rd_agg ((0 : Int).toNat) _ hr30 rfl hc30 rfl ?_)
   obtain ⟨x33, q33, hl901⟩ := bnd hl901
   refine call_fn (Jdo (n' := x29) q33 h30_0 y0_h0 rfl y0_h1 rfl) .nil ?_
   rintro _ K33 _ l33 ⟨a33_0, c33_0, rfl, h33_0, rfl⟩
   refine MeetStep.mk (x33, a33_0, c33_0) ⟨rfl, trivial⟩ (by repeat (first | exact trivial | refine And.intro rfl ?_)) (ConvH.of (.cons r0 (.cons r0 (.cons r0 (.cons r0 .nil))))) l33 ⟨h33_0, (si hl901)⟩
   replace hl901 := iff_ w26 hl901
   refine nilMe Jd.enc 73 3 ?_
   refine MeetStep.mk ([], none, 0) ⟨rfl, trivial⟩ (by repeat (first | exact trivial | refine And.intro rfl ?_)) (ConvH.of (.cons r0 (.cons r0 (.cons r0 (.cons r0 .nil))))) (Hp.Le.refl _) ⟨(fun h => by simp at h), (si hl901)⟩
   rintro ⟨t901, t901_a0, t901_c0⟩ Kt901 lt901 ⟨t901_h0, rfl⟩ j901
   refine Jb rfl (RStep.of (load1_s r1 rfl rfl ?_))
   obtain ⟨s903, hl903, hl0⟩ := bnd hl0
   refine code_cut (σ := ((List Int) × (List Str) × (List Jd)) × Option Addr × Nat × Option Addr × Nat × Option Addr × Nat) [1, 2, 11, 12, 13, 14, 15, 16, 36, 37, 38, 39, 40, 41, 42, 43, 44, 45, 46, 47, 48, 49, 50, 51, 52, 53, 54, 55, 56, 57, 58, 59, 60, 61, 62, 63, 64, 65, 66, 67, 68, 69, 70, 71, 72, 73, 74, 75, 76, 77, 78, 79, 80, 81, 82, 83, 84, 85, 86, 87, 88, 89, 90, 91, 92, 93, 94, 95, 96, 97, 98, 99, 100, 101, 102, 103, 104, 105, 106, 107, 108, 109, 110, 111, 112, 113, 114, 115, 116, 117, 118, 119, 120, 121, 122, 123, 124, 125, 126, 127, 128, 129, 130, 131, 132, 133, 134, 135, 136, 137, 138, 139, 140, 141, 142, 143, 144, 145, 146, 147, 148, 149, 150, 151, 152, 153, 154, 155, 156, 157, 158, 159, 160, 161, 162, 163, 164, 165, 166, 167, 168, 169, 170, 171, 172, 173, 174, 175, 176, 177, 178, 179, 180, 181, 182, 183, 184, 185, 186, 187, 188, 189, 190, 191, 192, 193, 194] (fun (t903, t903_a0, t903_c0, t903_a1, t903_c1, t903_a2, t903_c2) => [(1, .slice t903_a0 t903.1.length t903_c0), (2, .slice t903_a1 t903.2.1.length t903_c1), (11, .slice t903_a2 t903.2.2.length t903_c2)]) (fun (t903, t903_a0, t903_c0, t903_a1, t903_c1, t903_a2, t903_c2) => [OwnL Jd.enc t903_a2 73 3 t903_c2 t903.2.2, Cells b10 24 [.int .i64 e0.Kind, str e0.Text, .slice a22_0 e0.Kids.length c22_0, .int .i64 e0.Line], OwnL Jd.enc y0_a2 73 3 y0_c2 y0_2, F]) (fun zz K1 => match zz with | (t903, t903_a0, t903_c0, t903_a1, t903_c1, t903_a2, t903_c2) => RdC eN K1 t903_a0 t903_c0 1 t903.1 ∧ RdC eS K1 t903_a1 t903_c1 1 t903.2.1 ∧ (0 < t903.2.2.length → Has t903_a2) ∧ t903 = s903) ?_ ?_
   refine block_go rfl ?_
   refine eq_int (cond_go rfl ?_)
   refine cond_s (fun w36 => ?_) (fun w36 => ?_)
   replace hl903 := ift w36 hl903
   refine RStep.of (len_slice rfl (build_struct rfl rfl (cond_T (cond_T ?_))))
   refine bsO (len := 1) (enc := Jd.enc) (l := [(⟨4, (y0_1.length : Int), ([] : Str)⟩ : Jd)]) (cl := [.int .i64 4, .int .i64 (y0_1.length : Int), str ([] : Str)]) elT36 rfl rfl (fun _ _ => rfl) rfl rfl rfl ?_ fun b42 => ?_
   · conv => whnf
     refine cond_T ?_
     first | done | rfl
   obtain ⟨h43, hl903⟩ := chkb hl903
   refine apE rfl r1 elT36 (src_own' rfl r0 rfl (fun _ => rfl) (fun _ => rfl)) h43 ?_
   intro a43 c43 o43
   refine bsO (len := 0) (enc := eN) (l := ([] : List Int)) (cl := []) elT81 rfl rfl (fun _ _ => rfl) rfl rfl rfl ?_ fun b44 => ?_
   · conv => whnf
     first | done | rfl
   obtain ⟨h46, hl903⟩ := chkb hl903
   refine apE rfl r0 elT81 (src_k rfl (y0_h0.mono lt901).rd rfl) h46 ?_
   intro a46 c46 o46
   refine RStep.of (len_slice rfl ?_)
   refine bsO (len := 1) (enc := eN) (l := [(y0_1.length : Int)]) (cl := [.int .i64 (y0_1.length : Int)]) elT81 rfl rfl (fun _ _ => rfl) rfl rfl rfl ?_ fun b49 => ?_
   · conv => whnf
     refine cond_T ?_
     first | done | rfl
   obtain ⟨h50, hl903⟩ := chkb hl903
   refine apE rfl r1 elT81 (src_own' rfl r0 rfl (fun _ => rfl) (fun _ => rfl)) h50 ?_
   intro a50 c50 o50
   refine draw_go_F ⟨⟨[], false⟩, _, [(_, _)]⟩ 8 rfl (by kernel_rfl) ⟨Hp.Le.refl _, (ConvH.of (.cons r4 .nil))⟩ ?_
   refine bsA (len := 0) (cl := []) elT70 rfl rfl ?_ fun b51 => ?_
   · conv => whnf
     first | done | rfl
   intro GG2
   obtain ⟨h53, hl903⟩ := chkb hl903
   refine ape (enc := eS) r0 elT70 (src_k rfl (y0_h1.mono lt901).rd rfl) h53 ?_
   intro a53 c53 o53
   refine ⟨⟨(Hp.Le.refl _), (ConvH.of (.cons r5 .nil))⟩, ?_⟩
   refine ⟨_, .cons r8 .nil, ⟨(Hp.Le.refl _), (ConvH.of (.cons r5 .nil))⟩, ?_⟩
   refine Jb rfl (load1_l m0 rfl rfl ?_)
   refine bsA (len := 1) (cl := [str e0.Text]) elT70 rfl rfl ?_ fun b56 => ?_
   · conv => whnf
     refine cond_T ?_
     first | done | rfl
   intro GG6
   obtain ⟨h57, hl903⟩ := chkb hl903
   refine apE rfl r1 elT70 (src_lit rfl r0 rfl rfl (fun _ _ => rfl) rfl) h57 ?_
   intro a57 c57 o57
   refine ⟨⟨(Hp.Le.refl _), (ConvH.of (.cons r6 .nil))⟩, ?_⟩
   refine ⟨_, .cons r9 .nil, ⟨(Hp.Le.refl _), (ConvH.of (.cons r6 .nil))⟩, ?_⟩
   refine fMe r2 fun Kr903_0 lr903_0 fr903_0 => ?_
   refine fMe r0 fun Kr903_1 lr903_1 fr903_1 => ?_
   refine MeetStep.mk ((((([] : List Int) ++ y0_0) ++ [(y0_1.length : Int)]), (y0_1 ++ [e0.Text]), (t901 ++ [(⟨4, (y0_1.length : Int), ([] : Str)⟩ : Jd)])), a50, c50, a57, c57, a43, c43) ⟨rfl, rfl, rfl, trivial⟩ (by repeat (first | exact trivial | refine And.intro rfl ?_)) (ConvH.of (.cons r2 (.cons r3 (.cons r3 (.cons r3 .nil))))) (lr903_0.trans lr903_1) ⟨(fr903_0.mono lr903_1), fr903_1, o43, (si hl903)⟩
   replace hl903 := iff_ w36 hl903
   refine eq_int (cond_go rfl ?_)
   refine cond_s (fun w58 => ?_) (fun w58 => ?_)
   replace hl903 := ift w58 hl903
   refine Jb rfl (RStep.of (load1_s r1 rfl rfl (build_struct rfl rfl (cond_T (cond_T ?_)))))
   refine bsO (len := 1) (enc := Jd.enc) (l := [(⟨11, 0, e0.Text⟩ : Jd)]) (cl := [.int .i64 11, .int .i64 0, str e0.Text]) elT36 rfl rfl (fun _ _ => rfl) rfl rfl rfl ?_ fun b64 => ?_
   · conv => whnf
     refine cond_T ?_
     first | done | rfl
   obtain ⟨h65, hl903⟩ := chkb hl903
   refine apE rfl r1 elT36 (src_own' rfl r0 rfl (fun _ => rfl) (fun _ => rfl)) h65 ?_
   intro a65 c65 o65
   refine MeetStep.mk ((y0_0, y0_1, (t901 ++ [(⟨11, 0, e0.Text⟩ : Jd)])), y0_a0, y0_c0, y0_a1, y0_c1, a65, c65) ⟨rfl, rfl, rfl, trivial⟩ (by repeat (first | exact trivial | refine And.intro rfl ?_)) (ConvH.of (.cons r0 (.cons r1 (.cons r1 (.cons r1 .nil))))) (Hp.Le.refl _) ⟨(y0_h0.mono lt901), (y0_h1.mono lt901), o65, (si hl903)⟩
   replace hl903 := iff_ w58 hl903
   refine eq_int (cond_go rfl ?_)
   refine cond_s (fun w66 => ?_) (fun w66 => ?_)
   replace hl903 := ift w66 hl903
   refine Jb rfl (RStep.of (load1_s r1 rfl rfl ?_))
   obtain ⟨h71, hl903⟩ := chkb hl903
   refine cat_str h71 ?_
   refine build_struct rfl rfl (cond_T (cond_T ?_))
   refine bsO (len := 1) (enc := Jd.enc) (l := [(⟨11, 0, (([104, 101, 97, 100, 101, 114, 58] : Str) ++ e0.Text)⟩ : Jd)]) (cl := [.int .i64 11, .int .i64 0, str (([104, 101, 97, 100, 101, 114, 58] : Str) ++ e0.Text)]) elT36 rfl rfl (fun _ _ => rfl) rfl rfl rfl ?_ fun b73 => ?_
   · conv => whnf
     refine cond_T ?_
     first | done | rfl
   obtain ⟨h74, hl903⟩ := chkb hl903
   refine apE rfl r1 elT36 (src_own' rfl r0 rfl (fun _ => rfl) (fun _ => rfl)) h74 ?_
   intro a74 c74 o74
   refine MeetStep.mk ((y0_0, y0_1, (t901 ++ [(⟨11, 0, (([104, 101, 97, 100, 101, 114, 58] : Str) ++ e0.Text)⟩ : Jd)])), y0_a0, y0_c0, y0_a1, y0_c1, a74, c74) ⟨rfl, rfl, rfl, trivial⟩ (by repeat (first | exact trivial | refine And.intro rfl ?_)) (ConvH.of (.cons r0 (.cons r1 (.cons r1 (.cons r1 .nil))))) (Hp.Le.refl _) ⟨(y0_h0.mono lt901), (y0_h1.mono lt901), o74, (si hl903)⟩
   replace hl903 := iff_ w66 hl903
   refine eq_int (cond_go rfl ?_)
   refine cond_s (fun w75 => ?_) (fun w75 => ?_)
   replace hl903 := ift w75 hl903
   refine Jb rfl (RStep.of (load1_s r1 rfl rfl ?_))
   obtain ⟨h80, hl903⟩ := chkb hl903
   refine cat_str h80 ?_
   refine build_struct rfl rfl (cond_T (cond_T ?_))
   refine bsO (len := 1) (enc := Jd.enc) (l := [(⟨11, 0, (([118, 97, 114, 121, 58] : Str) ++ e0.Text)⟩ : Jd)]) (cl := [.int .i64 11, .int .i64 0, str (([118, 97, 114, 121, 58] : Str) ++ e0.Text)]) elT36 rfl rfl (fun _ _ => rfl) rfl rfl rfl ?_ fun b82 => ?_
   · conv => whnf
     refine cond_T ?_
     first | done | rfl
   obtain ⟨h83, hl903⟩ := chkb hl903
   refine apE rfl r1 elT36 (src_own' rfl r0 rfl (fun _ => rfl) (fun _ => rfl)) h83 ?_
   intro a83 c83 o83
   refine MeetStep.mk ((y0_0, y0_1, (t901 ++ [(⟨11, 0, (([118, 97, 114, 121, 58] : Str) ++ e0.Text)⟩ : Jd)])), y0_a0, y0_c0, y0_a1, y0_c1, a83, c83) ⟨rfl, rfl, rfl, trivial⟩ (by repeat (first | exact trivial | refine And.intro rfl ?_)) (ConvH.of (.cons r0 (.cons r1 (.cons r1 (.cons r1 .nil))))) (Hp.Le.refl _) ⟨(y0_h0.mono lt901), (y0_h1.mono lt901), o83, (si hl903)⟩
   replace hl903 := iff_ w75 hl903
   refine eq_int (cond_go rfl ?_)
   refine cond_s (fun w84 => ?_) (fun w84 => ?_)
   replace hl903 := ift w84 hl903
   refine build_struct rfl rfl (cond_T (cond_T ?_))
   refine bsO (len := 1) (enc := Jd.enc) (l := [(⟨11, 0, ([116, 97, 103] : Str)⟩ : Jd)]) (cl := [.int .i64 11, .int .i64 0, str ([116, 97, 103] : Str)]) elT36 rfl rfl (fun _ _ => rfl) rfl rfl rfl ?_ fun b88 => ?_
   · conv => whnf
     refine cond_T ?_
     first | done | rfl
   obtain ⟨h89, hl903⟩ := chkb hl903
   refine apE rfl r1 elT36 (src_own' rfl r0 rfl (fun _ => rfl) (fun _ => rfl)) h89 ?_
   intro a89 c89 o89
   refine MeetStep.mk ((y0_0, y0_1, (t901 ++ [(⟨11, 0, ([116, 97, 103] : Str)⟩ : Jd)])), y0_a0, y0_c0, y0_a1, y0_c1, a89, c89) ⟨rfl, rfl, rfl, trivial⟩ (by repeat (first | exact trivial | refine And.intro rfl ?_)) (ConvH.of (.cons r0 (.cons r1 (.cons r1 (.cons r1 .nil))))) (Hp.Le.refl _) ⟨(y0_h0.mono lt901), (y0_h1.mono lt901), o89, (si hl903)⟩
   replace hl903 := iff_ w84 hl903
   refine eq_int (cond_go rfl ?_)
   refine cond_s (fun w90 => ?_) (fun w90 => ?_)
   replace hl903 := ift w90 hl903
   refine build_struct rfl rfl (cond_T (cond_T ?_))
   refine bsO (len := 1) (enc := Jd.enc) (l := [(⟨11, 0, ([116, 116, 108] : Str)⟩ : Jd)]) (cl := [.int .i64 11, .int .i64 0, str ([116, 116, 108] : Str)]) elT36 rfl rfl (fun _ _ => rfl) rfl rfl rfl ?_ fun b94 => ?_
   · conv => whnf
     refine cond_T ?_
     first | done | rfl
   obtain ⟨h95, hl903⟩ := chkb hl903
   refine apE rfl r1 elT36 (src_own' rfl r0 rfl (fun _ => rfl) (fun _ => rfl)) h95 ?_
   intro a95 c95 o95
   refine MeetStep.mk ((y0_0, y0_1, (t901 ++ [(⟨11, 0, ([116, 116, 108] : Str)⟩ : Jd)])), y0_a0, y0_c0, y0_a1, y0_c1, a95, c95) ⟨rfl, rfl, rfl, trivial⟩ (by repeat (first | exact trivial | refine And.intro rfl ?_)) (ConvH.of (.cons r0 (.cons r1 (.cons r1 (.cons r1 .nil))))) (Hp.Le.refl _) ⟨(y0_h0.mono lt901), (y0_h1.mono lt901), o95, (si hl903)⟩
   replace hl903 := iff_ w90 hl903
   refine eq_int (cond_go rfl ?_)
   refine cond_s (fun w96 => ?_) (fun w96 => ?_)
   replace hl903 := ift w96 hl903
   refine build_struct rfl rfl (cond_T (cond_T ?_))
   refine bsO (len := 1) (enc := Jd.enc) (l := [(⟨11, 0, ([100, 101, 110, 121] : Str)⟩ : Jd)]) (cl := [.int .i64 11, .int .i64 0, str ([100, 101, 110, 121] : Str)]) elT36 rfl rfl (fun _ _ => rfl) rfl rfl rfl ?_ fun b100 => ?_
   · conv => whnf
     refine cond_T ?_
     first | done | rfl
   obtain ⟨h101, hl903⟩ := chkb hl903
   refine apE rfl r1 elT36 (src_own' rfl r0 rfl (fun _ => rfl) (fun _ => rfl)) h101 ?_
   intro a101 c101 o101
   refine MeetStep.mk ((y0_0, y0_1, (t901 ++ [(⟨11, 0, ([100, 101, 110, 121] : Str)⟩ : Jd)])), y0_a0, y0_c0, y0_a1, y0_c1, a101, c101) ⟨rfl, rfl, rfl, trivial⟩ (by repeat (first | exact trivial | refine And.intro rfl ?_)) (ConvH.of (.cons r0 (.cons r1 (.cons r1 (.cons r1 .nil))))) (Hp.Le.refl _) ⟨(y0_h0.mono lt901), (y0_h1.mono lt901), o101, (si hl903)⟩
   replace hl903 := iff_ w96 hl903
   refine eq_int (cond_go rfl ?_)
   refine cond_s (fun w102 => ?_) (fun w102 => ?_)
   replace hl903 := ift w102 hl903
   refine build_struct rfl rfl (cond_T (cond_T ?_))
   refine bsO (len := 1) (enc := Jd.enc) (l := [(⟨11, 0, ([112, 97, 115, 115] : Str)⟩ : Jd)]) (cl := [.int .i64 11, .int .i64 0, str ([112, 97, 115, 115] : Str)]) elT36 rfl rfl (fun _ _ => rfl) rfl rfl rfl ?_ fun b106 => ?_
   · conv => whnf
     refine cond_T ?_
     first | done | rfl
   obtain ⟨h107, hl903⟩ := chkb hl903
   refine apE rfl r1 elT36 (src_own' rfl r0 rfl (fun _ => rfl) (fun _ => rfl)) h107 ?_
   intro a107 c107 o107
   refine MeetStep.mk ((y0_0, y0_1, (t901 ++ [(⟨11, 0, ([112, 97, 115, 115] : Str)⟩ : Jd)])), y0_a0, y0_c0, y0_a1, y0_c1, a107, c107) ⟨rfl, rfl, rfl, trivial⟩ (by repeat (first | exact trivial | refine And.intro rfl ?_)) (ConvH.of (.cons r0 (.cons r1 (.cons r1 (.cons r1 .nil))))) (Hp.Le.refl _) ⟨(y0_h0.mono lt901), (y0_h1.mono lt901), o107, (si hl903)⟩
   replace hl903 := iff_ w102 hl903
   refine eq_int (cond_go rfl ?_)
   refine cond_s (fun w108 => ?_) (fun w108 => ?_)
   replace hl903 := ift w108 hl903
   refine build_struct rfl rfl (cond_T (cond_T ?_))
   refine bsO (len := 1) (enc := Jd.enc) (l := [(⟨11, 0, ([116, 111, 107, 101, 110] : Str)⟩ : Jd)]) (cl := [.int .i64 11, .int .i64 0, str ([116, 111, 107, 101, 110] : Str)]) elT36 rfl rfl (fun _ _ => rfl) rfl rfl rfl ?_ fun b112 => ?_
   · conv => whnf
     refine cond_T ?_
     first | done | rfl
   obtain ⟨h113, hl903⟩ := chkb hl903
   refine apE rfl r1 elT36 (src_own' rfl r0 rfl (fun _ => rfl) (fun _ => rfl)) h113 ?_
   intro a113 c113 o113
   refine MeetStep.mk ((y0_0, y0_1, (t901 ++ [(⟨11, 0, ([116, 111, 107, 101, 110] : Str)⟩ : Jd)])), y0_a0, y0_c0, y0_a1, y0_c1, a113, c113) ⟨rfl, rfl, rfl, trivial⟩ (by repeat (first | exact trivial | refine And.intro rfl ?_)) (ConvH.of (.cons r0 (.cons r1 (.cons r1 (.cons r1 .nil))))) (Hp.Le.refl _) ⟨(y0_h0.mono lt901), (y0_h1.mono lt901), o113, (si hl903)⟩
   replace hl903 := iff_ w108 hl903
   refine eq_int (cond_go rfl ?_)
   refine cond_s (fun w114 => ?_) (fun w114 => ?_)
   replace hl903 := ift w114 hl903
   refine Jb rfl (RStep.of (load1_s r1 rfl rfl ?_))
   obtain ⟨x119, l119, k119, hl903⟩ := ixb hl903
   refine RStep.ofN (index_addr rfl rfl (hasR (LiC.mono Jc.R_ok lt901 h22_0).rd k119) l119 (lt_ofE rfl l119 k119) (eptr_field rfl (hasR (LiC.mono Jc.R_ok lt901 h22_0).rd k119) ?_))
   obtain ⟨ss121, cc121, hr121, hc121, hR121⟩ := LiR.get (LiC.mono Jc.R_ok lt901 h22_0).rd k119
   obtain ⟨a121_0, c121_0, rfl, h121_0⟩ := Jc.out hR121
   refine RStep.of (load_rd ((1 : Int).toNat) 2 _ _ hr121 rfl hc121 rfl rfl ?_)
   obtain ⟨x124, q124, hl903⟩ := bnd hl903
   refine call_fn (ih q124 h121_0 rfl (y0_h0.mono lt901) rfl (y0_h1.mono lt901) rfl) .nil ?_
   rintro _ K124 _ l124 ⟨a124_0, c124_0, a124_1, c124_1, rfl, h124_0, h124_1, rfl⟩
   refine RStep.of (len_slice rfl ?_)
   obtain ⟨h129, hl903⟩ := chkb hl903
   refine int_in h129 (Jb rfl (RStep.of (load1_s r2 rfl rfl (RStep.of (len_slice rfl (eq_int (cond_go rfl ?_)))))))
   refine cond_s (fun w133 => ?_) (fun w133 => ?_)
   replace hl903 := ift w133 hl903
   refine RStep.of (len_slice rfl ?_)
   obtain ⟨h138, hl903⟩ := chkb hl903
   refine int_in h138 (build_struct rfl rfl (cond_T (cond_T ?_)))
   refine bsO (len := 1) (enc := Jd.enc) (l := [(⟨10, (((t901.length : Int) + 1) + (x124.1.length : Int)), ([] : Str)⟩ : Jd)]) (cl := [.int .i64 10, .int .i64 (((t901.length : Int) + 1) + (x124.1.length : Int)), str ([] : Str)]) elT36 rfl rfl (fun _ _ => rfl) rfl rfl rfl ?_ fun b140 => ?_
   · conv => whnf
     refine cond_T ?_
     first | done | rfl
   obtain ⟨h141, hl903⟩ := chkb hl903
   refine apE rfl r2 elT36 (src_own' rfl r0 rfl (fun _ => rfl) (fun _ => rfl)) h141 ?_
   intro a141 c141 o141
   obtain ⟨x144, q144, hl903⟩ := bnd hl903
   refine call_fn (Fn.lend Tryz.call53 (fun K144_0 l144_0 f144_0 => (JaR (byZ := ((t901.length : Int) + 1)) q144 f144_0 rfl)) (by exact fun _ _ _ _ h => h)) (.cons r2 .nil) ?_
   rintro _ K144 _ l144 ⟨_, rfl, a144_0, c144_0, rfl, h144_0, rfl⟩
   obtain ⟨h145, hl903⟩ := chkb hl903
   refine apE rfl r2 elT36 (src_own' rfl r1 rfl (fun _ => rfl) (fun _ => rfl)) h145 ?_
   intro a145 c145 o145
   refine cond_T ?_
   refine MeetStep.mk ((y0_0, x124.2, ((t901 ++ [(⟨10, (((t901.length : Int) + 1) + (x124.1.length : Int)), ([] : Str)⟩ : Jd)]) ++ x144)), y0_a0, y0_c0, a124_1, c124_1, a145, c145) ⟨rfl, rfl, rfl, trivial⟩ (by repeat (first | exact trivial | refine And.intro rfl ?_)) (ConvH.of (.cons r0 (.cons r3 (.cons r3 (.cons r3 .nil))))) (l124.trans l144) ⟨(y0_h0.mono ((lt901.trans l124).trans l144)), (h124_1.mono l144), o145, (si hl903)⟩
   replace hl903 := iff_ w133 hl903
   refine Jb rfl (RStep.of (load1_s r2 rfl rfl ?_))
   obtain ⟨x148, l148, k148, hl903⟩ := ixb hl903
   refine RStep.ofN (index_addr rfl rfl (hasR (LiC.mono Jc.R_ok (lt901.trans l124) h22_0).rd k148) l148 (lt_ofE rfl l148 k148) (eptr_field rfl (hasR (LiC.mono Jc.R_ok (lt901.trans l124) h22_0).rd k148) ?_))
   obtain ⟨ss150, cc150, hr150, hc150, hR150⟩ := LiR.get (LiC.mono Jc.R_ok (lt901.trans l124) h22_0).rd k148
   obtain ⟨a150_0, c150_0, rfl, h150_0⟩ := Jc.out hR150
   refine RStep.of (load_rd ((2 : Int).toNat) 2 _ _ hr150 rfl hc150 rfl rfl (Jb rfl (RStep.of (load1_s r2 rfl rfl ?_))))
   obtain ⟨x153, l153, k153, hl903⟩ := ixb hl903
   refine RStep.ofN (index_addr rfl rfl (hasR (LiC.mono Jc.R_ok (lt901.trans l124) h22_0).rd k153) l153 (lt_ofE rfl l153 k153) (eptr_field rfl (hasR (LiC.mono Jc.R_ok (lt901.trans l124) h22_0).rd k153) ?_))
   obtain ⟨ss155, cc155, hr155, hc155, hR155⟩ := LiR.get (LiC.mono Jc.R_ok (lt901.trans l124) h22_0).rd k153
   obtain ⟨a155_0, c155_0, rfl, h155_0⟩ := Jc.out hR155
   refine RStep.of (load_rd ((2 : Int).toNat) 0 _ _ hr155 rfl hc155 rfl rfl (eq_int ?_))
   obtain ⟨s915, hl915, hl903⟩ := bnd hl903
   refine code_cut (σ := ((List Jc)) × Option Addr × Nat) [15, 157, 158, 159, 160, 161] (fun (t915, t915_a0, t915_c0) => [(15, .slice t915_a0 t915.length t915_c0)]) (fun (t915, t915_a0, t915_c0) => [OwnL Jd.enc a124_0 73 3 c124_0 x124.1, OwnL Jd.enc t901_a0 73 3 t901_c0 t901, Cells b10 24 [.int .i64 e0.Kind, str e0.Text, .slice a22_0 e0.Kids.length c22_0, .int .i64 e0.Line], OwnL Jd.enc y0_a2 73 3 y0_c2 y0_2, F]) (fun zz K1 => match zz with | (t915, t915_a0, t915_c0) => LiC Jc.R K1 t915_a0 t915_c0 4 t915 ∧ t915 = s915) ?_ ?_
   refine cond_go rfl ?_
   refine cond_s (fun w156 => ?_) (fun w156 => ?_)
   replace hl915 := ift w156 hl915
   refine Jb rfl (RStep.of (load1_s r2 rfl rfl ?_))
   obtain ⟨x159, l159, k159, hl915⟩ := ixb hl915
   refine RStep.ofN (index_addr rfl rfl (hasR (LiC.mono Jc.R_ok (lt901.trans l124) h22_0).rd k159) l159 (lt_ofE rfl l159 k159) ?_)
   obtain ⟨ss160, cc160, hr160, hc160, hR160⟩ := LiR.get (LiC.mono Jc.R_ok (lt901.trans l124) h22_0).rd k159
   obtain ⟨a160_0, c160_0, rfl, h160_0⟩ := Jc.out hR160
   refine RStep.of (load_rd_agg ((2 : Int).toNat) _ hr160 rfl hc160 rfl ?_)
   refine bsOR (R := Jc.R) (len := 1) (l := [x159]) (css := [[.int .i64 x159.Kind, str x159.Text, .slice a160_0 x159.Kids.length c160_0, .int .i64 x159.Line]]) (cl := [.int .i64 x159.Kind, str x159.Text, .slice a160_0 x159.Kids.length c160_0, .int .i64 x159.Line]) Jc.R_ok elT22 rfl rfl (LR.snoc LR.nil (Jc.of (x := x159) ⟨a160_0, c160_0, rfl, h160_0⟩)) rfl rfl rfl ?_ fun b161 => ?_
   · conv => whnf
     refine cond_T ?_
     first | done | rfl
   refine fzMeR Jc.R_ok r0 (show LR Jc.R _ [[.int .i64 x159.Kind, str x159.Text, .slice a160_0 x159.Kids.length c160_0, .int .i64 x159.Line]] [x159] from (LR.snoc LR.nil (Jc.of (x := x159) ⟨a160_0, c160_0, rfl, h160_0⟩))) fun Kr915_0 lr915_0 fr915_0 => ?_
   refine MeetStep.mk ([x159], (some ⟨b161, 0, none⟩), 1) ⟨rfl, trivial⟩ (by repeat (first | exact trivial | refine And.intro rfl ?_)) (ConvH.of (.cons r0 (.cons r0 (.cons r0 (.cons r0 (.cons r0 .nil)))))) lr915_0 ⟨fr915_0, (si hl915)⟩
   replace hl915 := iff_ w156 hl915
   refine MeetStep.mk (x148.Kids, a150_0, c150_0) ⟨rfl, trivial⟩ (by repeat (first | exact trivial | refine And.intro rfl ?_)) (ConvH.of (.cons r0 (.cons r0 (.cons r0 (.cons r0 (.cons r0 .nil)))))) (Hp.Le.refl _) ⟨h150_0, (si hl915)⟩
   rintro ⟨t915, t915_a0, t915_c0⟩ Kt915 lt915 ⟨t915_h0, rfl⟩ j915
   obtain ⟨x166, q166, hl903⟩ := bnd hl903
   refine call_fn (ih q166 t915_h0 rfl (y0_h0.mono ((lt901.trans l124).trans lt915)) rfl (h124_1.mono lt915) rfl) .nil ?_
   rintro _ K166 _ l166 ⟨a166_0, c166_0, a166_1, c166_1, rfl, h166_0, h166_1, rfl⟩
   refine RStep.of (len_slice rfl ?_)
   obtain ⟨h172, hl903⟩ := chkb hl903
   refine int_in h172 ?_
   obtain ⟨h173, hl903⟩ := chkb hl903
   refine int_in h173 (build_struct rfl rfl (cond_T (cond_T ?_)))
   refine bsO (len := 1) (enc := Jd.enc) (l := [(⟨10, ((((t901.length : Int) + 1) + (x124.1.length : Int)) + 1), ([] : Str)⟩ : Jd)]) (cl := [.int .i64 10, .int .i64 ((((t901.length : Int) + 1) + (x124.1.length : Int)) + 1), str ([] : Str)]) elT36 rfl rfl (fun _ _ => rfl) rfl rfl rfl ?_ fun b177 => ?_
   · conv => whnf
     refine cond_T ?_
     first | done | rfl
   obtain ⟨h178, hl903⟩ := chkb hl903
   refine apE rfl r3 elT36 (src_own' rfl r0 rfl (fun _ => rfl) (fun _ => rfl)) h178 ?_
   intro a178 c178 o178
   obtain ⟨x181, q181, hl903⟩ := bnd hl903
   refine call_fn (Fn.lend Tryz.call53 (fun K181_0 l181_0 f181_0 => (JaR (byZ := ((t901.length : Int) + 1)) q181 f181_0 rfl)) (by exact fun _ _ _ _ h => h)) (.cons r3 .nil) ?_
   rintro _ K181 _ l181 ⟨_, rfl, a181_0, c181_0, rfl, h181_0, rfl⟩
   obtain ⟨h182, hl903⟩ := chkb hl903
   refine apE rfl r2 elT36 (src_own' rfl r1 rfl (fun _ => rfl) (fun _ => rfl)) h182 ?_
   intro a182 c182 o182
   refine RStep.of (len_slice rfl ?_)
   obtain ⟨h187, hl903⟩ := chkb hl903
   refine int_in h187 (build_struct rfl rfl (cond_T (cond_T ?_)))
   refine bsO (len := 1) (enc := Jd.enc) (l := [(⟨9, (((((t901.length : Int) + 1) + (x124.1.length : Int)) + 1) + (x166.1.length : Int)), ([] : Str)⟩ : Jd)]) (cl := [.int .i64 9, .int .i64 (((((t901.length : Int) + 1) + (x124.1.length : Int)) + 1) + (x166.1.length : Int)), str ([] : Str)]) elT36 rfl rfl (fun _ _ => rfl) rfl rfl rfl ?_ fun b189 => ?_
   · conv => whnf
     refine cond_T ?_
     first | done | rfl
   obtain ⟨h190, hl903⟩ := chkb hl903
   refine apE rfl r1 elT36 (src_own' rfl r0 rfl (fun _ => rfl) (fun _ => rfl)) h190 ?_
   intro a190 c190 o190
   obtain ⟨x193, q193, hl903⟩ := bnd hl903
   refine call_fn (Fn.lend Tryz.call53 (fun K193_0 l193_0 f193_0 => (JaR (byZ := ((((t901.length : Int) + 1) + (x124.1.length : Int)) + 1)) q193 f193_0 rfl)) (by exact fun _ _ _ _ h => h)) (.cons r5 .nil) ?_
   rintro _ K193 _ l193 ⟨_, rfl, a193_0, c193_0, rfl, h193_0, rfl⟩
   obtain ⟨h194, hl903⟩ := chkb hl903
   refine apE rfl r2 elT36 (src_own' rfl r1 rfl (fun _ => rfl) (fun _ => rfl)) h194 ?_
   intro a194 c194 o194
   refine MeetStep.mk ((y0_0, x166.2, ((((t901 ++ [(⟨10, ((((t901.length : Int) + 1) + (x124.1.length : Int)) + 1), ([] : Str)⟩ : Jd)]) ++ x181) ++ [(⟨9, (((((t901.length : Int) + 1) + (x124.1.length : Int)) + 1) + (x166.1.length : Int)), ([] : Str)⟩ : Jd)]) ++ x193)), y0_a0, y0_c0, a166_1, c166_1, a194, c194) ⟨rfl, rfl, rfl, trivial⟩ (by repeat (first | exact trivial | refine And.intro rfl ?_)) (ConvH.of (.cons r0 (.cons r6 (.cons r6 (.cons r6 .nil))))) ((((l124.trans lt915).trans l166).trans l181).trans l193) ⟨(y0_h0.mono (((((lt901.trans l124).trans lt915).trans l166).trans l181).trans l193)), (h166_1.mono (l181.trans l193)), o194, (si hl903)⟩
   replace hl903 := iff_ w114 hl903
   refine MeetStep.mk ((y0_0, y0_1, t901), y0_a0, y0_c0, y0_a1, y0_c1, t901_a0, t901_c0) ⟨rfl, rfl, rfl, trivial⟩ (by repeat (first | exact trivial | refine And.intro rfl ?_)) (ConvH.of (.cons r0 (.cons r0 (.cons r0 (.cons r0 .nil))))) (Hp.Le.refl _) ⟨(y0_h0.mono lt901), (y0_h1.mono lt901), t901_h0, (si hl903)⟩
   rintro ⟨t903, t903_a0, t903_c0, t903_a1, t903_c1, t903_a2, t903_c2⟩ Kt903 lt903 ⟨t903_h0, t903_h1, t903_h2, rfl⟩ j903
   refine RStep.of (len_slice rfl ?_)
   obtain ⟨x199, q199, hl0⟩ := bnd hl0
   refine call_fn (Fn.lend Tryz.call53 (fun K199_0 l199_0 f199_0 => (JaR (byZ := (y0_2.length : Int)) q199 f199_0 rfl)) (by exact fun _ _ _ _ h => h)) (.cons r0 .nil) ?_
   rintro _ K199 _ l199 ⟨_, rfl, a199_0, c199_0, rfl, h199_0, rfl⟩
   obtain ⟨h200, hl0⟩ := chkb hl0
   refine apE rfl r3 elT36 (src_own' rfl r1 rfl (fun _ => rfl) (fun _ => rfl)) h200 ?_
   intro a200 c200 o200
   refine int_in (cntz hx0 hk0) ?_
   refine RoundStep.mk (i0 + 1, t903.1, t903.2.1, (y0_2 ++ x199), t903_a0, t903_c0, t903_a1, t903_c1, a200, c200) ⟨rfl, rfl, rfl, rfl, trivial⟩ (by repeat (first | exact trivial | refine And.intro rfl ?_)) (ConvH.of (.cons r0 (.cons r3 .nil))) (((lk0.trans lt901).trans lt903).trans l199) (ltm hx0) ⟨(t903_h0.mono l199), (t903_h1.mono l199), o200, hl0⟩
   rw [lty w0, JW.eq_1] at hl0
   refine cond_T ?_
   refine MeetStep.mk ((y0_0, y0_1, y0_2), y0_a0, y0_c0, y0_a1, y0_c1, y0_a2, y0_c2) ⟨rfl, rfl, rfl, trivial⟩ (by repeat (first | exact trivial | refine And.intro rfl ?_)) (ConvH.of (.cons r0 (.cons r0 .nil))) lk0 ⟨y0_h0, y0_h1, y0_h2, (si hl0)⟩
   rintro ⟨t0, t0_a0, t0_c0, t0_a1, t0_c1, t0_a2, t0_c2⟩ Kt0 lt0 ⟨t0_h0, t0_h1, t0_h2, rfl⟩ j0
   obtain rfl := si hm
   refine EndStep.mk _ lt0 ⟨t0_a2, t0_c2, t0_a1, t0_c1, rfl, t0_h2, t0_h1, rfl⟩ (ConvH.of (.cons r0 (.cons r0 .nil)))

noncomputable def JbS (n : Nat) (program : Jc) : Option ((List Jd) × Int) :=
  (Jce n program).bind fun x8 =>
  if decide (x8.Code ≠ 0) then
  some ([], x8.Code)
  else
  (Jaa n program.Kids [] []).bind fun x17 =>
  (chk (x17.1.length + ([(⟨12, 0, ([] : Str)⟩ : Jd)]).length ≤ lim)).bind fun _ =>
  if decide ((((x17.1 ++ [(⟨12, 0, ([] : Str)⟩ : Jd)]).length) : Int) > 2048) then
  some ([], 5)
  else
  some ((x17.1 ++ [(⟨12, 0, ([] : Str)⟩ : Jd)]), 0)
set_option maxHeartbeats 8000000 in
theorem Jc6 {n : Nat} {program : Jc} {ap0_0 : Option Addr} {cp0_0 : Nat} {K : Hp} {r : (List Jd) × Int}
    (hm : JbS n program = some r) (hp0_0 : LiC Jc.R K ap0_0 cp0_0 4 program.Kids) :
    Fn Tryz.prog 12 [.agg #[.int .i64 program.Kind, str program.Text, .slice ap0_0 program.Kids.length cp0_0, .int .i64 program.Line]] K [] (fun v K' H' => ∃ ar_0 : Option Addr, ∃ cr_0 : Nat, v = .tuple #[.slice ar_0 r.1.length cr_0, .int .i64 r.2] ∧ (0 < r.1.length → Has ar_0) ∧ H' = [OwnL Jd.enc ar_0 73 3 cr_0 r.1]) := by
 refine Fn.enter Tryz.func12 Tryz.call12 rfl fun F => ?_
 unfold JbS at hm
 refine box_rule ?_
 intro b1
 refine RStep.of (loadn_s r0 rfl (Nat.le_of_ble_eq_true rfl) ?_)
 obtain ⟨x8, q8, hm⟩ := bnd hm
 refine call_fn (Jdj (program := program) q8 hp0_0) .nil ?_
 rintro _ K8 _ l8 ⟨rfl, rfl⟩
 refine alloc_rule rfl ?_
 intro b4
 refine store_rule r0 rfl ?_
 refine ⟨rfl, rfl, (Nat.le_of_ble_eq_true rfl), ?_⟩
 refine Jb rfl (RStep.of (load1_s r0 rfl rfl (neq_int (cond_go rfl ?_))))
 refine cond_s (fun w11 => ?_) (fun w11 => ?_)
 replace hm := ift w11 hm
 refine draw_go ⟨⟨[], false⟩, _, [(_, _)]⟩ (by kernel_rfl) ⟨Hp.Le.refl _, (ConvH.of (.cons r0 .nil))⟩ ?_
 refine Jb rfl (load1_l m0 rfl rfl ?_)
 obtain rfl := si hm
 refine nilE Jd.enc 73 3 ?_
 refine EndStep.mk _ l8 ⟨none, 0, rfl, (fun h => by simp at h), rfl⟩ (ConvH.of (.cons r0 (.cons r2 .nil)))
 replace hm := iff_ w11 hm
 refine Jb rfl (RStep.of (load1_s r1 rfl rfl ?_))
 obtain ⟨x17, q17, hm⟩ := bnd hm
 refine call_fn (JcO q17 (LiC.mono Jc.R_ok l8 hp0_0) rfl RdC.nil rfl RdC.nil rfl) .nil ?_
 rintro _ K17 _ l17 ⟨a17_0, c17_0, a17_1, c17_1, rfl, h17_0, h17_1, rfl⟩
 refine build_struct rfl rfl (cond_T ?_)
 refine bsO (len := 1) (enc := Jd.enc) (l := [(⟨12, 0, ([] : Str)⟩ : Jd)]) (cl := [.int .i64 12, .int .i64 0, str ([] : Str)]) elT36 rfl rfl (fun _ _ => rfl) rfl rfl rfl ?_ fun b22 => ?_
 · conv => whnf
   refine cond_T ?_
   first | done | rfl
 obtain ⟨h23, hm⟩ := chkb hm
 refine apE rfl r1 elT36 (src_own' rfl r0 rfl (fun _ => rfl) (fun _ => rfl)) h23 ?_
 intro a23 c23 o23
 refine RStep.of (len_slice rfl (cond_go rfl ?_))
 refine cond_s (fun w26 => ?_) (fun w26 => ?_)
 replace hm := ift w26 hm
 obtain rfl := si hm
 refine nilE Jd.enc 73 3 ?_
 refine EndStep.mk _ (l8.trans l17) ⟨none, 0, rfl, (fun h => by simp at h), rfl⟩ (ConvH.of (.cons r0 (.cons r4 .nil)))
 replace hm := iff_ w26 hm
 obtain rfl := si hm
 refine EndStep.mk _ (l8.trans l17) ⟨a23, c23, rfl, o23, rfl⟩ (ConvH.of (.cons r0 (.cons r3 .nil)))

noncomputable def Jbs (b : (List Jd)) : List Jj → Nat → Option (Fl (Bool) (Unit))
  | [], _ => some (Fl.go ())
  | e0 :: xs0, i0 =>
    (ix b (i0 : Int)).bind fun x23 =>
    (if decide (e0.Op ≠ x23.Op) then some true else (ix b (i0 : Int)).bind fun x35 =>
    some (decide (e0.N ≠ x35.N))).bind fun x39 =>
    (if x39 then some true else (ix b (i0 : Int)).bind fun x48 =>
    some (decide (e0.S ≠ x48.S))).bind fun x52 =>
    if x52 then
    some (Fl.ret false)
    else
    Jbs b xs0 (i0 + 1)
noncomputable def Jcv (a : (List Jj)) (b : (List Jd)) : Option (Bool) :=
  if decide ((a.length : Int) ≠ (b.length : Int)) then
  some false
  else
  (chk (a.length ≤ szMax)).bind fun _ =>
  (Jbs b a 0).bind fun s0 => s0.el some fun t0 =>
  some true
set_option maxHeartbeats 8000000 in
theorem Jdp {a : (List Jj)} {b : (List Jd)} {ap0_0 : Option Addr} {cp0_0 : Nat} {n0 : Nat} {ap1_0 : Option Addr} {cp1_0 : Nat} {n1 : Nat} {K : Hp} {r : Bool}
    (hm : Jcv a b = some r) (hp0_0 : RdC Jj.enc K ap0_0 cp0_0 3 a) (en0 : n0 = a.length) (hp1_0 : RdC Jd.enc K ap1_0 cp1_0 3 b) (en1 : n1 = b.length) :
    Fn Tryz.prog 14 [.slice ap0_0 n0 cp0_0, .slice ap1_0 n1 cp1_0] K [] (fun v K' H' => v = .bool r ∧ H' = []) := by
 subst en0
 subst en1
 refine Fn.enter Tryz.func14 Tryz.call14 rfl fun F => ?_
 unfold Jcv at hm
 refine RStep.of (len_slice rfl (RStep.of (len_slice rfl (neq_int (cond_go rfl ?_)))))
 refine cond_s (fun w10 => ?_) (fun w10 => ?_)
 replace hm := ift w10 hm
 obtain rfl := si hm
 refine EndStep.mk _ (Hp.Le.refl _) ⟨rfl, rfl⟩ (ConvH.of (.cons r0 .nil))
 replace hm := iff_ w10 hm
 refine RStep.of (len_slice rfl ?_)
 obtain ⟨hk0, hm⟩ := chkb hm
 obtain ⟨s0, hl0, hm⟩ := bnd hm
 refine code_cut (σ := (Unit)) [4, 5, 13, 14, 15, 16, 17, 18, 19, 20, 21, 22, 23, 24, 25, 26, 27, 28, 29, 30, 31, 32, 33, 34, 35, 36, 37, 38, 39, 40, 41, 42, 43, 44, 45, 46, 47, 48, 49, 50, 51, 52, 53] (fun t0 => []) (fun t0 => [F]) (fun zz K1 => match zz with | t0 => s0 = Fl.go t0) ?_ ?_
 refine block_go rfl ?_
 refine loop_rule (σ := Nat) [4, 5, 13, 14, 15, 16, 17, 18, 19, 20, 21, 22, 23, 24, 25, 26, 27, 28, 29, 30, 31, 32, 33, 34, 35, 36, 37, 38, 39, 40, 41, 42, 43, 44, 45, 46, 47, 48, 49, 50, 51, 52, 53] (fun i0 => [(13, .int .i64 (i0 : Int))]) (fun i0 => [F]) (fun zz K1 => match zz with | i0 => Jbs b (a.drop i0) i0 = some s0) (fun zz => a.length - zz) (0) rfl ⟨rfl, trivial⟩ (ConvH.of (.cons r0 .nil)) hl0 ?_
 clear hl0
 rintro i0 Kb0 lk0 hl0 j0
 conv at hl0 => whnf
 refine cond_go rfl ?_
 refine cond_s (fun w0 => ?_) (fun w0 => ?_)
 obtain ⟨e0, hx0, hd0⟩ := ltx w0
 rw [hd0, Jbs.eq_2] at hl0
 refine block_go rfl ?_
 refine draw_go ⟨⟨[], false⟩, _, []⟩ (by kernel_rfl) ⟨Hp.Le.refl _, (ConvH.of .nil)⟩ ?_
 refine index_addr rfl rfl (hasK (hp0_0.mono lk0).rd hx0) (nn _) (lt_ofN hx0) (eptr_field rfl (hasK (hp0_0.mono lk0).rd hx0) (load_rd_l i0 0 _ _ (hp0_0.mono lk0).rd rfl (mp hx0) rfl rfl ?_))
 obtain ⟨x23, l23, k23, hl0⟩ := ixb hl0
 refine index_addr rfl rfl (hasK (hp1_0.mono lk0).rd k23) l23 (lt_ofE rfl l23 k23) (eptr_field rfl (hasK (hp1_0.mono lk0).rd k23) (load_rd_l (((i0 : Int)).toNat) 0 _ _ (hp1_0.mono lk0).rd rfl (mp k23) rfl rfl (neq_int ?_)))
 obtain ⟨x39, e39, hl0⟩ := bnd hl0
 refine cond_s (fun g27_6 => ?_) (fun g27_6 => ?_)
 replace e39 := ift g27_6 e39
 refine cond_t g27_6 (cond_t g27_6 (cond_t g27_6 (cond_t g27_6 (cond_t g27_6 (cond_t g27_6 ?_)))))
 refine cond_t g27_6 (cond_t g27_6 (cond_t g27_6 (cond_t g27_6 (cond_t g27_6 ?_))))
 obtain ⟨x52, e52, hl0⟩ := bnd hl0
 replace e52 := ift (si e39).symm e52
 refine cond_T (cond_T (cond_T (cond_T (cond_T (cond_T ?_)))))
 refine cond_T (cond_T (cond_T (cond_T (cond_T (cond_T ?_)))))
 refine cond_go rfl (cond_T ?_)
 replace hl0 := ift (si e52).symm hl0
 obtain rfl := si hl0
 replace hm := elr hm
 obtain rfl := si hm
 refine EndStep.mk _ lk0 ⟨rfl, rfl⟩ (ConvH.of (.cons r0 .nil))
 replace e39 := iff_ g27_6 e39
 refine cond_f g27_6 (cond_f g27_6 (index_addr rfl rfl (hasK (hp0_0.mono lk0).rd hx0) (nn _) (lt_ofN hx0) (cond_f g27_6 (eptr_field rfl (hasK (hp0_0.mono lk0).rd hx0) (cond_f g27_6 ?_)))))
 refine load_rd_l i0 1 _ _ (hp0_0.mono lk0).rd rfl (mp hx0) rfl rfl (cond_f g27_6 (cond_f g27_6 (cond_f g27_6 ?_)))
 obtain ⟨x35, l35, k35, e39⟩ := ixb e39
 refine index_addr rfl rfl (hasK (hp1_0.mono lk0).rd k35) l35 (lt_ofE rfl l35 k35) (cond_f g27_6 (eptr_field rfl (hasK (hp1_0.mono lk0).rd k35) (cond_f g27_6 (load_rd_l (((i0 : Int)).toNat) 1 _ _ (hp1_0.mono lk0).rd rfl (mp k35) rfl rfl (cond_f g27_6 ?_)))))
 refine neq_int (cond_f g27_6 ?_)
 obtain ⟨x52, e52, hl0⟩ := bnd hl0
 refine cond_s (fun g40_6 => ?_) (fun g40_6 => ?_)
 replace e52 := ift ((si e39).symm.trans g40_6) e52
 refine cond_t g40_6 (cond_t g40_6 (cond_t g40_6 (cond_t g40_6 (cond_t g40_6 (cond_t g40_6 ?_)))))
 refine cond_t g40_6 (cond_t g40_6 (cond_t g40_6 (cond_t g40_6 (cond_t g40_6 (cond_go rfl ?_)))))
 refine cond_T ?_
 replace hl0 := ift (si e52).symm hl0
 obtain rfl := si hl0
 replace hm := elr hm
 obtain rfl := si hm
 refine EndStep.mk _ lk0 ⟨rfl, rfl⟩ (ConvH.of (.cons r0 .nil))
 replace e52 := iff_ ((si e39).symm.trans g40_6) e52
 refine cond_f g40_6 (cond_f g40_6 (index_addr rfl rfl (hasK (hp0_0.mono lk0).rd hx0) (nn _) (lt_ofN hx0) (cond_f g40_6 (eptr_field rfl (hasK (hp0_0.mono lk0).rd hx0) (cond_f g40_6 ?_)))))
 refine load_rd_l i0 2 _ _ (hp0_0.mono lk0).rd rfl (mp hx0) rfl rfl (cond_f g40_6 (cond_f g40_6 (cond_f g40_6 ?_)))
 obtain ⟨x48, l48, k48, e52⟩ := ixb e52
 refine index_addr rfl rfl (hasK (hp1_0.mono lk0).rd k48) l48 (lt_ofE rfl l48 k48) (cond_f g40_6 (eptr_field rfl (hasK (hp1_0.mono lk0).rd k48) (cond_f g40_6 (load_rd_l (((i0 : Int)).toNat) 2 _ _ (hp1_0.mono lk0).rd rfl (mp k48) rfl rfl (cond_f g40_6 ?_)))))
 refine neq_str (cond_f g40_6 (cond_go rfl ?_))
 refine cond_s (fun w52 => ?_) (fun w52 => ?_)
 replace hl0 := ift ((si e52).symm.trans w52) hl0
 obtain rfl := si hl0
 replace hm := elr hm
 obtain rfl := si hm
 refine EndStep.mk _ lk0 ⟨rfl, rfl⟩ (ConvH.of (.cons r0 .nil))
 replace hl0 := iff_ ((si e52).symm.trans w52) hl0
 refine int_in (cntz hx0 hk0) ?_
 refine RoundStep.mk (i0 + 1) ⟨rfl, trivial⟩ (by repeat (first | exact trivial | refine And.intro rfl ?_)) (ConvH.of (.cons r0 .nil)) lk0 (ltm hx0) hl0
 rw [lty w0, Jbs.eq_1] at hl0
 refine cond_T ?_
 refine MeetStep.mk (()) trivial (by repeat (first | exact trivial | refine And.intro rfl ?_)) (ConvH.of (.cons r0 .nil)) lk0 (si hl0).symm
 rintro t0 Kt0 lt0 rfl j0
 replace hm := elg hm
 obtain rfl := si hm
 refine EndStep.mk _ lt0 ⟨rfl, rfl⟩ (ConvH.of (.cons r0 .nil))

noncomputable def JaZ (n : Nat) (n' : Jc) : Option (Bool) :=
  (Jbp n n').bind fun x8 =>
  (if x8 then some true else (Jcz n).bind fun x10 =>
  some (!x10)).bind fun x12 =>
  if x12 then
  (Jbp n n').bind fun x14 =>
  some x14
  else
  (JbW n n').bind fun x17 =>
  (Ja1 n x17).bind fun x18 =>
  (JbS n n').bind fun x23 =>
  (JcS x18.2).bind fun x27 =>
  (if decide (x27 = x23.2) then (Jcv x18.1 x23.1).bind fun x33 =>
  some x33 else some false).bind fun x34 =>
  some x34
set_option maxHeartbeats 8000000 in
theorem Jci {n : Nat} {n' : Jc} {ap0_0 : Option Addr} {cp0_0 : Nat} {K : Hp} {r : Bool}
    (hm : JaZ n n' = some r) (hp0_0 : LiC Jc.R K ap0_0 cp0_0 4 n'.Kids) (hG1 : GlL eS 1 1 JD K) (hG2 : GlL eS 1 2 JK K) (hG3 : GlL eS 1 3 JL K) (hG4 : GlL eS 1 4 gkw0 K) :
    Fn Tryz.prog 3 [.agg #[.int .i64 n'.Kind, str n'.Text, .slice ap0_0 n'.Kids.length cp0_0, .int .i64 n'.Line]] K [] (fun v K' H' => v = .bool r ∧ H' = []) := by
 obtain ⟨ga1, gn1, gc1, gn_, gs1, gd1⟩ := id hG1
 subst gn_
 obtain ⟨ga2, gn2, gc2, gn_, gs2, gd2⟩ := id hG2
 subst gn_
 obtain ⟨ga3, gn3, gc3, gn_, gs3, gd3⟩ := id hG3
 subst gn_
 obtain ⟨ga4, gn4, gc4, gn_, gs4, gd4⟩ := id hG4
 subst gn_
 refine Fn.enter Tryz.func3 Tryz.call3 rfl fun F => ?_
 unfold JaZ at hm
 refine box_rule ?_
 intro b1
 refine RStep.of (loadn_s r0 rfl (Nat.le_of_ble_eq_true rfl) ?_)
 obtain ⟨x8, q8, hm⟩ := bnd hm
 refine call_fn (Jcj (n' := n') q8 hp0_0) .nil ?_
 rintro _ K8 _ l8 ⟨rfl, rfl⟩
 obtain ⟨x12, e12, hm⟩ := bnd hm
 refine cond_s (fun g9_1 => ?_) (fun g9_1 => ?_)
 replace e12 := ift g9_1 e12
 refine cond_t g9_1 (cond_t g9_1 (cond_go rfl (cond_T ?_)))
 replace hm := ift (si e12).symm hm
 refine RStep.of (loadn_s r0 rfl (Nat.le_of_ble_eq_true rfl) ?_)
 obtain ⟨x14, q14, hm⟩ := bnd hm
 refine call_fn (Jcj (n' := n') q14 (LiC.mono Jc.R_ok l8 hp0_0)) .nil ?_
 rintro _ K14 _ l14 ⟨rfl, rfl⟩
 obtain rfl := si hm
 refine EndStep.mk _ (l8.trans l14) ⟨rfl, rfl⟩ (ConvH.of (.cons r1 .nil))
 replace e12 := iff_ g9_1 e12
 obtain ⟨x10, q10, e12⟩ := bnd e12
 refine call_fn (Jdd q10 (hG1.mono l8) (hG2.mono l8) (hG3.mono l8) (hG4.mono l8)) .nil ?_
 rintro _ K10 _ l10 ⟨rfl, rfl⟩
 refine cond_f g9_1 (un_not (cond_f g9_1 (cond_go rfl ?_)))
 refine cond_s (fun w12 => ?_) (fun w12 => ?_)
 replace hm := ift ((si e12).symm.trans (not_t (ni_t w12))) hm
 refine RStep.of (loadn_s r0 rfl (Nat.le_of_ble_eq_true rfl) ?_)
 obtain ⟨x14, q14, hm⟩ := bnd hm
 refine call_fn (Jcj (n' := n') q14 (LiC.mono Jc.R_ok (l8.trans l10) hp0_0)) .nil ?_
 rintro _ K14 _ l14 ⟨rfl, rfl⟩
 obtain rfl := si hm
 refine EndStep.mk _ ((l8.trans l10).trans l14) ⟨rfl, rfl⟩ (ConvH.of (.cons r1 .nil))
 replace hm := iff_ ((si e12).symm.trans (not_f (ni_f w12))) hm
 refine RStep.of (loadn_s r0 rfl (Nat.le_of_ble_eq_true rfl) ?_)
 obtain ⟨x17, q17, hm⟩ := bnd hm
 refine call_fn (Jc7 (n' := n') q17 (LiC.mono Jc.R_ok (l8.trans l10) hp0_0)) .nil ?_
 rintro _ K17 _ l17 ⟨a17_0, c17_0, s17_0, rfl, h17_0, r17_0, rfl⟩
 obtain ⟨x18, q18, hm⟩ := bnd hm
 refine fzFR Tryz.call10 Ja.R_ok r0 r17_0 fun Kf18_0_0 lf18_0_0 ff18_0_0 => ?_
 refine call_fn (Jb9 (program := x17) q18 ff18_0_0 (hG1.mono (((l8.trans l10).trans l17).trans lf18_0_0)) (hG2.mono (((l8.trans l10).trans l17).trans lf18_0_0)) (hG3.mono (((l8.trans l10).trans l17).trans lf18_0_0)) (hG4.mono (((l8.trans l10).trans l17).trans lf18_0_0))) .nil ?_
 rintro _ K18 _ l18 ⟨a18_0, c18_0, rfl, h18_0, rfl⟩
 refine RStep.of (loadn_s r1 rfl (Nat.le_of_ble_eq_true rfl) ?_)
 obtain ⟨x23, q23, hm⟩ := bnd hm
 refine call_fn (Jc6 (program := n') q23 (LiC.mono Jc.R_ok ((((l8.trans l10).trans l17).trans lf18_0_0).trans l18) hp0_0)) .nil ?_
 rintro _ K23 _ l23 ⟨a23_0, c23_0, rfl, h23_0, rfl⟩
 obtain ⟨x27, q27, hm⟩ := bnd hm
 refine call_fn (Jc8 (e := x18.2) q27) .nil ?_
 rintro _ K27 _ l27 ⟨rfl, rfl⟩
 refine eq_int ?_
 obtain ⟨x34, e34, hm⟩ := bnd hm
 refine cond_s (fun g30_5 => ?_) (fun g30_5 => ?_)
 replace e34 := ift g30_5 e34
 refine cond_t g30_5 (cond_t g30_5 ?_)
 obtain ⟨x33, q33, e34⟩ := bnd e34
 refine call_fn (Fn.lend Tryz.call14 (fun K33_0 l33_0 f33_0 => (Fn.lend Tryz.call14 (fun K33_1 l33_1 f33_1 => (Jdp q33 (f33_0.mono l33_1) rfl f33_1 rfl)) (by exact fun _ _ _ _ h => h))) (by exact fun _ _ _ _ h => h)) (.cons r1 (.cons r0 .nil)) ?_
 rintro _ K33 _ l33 ⟨_, rfl, _, rfl, rfl, rfl⟩
 refine cond_t g30_5 ?_
 obtain rfl := si hm
 refine EndStep.mk _ (((((((l8.trans l10).trans l17).trans lf18_0_0).trans l18).trans l23).trans l27).trans l33) ⟨(by rw [← (si e34)] <;> rfl), rfl⟩ (ConvH.of (.cons r3 .nil))
 replace e34 := iff_ g30_5 e34
 refine cond_f g30_5 (cond_f g30_5 (cond_f g30_5 ?_))
 obtain rfl := si hm
 refine EndStep.mk _ ((((((l8.trans l10).trans l17).trans lf18_0_0).trans l18).trans l23).trans l27) ⟨(by rw [← ((si e34).symm).symm] <;> rfl), rfl⟩ (ConvH.of (.cons r3 .nil))
