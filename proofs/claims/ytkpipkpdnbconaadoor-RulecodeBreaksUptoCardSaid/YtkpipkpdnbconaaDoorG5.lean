/- Functions of the program: mirrors, and that a call returns what the mirror says. Printed by gen.py. -/
import Derived.Test.YtkpipkpdnbconaaDoorG4
set_option linter.unusedVariables false
set_option linter.unusedSimpArgs false
open Go Go.SL Go.Proofs
set_option maxRecDepth 1000000
noncomputable def JD : List Jb → Nat → Bool → Option (Bool)
  | [], _, y2_0 => some y2_0
  | e2 :: xs2, i2, y2_0 =>
    if y2_0 then
    JD xs2 (i2 + 1) true
    else
    JD xs2 (i2 + 1) (decide (e2.Op = 4) && decide (e2.N = 511))
noncomputable def Jq (x33 : (List Jb)) (x63 : (List Jb)) (x67 : (List Jb)) : Nat → Nat → Option (Fl (Bool) (Unit))
  | 0, _ => some (Fl.go ())
  | xs0 + 1, i0 =>
    (ix ([(subL x33 (0 : Int) ((x33.length : Int) - 1)), (x33 ++ [(⟨12, 0, ([] : Str)⟩ : Jb)]), ([(⟨12, 0, ([] : Str)⟩ : Jb)] ++ x33), x63, x67, (((subL x33 (0 : Int) ((x33.length : Int) - 1)) ++ [(⟨1, 0, ([] : Str)⟩ : Jb)]) ++ [(⟨12, 0, ([] : Str)⟩ : Jb)]), (((subL x33 (0 : Int) ((x33.length : Int) - 1)) ++ [(⟨8, 0, ([] : Str)⟩ : Jb)]) ++ [(⟨12, 0, ([] : Str)⟩ : Jb)]), (((subL x33 (0 : Int) ((x33.length : Int) - 1)) ++ [(⟨3, 511, ([] : Str)⟩ : Jb), (⟨11, 0, ([116, 97, 103] : Str)⟩ : Jb)]) ++ [(⟨12, 0, ([] : Str)⟩ : Jb)])]) (i0 : Int)).bind fun x106 =>
    (chk (x106.length ≤ szMax)).bind fun _ =>
    (JD x106 0 false).bind fun t2 =>
    (if ((!t2) && decide ((x106.length : Int) ≤ 2048)) then (JX x106).bind fun x135 =>
    (JbB x135 2).bind fun x136 =>
    some (!x136) else some false).bind fun x138 =>
    if x138 then
    some (Fl.ret false)
    else
    Jq x33 x63 x67 xs0 (i0 + 1)
noncomputable def Jam (n : Nat) (code : (List Js)) (atZ : UInt8) : Option (Bool) :=
  (JaN code).bind fun x15 =>
  (if (x15 || decide ((code.length : Int) = 0)) then some true else (Jbr n).bind fun x22 =>
  some (!x22)).bind fun x24 =>
  if x24 then
  (JaN code).bind fun x26 =>
  some (x26 || decide ((code.length : Int) = 0))
  else
  (Jbl code).bind fun x33 =>
  (JX x33).bind fun x35 =>
  if x35.isSome then
  some true
  else
  (chk ((x33.length : Int) ≠ 0)).bind fun _ =>
  (chk (InI ((x33.length : Int) - 1))).bind fun _ =>
  (chk (0 ≤ (0 : Int) ∧ (0 : Int) ≤ ((x33.length : Int) - 1) ∧ ((x33.length : Int) - 1) ≤ (x33.length : Int))).bind fun _ =>
  (chk (x33.length ≤ lim)).bind fun _ =>
  (chk (x33.length + ([(⟨12, 0, ([] : Str)⟩ : Jb)]).length ≤ lim)).bind fun _ =>
  (chk (([(⟨12, 0, ([] : Str)⟩ : Jb)]).length + x33.length ≤ lim)).bind fun _ =>
  (Jar x33 (min (Int.tmod (atZ.toNat : Int) (x33.length : Int)) ((x33.length : Int) - 1))).bind fun x63 =>
  (chk (InI (((x33.length : Int) - 1) + 2))).bind fun _ =>
  (Jar x33 (((x33.length : Int) - 1) + 2)).bind fun x67 =>
  (chk (0 ≤ (0 : Int) ∧ (0 : Int) ≤ ((x33.length : Int) - 1) ∧ ((x33.length : Int) - 1) ≤ (x33.length : Int))).bind fun _ =>
  (chk ((subL x33 (0 : Int) ((x33.length : Int) - 1)).length ≤ lim)).bind fun _ =>
  (chk ((subL x33 (0 : Int) ((x33.length : Int) - 1)).length + ([(⟨1, 0, ([] : Str)⟩ : Jb)]).length ≤ lim)).bind fun _ =>
  (chk (((subL x33 (0 : Int) ((x33.length : Int) - 1)) ++ [(⟨1, 0, ([] : Str)⟩ : Jb)]).length + ([(⟨12, 0, ([] : Str)⟩ : Jb)]).length ≤ lim)).bind fun _ =>
  (chk (0 ≤ (0 : Int) ∧ (0 : Int) ≤ ((x33.length : Int) - 1) ∧ ((x33.length : Int) - 1) ≤ (x33.length : Int))).bind fun _ =>
  (chk ((subL x33 (0 : Int) ((x33.length : Int) - 1)).length ≤ lim)).bind fun _ =>
  (chk ((subL x33 (0 : Int) ((x33.length : Int) - 1)).length + ([(⟨8, 0, ([] : Str)⟩ : Jb)]).length ≤ lim)).bind fun _ =>
  (chk (((subL x33 (0 : Int) ((x33.length : Int) - 1)) ++ [(⟨8, 0, ([] : Str)⟩ : Jb)]).length + ([(⟨12, 0, ([] : Str)⟩ : Jb)]).length ≤ lim)).bind fun _ =>
  (chk (0 ≤ (0 : Int) ∧ (0 : Int) ≤ ((x33.length : Int) - 1) ∧ ((x33.length : Int) - 1) ≤ (x33.length : Int))).bind fun _ =>
  (chk ((subL x33 (0 : Int) ((x33.length : Int) - 1)).length ≤ lim)).bind fun _ =>
  (chk ((subL x33 (0 : Int) ((x33.length : Int) - 1)).length + ([(⟨3, 511, ([] : Str)⟩ : Jb), (⟨11, 0, ([116, 97, 103] : Str)⟩ : Jb)]).length ≤ lim)).bind fun _ =>
  (chk (((subL x33 (0 : Int) ((x33.length : Int) - 1)) ++ [(⟨3, 511, ([] : Str)⟩ : Jb), (⟨11, 0, ([116, 97, 103] : Str)⟩ : Jb)]).length + ([(⟨12, 0, ([] : Str)⟩ : Jb)]).length ≤ lim)).bind fun _ =>
  (chk (InI (8 : Int))).bind fun _ =>
  (Jq x33 x63 x67 (8 : Int).toNat 0).bind fun s0 => s0.el some fun t0 =>
  (if decide ((x33.length : Int) ≥ 2048) then some true else (chk (InI (((x33.length : Int) - 1) + 1))).bind fun _ =>
  (Jar x33 (((x33.length : Int) - 1) + 1)).bind fun x147 =>
  (JX x147).bind fun x148 =>
  some x148.isNone).bind fun x150 =>
  some x150
set_option maxHeartbeats 8000000 in
theorem Jbm {n : Nat} {code : (List Js)} {atZ : UInt8} {ap0_0 : Option Addr} {cp0_0 : Nat} {n0 : Nat} {K : Hp} {r : Bool}
    (hm : Jam n code atZ = some r) (hp0_0 : RdC Js.enc K ap0_0 cp0_0 3 code) (en0 : n0 = code.length) (hG0 : GlL eS 1 0 Jr K) (hG1 : GlL eS 1 1 Jv K) (hG2 : GlL eS 1 2 Jw K) (hG3 : GlL eS 1 3 gkw0 K) :
    Fn Tryd.prog 3 [.slice ap0_0 n0 cp0_0, .int .u8 (atZ.toNat : Int)] K [] (fun v K' H' => v = .bool r ∧ H' = []) := by
 subst en0
 obtain ⟨ga0, gn0, gc0, gn_, gs0, gd0⟩ := id hG0
 subst gn_
 obtain ⟨ga1, gn1, gc1, gn_, gs1, gd1⟩ := id hG1
 subst gn_
 obtain ⟨ga2, gn2, gc2, gn_, gs2, gd2⟩ := id hG2
 subst gn_
 obtain ⟨ga3, gn3, gc3, gn_, gs3, gd3⟩ := id hG3
 subst gn_
 refine Fn.enter Tryd.func3 Tryd.call3 rfl fun F => ?_
 unfold Jam at hm
 obtain ⟨x15, q15, hm⟩ := bnd hm
 refine call_fn (JaS q15 hp0_0 rfl) .nil ?_
 rintro _ K15 _ l15 ⟨rfl, rfl⟩
 refine cond_s (fun g16_1 => ?_) (fun g16_1 => ?_)
 refine cond_t g16_1 (cond_t g16_1 (cond_t g16_1 ?_))
 obtain ⟨x24, e24, hm⟩ := bnd hm
 replace e24 := ift (or_t g16_1) e24
 refine cond_T (cond_T (cond_T (cond_go rfl ?_)))
 refine cond_T ?_
 replace hm := ift (si e24).symm hm
 obtain ⟨x26, q26, hm⟩ := bnd hm
 refine call_fn (JaS q26 (hp0_0.mono l15) rfl) .nil ?_
 rintro _ K26 _ l26 ⟨rfl, rfl⟩
 refine cond_s (fun g27_2 => ?_) (fun g27_2 => ?_)
 refine cond_t g27_2 (cond_t g27_2 (cond_t g27_2 ?_))
 obtain rfl := si hm
 refine EndStep.mk _ (l15.trans l26) ⟨(by rw [← ((or_t g27_2)).symm] <;> rfl), rfl⟩ (ConvH.of (.cons r0 .nil))
 refine cond_f g27_2 (RStep.of (len_slice rfl (cond_f g27_2 (eq_int ?_))))
 refine cond_f g27_2 ?_
 obtain rfl := si hm
 refine EndStep.mk _ (l15.trans l26) ⟨(by rw [← (or_e (b := decide ((code.length : Int) = 0)) g27_2)] <;> rfl), rfl⟩ (ConvH.of (.cons r0 .nil))
 refine cond_f g16_1 (RStep.of (len_slice rfl (cond_f g16_1 (eq_int ?_))))
 refine cond_f g16_1 ?_
 obtain ⟨x24, e24, hm⟩ := bnd hm
 refine cond_s (fun g21_1 => ?_) (fun g21_1 => ?_)
 replace e24 := ift (or_u g16_1 g21_1) e24
 refine cond_t g21_1 (cond_t g21_1 (cond_go rfl (cond_T ?_)))
 replace hm := ift (si e24).symm hm
 obtain ⟨x26, q26, hm⟩ := bnd hm
 refine call_fn (JaS q26 (hp0_0.mono l15) rfl) .nil ?_
 rintro _ K26 _ l26 ⟨rfl, rfl⟩
 refine cond_s (fun g27_2 => ?_) (fun g27_2 => ?_)
 refine cond_t g27_2 (cond_t g27_2 (cond_t g27_2 ?_))
 obtain rfl := si hm
 refine EndStep.mk _ (l15.trans l26) ⟨(by rw [← ((or_t g27_2)).symm] <;> rfl), rfl⟩ (ConvH.of (.cons r0 .nil))
 refine cond_f g27_2 (RStep.of (len_slice rfl (cond_f g27_2 (eq_int ?_))))
 refine cond_f g27_2 ?_
 obtain rfl := si hm
 refine EndStep.mk _ (l15.trans l26) ⟨(by rw [← (or_e (b := decide ((code.length : Int) = 0)) g27_2)] <;> rfl), rfl⟩ (ConvH.of (.cons r0 .nil))
 replace e24 := iff_ (or_f g16_1 g21_1) e24
 obtain ⟨x22, q22, e24⟩ := bnd e24
 refine call_fn (JbQ q22 (hG0.mono l15) (hG1.mono l15) (hG2.mono l15) (hG3.mono l15)) .nil ?_
 rintro _ K22 _ l22 ⟨rfl, rfl⟩
 refine cond_f g21_1 (un_not (cond_f g21_1 (cond_go rfl ?_)))
 refine cond_s (fun w24 => ?_) (fun w24 => ?_)
 replace hm := ift ((si e24).symm.trans (not_t (ni_t w24))) hm
 obtain ⟨x26, q26, hm⟩ := bnd hm
 refine call_fn (JaS q26 (hp0_0.mono (l15.trans l22)) rfl) .nil ?_
 rintro _ K26 _ l26 ⟨rfl, rfl⟩
 refine cond_s (fun g27_2 => ?_) (fun g27_2 => ?_)
 refine cond_t g27_2 (cond_t g27_2 (cond_t g27_2 ?_))
 obtain rfl := si hm
 refine EndStep.mk _ ((l15.trans l22).trans l26) ⟨(by rw [← ((or_t g27_2)).symm] <;> rfl), rfl⟩ (ConvH.of (.cons r0 .nil))
 refine cond_f g27_2 (RStep.of (len_slice rfl (cond_f g27_2 (eq_int ?_))))
 refine cond_f g27_2 ?_
 obtain rfl := si hm
 refine EndStep.mk _ ((l15.trans l22).trans l26) ⟨(by rw [← (or_e (b := decide ((code.length : Int) = 0)) g27_2)] <;> rfl), rfl⟩ (ConvH.of (.cons r0 .nil))
 replace hm := iff_ ((si e24).symm.trans (not_f (ni_f w24))) hm
 obtain ⟨x33, q33, hm⟩ := bnd hm
 refine call_fn (JbS q33 (hp0_0.mono (l15.trans l22)) rfl) .nil ?_
 rintro _ K33 _ l33 ⟨a33_0, c33_0, rfl, h33_0, rfl⟩
 obtain ⟨x35, q35, hm⟩ := bnd hm
 refine call_fn (Fn.lend Tryd.call8 (fun K35_0 l35_0 f35_0 => (Jap q35 f35_0 rfl (hG0.mono (((l15.trans l22).trans l33).trans l35_0)) (hG1.mono (((l15.trans l22).trans l33).trans l35_0)) (hG2.mono (((l15.trans l22).trans l33).trans l35_0)) (hG3.mono (((l15.trans l22).trans l33).trans l35_0)))) (by exact fun _ _ _ _ h => h)) (.cons r0 .nil) ?_
 rintro _ K35 _ l35 ⟨_, rfl, rfl, rfl⟩
 refine neq_err rfl ?_
 refine fC r0 fun Kh2 lh2 fh2 => ?_
 refine cond_go rfl ?_
 refine cond_s (fun w36 => ?_) (fun w36 => ?_)
 replace hm := ift w36 hm
 obtain rfl := si hm
 refine EndStep.mk _ ((((l15.trans l22).trans l33).trans l35).trans lh2) ⟨rfl, rfl⟩ (ConvH.of (.cons r0 .nil))
 replace hm := iff_ w36 hm
 refine conv_int rfl rfl (u8in atZ) (RStep.of (len_slice rfl ?_))
 obtain ⟨h41, hm⟩ := chkb hm
 refine rem_t h41 (build_struct rfl rfl (cond_T ?_))
 refine alloc_rule rfl ?_
 intro b7
 refine store_rule r0 rfl ?_
 refine ⟨rfl, rfl, (Nat.le_of_ble_eq_true rfl), ?_⟩
 refine RStep.of (len_slice rfl ?_)
 obtain ⟨h45, hm⟩ := chkb hm
 refine int_in h45 ?_
 refine draw_go_F ⟨⟨[], false⟩, _, [(_, _)]⟩ 59 rfl (by kernel_rfl) ⟨Hp.Le.refl _, (ConvH.of (.cons r0 .nil))⟩ ?_
 obtain ⟨h48, hm⟩ := chkb hm
 have h48_ := fh2.subC h48
 refine sl_slN (l := x33) (lo := none) (hi := (some ((x33.length : Int) - 1))) (lo' := (0 : Int)) (hi' := ((x33.length : Int) - 1)) rfl rfl rfl rfl rfl fh2.le h48 ?_
 refine bsA (len := 0) (cl := []) elT25 rfl rfl ?_ fun b49 => ?_
 · conv => whnf
   first | done | rfl
 intro GG5
 obtain ⟨h51, hm⟩ := chkb hm
 refine ape (enc := Jb.enc) r0 elT25 (src_k rfl fh2.rd rfl) h51 ?_
 intro a51 c51 o51
 refine ⟨⟨(Hp.Le.refl _), (ConvH.of (.cons r1 .nil))⟩, ?_⟩
 refine ⟨_, .cons r3 .nil, ⟨(Hp.Le.refl _), (ConvH.of (.cons r1 .nil))⟩, ?_⟩
 refine loadn_l m0 rfl (Nat.le_of_ble_eq_true rfl) ?_
 refine bsA (len := 1) (cl := [.int .i64 12, .int .i64 0, str ([] : Str)]) elT25 rfl rfl ?_ fun b53 => ?_
 · conv => whnf
   refine cond_T ?_
   first | done | rfl
 intro GG8
 obtain ⟨h54, hm⟩ := chkb hm
 refine apE rfl r1 elT25 (src_lit rfl r0 rfl rfl (fun _ _ => rfl) rfl) h54 ?_
 intro a54 c54 o54
 refine ⟨⟨(Hp.Le.refl _), (ConvH.of (.cons r2 .nil))⟩, ?_⟩
 refine ⟨_, .cons r4 .nil, ⟨(Hp.Le.refl _), (ConvH.of (.cons r2 .nil))⟩, ?_⟩
 refine loadn_l m0 rfl (Nat.le_of_ble_eq_true rfl) ?_
 refine bsA (len := 1) (cl := [.int .i64 12, .int .i64 0, str ([] : Str)]) elT25 rfl rfl ?_ fun b56 => ?_
 · conv => whnf
   refine cond_T ?_
   first | done | rfl
 intro GG12
 obtain ⟨h58, hm⟩ := chkb hm
 refine litW (enc := Jb.enc) (sz := 3) (l := [(⟨12, 0, ([] : Str)⟩ : Jb)]) r0 rfl (fun _ _ => rfl) rfl (Nat.le_of_ble_eq_true rfl) ?_
 refine apE rfl r0 elT25 (src_k rfl fh2.rd rfl) h58 ?_
 intro a58 c58 o58
 refine ⟨⟨(Hp.Le.refl _), (ConvH.of (.cons r3 .nil))⟩, ?_⟩
 refine ⟨_, .cons r5 .nil, ⟨(Hp.Le.refl _), (ConvH.of (.cons r3 .nil))⟩, ?_⟩
 refine min_intN ?_
 intro GG17
 obtain ⟨x63, q63, hm⟩ := bnd hm
 refine call_fn (JaY (to := (min (Int.tmod (atZ.toNat : Int) (x33.length : Int)) ((x33.length : Int) - 1))) q63 fh2 rfl) .nil ?_
 rintro _ K63 _ l63 ⟨a63_0, c63_0, rfl, h63_0, rfl⟩
 refine ⟨⟨l63, (ConvH.of (.cons r4 .nil))⟩, ?_⟩
 refine ⟨_, .cons r6 .nil, ⟨l63, (ConvH.of (.cons r4 .nil))⟩, ?_⟩
 obtain ⟨h66, hm⟩ := chkb hm
 refine int_in h66 ?_
 intro GG21
 obtain ⟨x67, q67, hm⟩ := bnd hm
 refine call_fn (JaY (to := (((x33.length : Int) - 1) + 2)) q67 (fh2.mono l63) rfl) .nil ?_
 rintro _ K67 _ l67 ⟨a67_0, c67_0, rfl, h67_0, rfl⟩
 refine ⟨⟨(l63.trans l67), (ConvH.of (.cons r5 .nil))⟩, ?_⟩
 refine ⟨_, .cons r7 .nil, ⟨(l63.trans l67), (ConvH.of (.cons r5 .nil))⟩, ?_⟩
 refine bsA (len := 0) (cl := []) elT25 rfl rfl ?_ fun b68 => ?_
 · conv => whnf
   first | done | rfl
 obtain ⟨h71, hm⟩ := chkb hm
 have h71_ := (fh2.mono (l63.trans l67)).subC h71
 refine sl_slN (l := x33) (lo := none) (hi := (some ((x33.length : Int) - 1))) (lo' := (0 : Int)) (hi' := ((x33.length : Int) - 1)) rfl rfl rfl rfl rfl (fh2.mono (l63.trans l67)).le h71 ?_
 intro GG26
 obtain ⟨h72, hm⟩ := chkb hm
 refine ape (enc := Jb.enc) r0 elT25 (src_k rfl h71_.rd rfl) h72 ?_
 intro a72 c72 o72
 refine ⟨⟨(l63.trans l67), (ConvH.of (.cons r6 .nil))⟩, ?_⟩
 refine ⟨_, .cons r8 .nil, ⟨(l63.trans l67), (ConvH.of (.cons r6 .nil))⟩, ?_⟩
 refine build_struct rfl rfl (cond_T ?_)
 refine bsA (len := 1) (cl := [.int .i64 1, .int .i64 0, str ([] : Str)]) elT25 rfl rfl ?_ fun b74 => ?_
 · conv => whnf
   refine cond_T ?_
   first | done | rfl
 intro GG29
 obtain ⟨h75, hm⟩ := chkb hm
 refine apE rfl r1 elT25 (src_lit rfl r0 rfl rfl (fun _ _ => rfl) rfl) h75 ?_
 intro a75 c75 o75
 refine ⟨⟨(l63.trans l67), (ConvH.of (.cons r7 .nil))⟩, ?_⟩
 refine ⟨_, .cons r9 .nil, ⟨(l63.trans l67), (ConvH.of (.cons r7 .nil))⟩, ?_⟩
 refine loadn_l m0 rfl (Nat.le_of_ble_eq_true rfl) ?_
 refine bsA (len := 1) (cl := [.int .i64 12, .int .i64 0, str ([] : Str)]) elT25 rfl rfl ?_ fun b77 => ?_
 · conv => whnf
   refine cond_T ?_
   first | done | rfl
 intro GG32
 obtain ⟨h78, hm⟩ := chkb hm
 refine apE rfl r1 elT25 (src_lit rfl r0 rfl rfl (fun _ _ => rfl) rfl) h78 ?_
 intro a78 c78 o78
 refine ⟨⟨(l63.trans l67), (ConvH.of (.cons r8 .nil))⟩, ?_⟩
 refine ⟨_, .cons r10 .nil, ⟨(l63.trans l67), (ConvH.of (.cons r8 .nil))⟩, ?_⟩
 refine bsA (len := 0) (cl := []) elT25 rfl rfl ?_ fun b79 => ?_
 · conv => whnf
   first | done | rfl
 obtain ⟨h82, hm⟩ := chkb hm
 have h82_ := (fh2.mono (l63.trans l67)).subC h82
 refine sl_slN (l := x33) (lo := none) (hi := (some ((x33.length : Int) - 1))) (lo' := (0 : Int)) (hi' := ((x33.length : Int) - 1)) rfl rfl rfl rfl rfl (fh2.mono (l63.trans l67)).le h82 ?_
 intro GG37
 obtain ⟨h83, hm⟩ := chkb hm
 refine ape (enc := Jb.enc) r0 elT25 (src_k rfl h82_.rd rfl) h83 ?_
 intro a83 c83 o83
 refine ⟨⟨(l63.trans l67), (ConvH.of (.cons r9 .nil))⟩, ?_⟩
 refine ⟨_, .cons r11 .nil, ⟨(l63.trans l67), (ConvH.of (.cons r9 .nil))⟩, ?_⟩
 refine build_struct rfl rfl (cond_T ?_)
 refine bsA (len := 1) (cl := [.int .i64 8, .int .i64 0, str ([] : Str)]) elT25 rfl rfl ?_ fun b85 => ?_
 · conv => whnf
   refine cond_T ?_
   first | done | rfl
 intro GG40
 obtain ⟨h86, hm⟩ := chkb hm
 refine apE rfl r1 elT25 (src_lit rfl r0 rfl rfl (fun _ _ => rfl) rfl) h86 ?_
 intro a86 c86 o86
 refine ⟨⟨(l63.trans l67), (ConvH.of (.cons r10 .nil))⟩, ?_⟩
 refine ⟨_, .cons r12 .nil, ⟨(l63.trans l67), (ConvH.of (.cons r10 .nil))⟩, ?_⟩
 refine loadn_l m0 rfl (Nat.le_of_ble_eq_true rfl) ?_
 refine bsA (len := 1) (cl := [.int .i64 12, .int .i64 0, str ([] : Str)]) elT25 rfl rfl ?_ fun b88 => ?_
 · conv => whnf
   refine cond_T ?_
   first | done | rfl
 intro GG43
 obtain ⟨h89, hm⟩ := chkb hm
 refine apE rfl r1 elT25 (src_lit rfl r0 rfl rfl (fun _ _ => rfl) rfl) h89 ?_
 intro a89 c89 o89
 refine ⟨⟨(l63.trans l67), (ConvH.of (.cons r11 .nil))⟩, ?_⟩
 refine ⟨_, .cons r13 .nil, ⟨(l63.trans l67), (ConvH.of (.cons r11 .nil))⟩, ?_⟩
 refine bsA (len := 0) (cl := []) elT25 rfl rfl ?_ fun b90 => ?_
 · conv => whnf
   first | done | rfl
 obtain ⟨h93, hm⟩ := chkb hm
 have h93_ := (fh2.mono (l63.trans l67)).subC h93
 refine sl_slN (l := x33) (lo := none) (hi := (some ((x33.length : Int) - 1))) (lo' := (0 : Int)) (hi' := ((x33.length : Int) - 1)) rfl rfl rfl rfl rfl (fh2.mono (l63.trans l67)).le h93 ?_
 intro GG48
 obtain ⟨h94, hm⟩ := chkb hm
 refine ape (enc := Jb.enc) r0 elT25 (src_k rfl h93_.rd rfl) h94 ?_
 intro a94 c94 o94
 refine ⟨⟨(l63.trans l67), (ConvH.of (.cons r12 .nil))⟩, ?_⟩
 refine ⟨_, .cons r14 .nil, ⟨(l63.trans l67), (ConvH.of (.cons r12 .nil))⟩, ?_⟩
 refine build_struct rfl rfl (cond_T (cond_T (build_struct rfl rfl ?_)))
 refine cond_T (cond_T ?_)
 refine bsA (len := 2) (cl := [.int .i64 3, .int .i64 511, str ([] : Str), .int .i64 11, .int .i64 0, str ([116, 97, 103] : Str)]) elT25 rfl rfl ?_ fun b97 => ?_
 · conv => whnf
   refine cond_T (cond_T ?_)
   first | done | rfl
 intro GG52
 obtain ⟨h98, hm⟩ := chkb hm
 refine apE rfl r1 elT25 (src_lit rfl r0 rfl rfl (fun _ _ => rfl) rfl) h98 ?_
 intro a98 c98 o98
 refine ⟨⟨(l63.trans l67), (ConvH.of (.cons r13 .nil))⟩, ?_⟩
 refine ⟨_, .cons r15 .nil, ⟨(l63.trans l67), (ConvH.of (.cons r13 .nil))⟩, ?_⟩
 refine loadn_l m0 rfl (Nat.le_of_ble_eq_true rfl) ?_
 refine bsA (len := 1) (cl := [.int .i64 12, .int .i64 0, str ([] : Str)]) elT25 rfl rfl ?_ fun b100 => ?_
 · conv => whnf
   refine cond_T ?_
   first | done | rfl
 intro GG55
 obtain ⟨h101, hm⟩ := chkb hm
 refine apE rfl r1 elT25 (src_lit rfl r0 rfl rfl (fun _ _ => rfl) rfl) h101 ?_
 intro a101 c101 o101
 refine ⟨⟨(l63.trans l67), (ConvH.of (.cons r14 .nil))⟩, ?_⟩
 refine ⟨_, .cons r16 .nil, ⟨(l63.trans l67), (ConvH.of (.cons r14 .nil))⟩, ?_⟩
 refine bsA (len := 8) (cl := [.slice (subA a33_0 c33_0 (Int.toNat (0 : Int)) 3) ((subL x33 (0 : Int) ((x33.length : Int) - 1)).length) (c33_0 - (Int.toNat (0 : Int))), .slice a54 ((x33 ++ [(⟨12, 0, ([] : Str)⟩ : Jb)]).length) c54, .slice a58 (([(⟨12, 0, ([] : Str)⟩ : Jb)] ++ x33).length) c58, .slice a63_0 x63.length c63_0, .slice a67_0 x67.length c67_0, .slice a78 ((((subL x33 (0 : Int) ((x33.length : Int) - 1)) ++ [(⟨1, 0, ([] : Str)⟩ : Jb)]) ++ [(⟨12, 0, ([] : Str)⟩ : Jb)]).length) c78, .slice a89 ((((subL x33 (0 : Int) ((x33.length : Int) - 1)) ++ [(⟨8, 0, ([] : Str)⟩ : Jb)]) ++ [(⟨12, 0, ([] : Str)⟩ : Jb)]).length) c89, .slice a101 ((((subL x33 (0 : Int) ((x33.length : Int) - 1)) ++ [(⟨3, 511, ([] : Str)⟩ : Jb), (⟨11, 0, ([116, 97, 103] : Str)⟩ : Jb)]) ++ [(⟨12, 0, ([] : Str)⟩ : Jb)]).length) c101]) elT33 rfl rfl ?_ fun b102 => ?_
 · conv => whnf
   refine cond_T (cond_T (cond_T (cond_T ?_)))
   refine cond_T (cond_T (cond_T (cond_T ?_)))
   first | done | rfl
 refine len_sliceN rfl ?_
 refine fC r13 fun Kfb0_4_0_1_0 lfb0_4_0_1_0 ffb0_4_0_1_0 => ?_
 refine fC r12 fun Kfb0_4_0_2_0 lfb0_4_0_2_0 ffb0_4_0_2_0 => ?_
 refine fC r11 fun Kfb0_4_0_3_0 lfb0_4_0_3_0 ffb0_4_0_3_0 => ?_
 refine fC r10 fun Kfb0_4_0_4_0 lfb0_4_0_4_0 ffb0_4_0_4_0 => ?_
 refine fC r7 fun Kfb0_4_0_5_0 lfb0_4_0_5_0 ffb0_4_0_5_0 => ?_
 refine fC r4 fun Kfb0_4_0_6_0 lfb0_4_0_6_0 ffb0_4_0_6_0 => ?_
 refine fC r1 fun Kfb0_4_0_7_0 lfb0_4_0_7_0 ffb0_4_0_7_0 => ?_
 refine litAC (len := 8) (l := [(subL x33 (0 : Int) ((x33.length : Int) - 1)), (x33 ++ [(⟨12, 0, ([] : Str)⟩ : Jb)]), ([(⟨12, 0, ([] : Str)⟩ : Jb)] ++ x33), x63, x67, (((subL x33 (0 : Int) ((x33.length : Int) - 1)) ++ [(⟨1, 0, ([] : Str)⟩ : Jb)]) ++ [(⟨12, 0, ([] : Str)⟩ : Jb)]), (((subL x33 (0 : Int) ((x33.length : Int) - 1)) ++ [(⟨8, 0, ([] : Str)⟩ : Jb)]) ++ [(⟨12, 0, ([] : Str)⟩ : Jb)]), (((subL x33 (0 : Int) ((x33.length : Int) - 1)) ++ [(⟨3, 511, ([] : Str)⟩ : Jb), (⟨11, 0, ([116, 97, 103] : Str)⟩ : Jb)]) ++ [(⟨12, 0, ([] : Str)⟩ : Jb)])]) (css := [[.slice (subA a33_0 c33_0 (Int.toNat (0 : Int)) 3) ((subL x33 (0 : Int) ((x33.length : Int) - 1)).length) (c33_0 - (Int.toNat (0 : Int)))], [.slice a54 ((x33 ++ [(⟨12, 0, ([] : Str)⟩ : Jb)]).length) c54], [.slice a58 (([(⟨12, 0, ([] : Str)⟩ : Jb)] ++ x33).length) c58], [.slice a63_0 x63.length c63_0], [.slice a67_0 x67.length c67_0], [.slice a78 ((((subL x33 (0 : Int) ((x33.length : Int) - 1)) ++ [(⟨1, 0, ([] : Str)⟩ : Jb)]) ++ [(⟨12, 0, ([] : Str)⟩ : Jb)]).length) c78], [.slice a89 ((((subL x33 (0 : Int) ((x33.length : Int) - 1)) ++ [(⟨8, 0, ([] : Str)⟩ : Jb)]) ++ [(⟨12, 0, ([] : Str)⟩ : Jb)]).length) c89], [.slice a101 ((((subL x33 (0 : Int) ((x33.length : Int) - 1)) ++ [(⟨3, 511, ([] : Str)⟩ : Jb), (⟨11, 0, ([116, 97, 103] : Str)⟩ : Jb)]) ++ [(⟨12, 0, ([] : Str)⟩ : Jb)]).length) c101]]) sliL_ok r0 rfl (LR.snoc (LR.snoc (LR.snoc (LR.snoc (LR.snoc (LR.snoc (LR.snoc (LR.snoc LR.nil ⟨(subA a33_0 c33_0 (Int.toNat (0 : Int)) 3), (c33_0 - (Int.toNat (0 : Int))), rfl, (h48_.mono ((((((((l63.trans l67).trans lfb0_4_0_1_0).trans lfb0_4_0_2_0).trans lfb0_4_0_3_0).trans lfb0_4_0_4_0).trans lfb0_4_0_5_0).trans lfb0_4_0_6_0).trans lfb0_4_0_7_0))⟩) ⟨a54, c54, rfl, (ffb0_4_0_1_0.mono (((((lfb0_4_0_2_0.trans lfb0_4_0_3_0).trans lfb0_4_0_4_0).trans lfb0_4_0_5_0).trans lfb0_4_0_6_0).trans lfb0_4_0_7_0))⟩) ⟨a58, c58, rfl, (ffb0_4_0_2_0.mono ((((lfb0_4_0_3_0.trans lfb0_4_0_4_0).trans lfb0_4_0_5_0).trans lfb0_4_0_6_0).trans lfb0_4_0_7_0))⟩) ⟨a63_0, c63_0, rfl, (ffb0_4_0_3_0.mono (((lfb0_4_0_4_0.trans lfb0_4_0_5_0).trans lfb0_4_0_6_0).trans lfb0_4_0_7_0))⟩) ⟨a67_0, c67_0, rfl, (ffb0_4_0_4_0.mono ((lfb0_4_0_5_0.trans lfb0_4_0_6_0).trans lfb0_4_0_7_0))⟩) ⟨a78, c78, rfl, (ffb0_4_0_5_0.mono (lfb0_4_0_6_0.trans lfb0_4_0_7_0))⟩) ⟨a89, c89, rfl, (ffb0_4_0_6_0.mono lfb0_4_0_7_0)⟩) ⟨a101, c101, rfl, ffb0_4_0_7_0⟩) rfl rfl (by decide) ?_
 refine fzCR sliL_ok r0 (show LR (sliL Jb.enc 3) _ [[.slice (subA a33_0 c33_0 (Int.toNat (0 : Int)) 3) ((subL x33 (0 : Int) ((x33.length : Int) - 1)).length) (c33_0 - (Int.toNat (0 : Int)))], [.slice a54 ((x33 ++ [(⟨12, 0, ([] : Str)⟩ : Jb)]).length) c54], [.slice a58 (([(⟨12, 0, ([] : Str)⟩ : Jb)] ++ x33).length) c58], [.slice a63_0 x63.length c63_0], [.slice a67_0 x67.length c67_0], [.slice a78 ((((subL x33 (0 : Int) ((x33.length : Int) - 1)) ++ [(⟨1, 0, ([] : Str)⟩ : Jb)]) ++ [(⟨12, 0, ([] : Str)⟩ : Jb)]).length) c78], [.slice a89 ((((subL x33 (0 : Int) ((x33.length : Int) - 1)) ++ [(⟨8, 0, ([] : Str)⟩ : Jb)]) ++ [(⟨12, 0, ([] : Str)⟩ : Jb)]).length) c89], [.slice a101 ((((subL x33 (0 : Int) ((x33.length : Int) - 1)) ++ [(⟨3, 511, ([] : Str)⟩ : Jb), (⟨11, 0, ([116, 97, 103] : Str)⟩ : Jb)]) ++ [(⟨12, 0, ([] : Str)⟩ : Jb)]).length) c101]] [(subL x33 (0 : Int) ((x33.length : Int) - 1)), (x33 ++ [(⟨12, 0, ([] : Str)⟩ : Jb)]), ([(⟨12, 0, ([] : Str)⟩ : Jb)] ++ x33), x63, x67, (((subL x33 (0 : Int) ((x33.length : Int) - 1)) ++ [(⟨1, 0, ([] : Str)⟩ : Jb)]) ++ [(⟨12, 0, ([] : Str)⟩ : Jb)]), (((subL x33 (0 : Int) ((x33.length : Int) - 1)) ++ [(⟨8, 0, ([] : Str)⟩ : Jb)]) ++ [(⟨12, 0, ([] : Str)⟩ : Jb)]), (((subL x33 (0 : Int) ((x33.length : Int) - 1)) ++ [(⟨3, 511, ([] : Str)⟩ : Jb), (⟨11, 0, ([116, 97, 103] : Str)⟩ : Jb)]) ++ [(⟨12, 0, ([] : Str)⟩ : Jb)])] from (LR.snoc (LR.snoc (LR.snoc (LR.snoc (LR.snoc (LR.snoc (LR.snoc (LR.snoc LR.nil ⟨(subA a33_0 c33_0 (Int.toNat (0 : Int)) 3), (c33_0 - (Int.toNat (0 : Int))), rfl, (h48_.mono ((((((((l63.trans l67).trans lfb0_4_0_1_0).trans lfb0_4_0_2_0).trans lfb0_4_0_3_0).trans lfb0_4_0_4_0).trans lfb0_4_0_5_0).trans lfb0_4_0_6_0).trans lfb0_4_0_7_0))⟩) ⟨a54, c54, rfl, (ffb0_4_0_1_0.mono (((((lfb0_4_0_2_0.trans lfb0_4_0_3_0).trans lfb0_4_0_4_0).trans lfb0_4_0_5_0).trans lfb0_4_0_6_0).trans lfb0_4_0_7_0))⟩) ⟨a58, c58, rfl, (ffb0_4_0_2_0.mono ((((lfb0_4_0_3_0.trans lfb0_4_0_4_0).trans lfb0_4_0_5_0).trans lfb0_4_0_6_0).trans lfb0_4_0_7_0))⟩) ⟨a63_0, c63_0, rfl, (ffb0_4_0_3_0.mono (((lfb0_4_0_4_0.trans lfb0_4_0_5_0).trans lfb0_4_0_6_0).trans lfb0_4_0_7_0))⟩) ⟨a67_0, c67_0, rfl, (ffb0_4_0_4_0.mono ((lfb0_4_0_5_0.trans lfb0_4_0_6_0).trans lfb0_4_0_7_0))⟩) ⟨a78, c78, rfl, (ffb0_4_0_5_0.mono (lfb0_4_0_6_0.trans lfb0_4_0_7_0))⟩) ⟨a89, c89, rfl, (ffb0_4_0_6_0.mono lfb0_4_0_7_0)⟩) ⟨a101, c101, rfl, ffb0_4_0_7_0⟩)) fun Kfb0_4_0 lfb0_4_0 ffb0_4_0 => ?_
 obtain ⟨hk0, hm⟩ := chkb hm
 obtain ⟨s0, hl0, hm⟩ := bnd hm
 refine code_cut (σ := (Unit)) [4, 10, 11, 13, 104, 105, 106, 107, 108, 109, 110, 111, 112, 113, 114, 115, 116, 117, 118, 119, 120, 121, 122, 123, 124, 125, 126, 127, 128, 129, 130, 131, 132, 133, 134, 135, 136, 137, 138, 139] (fun t0 => []) (fun t0 => [Cells b100 31 [.int .i64 12, .int .i64 0, str ([] : Str)], Cells b97 31 [.int .i64 3, .int .i64 511, str ([] : Str), .int .i64 11, .int .i64 0, str ([116, 97, 103] : Str)], Cells b88 31 [.int .i64 12, .int .i64 0, str ([] : Str)], Cells b85 31 [.int .i64 8, .int .i64 0, str ([] : Str)], Cells b77 31 [.int .i64 12, .int .i64 0, str ([] : Str)], Cells b74 31 [.int .i64 1, .int .i64 0, str ([] : Str)], Cells b53 31 [.int .i64 12, .int .i64 0, str ([] : Str)], Cells b7 31 [.int .i64 12, .int .i64 0, str ([] : Str)], F]) (fun zz K1 => match zz with | t0 => s0 = Fl.go t0) ?_ ?_
 refine block_go rfl ?_
 refine loop_rule (σ := Nat) [4, 10, 11, 13, 104, 105, 106, 107, 108, 109, 110, 111, 112, 113, 114, 115, 116, 117, 118, 119, 120, 121, 122, 123, 124, 125, 126, 127, 128, 129, 130, 131, 132, 133, 134, 135, 136, 137, 138, 139] (fun i0 => [(104, .int .i64 (i0 : Int))]) (fun i0 => [Cells b100 31 [.int .i64 12, .int .i64 0, str ([] : Str)], Cells b97 31 [.int .i64 3, .int .i64 511, str ([] : Str), .int .i64 11, .int .i64 0, str ([116, 97, 103] : Str)], Cells b88 31 [.int .i64 12, .int .i64 0, str ([] : Str)], Cells b85 31 [.int .i64 8, .int .i64 0, str ([] : Str)], Cells b77 31 [.int .i64 12, .int .i64 0, str ([] : Str)], Cells b74 31 [.int .i64 1, .int .i64 0, str ([] : Str)], Cells b53 31 [.int .i64 12, .int .i64 0, str ([] : Str)], Cells b7 31 [.int .i64 12, .int .i64 0, str ([] : Str)], F]) (fun zz K1 => match zz with | i0 => Jq x33 x63 x67 ((8 : Int).toNat - i0) i0 = some s0) (fun zz => (8 : Int).toNat - zz) (0) rfl ⟨rfl, trivial⟩ (ConvH.of (.cons r0 (.cons r0 (.cons r0 (.cons r0 (.cons r0 (.cons r0 (.cons r0 (.cons r0 (.cons r0 .nil)))))))))) hl0 ?_
 clear hl0
 rintro i0 Kb0 lk0 hl0 j0
 conv at hl0 => whnf
 refine cond_go rfl ?_
 refine cond_s (fun w0 => ?_) (fun w0 => ?_)
 rw [ltn (n := (8 : Int)) w0, Jq.eq_2] at hl0
 refine block_go rfl ?_
 obtain ⟨x106, l106, k106, hl0⟩ := ixb hl0
 refine RStep.ofN (index_addr rfl rfl (hasR (LiC.mono sliL_ok lk0 ffb0_4_0).rd k106) l106 (lt_ofE rfl l106 k106) ?_)
 obtain ⟨ss107, cc107, hr107, hc107, hR107⟩ := LiR.get (LiC.mono sliL_ok lk0 ffb0_4_0).rd k106
 obtain ⟨a107_0, c107_0, rfl, h107_0⟩ := hR107
 refine RStep.of (load_rd (((i0 : Int)).toNat) 0 _ _ hr107 rfl hc107 rfl rfl (RStep.of (len_slice rfl ?_)))
 obtain ⟨hk2, hl0⟩ := chkb hl0
 obtain ⟨s2, hl2, hl0⟩ := bnd hl0
 refine code_cut (σ := (Bool)) [11, 13, 110, 111, 112, 113, 114, 115, 116, 117, 118, 119, 120, 121, 122, 123, 124, 125] (fun t2 => [(11, .bool t2)]) (fun t2 => [Cells b100 31 [.int .i64 12, .int .i64 0, str ([] : Str)], Cells b97 31 [.int .i64 3, .int .i64 511, str ([] : Str), .int .i64 11, .int .i64 0, str ([116, 97, 103] : Str)], Cells b88 31 [.int .i64 12, .int .i64 0, str ([] : Str)], Cells b85 31 [.int .i64 8, .int .i64 0, str ([] : Str)], Cells b77 31 [.int .i64 12, .int .i64 0, str ([] : Str)], Cells b74 31 [.int .i64 1, .int .i64 0, str ([] : Str)], Cells b53 31 [.int .i64 12, .int .i64 0, str ([] : Str)], Cells b7 31 [.int .i64 12, .int .i64 0, str ([] : Str)], F]) (fun zz K1 => match zz with | t2 => t2 = s2) ?_ ?_
 refine block_go rfl ?_
 refine loop_rule (σ := Nat × Bool) [11, 13, 110, 111, 112, 113, 114, 115, 116, 117, 118, 119, 120, 121, 122, 123, 124, 125] (fun (i2, y2_0) => [(110, .int .i64 (i2 : Int)), (11, .bool y2_0)]) (fun (i2, y2_0) => [Cells b100 31 [.int .i64 12, .int .i64 0, str ([] : Str)], Cells b97 31 [.int .i64 3, .int .i64 511, str ([] : Str), .int .i64 11, .int .i64 0, str ([116, 97, 103] : Str)], Cells b88 31 [.int .i64 12, .int .i64 0, str ([] : Str)], Cells b85 31 [.int .i64 8, .int .i64 0, str ([] : Str)], Cells b77 31 [.int .i64 12, .int .i64 0, str ([] : Str)], Cells b74 31 [.int .i64 1, .int .i64 0, str ([] : Str)], Cells b53 31 [.int .i64 12, .int .i64 0, str ([] : Str)], Cells b7 31 [.int .i64 12, .int .i64 0, str ([] : Str)], F]) (fun zz K1 => match zz with | (i2, y2_0) => JD (x106.drop i2) i2 y2_0 = some s2) (fun zz => x106.length - zz.1) (0, false) rfl ⟨rfl, rfl, trivial⟩ (ConvH.of (.cons r0 (.cons r0 (.cons r0 (.cons r0 (.cons r0 (.cons r0 (.cons r0 (.cons r0 (.cons r0 .nil)))))))))) hl2 ?_
 clear hl2
 rintro ⟨i2, y2_0⟩ Kb2 lk2 hl2 j2
 conv at hl2 => whnf
 refine cond_go rfl ?_
 refine cond_s (fun w2 => ?_) (fun w2 => ?_)
 obtain ⟨e2, hx2, hd2⟩ := ltx w2
 rw [hd2, JD.eq_2] at hl2
 refine block_go rfl ?_
 refine RStep.ofN (index_addr rfl rfl (hasK (h107_0.mono lk2).rd hx2) (nn _) (lt_ofN hx2) (RStep.of (load_rd_agg i2 _ (h107_0.mono lk2).rd rfl (mp hx2) rfl ?_)))
 refine alloc_rule rfl ?_
 intro b13
 refine store_rule r0 rfl ?_
 refine ⟨rfl, rfl, (Nat.le_of_ble_eq_true rfl), ?_⟩
 refine cond_s (fun g115_16 => ?_) (fun g115_16 => ?_)
 replace hl2 := ift g115_16 hl2
 refine cond_t g115_16 (cond_t g115_16 (cond_t g115_16 (cond_t g115_16 ?_)))
 refine cond_t g115_16 (int_in (cntz hx2 hk2) ?_)
 refine RoundStep.mk (i2 + 1, true) ⟨rfl, rfl, trivial⟩ (by repeat (first | exact trivial | refine And.intro rfl ?_)) (ConvH.of (.cons r1 (.cons r1 (.cons r1 (.cons r1 (.cons r1 (.cons r1 (.cons r1 (.cons r1 (.cons r1 .nil)))))))))) lk2 (ltm hx2) hl2
 replace hl2 := iff_ g115_16 hl2
 refine Jc rfl (cond_f g115_16 (RStep.of (load1_s r0 rfl rfl (cond_f g115_16 ?_))))
 refine eq_int (cond_f g115_16 ?_)
 refine cond_s (fun g119_16 => ?_) (fun g119_16 => ?_)
 refine Jc rfl (cond_t g119_16 (RStep.of (load1_s r0 rfl rfl (cond_t g119_16 ?_))))
 refine eq_int (cond_f g115_16 (cond_t g119_16 (cond_f g115_16 ?_)))
 refine int_in (cntz hx2 hk2) ?_
 refine RoundStep.mk (i2 + 1, (decide (e2.Op = 4) && decide (e2.N = 511))) ⟨rfl, (by rw [← (and_e (b := decide (e2.N = 511)) g119_16)] <;> rfl), trivial⟩ (by repeat (first | exact trivial | refine And.intro rfl ?_)) (ConvH.of (.cons r1 (.cons r1 (.cons r1 (.cons r1 (.cons r1 (.cons r1 (.cons r1 (.cons r1 (.cons r1 .nil)))))))))) lk2 (ltm hx2) hl2
 refine cond_f g119_16 (cond_f g119_16 (cond_f g115_16 (cond_f g119_16 ?_)))
 refine cond_f g115_16 (int_in (cntz hx2 hk2) ?_)
 refine RoundStep.mk (i2 + 1, _) ⟨rfl, (by rw [← ((and_f g119_16)).symm] <;> rfl), trivial⟩ (by repeat (first | exact trivial | refine And.intro rfl ?_)) (ConvH.of (.cons r1 (.cons r1 (.cons r1 (.cons r1 (.cons r1 (.cons r1 (.cons r1 (.cons r1 (.cons r1 .nil)))))))))) lk2 (ltm hx2) hl2
 rw [lty w2, JD.eq_1] at hl2
 refine cond_T ?_
 refine MeetStep.mk (y2_0) ⟨rfl, trivial⟩ (by repeat (first | exact trivial | refine And.intro rfl ?_)) (ConvH.of (.cons r0 (.cons r0 (.cons r0 (.cons r0 (.cons r0 (.cons r0 (.cons r0 (.cons r0 (.cons r0 .nil)))))))))) lk2 (si hl2)
 rintro t2 Kt2 lt2 rfl j2
 refine un_not ?_
 refine cond_s (fun g128_18 => ?_) (fun g128_18 => ?_)
 refine cond_t g128_18 (RStep.of (len_slice rfl (cond_t g128_18 (cond_t g128_18 ?_))))
 obtain ⟨x138, e138, hl0⟩ := bnd hl0
 refine cond_s (fun g133_18 => ?_) (fun g133_18 => ?_)
 replace e138 := ift (and_t (not_t (ni_t g128_18)) g133_18) e138
 refine cond_t g133_18 ?_
 obtain ⟨x135, q135, e138⟩ := bnd e138
 refine call_fn (Jap q135 (h107_0.mono lt2) rfl (hG0.mono ((((((((((((((((l15.trans l22).trans l33).trans l35).trans lh2).trans l63).trans l67).trans lfb0_4_0_1_0).trans lfb0_4_0_2_0).trans lfb0_4_0_3_0).trans lfb0_4_0_4_0).trans lfb0_4_0_5_0).trans lfb0_4_0_6_0).trans lfb0_4_0_7_0).trans lfb0_4_0).trans lk0).trans lt2)) (hG1.mono ((((((((((((((((l15.trans l22).trans l33).trans l35).trans lh2).trans l63).trans l67).trans lfb0_4_0_1_0).trans lfb0_4_0_2_0).trans lfb0_4_0_3_0).trans lfb0_4_0_4_0).trans lfb0_4_0_5_0).trans lfb0_4_0_6_0).trans lfb0_4_0_7_0).trans lfb0_4_0).trans lk0).trans lt2)) (hG2.mono ((((((((((((((((l15.trans l22).trans l33).trans l35).trans lh2).trans l63).trans l67).trans lfb0_4_0_1_0).trans lfb0_4_0_2_0).trans lfb0_4_0_3_0).trans lfb0_4_0_4_0).trans lfb0_4_0_5_0).trans lfb0_4_0_6_0).trans lfb0_4_0_7_0).trans lfb0_4_0).trans lk0).trans lt2)) (hG3.mono ((((((((((((((((l15.trans l22).trans l33).trans l35).trans lh2).trans l63).trans l67).trans lfb0_4_0_1_0).trans lfb0_4_0_2_0).trans lfb0_4_0_3_0).trans lfb0_4_0_4_0).trans lfb0_4_0_5_0).trans lfb0_4_0_6_0).trans lfb0_4_0_7_0).trans lfb0_4_0).trans lk0).trans lt2))) .nil ?_
 rintro _ K135 _ l135 ⟨rfl, rfl⟩
 refine cond_t g133_18 ?_
 obtain ⟨x136, q136, e138⟩ := bnd e138
 refine call_fn (JbR (e := x135) (want := 2) q136) .nil ?_
 rintro _ K136 _ l136 ⟨rfl, rfl⟩
 refine cond_t g133_18 (un_not (cond_t g133_18 (cond_go rfl ?_)))
 refine cond_s (fun w138 => ?_) (fun w138 => ?_)
 replace hl0 := ift ((si e138).symm.trans (not_t (ni_t w138))) hl0
 obtain rfl := si hl0
 replace hm := elr hm
 obtain rfl := si hm
 refine EndStep.mk _ ((((((((((((((((((l15.trans l22).trans l33).trans l35).trans lh2).trans l63).trans l67).trans lfb0_4_0_1_0).trans lfb0_4_0_2_0).trans lfb0_4_0_3_0).trans lfb0_4_0_4_0).trans lfb0_4_0_5_0).trans lfb0_4_0_6_0).trans lfb0_4_0_7_0).trans lfb0_4_0).trans lk0).trans lt2).trans l135).trans l136) ⟨rfl, rfl⟩ (ConvH.of (.cons r8 .nil))
 replace hl0 := iff_ ((si e138).symm.trans (not_f (ni_f w138))) hl0
 refine int_in (cntn w0 hk0) ?_
 refine RoundStep.mk (i0 + 1) ⟨rfl, trivial⟩ (by repeat (first | exact trivial | refine And.intro rfl ?_)) (ConvH.of (.cons r0 (.cons r0 (.cons r0 (.cons r0 (.cons r0 (.cons r0 (.cons r0 (.cons r0 (.cons r0 .nil)))))))))) (((lk0.trans lt2).trans l135).trans l136) (ltnm w0) hl0
 replace e138 := iff_ (and_g (not_t (ni_t g128_18)) g133_18) e138
 refine cond_f g133_18 (cond_f g133_18 (cond_f g133_18 (cond_f g133_18 ?_)))
 refine cond_go rfl (cond_F ?_)
 replace hl0 := iff_ (si e138).symm hl0
 refine int_in (cntn w0 hk0) ?_
 refine RoundStep.mk (i0 + 1) ⟨rfl, trivial⟩ (by repeat (first | exact trivial | refine And.intro rfl ?_)) (ConvH.of (.cons r0 (.cons r0 (.cons r0 (.cons r0 (.cons r0 (.cons r0 (.cons r0 (.cons r0 (.cons r0 .nil)))))))))) (lk0.trans lt2) (ltnm w0) hl0
 refine cond_f g128_18 (cond_f g128_18 (cond_f g128_18 ?_))
 obtain ⟨x138, e138, hl0⟩ := bnd hl0
 replace e138 := iff_ (and_f (not_f (ni_f g128_18))) e138
 refine cond_F (cond_F (cond_F (cond_F ?_)))
 refine cond_F (cond_go rfl (cond_F ?_))
 replace hl0 := iff_ (si e138).symm hl0
 refine int_in (cntn w0 hk0) ?_
 refine RoundStep.mk (i0 + 1) ⟨rfl, trivial⟩ (by repeat (first | exact trivial | refine And.intro rfl ?_)) (ConvH.of (.cons r0 (.cons r0 (.cons r0 (.cons r0 (.cons r0 (.cons r0 (.cons r0 (.cons r0 (.cons r0 .nil)))))))))) (lk0.trans lt2) (ltnm w0) hl0
 rw [lto (n := (8 : Int)) w0, Jq.eq_1] at hl0
 refine cond_T ?_
 refine MeetStep.mk (()) trivial (by repeat (first | exact trivial | refine And.intro rfl ?_)) (ConvH.of (.cons r0 (.cons r0 (.cons r0 (.cons r0 (.cons r0 (.cons r0 (.cons r0 (.cons r0 (.cons r0 .nil)))))))))) lk0 (si hl0).symm
 rintro t0 Kt0 lt0 rfl j0
 replace hm := elg hm
 refine RStep.of (len_slice rfl ?_)
 obtain ⟨x150, e150, hm⟩ := bnd hm
 refine cond_s (fun g143_21 => ?_) (fun g143_21 => ?_)
 replace e150 := ift g143_21 e150
 refine cond_t g143_21 (cond_t g143_21 (cond_t g143_21 (cond_t g143_21 ?_)))
 refine cond_t g143_21 (cond_t g143_21 ?_)
 obtain rfl := si hm
 refine EndStep.mk _ (((((((((((((((l15.trans l22).trans l33).trans l35).trans lh2).trans l63).trans l67).trans lfb0_4_0_1_0).trans lfb0_4_0_2_0).trans lfb0_4_0_3_0).trans lfb0_4_0_4_0).trans lfb0_4_0_5_0).trans lfb0_4_0_6_0).trans lfb0_4_0_7_0).trans lfb0_4_0).trans lt0) ⟨(by rw [← ((si e150).symm).symm] <;> rfl), rfl⟩ (ConvH.of (.cons r8 .nil))
 replace e150 := iff_ g143_21 e150
 refine cond_f g143_21 (cond_f g143_21 ?_)
 obtain ⟨h146, e150⟩ := chkb e150
 refine int_in h146 (cond_f g143_21 ?_)
 obtain ⟨x147, q147, e150⟩ := bnd e150
 refine call_fn (JaY (to := (((x33.length : Int) - 1) + 1)) q147 (fh2.mono ((((((((((l63.trans l67).trans lfb0_4_0_1_0).trans lfb0_4_0_2_0).trans lfb0_4_0_3_0).trans lfb0_4_0_4_0).trans lfb0_4_0_5_0).trans lfb0_4_0_6_0).trans lfb0_4_0_7_0).trans lfb0_4_0).trans lt0)) rfl) .nil ?_
 rintro _ K147 _ l147 ⟨a147_0, c147_0, rfl, h147_0, rfl⟩
 refine cond_f g143_21 ?_
 obtain ⟨x148, q148, e150⟩ := bnd e150
 refine call_fn (Fn.lend Tryd.call8 (fun K148_0 l148_0 f148_0 => (Jap q148 f148_0 rfl (hG0.mono (((((((((((((((((l15.trans l22).trans l33).trans l35).trans lh2).trans l63).trans l67).trans lfb0_4_0_1_0).trans lfb0_4_0_2_0).trans lfb0_4_0_3_0).trans lfb0_4_0_4_0).trans lfb0_4_0_5_0).trans lfb0_4_0_6_0).trans lfb0_4_0_7_0).trans lfb0_4_0).trans lt0).trans l147).trans l148_0)) (hG1.mono (((((((((((((((((l15.trans l22).trans l33).trans l35).trans lh2).trans l63).trans l67).trans lfb0_4_0_1_0).trans lfb0_4_0_2_0).trans lfb0_4_0_3_0).trans lfb0_4_0_4_0).trans lfb0_4_0_5_0).trans lfb0_4_0_6_0).trans lfb0_4_0_7_0).trans lfb0_4_0).trans lt0).trans l147).trans l148_0)) (hG2.mono (((((((((((((((((l15.trans l22).trans l33).trans l35).trans lh2).trans l63).trans l67).trans lfb0_4_0_1_0).trans lfb0_4_0_2_0).trans lfb0_4_0_3_0).trans lfb0_4_0_4_0).trans lfb0_4_0_5_0).trans lfb0_4_0_6_0).trans lfb0_4_0_7_0).trans lfb0_4_0).trans lt0).trans l147).trans l148_0)) (hG3.mono (((((((((((((((((l15.trans l22).trans l33).trans l35).trans lh2).trans l63).trans l67).trans lfb0_4_0_1_0).trans lfb0_4_0_2_0).trans lfb0_4_0_3_0).trans lfb0_4_0_4_0).trans lfb0_4_0_5_0).trans lfb0_4_0_6_0).trans lfb0_4_0_7_0).trans lfb0_4_0).trans lt0).trans l147).trans l148_0)))) (by exact fun _ _ _ _ h => h)) (.cons r0 .nil) ?_
 rintro _ K148 _ l148 ⟨_, rfl, rfl, rfl⟩
 refine cond_f g143_21 (eq_err rfl (cond_f g143_21 ?_))
 obtain rfl := si hm
 refine EndStep.mk _ (((((((((((((((((l15.trans l22).trans l33).trans l35).trans lh2).trans l63).trans l67).trans lfb0_4_0_1_0).trans lfb0_4_0_2_0).trans lfb0_4_0_3_0).trans lfb0_4_0_4_0).trans lfb0_4_0_5_0).trans lfb0_4_0_6_0).trans lfb0_4_0_7_0).trans lfb0_4_0).trans lt0).trans l147).trans l148) ⟨(by rw [← (si e150)] <;> rfl), rfl⟩ (ConvH.of (.cons r9 .nil))
