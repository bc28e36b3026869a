/- Functions of the program: mirrors, and that a call returns what the mirror says. Printed by gen.py. -/
import Derived.Test.YtpmdpondlmkojaaG1
set_option linter.unusedVariables false
set_option linter.unusedSimpArgs false
open Go Go.SL Go.Proofs
set_option maxRecDepth 1000000
noncomputable def law28_FanoutPlays_L0 (n : Nat) : List S_law28_Step → Nat → Int → Int → Str → (List S_ref28_Reader) → Option (Fl (Bool) (Int × Int × Str × (List S_ref28_Reader)))
  | [], _, y0_0, y0_1, y0_2, y0_3 => some (Fl.go (y0_0, y0_1, y0_2, y0_3))
  | e0 :: xs0, i0, y0_0, y0_1, y0_2, y0_3 =>
    ((if decide (((e0.What % (12 : UInt8)).toNat : Int) = 3) then
    (fanout_Stream_Attach_nil e0.ID e0.N).bind fun x80 =>
    (ref28_Attach n (⟨y0_0, y0_1, y0_2, y0_3⟩ : S_ref28_Stream) e0.ID e0.N).bind fun x87 =>
    (base_Num x80).bind fun x91 =>
    if decide (x91 ≠ x87.2) then
    some (Fl.ret false)
    else
    some (Fl.go (x87.1.Limit, x87.1.State, x87.1.Data, x87.1.Readers))
    else
    if decide (((e0.What % (12 : UInt8)).toNat : Int) = 4) then
    (fanout_Stream_Attach_nil e0.ID e0.N).bind fun x80 =>
    (ref28_Attach n (⟨y0_0, y0_1, y0_2, y0_3⟩ : S_ref28_Stream) e0.ID e0.N).bind fun x87 =>
    (base_Num x80).bind fun x91 =>
    if decide (x91 ≠ x87.2) then
    some (Fl.ret false)
    else
    some (Fl.go (x87.1.Limit, x87.1.State, x87.1.Data, x87.1.Readers))
    else
    if decide (((e0.What % (12 : UInt8)).toNat : Int) = 5) then
    (fanout_Stream_Read_nil e0.ID e0.N).bind fun x105 =>
    (ref28_Read n (⟨y0_0, y0_1, y0_2, y0_3⟩ : S_ref28_Stream) e0.ID e0.N).bind fun x115 =>
    (base_Num x105.2.2).bind fun x121 =>
    (if (decide (x121 ≠ x115.2.2.2) || decide (x105.2.1 ≠ x115.2.2.1)) then some true else (base_Bytes x105.1 x115.2.1).bind fun x132 =>
    some (!x132)).bind fun x134 =>
    if x134 then
    some (Fl.ret false)
    else
    some (Fl.go (x115.1.Limit, x115.1.State, x115.1.Data, x115.1.Readers))
    else
    if decide (((e0.What % (12 : UInt8)).toNat : Int) = 6) then
    (fanout_Stream_Read_nil e0.ID e0.N).bind fun x105 =>
    (ref28_Read n (⟨y0_0, y0_1, y0_2, y0_3⟩ : S_ref28_Stream) e0.ID e0.N).bind fun x115 =>
    (base_Num x105.2.2).bind fun x121 =>
    (if (decide (x121 ≠ x115.2.2.2) || decide (x105.2.1 ≠ x115.2.2.1)) then some true else (base_Bytes x105.1 x115.2.1).bind fun x132 =>
    some (!x132)).bind fun x134 =>
    if x134 then
    some (Fl.ret false)
    else
    some (Fl.go (x115.1.Limit, x115.1.State, x115.1.Data, x115.1.Readers))
    else
    if decide (((e0.What % (12 : UInt8)).toNat : Int) = 7) then
    (fanout_Stream_Read_nil e0.ID e0.N).bind fun x105 =>
    (ref28_Read n (⟨y0_0, y0_1, y0_2, y0_3⟩ : S_ref28_Stream) e0.ID e0.N).bind fun x115 =>
    (base_Num x105.2.2).bind fun x121 =>
    (if (decide (x121 ≠ x115.2.2.2) || decide (x105.2.1 ≠ x115.2.2.1)) then some true else (base_Bytes x105.1 x115.2.1).bind fun x132 =>
    some (!x132)).bind fun x134 =>
    if x134 then
    some (Fl.ret false)
    else
    some (Fl.go (x115.1.Limit, x115.1.State, x115.1.Data, x115.1.Readers))
    else
    if decide (((e0.What % (12 : UInt8)).toNat : Int) = 8) then
    (fanout_Stream_Read_nil e0.ID e0.N).bind fun x105 =>
    (ref28_Read n (⟨y0_0, y0_1, y0_2, y0_3⟩ : S_ref28_Stream) e0.ID e0.N).bind fun x115 =>
    (base_Num x105.2.2).bind fun x121 =>
    (if (decide (x121 ≠ x115.2.2.2) || decide (x105.2.1 ≠ x115.2.2.1)) then some true else (base_Bytes x105.1 x115.2.1).bind fun x132 =>
    some (!x132)).bind fun x134 =>
    if x134 then
    some (Fl.ret false)
    else
    some (Fl.go (x115.1.Limit, x115.1.State, x115.1.Data, x115.1.Readers))
    else
    if decide (((e0.What % (12 : UInt8)).toNat : Int) = 9) then
    (ref28_Detach n (⟨y0_0, y0_1, y0_2, y0_3⟩ : S_ref28_Stream) e0.ID).bind fun x141 =>
    (fanout_Stream_Detach_nil e0.ID).bind fun x147 =>
    if (!(x147 == x141.2)) then
    some (Fl.ret false)
    else
    some (Fl.go (x141.1.Limit, x141.1.State, x141.1.Data, x141.1.Readers))
    else
    if decide (((e0.What % (12 : UInt8)).toNat : Int) = 10) then
    (ref28_Close (⟨y0_0, y0_1, y0_2, y0_3⟩ : S_ref28_Stream) 2).bind fun x154 =>
    (fanout_Stream_End_nil).bind fun x158 =>
    (base_Num x158).bind fun x159 =>
    if decide (x159 ≠ x154.2) then
    some (Fl.ret false)
    else
    some (Fl.go (x154.1.Limit, x154.1.State, x154.1.Data, x154.1.Readers))
    else
    if decide (((e0.What % (12 : UInt8)).toNat : Int) = 11) then
    (ref28_Close (⟨y0_0, y0_1, y0_2, y0_3⟩ : S_ref28_Stream) 3).bind fun x166 =>
    (fanout_Stream_Abort_nil).bind fun x170 =>
    (base_Num x170).bind fun x171 =>
    if decide (x171 ≠ x166.2) then
    some (Fl.ret false)
    else
    some (Fl.go (x166.1.Limit, x166.1.State, x166.1.Data, x166.1.Readers))
    else
    (ref28_Write (⟨y0_0, y0_1, y0_2, y0_3⟩ : S_ref28_Stream) e0.Data).bind fun x62 =>
    (fanout_Stream_Write_nil e0.Data).bind fun x68 =>
    (base_Num x68).bind fun x69 =>
    if decide (x69 ≠ x62.2) then
    some (Fl.ret false)
    else
    some (Fl.go (x62.1.Limit, x62.1.State, x62.1.Data, x62.1.Readers)) : Option (Fl (Bool) (Int × Int × Str × (List S_ref28_Reader))))).bind fun s904 => s904.el (fun r => some (Fl.ret r)) fun t904 =>
    (fanout_Stream_Readers_nil).bind fun x175 =>
    (ref28_IDs (⟨t904.1, t904.2.1, t904.2.2.1, t904.2.2.2⟩ : S_ref28_Stream)).bind fun x177 =>
    (base_Ints x175 x177).bind fun x178 =>
    (if (!x178) then some true else (fanout_Stream_Least_nil).bind fun x182 =>
    (ref28_Least (⟨t904.1, t904.2.1, t904.2.2.1, t904.2.2.2⟩ : S_ref28_Stream)).bind fun x184 =>
    some (decide (x182 ≠ x184))).bind fun x186 =>
    (if x186 then some true else (fanout_Stream_Written_nil).bind fun x189 =>
    some (decide (x189 ≠ (t904.2.2.1.length : Int)))).bind fun x194 =>
    if x194 then
    some (Fl.ret false)
    else
    law28_FanoutPlays_L0 n xs0 (i0 + 1) t904.1 t904.2.1 t904.2.2.1 t904.2.2.2
noncomputable def law28_FanoutPlays_L0b (n : Nat) : List S_law28_Step → Nat → Int → Int → Str → (List S_ref28_Reader) → S_fanout_Stream → Option (Fl (Bool) (Int × Int × Str × (List S_ref28_Reader) × S_fanout_Stream))
  | [], _, y0_0, y0_1, y0_2, y0_3, y0_4 => some (Fl.go (y0_0, y0_1, y0_2, y0_3, y0_4))
  | e0 :: xs0, i0, y0_0, y0_1, y0_2, y0_3, y0_4 =>
    ((if decide (((e0.What % (12 : UInt8)).toNat : Int) = 3) then
    (fanout_Stream_Attach y0_4 e0.ID e0.N).bind fun x80 =>
    (ref28_Attach n (⟨y0_0, y0_1, y0_2, y0_3⟩ : S_ref28_Stream) e0.ID e0.N).bind fun x87 =>
    (base_Num x80.1).bind fun x91 =>
    if decide (x91 ≠ x87.2) then
    some (Fl.ret false)
    else
    some (Fl.go (x87.1.Limit, x87.1.State, x87.1.Data, x87.1.Readers, x80.2))
    else
    if decide (((e0.What % (12 : UInt8)).toNat : Int) = 4) then
    (fanout_Stream_Attach y0_4 e0.ID e0.N).bind fun x80 =>
    (ref28_Attach n (⟨y0_0, y0_1, y0_2, y0_3⟩ : S_ref28_Stream) e0.ID e0.N).bind fun x87 =>
    (base_Num x80.1).bind fun x91 =>
    if decide (x91 ≠ x87.2) then
    some (Fl.ret false)
    else
    some (Fl.go (x87.1.Limit, x87.1.State, x87.1.Data, x87.1.Readers, x80.2))
    else
    if decide (((e0.What % (12 : UInt8)).toNat : Int) = 5) then
    (fanout_Stream_Read y0_4 e0.ID e0.N).bind fun x105 =>
    (ref28_Read n (⟨y0_0, y0_1, y0_2, y0_3⟩ : S_ref28_Stream) e0.ID e0.N).bind fun x115 =>
    (base_Num x105.2.2.1).bind fun x121 =>
    (if (decide (x121 ≠ x115.2.2.2) || decide (x105.2.1 ≠ x115.2.2.1)) then some true else (base_Bytes x105.1 x115.2.1).bind fun x132 =>
    some (!x132)).bind fun x134 =>
    if x134 then
    some (Fl.ret false)
    else
    some (Fl.go (x115.1.Limit, x115.1.State, x115.1.Data, x115.1.Readers, x105.2.2.2))
    else
    if decide (((e0.What % (12 : UInt8)).toNat : Int) = 6) then
    (fanout_Stream_Read y0_4 e0.ID e0.N).bind fun x105 =>
    (ref28_Read n (⟨y0_0, y0_1, y0_2, y0_3⟩ : S_ref28_Stream) e0.ID e0.N).bind fun x115 =>
    (base_Num x105.2.2.1).bind fun x121 =>
    (if (decide (x121 ≠ x115.2.2.2) || decide (x105.2.1 ≠ x115.2.2.1)) then some true else (base_Bytes x105.1 x115.2.1).bind fun x132 =>
    some (!x132)).bind fun x134 =>
    if x134 then
    some (Fl.ret false)
    else
    some (Fl.go (x115.1.Limit, x115.1.State, x115.1.Data, x115.1.Readers, x105.2.2.2))
    else
    if decide (((e0.What % (12 : UInt8)).toNat : Int) = 7) then
    (fanout_Stream_Read y0_4 e0.ID e0.N).bind fun x105 =>
    (ref28_Read n (⟨y0_0, y0_1, y0_2, y0_3⟩ : S_ref28_Stream) e0.ID e0.N).bind fun x115 =>
    (base_Num x105.2.2.1).bind fun x121 =>
    (if (decide (x121 ≠ x115.2.2.2) || decide (x105.2.1 ≠ x115.2.2.1)) then some true else (base_Bytes x105.1 x115.2.1).bind fun x132 =>
    some (!x132)).bind fun x134 =>
    if x134 then
    some (Fl.ret false)
    else
    some (Fl.go (x115.1.Limit, x115.1.State, x115.1.Data, x115.1.Readers, x105.2.2.2))
    else
    if decide (((e0.What % (12 : UInt8)).toNat : Int) = 8) then
    (fanout_Stream_Read y0_4 e0.ID e0.N).bind fun x105 =>
    (ref28_Read n (⟨y0_0, y0_1, y0_2, y0_3⟩ : S_ref28_Stream) e0.ID e0.N).bind fun x115 =>
    (base_Num x105.2.2.1).bind fun x121 =>
    (if (decide (x121 ≠ x115.2.2.2) || decide (x105.2.1 ≠ x115.2.2.1)) then some true else (base_Bytes x105.1 x115.2.1).bind fun x132 =>
    some (!x132)).bind fun x134 =>
    if x134 then
    some (Fl.ret false)
    else
    some (Fl.go (x115.1.Limit, x115.1.State, x115.1.Data, x115.1.Readers, x105.2.2.2))
    else
    if decide (((e0.What % (12 : UInt8)).toNat : Int) = 9) then
    (ref28_Detach n (⟨y0_0, y0_1, y0_2, y0_3⟩ : S_ref28_Stream) e0.ID).bind fun x141 =>
    (fanout_Stream_Detach y0_4 e0.ID).bind fun x147 =>
    if (!(x147.1 == x141.2)) then
    some (Fl.ret false)
    else
    some (Fl.go (x141.1.Limit, x141.1.State, x141.1.Data, x141.1.Readers, x147.2))
    else
    if decide (((e0.What % (12 : UInt8)).toNat : Int) = 10) then
    (ref28_Close (⟨y0_0, y0_1, y0_2, y0_3⟩ : S_ref28_Stream) 2).bind fun x154 =>
    (fanout_Stream_End y0_4).bind fun x158 =>
    (base_Num x158.1).bind fun x159 =>
    if decide (x159 ≠ x154.2) then
    some (Fl.ret false)
    else
    some (Fl.go (x154.1.Limit, x154.1.State, x154.1.Data, x154.1.Readers, x158.2))
    else
    if decide (((e0.What % (12 : UInt8)).toNat : Int) = 11) then
    (ref28_Close (⟨y0_0, y0_1, y0_2, y0_3⟩ : S_ref28_Stream) 3).bind fun x166 =>
    (fanout_Stream_Abort y0_4).bind fun x170 =>
    (base_Num x170.1).bind fun x171 =>
    if decide (x171 ≠ x166.2) then
    some (Fl.ret false)
    else
    some (Fl.go (x166.1.Limit, x166.1.State, x166.1.Data, x166.1.Readers, x170.2))
    else
    (ref28_Write (⟨y0_0, y0_1, y0_2, y0_3⟩ : S_ref28_Stream) e0.Data).bind fun x62 =>
    (fanout_Stream_Write y0_4 e0.Data).bind fun x68 =>
    (base_Num x68.1).bind fun x69 =>
    if decide (x69 ≠ x62.2) then
    some (Fl.ret false)
    else
    some (Fl.go (x62.1.Limit, x62.1.State, x62.1.Data, x62.1.Readers, x68.2)) : Option (Fl (Bool) (Int × Int × Str × (List S_ref28_Reader) × S_fanout_Stream)))).bind fun s927 => s927.el (fun r => some (Fl.ret r)) fun t927 =>
    (fanout_Stream_Readers t927.2.2.2.2).bind fun x175 =>
    (ref28_IDs (⟨t927.1, t927.2.1, t927.2.2.1, t927.2.2.2.1⟩ : S_ref28_Stream)).bind fun x177 =>
    (base_Ints x175 x177).bind fun x178 =>
    (if (!x178) then some true else (fanout_Stream_Least t927.2.2.2.2).bind fun x182 =>
    (ref28_Least (⟨t927.1, t927.2.1, t927.2.2.1, t927.2.2.2.1⟩ : S_ref28_Stream)).bind fun x184 =>
    some (decide (x182 ≠ x184))).bind fun x186 =>
    (if x186 then some true else (fanout_Stream_Written t927.2.2.2.2).bind fun x189 =>
    some (decide (x189 ≠ (t927.2.2.1.length : Int)))).bind fun x194 =>
    if x194 then
    some (Fl.ret false)
    else
    law28_FanoutPlays_L0b n xs0 (i0 + 1) t927.1 t927.2.1 t927.2.2.1 t927.2.2.2.1 t927.2.2.2.2
noncomputable def law28_FanoutPlays (n : Nat) (limit : Int) (script : (List S_law28_Step)) : Option (Bool) :=
  (law28_large script).bind fun x19 =>
  (if x19 then some true else (law28_awake).bind fun x21 =>
  some (!x21)).bind fun x23 =>
  if x23 then
  (law28_large script).bind fun x25 =>
  some x25
  else
  (fanout_New limit).bind fun x28 =>
  Option.elim x28.1 (
  (ref28_New limit).bind fun x33 =>
  (base_Num x28.2).bind fun x37 =>
  if (decide (x37 ≠ x33.2) || (!(true == (decide (x33.2 ≠ 0))))) then
  some false
  else
  if decide (x33.2 ≠ 0) then
  some true
  else
  (chk (script.length ≤ szMax)).bind fun _ =>
  (law28_FanoutPlays_L0 n script 0 x33.1.Limit x33.1.State x33.1.Data x33.1.Readers).bind fun s0 => s0.el some fun t0 =>
  some true)
   fun o28 =>
  (ref28_New limit).bind fun x33 =>
  (base_Num x28.2).bind fun x37 =>
  if (decide (x37 ≠ x33.2) || (!(false == (decide (x33.2 ≠ 0))))) then
  some false
  else
  if decide (x33.2 ≠ 0) then
  some true
  else
  (chk (script.length ≤ szMax)).bind fun _ =>
  (law28_FanoutPlays_L0b n script 0 x33.1.Limit x33.1.State x33.1.Data x33.1.Readers o28).bind fun s0 => s0.el some fun t0 =>
  some true
set_option maxHeartbeats 8000000 in
theorem law28_FanoutPlays_ok {n : Nat} {limit : Int} {script : (List S_law28_Step)} {ap1_0 : Option Addr} {cp1_0 : Nat} {n1 : Nat} {K : Hp} {r : Bool}
    (hm : law28_FanoutPlays n limit script = some r) (hp1_0 : LiC S_law28_Step.R K ap1_0 cp1_0 4 script) (en1 : n1 = script.length) :
    Fn Try.prog 8 [.int .i64 limit, .slice ap1_0 n1 cp1_0] K [] (fun v K' H' => v = .bool r ∧ H' = []) := by
  subst en1
  refine Fn.enter Try.func8 Try.call8 rfl fun F => ?_
  unfold law28_FanoutPlays at hm
  obtain ⟨x19, q19, hm⟩ := bnd hm
  conv => whnf
  refine call_fn (law28_large_ok q19 hp1_0 rfl) .nil ?_
  rintro _ K19 _ l19 ⟨rfl, rfl⟩
  obtain ⟨x23, e23, hm⟩ := bnd hm
  conv => whnf
  refine cond_s (fun g20_1 => ?_) (fun g20_1 => ?_)
  · replace e23 := ift g20_1 e23
    conv => whnf
    refine cond_t g20_1 ?_
    conv => whnf
    refine cond_t g20_1 ?_
    conv => whnf
    refine cond_go rfl ?_
    conv => whnf
    refine cond_T ?_
    replace hm := ift (si e23).symm hm
    obtain ⟨x25, q25, hm⟩ := bnd hm
    conv => whnf
    refine call_fn (law28_large_ok q25 (LiC.mono S_law28_Step.R_ok l19 hp1_0) rfl) .nil ?_
    rintro _ K25 _ l25 ⟨rfl, rfl⟩
    obtain rfl := si hm
    conv => whnf
    refine EndStep.mk _ (l19.trans l25) ⟨rfl, rfl⟩ (ConvH.of (.cons r0 .nil))
  · replace e23 := iff_ g20_1 e23
    obtain ⟨x21, q21, e23⟩ := bnd e23
    conv => whnf
    refine call_fn (law28_awake_ok q21) .nil ?_
    rintro _ K21 _ l21 ⟨rfl, rfl⟩
    conv => whnf
    refine cond_f g20_1 ?_
    conv => whnf
    refine un_not ?_
    conv => whnf
    refine cond_f g20_1 ?_
    conv => whnf
    refine cond_go rfl ?_
    conv => whnf
    refine cond_s (fun w23 => ?_) (fun w23 => ?_)
    · replace hm := ift ((si e23).symm.trans (not_t (ni_t w23))) hm
      obtain ⟨x25, q25, hm⟩ := bnd hm
      conv => whnf
      refine call_fn (law28_large_ok q25 (LiC.mono S_law28_Step.R_ok (l19.trans l21) hp1_0) rfl) .nil ?_
      rintro _ K25 _ l25 ⟨rfl, rfl⟩
      obtain rfl := si hm
      conv => whnf
      refine EndStep.mk _ ((l19.trans l21).trans l25) ⟨rfl, rfl⟩ (ConvH.of (.cons r0 .nil))
    · replace hm := iff_ ((si e23).symm.trans (not_f (ni_f w23))) hm
      obtain ⟨x28, q28, hm⟩ := bnd hm
      conv => whnf
      refine call_fn (fanout_New_ok q28) .nil ?_
      rintro v28 K28 H28 l28 p28
      rcases hq28 : x28.1 with _ | o28
      · rw [hq28] at p28 hm
        obtain ⟨rfl, rfl⟩ := p28
        replace hm := oe_n hm
        obtain ⟨x33, q33, hm⟩ := bnd hm
        conv => whnf
        refine call_fn (ref28_New_ok q33) .nil ?_
        rintro _ K33 _ l33 ⟨a33_0, c33_0, a33_1, c33_1, rfl, h33_0, h33_1, rfl⟩
        conv => whnf
        refine alloc_rule rfl ?_
        intro b7
        conv => whnf
        refine store_rule r0 rfl ?_
        conv => whnf
        refine ⟨rfl, rfl, (Nat.le_of_ble_eq_true rfl), ?_⟩
        obtain ⟨x37, q37, hm⟩ := bnd hm
        conv => whnf
        refine call_fn (base_Num_ok q37) .nil ?_
        rintro _ K37 _ l37 ⟨rfl, rfl⟩
        conv => whnf
        refine neq_int ?_
        conv => whnf
        refine cond_s (fun g40_5 => ?_) (fun g40_5 => ?_)
        · conv => whnf
          refine cond_t g40_5 ?_
          conv => whnf
          refine cond_t g40_5 ?_
          conv => whnf
          refine cond_t g40_5 ?_
          conv => whnf
          refine cond_t g40_5 ?_
          conv => whnf
          refine cond_t g40_5 ?_
          conv => whnf
          refine cond_go rfl ?_
          conv => whnf
          refine cond_T ?_
          replace hm := ift (or_t g40_5) hm
          obtain rfl := si hm
          conv => whnf
          refine EndStep.mk _ ((((l19.trans l21).trans l28).trans l33).trans l37) ⟨rfl, rfl⟩ (ConvH.of (.cons r3 .nil))
        · conv => whnf
          refine cond_f g40_5 ?_
          conv => whnf
          refine eq_nil_nil rfl ?_
          conv => whnf
          refine cond_f g40_5 ?_
          conv => whnf
          refine cond_f g40_5 ?_
          conv => whnf
          refine neq_int ?_
          conv => whnf
          refine cond_f g40_5 ?_
          conv => whnf
          refine neq_bool rfl ?_
          conv => whnf
          refine cond_f g40_5 ?_
          conv => whnf
          refine cond_go rfl ?_
          conv => whnf
          refine cond_s (fun w46 => ?_) (fun w46 => ?_)
          · replace hm := ift (or_u g40_5 w46) hm
            obtain rfl := si hm
            conv => whnf
            refine EndStep.mk _ ((((l19.trans l21).trans l28).trans l33).trans l37) ⟨rfl, rfl⟩ (ConvH.of (.cons r3 .nil))
          · replace hm := iff_ (or_f g40_5 w46) hm
            conv => whnf
            refine neq_int ?_
            conv => whnf
            refine cond_go rfl ?_
            conv => whnf
            refine cond_s (fun w48 => ?_) (fun w48 => ?_)
            · replace hm := ift w48 hm
              obtain rfl := si hm
              conv => whnf
              refine EndStep.mk _ ((((l19.trans l21).trans l28).trans l33).trans l37) ⟨rfl, rfl⟩ (ConvH.of (.cons r3 .nil))
            · replace hm := iff_ w48 hm
              conv => whnf
              refine RStep.of (len_slice rfl ?_)
              obtain ⟨hk0, hm⟩ := chkb hm
              obtain ⟨s0, hl0, hm⟩ := bnd hm
              conv => whnf
              refine fC r1 fun Kc0_0 lc0_0 fc0_0 => ?_
              refine fC r1 fun Kc0_1 lc0_1 fc0_1 => ?_
              refine code_cut (σ := (Int × Int × Str × (List S_ref28_Reader)) × Option Addr × Nat × Option Addr × Nat) [4, 8, 10, 11, 12, 13, 14, 15, 16, 17, 51, 52, 53, 54, 55, 56, 57, 58, 59, 60, 61, 62, 63, 64, 65, 66, 67, 68, 69, 70, 71, 72, 73, 74, 75, 76, 77, 78, 79, 80, 81, 82, 83, 84, 85, 86, 87, 88, 89, 90, 91, 92, 93, 94, 95, 96, 97, 98, 99, 100, 101, 102, 103, 104, 105, 106, 107, 108, 109, 110, 111, 112, 113, 114, 115, 116, 117, 118, 119, 120, 121, 122, 123, 124, 125, 126, 127, 128, 129, 130, 131, 132, 133, 134, 135, 136, 137, 138, 139, 140, 141, 142, 143, 144, 145, 146, 147, 148, 149, 150, 151, 152, 153, 154, 155, 156, 157, 158, 159, 160, 161, 162, 163, 164, 165, 166, 167, 168, 169, 170, 171, 172, 173, 174, 175, 176, 177, 178, 179, 180, 181, 182, 183, 184, 185, 186, 187, 188, 189, 190, 191, 192, 193, 194, 195] (fun (t0, t0_a2, t0_c2, t0_a3, t0_c3) => []) (fun (t0, t0_a2, t0_c2, t0_a3, t0_c3) => [Cells b7 60 [.int .i64 t0.1, .int .i64 t0.2.1, .slice t0_a2 t0.2.2.1.length t0_c2, .slice t0_a3 t0.2.2.2.length t0_c3], F]) (fun zz K1 => match zz with | (t0, t0_a2, t0_c2, t0_a3, t0_c3) => RdC eU K1 t0_a2 t0_c2 1 t0.2.2.1 ∧ RdC S_ref28_Reader.enc K1 t0_a3 t0_c3 2 t0.2.2.2 ∧ s0 = Fl.go t0) ?_ ?_
              · refine block_go rfl ?_
                conv => whnf
                refine loop_rule (σ := Nat × Int × Int × Str × (List S_ref28_Reader) × Option Addr × Nat × Option Addr × Nat) [4, 8, 10, 11, 12, 13, 14, 15, 16, 17, 51, 52, 53, 54, 55, 56, 57, 58, 59, 60, 61, 62, 63, 64, 65, 66, 67, 68, 69, 70, 71, 72, 73, 74, 75, 76, 77, 78, 79, 80, 81, 82, 83, 84, 85, 86, 87, 88, 89, 90, 91, 92, 93, 94, 95, 96, 97, 98, 99, 100, 101, 102, 103, 104, 105, 106, 107, 108, 109, 110, 111, 112, 113, 114, 115, 116, 117, 118, 119, 120, 121, 122, 123, 124, 125, 126, 127, 128, 129, 130, 131, 132, 133, 134, 135, 136, 137, 138, 139, 140, 141, 142, 143, 144, 145, 146, 147, 148, 149, 150, 151, 152, 153, 154, 155, 156, 157, 158, 159, 160, 161, 162, 163, 164, 165, 166, 167, 168, 169, 170, 171, 172, 173, 174, 175, 176, 177, 178, 179, 180, 181, 182, 183, 184, 185, 186, 187, 188, 189, 190, 191, 192, 193, 194, 195] (fun (i0, y0_0, y0_1, y0_2, y0_3, y0_a2, y0_c2, y0_a3, y0_c3) => [(51, .int .i64 (i0 : Int))]) (fun (i0, y0_0, y0_1, y0_2, y0_3, y0_a2, y0_c2, y0_a3, y0_c3) => [Cells b7 60 [.int .i64 y0_0, .int .i64 y0_1, .slice y0_a2 y0_2.length y0_c2, .slice y0_a3 y0_3.length y0_c3], F]) (fun zz K1 => match zz with | (i0, y0_0, y0_1, y0_2, y0_3, y0_a2, y0_c2, y0_a3, y0_c3) => RdC eU K1 y0_a2 y0_c2 1 y0_2 ∧ RdC S_ref28_Reader.enc K1 y0_a3 y0_c3 2 y0_3 ∧ law28_FanoutPlays_L0 n (script.drop i0) i0 y0_0 y0_1 y0_2 y0_3 = some s0) (fun zz => script.length - zz.1) (0, x33.1.Limit, x33.1.State, x33.1.Data, x33.1.Readers, a33_0, c33_0, a33_1, c33_1) rfl ⟨rfl, trivial⟩ (ConvH.of (.cons r0 (.cons r0 .nil))) ⟨(fc0_0.mono lc0_1), fc0_1, hl0⟩ ?_
                clear hl0
                rintro ⟨i0, y0_0, y0_1, y0_2, y0_3, y0_a2, y0_c2, y0_a3, y0_c3⟩ Kb0 lk0 ⟨y0_h2, y0_h3, hl0⟩ j0
                conv => whnf
                refine cond_go rfl ?_
                conv => whnf
                refine cond_s (fun w0 => ?_) (fun w0 => ?_)
                · obtain ⟨e0, hx0, hd0⟩ := ltx w0
                  rw [hd0, law28_FanoutPlays_L0.eq_2] at hl0
                  conv => whnf
                  refine block_go rfl ?_
                  conv => whnf
                  refine RStep.ofN (index_addr rfl rfl (hasR (LiC.mono S_law28_Step.R_ok (((((((l19.trans l21).trans l28).trans l33).trans l37).trans lc0_0).trans lc0_1).trans lk0) hp1_0).rd hx0) (nn _) (lt_ofN hx0) ?_)
                  obtain ⟨ss54, cc54, hr54, hc54, hR54⟩ := LiR.get (LiC.mono S_law28_Step.R_ok (((((((l19.trans l21).trans l28).trans l33).trans l37).trans lc0_0).trans lc0_1).trans lk0) hp1_0).rd hx0
                  obtain ⟨a54_0, c54_0, rfl, h54_0⟩ := hR54
                  conv => whnf
                  refine RStep.of (load_rd_agg i0 _ hr54 rfl hc54 rfl ?_)
                  conv => whnf
                  refine alloc_rule rfl ?_
                  intro b10
                  conv => whnf
                  refine store_rule r0 rfl ?_
                  conv => whnf
                  refine ⟨rfl, rfl, (Nat.le_of_ble_eq_true rfl), ?_⟩
                  conv => whnf
                  refine field_addr rfl ?_
                  conv => whnf
                  refine RStep.of (load1_s r0 rfl rfl ?_)
                  conv => whnf
                  refine u8_rem (x := e0.What) (y := (12 : UInt8)) rfl rfl (by decide) ?_
                  obtain ⟨s904, hl904, hl0⟩ := bnd hl0
                  conv => whnf
                  refine code_cut (σ := (Int × Int × Str × (List S_ref28_Reader)) × Option Addr × Nat × Option Addr × Nat) [4, 8, 11, 12, 13, 14, 15, 16, 17, 58, 59, 60, 61, 62, 63, 64, 65, 66, 67, 68, 69, 70, 71, 72, 73, 74, 75, 76, 77, 78, 79, 80, 81, 82, 83, 84, 85, 86, 87, 88, 89, 90, 91, 92, 93, 94, 95, 96, 97, 98, 99, 100, 101, 102, 103, 104, 105, 106, 107, 108, 109, 110, 111, 112, 113, 114, 115, 116, 117, 118, 119, 120, 121, 122, 123, 124, 125, 126, 127, 128, 129, 130, 131, 132, 133, 134, 135, 136, 137, 138, 139, 140, 141, 142, 143, 144, 145, 146, 147, 148, 149, 150, 151, 152, 153, 154, 155, 156, 157, 158, 159, 160, 161, 162, 163, 164, 165, 166, 167, 168, 169, 170, 171, 172, 173] (fun (t904, t904_a2, t904_c2, t904_a3, t904_c3) => []) (fun (t904, t904_a2, t904_c2, t904_a3, t904_c3) => [Cells b10 50 [.int .u8 (e0.What.toNat : Int), .int .i64 e0.ID, .int .i64 e0.N, .slice a54_0 e0.Data.length c54_0], Cells b7 60 [.int .i64 t904.1, .int .i64 t904.2.1, .slice t904_a2 t904.2.2.1.length t904_c2, .slice t904_a3 t904.2.2.2.length t904_c3], F]) (fun zz K1 => match zz with | (t904, t904_a2, t904_c2, t904_a3, t904_c3) => RdC eU K1 t904_a2 t904_c2 1 t904.2.2.1 ∧ RdC S_ref28_Reader.enc K1 t904_a3 t904_c3 2 t904.2.2.2 ∧ s904 = Fl.go t904) ?_ ?_
                  · refine block_go rfl ?_
                    conv => whnf
                    refine eq_int ?_
                    conv => whnf
                    refine cond_go rfl ?_
                    conv => whnf
                    refine cond_s (fun w72 => ?_) (fun w72 => ?_)
                    · replace hl904 := ift w72 hl904
                      conv => whnf
                      refine cond_go rfl ?_
                      conv => whnf
                      refine cond_t w72 ?_
                      conv => whnf
                      refine field_addr rfl ?_
                      conv => whnf
                      refine RStep.of (load1_s r0 rfl rfl ?_)
                      conv => whnf
                      refine field_addr rfl ?_
                      conv => whnf
                      refine RStep.of (load1_s r0 rfl rfl ?_)
                      obtain ⟨x80, q80, hl904⟩ := bnd hl904
                      conv => whnf
                      refine call_fn (fanout_Stream_Attach_nil_ok q80) .nil ?_
                      rintro _ K80 _ l80 ⟨rfl, rfl⟩
                      conv => whnf
                      refine RStep.of (loadn_s r1 rfl (Nat.le_of_ble_eq_true rfl) ?_)
                      conv => whnf
                      refine field_addr rfl ?_
                      conv => whnf
                      refine RStep.of (load1_s r0 rfl rfl ?_)
                      conv => whnf
                      refine field_addr rfl ?_
                      conv => whnf
                      refine RStep.of (load1_s r0 rfl rfl ?_)
                      obtain ⟨x87, q87, hl904⟩ := bnd hl904
                      conv => whnf
                      refine call_fn (ref28_Attach_ok (s := (⟨y0_0, y0_1, y0_2, y0_3⟩ : S_ref28_Stream)) q87 (y0_h2.mono l80) (y0_h3.mono l80)) .nil ?_
                      rintro _ K87 _ l87 ⟨a87_0, c87_0, a87_1, c87_1, rfl, h87_0, h87_1, rfl⟩
                      conv => whnf
                      refine store_rule r1 rfl ?_
                      conv => whnf
                      refine ⟨rfl, rfl, (Nat.le_of_ble_eq_true rfl), ?_⟩
                      obtain ⟨x91, q91, hl904⟩ := bnd hl904
                      conv => whnf
                      refine call_fn (base_Num_ok q91) .nil ?_
                      rintro _ K91 _ l91 ⟨rfl, rfl⟩
                      conv => whnf
                      refine neq_int ?_
                      conv => whnf
                      refine cond_go rfl ?_
                      conv => whnf
                      refine cond_s (fun w93 => ?_) (fun w93 => ?_)
                      · replace hl904 := ift w93 hl904
                        obtain rfl := si hl904
                        replace hl0 := elr hl0
                        obtain rfl := si hl0
                        replace hm := elr hm
                        obtain rfl := si hm
                        conv => whnf
                        refine EndStep.mk _ ((((((((((l19.trans l21).trans l28).trans l33).trans l37).trans lc0_0).trans lc0_1).trans lk0).trans l80).trans l87).trans l91) ⟨rfl, rfl⟩ (ConvH.of (.cons r2 .nil))
                      · replace hl904 := iff_ w93 hl904
                        conv => whnf
                        refine MeetStep.mk ((x87.1.Limit, x87.1.State, x87.1.Data, x87.1.Readers), a87_0, c87_0, a87_1, c87_1) trivial (by repeat (first | exact trivial | refine And.intro rfl ?_)) (ConvH.of (.cons r1 (.cons r0 (.cons r0 .nil)))) ((l80.trans l87).trans l91) ⟨(h87_0.mono l91), (h87_1.mono l91), (si hl904).symm⟩
                    · replace hl904 := iff_ w72 hl904
                      conv => whnf
                      refine eq_int ?_
                      conv => whnf
                      refine cond_go rfl ?_
                      conv => whnf
                      refine cond_s (fun w72 => ?_) (fun w72 => ?_)
                      · replace hl904 := ift w72 hl904
                        conv => whnf
                        refine field_addr rfl ?_
                        conv => whnf
                        refine RStep.of (load1_s r0 rfl rfl ?_)
                        conv => whnf
                        refine field_addr rfl ?_
                        conv => whnf
                        refine RStep.of (load1_s r0 rfl rfl ?_)
                        obtain ⟨x80, q80, hl904⟩ := bnd hl904
                        conv => whnf
                        refine call_fn (fanout_Stream_Attach_nil_ok q80) .nil ?_
                        rintro _ K80 _ l80 ⟨rfl, rfl⟩
                        conv => whnf
                        refine RStep.of (loadn_s r1 rfl (Nat.le_of_ble_eq_true rfl) ?_)
                        conv => whnf
                        refine field_addr rfl ?_
                        conv => whnf
                        refine RStep.of (load1_s r0 rfl rfl ?_)
                        conv => whnf
                        refine field_addr rfl ?_
                        conv => whnf
                        refine RStep.of (load1_s r0 rfl rfl ?_)
                        obtain ⟨x87, q87, hl904⟩ := bnd hl904
                        conv => whnf
                        refine call_fn (ref28_Attach_ok (s := (⟨y0_0, y0_1, y0_2, y0_3⟩ : S_ref28_Stream)) q87 (y0_h2.mono l80) (y0_h3.mono l80)) .nil ?_
                        rintro _ K87 _ l87 ⟨a87_0, c87_0, a87_1, c87_1, rfl, h87_0, h87_1, rfl⟩
                        conv => whnf
                        refine store_rule r1 rfl ?_
                        conv => whnf
                        refine ⟨rfl, rfl, (Nat.le_of_ble_eq_true rfl), ?_⟩
                        obtain ⟨x91, q91, hl904⟩ := bnd hl904
                        conv => whnf
                        refine call_fn (base_Num_ok q91) .nil ?_
                        rintro _ K91 _ l91 ⟨rfl, rfl⟩
                        conv => whnf
                        refine neq_int ?_
                        conv => whnf
                        refine cond_go rfl ?_
                        conv => whnf
                        refine cond_s (fun w93 => ?_) (fun w93 => ?_)
                        · replace hl904 := ift w93 hl904
                          obtain rfl := si hl904
                          replace hl0 := elr hl0
                          obtain rfl := si hl0
                          replace hm := elr hm
                          obtain rfl := si hm
                          conv => whnf
                          refine EndStep.mk _ ((((((((((l19.trans l21).trans l28).trans l33).trans l37).trans lc0_0).trans lc0_1).trans lk0).trans l80).trans l87).trans l91) ⟨rfl, rfl⟩ (ConvH.of (.cons r2 .nil))
                        · replace hl904 := iff_ w93 hl904
                          conv => whnf
                          refine MeetStep.mk ((x87.1.Limit, x87.1.State, x87.1.Data, x87.1.Readers), a87_0, c87_0, a87_1, c87_1) trivial (by repeat (first | exact trivial | refine And.intro rfl ?_)) (ConvH.of (.cons r1 (.cons r0 (.cons r0 .nil)))) ((l80.trans l87).trans l91) ⟨(h87_0.mono l91), (h87_1.mono l91), (si hl904).symm⟩
                      · replace hl904 := iff_ w72 hl904
                        conv => whnf
                        refine eq_int ?_
                        conv => whnf
                        refine cond_go rfl ?_
                        conv => whnf
                        refine cond_s (fun w94 => ?_) (fun w94 => ?_)
                        · replace hl904 := ift w94 hl904
                          conv => whnf
                          refine cond_go rfl ?_
                          conv => whnf
                          refine cond_t w94 ?_
                          conv => whnf
                          refine field_addr rfl ?_
                          conv => whnf
                          refine RStep.of (load1_s r0 rfl rfl ?_)
                          conv => whnf
                          refine field_addr rfl ?_
                          conv => whnf
                          refine RStep.of (load1_s r0 rfl rfl ?_)
                          obtain ⟨x105, q105, hl904⟩ := bnd hl904
                          conv => whnf
                          refine call_fn (fanout_Stream_Read_nil_ok q105) .nil ?_
                          rintro _ K105 _ l105 ⟨a105_0, c105_0, rfl, h105_0, rfl⟩
                          conv => whnf
                          refine RStep.of (loadn_s r2 rfl (Nat.le_of_ble_eq_true rfl) ?_)
                          conv => whnf
                          refine field_addr rfl ?_
                          conv => whnf
                          refine RStep.of (load1_s r1 rfl rfl ?_)
                          conv => whnf
                          refine field_addr rfl ?_
                          conv => whnf
                          refine RStep.of (load1_s r1 rfl rfl ?_)
                          obtain ⟨x115, q115, hl904⟩ := bnd hl904
                          conv => whnf
                          refine call_fn (ref28_Read_ok (s := (⟨y0_0, y0_1, y0_2, y0_3⟩ : S_ref28_Stream)) q115 (y0_h2.mono l105) (y0_h3.mono l105)) .nil ?_
                          rintro _ K115 _ l115 ⟨a115_0, c115_0, a115_1, c115_1, a115_2, c115_2, rfl, h115_0, h115_1, h115_2, rfl⟩
                          conv => whnf
                          refine store_rule r2 rfl ?_
                          conv => whnf
                          refine ⟨rfl, rfl, (Nat.le_of_ble_eq_true rfl), ?_⟩
                          obtain ⟨x121, q121, hl904⟩ := bnd hl904
                          conv => whnf
                          refine call_fn (base_Num_ok q121) .nil ?_
                          rintro _ K121 _ l121 ⟨rfl, rfl⟩
                          conv => whnf
                          refine neq_int ?_
                          conv => whnf
                          refine cond_s (fun g124_30 => ?_) (fun g124_30 => ?_)
                          · conv => whnf
                            refine cond_t g124_30 ?_
                            conv => whnf
                            refine cond_t g124_30 ?_
                            conv => whnf
                            refine cond_t g124_30 ?_
                            obtain ⟨x134, e134, hl904⟩ := bnd hl904
                            replace e134 := ift (or_t g124_30) e134
                            conv => whnf
                            refine cond_T ?_
                            conv => whnf
                            refine cond_T ?_
                            conv => whnf
                            refine cond_T ?_
                            conv => whnf
                            refine cond_T ?_
                            conv => whnf
                            refine cond_T ?_
                            conv => whnf
                            refine cond_go rfl ?_
                            conv => whnf
                            refine cond_T ?_
                            replace hl904 := ift (si e134).symm hl904
                            obtain rfl := si hl904
                            replace hl0 := elr hl0
                            obtain rfl := si hl0
                            replace hm := elr hm
                            obtain rfl := si hm
                            conv => whnf
                            refine EndStep.mk _ ((((((((((l19.trans l21).trans l28).trans l33).trans l37).trans lc0_0).trans lc0_1).trans lk0).trans l105).trans l115).trans l121) ⟨rfl, rfl⟩ (ConvH.of (.cons r3 .nil))
                          · conv => whnf
                            refine cond_f g124_30 ?_
                            conv => whnf
                            refine cond_f g124_30 ?_
                            conv => whnf
                            refine neq_int ?_
                            conv => whnf
                            refine cond_f g124_30 ?_
                            obtain ⟨x134, e134, hl904⟩ := bnd hl904
                            conv => whnf
                            refine cond_s (fun g129_30 => ?_) (fun g129_30 => ?_)
                            · replace e134 := ift (or_u g124_30 g129_30) e134
                              conv => whnf
                              refine cond_t g129_30 ?_
                              conv => whnf
                              refine cond_t g129_30 ?_
                              conv => whnf
                              refine cond_t g129_30 ?_
                              conv => whnf
                              refine cond_t g129_30 ?_
                              conv => whnf
                              refine cond_go rfl ?_
                              conv => whnf
                              refine cond_T ?_
                              replace hl904 := ift (si e134).symm hl904
                              obtain rfl := si hl904
                              replace hl0 := elr hl0
                              obtain rfl := si hl0
                              replace hm := elr hm
                              obtain rfl := si hm
                              conv => whnf
                              refine EndStep.mk _ ((((((((((l19.trans l21).trans l28).trans l33).trans l37).trans lc0_0).trans lc0_1).trans lk0).trans l105).trans l115).trans l121) ⟨rfl, rfl⟩ (ConvH.of (.cons r3 .nil))
                            · replace e134 := iff_ (or_f g124_30 g129_30) e134
                              conv => whnf
                              refine cond_f g129_30 ?_
                              conv => whnf
                              refine cond_f g129_30 ?_
                              obtain ⟨x132, q132, e134⟩ := bnd e134
                              conv => whnf
                              refine call_fn (Fn.lend Try.call15 (fun K132_0 l132_0 f132_0 => (base_Bytes_ok q132 f132_0 rfl (h115_2.mono (l121.trans l132_0)) rfl)) (by exact fun _ _ _ _ h => h)) (.cons r1 .nil) ?_
                              rintro _ K132 _ l132 ⟨_, rfl, rfl, rfl⟩
                              conv => whnf
                              refine cond_f g129_30 ?_
                              conv => whnf
                              refine un_not ?_
                              conv => whnf
                              refine cond_f g129_30 ?_
                              conv => whnf
                              refine cond_go rfl ?_
                              conv => whnf
                              refine cond_s (fun w134 => ?_) (fun w134 => ?_)
                              · replace hl904 := ift ((si e134).symm.trans (not_t (ni_t w134))) hl904
                                obtain rfl := si hl904
                                replace hl0 := elr hl0
                                obtain rfl := si hl0
                                replace hm := elr hm
                                obtain rfl := si hm
                                conv => whnf
                                refine EndStep.mk _ (((((((((((l19.trans l21).trans l28).trans l33).trans l37).trans lc0_0).trans lc0_1).trans lk0).trans l105).trans l115).trans l121).trans l132) ⟨rfl, rfl⟩ (ConvH.of (.cons r3 .nil))
                              · replace hl904 := iff_ ((si e134).symm.trans (not_f (ni_f w134))) hl904
                                conv => whnf
                                refine MeetStep.mk ((x115.1.Limit, x115.1.State, x115.1.Data, x115.1.Readers), a115_0, c115_0, a115_1, c115_1) trivial (by repeat (first | exact trivial | refine And.intro rfl ?_)) (ConvH.of (.cons r2 (.cons r1 (.cons r1 .nil)))) (((l105.trans l115).trans l121).trans l132) ⟨(h115_0.mono (l121.trans l132)), (h115_1.mono (l121.trans l132)), (si hl904).symm⟩
                        · replace hl904 := iff_ w94 hl904
                          conv => whnf
                          refine eq_int ?_
                          conv => whnf
                          refine cond_go rfl ?_
                          conv => whnf
                          refine cond_s (fun w94 => ?_) (fun w94 => ?_)
                          · replace hl904 := ift w94 hl904
                            conv => whnf
                            refine cond_go rfl ?_
                            conv => whnf
                            refine cond_t w94 ?_
                            conv => whnf
                            refine field_addr rfl ?_
                            conv => whnf
                            refine RStep.of (load1_s r0 rfl rfl ?_)
                            conv => whnf
                            refine field_addr rfl ?_
                            conv => whnf
                            refine RStep.of (load1_s r0 rfl rfl ?_)
                            obtain ⟨x105, q105, hl904⟩ := bnd hl904
                            conv => whnf
                            refine call_fn (fanout_Stream_Read_nil_ok q105) .nil ?_
                            rintro _ K105 _ l105 ⟨a105_0, c105_0, rfl, h105_0, rfl⟩
                            conv => whnf
                            refine RStep.of (loadn_s r2 rfl (Nat.le_of_ble_eq_true rfl) ?_)
                            conv => whnf
                            refine field_addr rfl ?_
                            conv => whnf
                            refine RStep.of (load1_s r1 rfl rfl ?_)
                            conv => whnf
                            refine field_addr rfl ?_
                            conv => whnf
                            refine RStep.of (load1_s r1 rfl rfl ?_)
                            obtain ⟨x115, q115, hl904⟩ := bnd hl904
                            conv => whnf
                            refine call_fn (ref28_Read_ok (s := (⟨y0_0, y0_1, y0_2, y0_3⟩ : S_ref28_Stream)) q115 (y0_h2.mono l105) (y0_h3.mono l105)) .nil ?_
                            rintro _ K115 _ l115 ⟨a115_0, c115_0, a115_1, c115_1, a115_2, c115_2, rfl, h115_0, h115_1, h115_2, rfl⟩
                            conv => whnf
                            refine store_rule r2 rfl ?_
                            conv => whnf
                            refine ⟨rfl, rfl, (Nat.le_of_ble_eq_true rfl), ?_⟩
                            obtain ⟨x121, q121, hl904⟩ := bnd hl904
                            conv => whnf
                            refine call_fn (base_Num_ok q121) .nil ?_
                            rintro _ K121 _ l121 ⟨rfl, rfl⟩
                            conv => whnf
                            refine neq_int ?_
                            conv => whnf
                            refine cond_s (fun g124_30 => ?_) (fun g124_30 => ?_)
                            · conv => whnf
                              refine cond_t g124_30 ?_
                              conv => whnf
                              refine cond_t g124_30 ?_
                              conv => whnf
                              refine cond_t g124_30 ?_
                              obtain ⟨x134, e134, hl904⟩ := bnd hl904
                              replace e134 := ift (or_t g124_30) e134
                              conv => whnf
                              refine cond_T ?_
                              conv => whnf
                              refine cond_T ?_
                              conv => whnf
                              refine cond_T ?_
                              conv => whnf
                              refine cond_T ?_
                              conv => whnf
                              refine cond_T ?_
                              conv => whnf
                              refine cond_go rfl ?_
                              conv => whnf
                              refine cond_T ?_
                              replace hl904 := ift (si e134).symm hl904
                              obtain rfl := si hl904
                              replace hl0 := elr hl0
                              obtain rfl := si hl0
                              replace hm := elr hm
                              obtain rfl := si hm
                              conv => whnf
                              refine EndStep.mk _ ((((((((((l19.trans l21).trans l28).trans l33).trans l37).trans lc0_0).trans lc0_1).trans lk0).trans l105).trans l115).trans l121) ⟨rfl, rfl⟩ (ConvH.of (.cons r3 .nil))
                            · conv => whnf
                              refine cond_f g124_30 ?_
                              conv => whnf
                              refine cond_f g124_30 ?_
                              conv => whnf
                              refine neq_int ?_
                              conv => whnf
                              refine cond_f g124_30 ?_
                              obtain ⟨x134, e134, hl904⟩ := bnd hl904
                              conv => whnf
                              refine cond_s (fun g129_30 => ?_) (fun g129_30 => ?_)
                              · replace e134 := ift (or_u g124_30 g129_30) e134
                                conv => whnf
                                refine cond_t g129_30 ?_
                                conv => whnf
                                refine cond_t g129_30 ?_
                                conv => whnf
                                refine cond_t g129_30 ?_
                                conv => whnf
                                refine cond_t g129_30 ?_
                                conv => whnf
                                refine cond_go rfl ?_
                                conv => whnf
                                refine cond_T ?_
                                replace hl904 := ift (si e134).symm hl904
                                obtain rfl := si hl904
                                replace hl0 := elr hl0
                                obtain rfl := si hl0
                                replace hm := elr hm
                                obtain rfl := si hm
                                conv => whnf
                                refine EndStep.mk _ ((((((((((l19.trans l21).trans l28).trans l33).trans l37).trans lc0_0).trans lc0_1).trans lk0).trans l105).trans l115).trans l121) ⟨rfl, rfl⟩ (ConvH.of (.cons r3 .nil))
                              · replace e134 := iff_ (or_f g124_30 g129_30) e134
                                conv => whnf
                                refine cond_f g129_30 ?_
                                conv => whnf
                                refine cond_f g129_30 ?_
                                obtain ⟨x132, q132, e134⟩ := bnd e134
                                conv => whnf
                                refine call_fn (Fn.lend Try.call15 (fun K132_0 l132_0 f132_0 => (base_Bytes_ok q132 f132_0 rfl (h115_2.mono (l121.trans l132_0)) rfl)) (by exact fun _ _ _ _ h => h)) (.cons r1 .nil) ?_
                                rintro _ K132 _ l132 ⟨_, rfl, rfl, rfl⟩
                                conv => whnf
                                refine cond_f g129_30 ?_
                                conv => whnf
                                refine un_not ?_
                                conv => whnf
                                refine cond_f g129_30 ?_
                                conv => whnf
                                refine cond_go rfl ?_
                                conv => whnf
                                refine cond_s (fun w134 => ?_) (fun w134 => ?_)
                                · replace hl904 := ift ((si e134).symm.trans (not_t (ni_t w134))) hl904
                                  obtain rfl := si hl904
                                  replace hl0 := elr hl0
                                  obtain rfl := si hl0
                                  replace hm := elr hm
                                  obtain rfl := si hm
                                  conv => whnf
                                  refine EndStep.mk _ (((((((((((l19.trans l21).trans l28).trans l33).trans l37).trans lc0_0).trans lc0_1).trans lk0).trans l105).trans l115).trans l121).trans l132) ⟨rfl, rfl⟩ (ConvH.of (.cons r3 .nil))
                                · replace hl904 := iff_ ((si e134).symm.trans (not_f (ni_f w134))) hl904
                                  conv => whnf
                                  refine MeetStep.mk ((x115.1.Limit, x115.1.State, x115.1.Data, x115.1.Readers), a115_0, c115_0, a115_1, c115_1) trivial (by repeat (first | exact trivial | refine And.intro rfl ?_)) (ConvH.of (.cons r2 (.cons r1 (.cons r1 .nil)))) (((l105.trans l115).trans l121).trans l132) ⟨(h115_0.mono (l121.trans l132)), (h115_1.mono (l121.trans l132)), (si hl904).symm⟩
                          · replace hl904 := iff_ w94 hl904
                            conv => whnf
                            refine eq_int ?_
                            conv => whnf
                            refine cond_go rfl ?_
                            conv => whnf
                            refine cond_s (fun w94 => ?_) (fun w94 => ?_)
                            · replace hl904 := ift w94 hl904
                              conv => whnf
                              refine cond_go rfl ?_
                              conv => whnf
                              refine cond_t w94 ?_
                              conv => whnf
                              refine field_addr rfl ?_
                              conv => whnf
                              refine RStep.of (load1_s r0 rfl rfl ?_)
                              conv => whnf
                              refine field_addr rfl ?_
                              conv => whnf
                              refine RStep.of (load1_s r0 rfl rfl ?_)
                              obtain ⟨x105, q105, hl904⟩ := bnd hl904
                              conv => whnf
                              refine call_fn (fanout_Stream_Read_nil_ok q105) .nil ?_
                              rintro _ K105 _ l105 ⟨a105_0, c105_0, rfl, h105_0, rfl⟩
                              conv => whnf
                              refine RStep.of (loadn_s r2 rfl (Nat.le_of_ble_eq_true rfl) ?_)
                              conv => whnf
                              refine field_addr rfl ?_
                              conv => whnf
                              refine RStep.of (load1_s r1 rfl rfl ?_)
                              conv => whnf
                              refine field_addr rfl ?_
                              conv => whnf
                              refine RStep.of (load1_s r1 rfl rfl ?_)
                              obtain ⟨x115, q115, hl904⟩ := bnd hl904
                              conv => whnf
                              refine call_fn (ref28_Read_ok (s := (⟨y0_0, y0_1, y0_2, y0_3⟩ : S_ref28_Stream)) q115 (y0_h2.mono l105) (y0_h3.mono l105)) .nil ?_
                              rintro _ K115 _ l115 ⟨a115_0, c115_0, a115_1, c115_1, a115_2, c115_2, rfl, h115_0, h115_1, h115_2, rfl⟩
                              conv => whnf
                              refine store_rule r2 rfl ?_
                              conv => whnf
                              refine ⟨rfl, rfl, (Nat.le_of_ble_eq_true rfl), ?_⟩
                              obtain ⟨x121, q121, hl904⟩ := bnd hl904
                              conv => whnf
                              refine call_fn (base_Num_ok q121) .nil ?_
                              rintro _ K121 _ l121 ⟨rfl, rfl⟩
                              conv => whnf
                              refine neq_int ?_
                              conv => whnf
                              refine cond_s (fun g124_30 => ?_) (fun g124_30 => ?_)
                              · conv => whnf
                                refine cond_t g124_30 ?_
                                conv => whnf
                                refine cond_t g124_30 ?_
                                conv => whnf
                                refine cond_t g124_30 ?_
                                obtain ⟨x134, e134, hl904⟩ := bnd hl904
                                replace e134 := ift (or_t g124_30) e134
                                conv => whnf
                                refine cond_T ?_
                                conv => whnf
                                refine cond_T ?_
                                conv => whnf
                                refine cond_T ?_
                                conv => whnf
                                refine cond_T ?_
                                conv => whnf
                                refine cond_T ?_
                                conv => whnf
                                refine cond_go rfl ?_
                                conv => whnf
                                refine cond_T ?_
                                replace hl904 := ift (si e134).symm hl904
                                obtain rfl := si hl904
                                replace hl0 := elr hl0
                                obtain rfl := si hl0
                                replace hm := elr hm
                                obtain rfl := si hm
                                conv => whnf
                                refine EndStep.mk _ ((((((((((l19.trans l21).trans l28).trans l33).trans l37).trans lc0_0).trans lc0_1).trans lk0).trans l105).trans l115).trans l121) ⟨rfl, rfl⟩ (ConvH.of (.cons r3 .nil))
                              · conv => whnf
                                refine cond_f g124_30 ?_
                                conv => whnf
                                refine cond_f g124_30 ?_
                                conv => whnf
                                refine neq_int ?_
                                conv => whnf
                                refine cond_f g124_30 ?_
                                obtain ⟨x134, e134, hl904⟩ := bnd hl904
                                conv => whnf
                                refine cond_s (fun g129_30 => ?_) (fun g129_30 => ?_)
                                · replace e134 := ift (or_u g124_30 g129_30) e134
                                  conv => whnf
                                  refine cond_t g129_30 ?_
                                  conv => whnf
                                  refine cond_t g129_30 ?_
                                  conv => whnf
                                  refine cond_t g129_30 ?_
                                  conv => whnf
                                  refine cond_t g129_30 ?_
                                  conv => whnf
                                  refine cond_go rfl ?_
                                  conv => whnf
                                  refine cond_T ?_
                                  replace hl904 := ift (si e134).symm hl904
                                  obtain rfl := si hl904
                                  replace hl0 := elr hl0
                                  obtain rfl := si hl0
                                  replace hm := elr hm
                                  obtain rfl := si hm
                                  conv => whnf
                                  refine EndStep.mk _ ((((((((((l19.trans l21).trans l28).trans l33).trans l37).trans lc0_0).trans lc0_1).trans lk0).trans l105).trans l115).trans l121) ⟨rfl, rfl⟩ (ConvH.of (.cons r3 .nil))
                                · replace e134 := iff_ (or_f g124_30 g129_30) e134
                                  conv => whnf
                                  refine cond_f g129_30 ?_
                                  conv => whnf
                                  refine cond_f g129_30 ?_
                                  obtain ⟨x132, q132, e134⟩ := bnd e134
                                  conv => whnf
                                  refine call_fn (Fn.lend Try.call15 (fun K132_0 l132_0 f132_0 => (base_Bytes_ok q132 f132_0 rfl (h115_2.mono (l121.trans l132_0)) rfl)) (by exact fun _ _ _ _ h => h)) (.cons r1 .nil) ?_
                                  rintro _ K132 _ l132 ⟨_, rfl, rfl, rfl⟩
                                  conv => whnf
                                  refine cond_f g129_30 ?_
                                  conv => whnf
                                  refine un_not ?_
                                  conv => whnf
                                  refine cond_f g129_30 ?_
                                  conv => whnf
                                  refine cond_go rfl ?_
                                  conv => whnf
                                  refine cond_s (fun w134 => ?_) (fun w134 => ?_)
                                  · replace hl904 := ift ((si e134).symm.trans (not_t (ni_t w134))) hl904
                                    obtain rfl := si hl904
                                    replace hl0 := elr hl0
                                    obtain rfl := si hl0
                                    replace hm := elr hm
                                    obtain rfl := si hm
                                    conv => whnf
                                    refine EndStep.mk _ (((((((((((l19.trans l21).trans l28).trans l33).trans l37).trans lc0_0).trans lc0_1).trans lk0).trans l105).trans l115).trans l121).trans l132) ⟨rfl, rfl⟩ (ConvH.of (.cons r3 .nil))
                                  · replace hl904 := iff_ ((si e134).symm.trans (not_f (ni_f w134))) hl904
                                    conv => whnf
                                    refine MeetStep.mk ((x115.1.Limit, x115.1.State, x115.1.Data, x115.1.Readers), a115_0, c115_0, a115_1, c115_1) trivial (by repeat (first | exact trivial | refine And.intro rfl ?_)) (ConvH.of (.cons r2 (.cons r1 (.cons r1 .nil)))) (((l105.trans l115).trans l121).trans l132) ⟨(h115_0.mono (l121.trans l132)), (h115_1.mono (l121.trans l132)), (si hl904).symm⟩
                            · replace hl904 := iff_ w94 hl904
                              conv => whnf
                              refine eq_int ?_
                              conv => whnf
                              refine cond_go rfl ?_
                              conv => whnf
                              refine cond_s (fun w94 => ?_) (fun w94 => ?_)
                              · replace hl904 := ift w94 hl904
                                conv => whnf
                                refine field_addr rfl ?_
                                conv => whnf
                                refine RStep.of (load1_s r0 rfl rfl ?_)
                                conv => whnf
                                refine field_addr rfl ?_
                                conv => whnf
                                refine RStep.of (load1_s r0 rfl rfl ?_)
                                obtain ⟨x105, q105, hl904⟩ := bnd hl904
                                conv => whnf
                                refine call_fn (fanout_Stream_Read_nil_ok q105) .nil ?_
                                rintro _ K105 _ l105 ⟨a105_0, c105_0, rfl, h105_0, rfl⟩
                                conv => whnf
                                refine RStep.of (loadn_s r2 rfl (Nat.le_of_ble_eq_true rfl) ?_)
                                conv => whnf
                                refine field_addr rfl ?_
                                conv => whnf
                                refine RStep.of (load1_s r1 rfl rfl ?_)
                                conv => whnf
                                refine field_addr rfl ?_
                                conv => whnf
                                refine RStep.of (load1_s r1 rfl rfl ?_)
                                obtain ⟨x115, q115, hl904⟩ := bnd hl904
                                conv => whnf
                                refine call_fn (ref28_Read_ok (s := (⟨y0_0, y0_1, y0_2, y0_3⟩ : S_ref28_Stream)) q115 (y0_h2.mono l105) (y0_h3.mono l105)) .nil ?_
                                rintro _ K115 _ l115 ⟨a115_0, c115_0, a115_1, c115_1, a115_2, c115_2, rfl, h115_0, h115_1, h115_2, rfl⟩
                                conv => whnf
                                refine store_rule r2 rfl ?_
                                conv => whnf
                                refine ⟨rfl, rfl, (Nat.le_of_ble_eq_true rfl), ?_⟩
                                obtain ⟨x121, q121, hl904⟩ := bnd hl904
                                conv => whnf
                                refine call_fn (base_Num_ok q121) .nil ?_
                                rintro _ K121 _ l121 ⟨rfl, rfl⟩
                                conv => whnf
                                refine neq_int ?_
                                conv => whnf
                                refine cond_s (fun g124_30 => ?_) (fun g124_30 => ?_)
                                · conv => whnf
                                  refine cond_t g124_30 ?_
                                  conv => whnf
                                  refine cond_t g124_30 ?_
                                  conv => whnf
                                  refine cond_t g124_30 ?_
                                  obtain ⟨x134, e134, hl904⟩ := bnd hl904
                                  replace e134 := ift (or_t g124_30) e134
                                  conv => whnf
                                  refine cond_T ?_
                                  conv => whnf
                                  refine cond_T ?_
                                  conv => whnf
                                  refine cond_T ?_
                                  conv => whnf
                                  refine cond_T ?_
                                  conv => whnf
                                  refine cond_T ?_
                                  conv => whnf
                                  refine cond_go rfl ?_
                                  conv => whnf
                                  refine cond_T ?_
                                  replace hl904 := ift (si e134).symm hl904
                                  obtain rfl := si hl904
                                  replace hl0 := elr hl0
                                  obtain rfl := si hl0
                                  replace hm := elr hm
                                  obtain rfl := si hm
                                  conv => whnf
                                  refine EndStep.mk _ ((((((((((l19.trans l21).trans l28).trans l33).trans l37).trans lc0_0).trans lc0_1).trans lk0).trans l105).trans l115).trans l121) ⟨rfl, rfl⟩ (ConvH.of (.cons r3 .nil))
                                · conv => whnf
                                  refine cond_f g124_30 ?_
                                  conv => whnf
                                  refine cond_f g124_30 ?_
                                  conv => whnf
                                  refine neq_int ?_
                                  conv => whnf
                                  refine cond_f g124_30 ?_
                                  obtain ⟨x134, e134, hl904⟩ := bnd hl904
                                  conv => whnf
                                  refine cond_s (fun g129_30 => ?_) (fun g129_30 => ?_)
                                  · replace e134 := ift (or_u g124_30 g129_30) e134
                                    conv => whnf
                                    refine cond_t g129_30 ?_
                                    conv => whnf
                                    refine cond_t g129_30 ?_
                                    conv => whnf
                                    refine cond_t g129_30 ?_
                                    conv => whnf
                                    refine cond_t g129_30 ?_
                                    conv => whnf
                                    refine cond_go rfl ?_
                                    conv => whnf
                                    refine cond_T ?_
                                    replace hl904 := ift (si e134).symm hl904
                                    obtain rfl := si hl904
                                    replace hl0 := elr hl0
                                    obtain rfl := si hl0
                                    replace hm := elr hm
                                    obtain rfl := si hm
                                    conv => whnf
                                    refine EndStep.mk _ ((((((((((l19.trans l21).trans l28).trans l33).trans l37).trans lc0_0).trans lc0_1).trans lk0).trans l105).trans l115).trans l121) ⟨rfl, rfl⟩ (ConvH.of (.cons r3 .nil))
                                  · replace e134 := iff_ (or_f g124_30 g129_30) e134
                                    conv => whnf
                                    refine cond_f g129_30 ?_
                                    conv => whnf
                                    refine cond_f g129_30 ?_
                                    obtain ⟨x132, q132, e134⟩ := bnd e134
                                    conv => whnf
                                    refine call_fn (Fn.lend Try.call15 (fun K132_0 l132_0 f132_0 => (base_Bytes_ok q132 f132_0 rfl (h115_2.mono (l121.trans l132_0)) rfl)) (by exact fun _ _ _ _ h => h)) (.cons r1 .nil) ?_
                                    rintro _ K132 _ l132 ⟨_, rfl, rfl, rfl⟩
                                    conv => whnf
                                    refine cond_f g129_30 ?_
                                    conv => whnf
                                    refine un_not ?_
                                    conv => whnf
                                    refine cond_f g129_30 ?_
                                    conv => whnf
                                    refine cond_go rfl ?_
                                    conv => whnf
                                    refine cond_s (fun w134 => ?_) (fun w134 => ?_)
                                    · replace hl904 := ift ((si e134).symm.trans (not_t (ni_t w134))) hl904
                                      obtain rfl := si hl904
                                      replace hl0 := elr hl0
                                      obtain rfl := si hl0
                                      replace hm := elr hm
                                      obtain rfl := si hm
                                      conv => whnf
                                      refine EndStep.mk _ (((((((((((l19.trans l21).trans l28).trans l33).trans l37).trans lc0_0).trans lc0_1).trans lk0).trans l105).trans l115).trans l121).trans l132) ⟨rfl, rfl⟩ (ConvH.of (.cons r3 .nil))
                                    · replace hl904 := iff_ ((si e134).symm.trans (not_f (ni_f w134))) hl904
                                      conv => whnf
                                      refine MeetStep.mk ((x115.1.Limit, x115.1.State, x115.1.Data, x115.1.Readers), a115_0, c115_0, a115_1, c115_1) trivial (by repeat (first | exact trivial | refine And.intro rfl ?_)) (ConvH.of (.cons r2 (.cons r1 (.cons r1 .nil)))) (((l105.trans l115).trans l121).trans l132) ⟨(h115_0.mono (l121.trans l132)), (h115_1.mono (l121.trans l132)), (si hl904).symm⟩
                              · replace hl904 := iff_ w94 hl904
                                conv => whnf
                                refine eq_int ?_
                                conv => whnf
                                refine cond_go rfl ?_
                                conv => whnf
                                refine cond_s (fun w135 => ?_) (fun w135 => ?_)
                                · replace hl904 := ift w135 hl904
                                  conv => whnf
                                  refine RStep.of (loadn_s r1 rfl (Nat.le_of_ble_eq_true rfl) ?_)
                                  conv => whnf
                                  refine field_addr rfl ?_
                                  conv => whnf
                                  refine RStep.of (load1_s r0 rfl rfl ?_)
                                  obtain ⟨x141, q141, hl904⟩ := bnd hl904
                                  conv => whnf
                                  refine call_fn (ref28_Detach_ok (s := (⟨y0_0, y0_1, y0_2, y0_3⟩ : S_ref28_Stream)) q141 y0_h2 y0_h3) .nil ?_
                                  rintro _ K141 _ l141 ⟨a141_0, c141_0, a141_1, c141_1, rfl, h141_0, h141_1, rfl⟩
                                  conv => whnf
                                  refine store_rule r1 rfl ?_
                                  conv => whnf
                                  refine ⟨rfl, rfl, (Nat.le_of_ble_eq_true rfl), ?_⟩
                                  conv => whnf
                                  refine field_addr rfl ?_
                                  conv => whnf
                                  refine RStep.of (load1_s r1 rfl rfl ?_)
                                  obtain ⟨x147, q147, hl904⟩ := bnd hl904
                                  conv => whnf
                                  refine call_fn (fanout_Stream_Detach_nil_ok q147) .nil ?_
                                  rintro _ K147 _ l147 ⟨rfl, rfl⟩
                                  conv => whnf
                                  refine neq_bool rfl ?_
                                  conv => whnf
                                  refine cond_go rfl ?_
                                  conv => whnf
                                  refine cond_s (fun w149 => ?_) (fun w149 => ?_)
                                  · replace hl904 := ift w149 hl904
                                    obtain rfl := si hl904
                                    replace hl0 := elr hl0
                                    obtain rfl := si hl0
                                    replace hm := elr hm
                                    obtain rfl := si hm
                                    conv => whnf
                                    refine EndStep.mk _ (((((((((l19.trans l21).trans l28).trans l33).trans l37).trans lc0_0).trans lc0_1).trans lk0).trans l141).trans l147) ⟨rfl, rfl⟩ (ConvH.of (.cons r2 .nil))
                                  · replace hl904 := iff_ w149 hl904
                                    conv => whnf
                                    refine MeetStep.mk ((x141.1.Limit, x141.1.State, x141.1.Data, x141.1.Readers), a141_0, c141_0, a141_1, c141_1) trivial (by repeat (first | exact trivial | refine And.intro rfl ?_)) (ConvH.of (.cons r1 (.cons r0 (.cons r0 .nil)))) (l141.trans l147) ⟨(h141_0.mono l147), (h141_1.mono l147), (si hl904).symm⟩
                                · replace hl904 := iff_ w135 hl904
                                  conv => whnf
                                  refine eq_int ?_
                                  conv => whnf
                                  refine cond_go rfl ?_
                                  conv => whnf
                                  refine cond_s (fun w150 => ?_) (fun w150 => ?_)
                                  · replace hl904 := ift w150 hl904
                                    conv => whnf
                                    refine RStep.of (loadn_s r1 rfl (Nat.le_of_ble_eq_true rfl) ?_)
                                    obtain ⟨x154, q154, hl904⟩ := bnd hl904
                                    conv => whnf
                                    refine call_fn (ref28_Close_ok (s := (⟨y0_0, y0_1, y0_2, y0_3⟩ : S_ref28_Stream)) q154 y0_h2 y0_h3) .nil ?_
                                    rintro _ K154 _ l154 ⟨a154_0, c154_0, a154_1, c154_1, rfl, h154_0, h154_1, rfl⟩
                                    conv => whnf
                                    refine store_rule r1 rfl ?_
                                    conv => whnf
                                    refine ⟨rfl, rfl, (Nat.le_of_ble_eq_true rfl), ?_⟩
                                    obtain ⟨x158, q158, hl904⟩ := bnd hl904
                                    conv => whnf
                                    refine call_fn (fanout_Stream_End_nil_ok q158) .nil ?_
                                    rintro _ K158 _ l158 ⟨rfl, rfl⟩
                                    obtain ⟨x159, q159, hl904⟩ := bnd hl904
                                    conv => whnf
                                    refine call_fn (base_Num_ok q159) .nil ?_
                                    rintro _ K159 _ l159 ⟨rfl, rfl⟩
                                    conv => whnf
                                    refine neq_int ?_
                                    conv => whnf
                                    refine cond_go rfl ?_
                                    conv => whnf
                                    refine cond_s (fun w161 => ?_) (fun w161 => ?_)
                                    · replace hl904 := ift w161 hl904
                                      obtain rfl := si hl904
                                      replace hl0 := elr hl0
                                      obtain rfl := si hl0
                                      replace hm := elr hm
                                      obtain rfl := si hm
                                      conv => whnf
                                      refine EndStep.mk _ ((((((((((l19.trans l21).trans l28).trans l33).trans l37).trans lc0_0).trans lc0_1).trans lk0).trans l154).trans l158).trans l159) ⟨rfl, rfl⟩ (ConvH.of (.cons r2 .nil))
                                    · replace hl904 := iff_ w161 hl904
                                      conv => whnf
                                      refine MeetStep.mk ((x154.1.Limit, x154.1.State, x154.1.Data, x154.1.Readers), a154_0, c154_0, a154_1, c154_1) trivial (by repeat (first | exact trivial | refine And.intro rfl ?_)) (ConvH.of (.cons r1 (.cons r0 (.cons r0 .nil)))) ((l154.trans l158).trans l159) ⟨(h154_0.mono (l158.trans l159)), (h154_1.mono (l158.trans l159)), (si hl904).symm⟩
                                  · replace hl904 := iff_ w150 hl904
                                    conv => whnf
                                    refine eq_int ?_
                                    conv => whnf
                                    refine cond_go rfl ?_
                                    conv => whnf
                                    refine cond_s (fun w162 => ?_) (fun w162 => ?_)
                                    · replace hl904 := ift w162 hl904
                                      conv => whnf
                                      refine RStep.of (loadn_s r1 rfl (Nat.le_of_ble_eq_true rfl) ?_)
                                      obtain ⟨x166, q166, hl904⟩ := bnd hl904
                                      conv => whnf
                                      refine call_fn (ref28_Close_ok (s := (⟨y0_0, y0_1, y0_2, y0_3⟩ : S_ref28_Stream)) q166 y0_h2 y0_h3) .nil ?_
                                      rintro _ K166 _ l166 ⟨a166_0, c166_0, a166_1, c166_1, rfl, h166_0, h166_1, rfl⟩
                                      conv => whnf
                                      refine store_rule r1 rfl ?_
                                      conv => whnf
                                      refine ⟨rfl, rfl, (Nat.le_of_ble_eq_true rfl), ?_⟩
                                      obtain ⟨x170, q170, hl904⟩ := bnd hl904
                                      conv => whnf
                                      refine call_fn (fanout_Stream_Abort_nil_ok q170) .nil ?_
                                      rintro _ K170 _ l170 ⟨rfl, rfl⟩
                                      obtain ⟨x171, q171, hl904⟩ := bnd hl904
                                      conv => whnf
                                      refine call_fn (base_Num_ok q171) .nil ?_
                                      rintro _ K171 _ l171 ⟨rfl, rfl⟩
                                      conv => whnf
                                      refine neq_int ?_
                                      conv => whnf
                                      refine cond_go rfl ?_
                                      conv => whnf
                                      refine cond_s (fun w173 => ?_) (fun w173 => ?_)
                                      · replace hl904 := ift w173 hl904
                                        obtain rfl := si hl904
                                        replace hl0 := elr hl0
                                        obtain rfl := si hl0
                                        replace hm := elr hm
                                        obtain rfl := si hm
                                        conv => whnf
                                        refine EndStep.mk _ ((((((((((l19.trans l21).trans l28).trans l33).trans l37).trans lc0_0).trans lc0_1).trans lk0).trans l166).trans l170).trans l171) ⟨rfl, rfl⟩ (ConvH.of (.cons r2 .nil))
                                      · replace hl904 := iff_ w173 hl904
                                        conv => whnf
                                        refine MeetStep.mk ((x166.1.Limit, x166.1.State, x166.1.Data, x166.1.Readers), a166_0, c166_0, a166_1, c166_1) trivial (by repeat (first | exact trivial | refine And.intro rfl ?_)) (ConvH.of (.cons r1 (.cons r0 (.cons r0 .nil)))) ((l166.trans l170).trans l171) ⟨(h166_0.mono (l170.trans l171)), (h166_1.mono (l170.trans l171)), (si hl904).symm⟩
                                    · replace hl904 := iff_ w162 hl904
                                      conv => whnf
                                      refine RStep.of (loadn_s r1 rfl (Nat.le_of_ble_eq_true rfl) ?_)
                                      conv => whnf
                                      refine field_addr rfl ?_
                                      conv => whnf
                                      refine RStep.of (load1_s r0 rfl rfl ?_)
                                      obtain ⟨x62, q62, hl904⟩ := bnd hl904
                                      conv => whnf
                                      refine call_fn (ref28_Write_ok (s := (⟨y0_0, y0_1, y0_2, y0_3⟩ : S_ref28_Stream)) q62 y0_h2 y0_h3 h54_0 rfl) .nil ?_
                                      rintro _ K62 _ l62 ⟨a62_0, c62_0, a62_1, c62_1, rfl, h62_0, h62_1, rfl⟩
                                      conv => whnf
                                      refine store_rule r1 rfl ?_
                                      conv => whnf
                                      refine ⟨rfl, rfl, (Nat.le_of_ble_eq_true rfl), ?_⟩
                                      conv => whnf
                                      refine field_addr rfl ?_
                                      conv => whnf
                                      refine RStep.of (load1_s r1 rfl rfl ?_)
                                      obtain ⟨x68, q68, hl904⟩ := bnd hl904
                                      conv => whnf
                                      refine call_fn (fanout_Stream_Write_nil_ok q68 (h54_0.mono l62) rfl) .nil ?_
                                      rintro _ K68 _ l68 ⟨rfl, rfl⟩
                                      obtain ⟨x69, q69, hl904⟩ := bnd hl904
                                      conv => whnf
                                      refine call_fn (base_Num_ok q69) .nil ?_
                                      rintro _ K69 _ l69 ⟨rfl, rfl⟩
                                      conv => whnf
                                      refine neq_int ?_
                                      conv => whnf
                                      refine cond_go rfl ?_
                                      conv => whnf
                                      refine cond_s (fun w71 => ?_) (fun w71 => ?_)
                                      · replace hl904 := ift w71 hl904
                                        obtain rfl := si hl904
                                        replace hl0 := elr hl0
                                        obtain rfl := si hl0
                                        replace hm := elr hm
                                        obtain rfl := si hm
                                        conv => whnf
                                        refine EndStep.mk _ ((((((((((l19.trans l21).trans l28).trans l33).trans l37).trans lc0_0).trans lc0_1).trans lk0).trans l62).trans l68).trans l69) ⟨rfl, rfl⟩ (ConvH.of (.cons r2 .nil))
                                      · replace hl904 := iff_ w71 hl904
                                        conv => whnf
                                        refine MeetStep.mk ((x62.1.Limit, x62.1.State, x62.1.Data, x62.1.Readers), a62_0, c62_0, a62_1, c62_1) trivial (by repeat (first | exact trivial | refine And.intro rfl ?_)) (ConvH.of (.cons r1 (.cons r0 (.cons r0 .nil)))) ((l62.trans l68).trans l69) ⟨(h62_0.mono (l68.trans l69)), (h62_1.mono (l68.trans l69)), (si hl904).symm⟩
                  · rintro ⟨t904, t904_a2, t904_c2, t904_a3, t904_c3⟩ Kt904 lt904 ⟨t904_h2, t904_h3, rfl⟩ j904
                    replace hl0 := elg hl0
                    conv => whnf
                    refine draw_go ⟨⟨[], false⟩, _, [(_, _)]⟩ (by kernel_rfl) ⟨Hp.Le.refl _, (ConvH.of (.cons r1 .nil))⟩ ?_
                    obtain ⟨x175, q175, hl0⟩ := bnd hl0
                    conv => whnf
                    refine call_fn (fanout_Stream_Readers_nil_ok q175) .nil ?_
                    rintro _ K175 _ l175 ⟨a175_0, c175_0, rfl, h175_0, rfl⟩
                    conv => whnf
                    refine ⟨⟨l175, (ConvH.of (.cons r2 .nil))⟩, ?_⟩
                    conv => whnf
                    refine loadn_l m0 rfl (Nat.le_of_ble_eq_true rfl) ?_
                    obtain ⟨x177, q177, hl0⟩ := bnd hl0
                    conv => whnf
                    refine call_fn (ref28_IDs_ok (s := (⟨t904.1, t904.2.1, t904.2.2.1, t904.2.2.2⟩ : S_ref28_Stream)) q177 (t904_h2.mono l175) (t904_h3.mono l175)) .nil ?_
                    rintro _ K177 _ l177 ⟨a177_0, c177_0, rfl, h177_0, rfl⟩
                    conv => whnf
                    refine ⟨⟨(l175.trans l177), (ConvH.of (.cons r3 .nil))⟩, ?_⟩
                    obtain ⟨x178, q178, hl0⟩ := bnd hl0
                    conv => whnf
                    refine call_fn (Fn.lend Try.call33 (fun K178_0 l178_0 f178_0 => (Fn.lend Try.call33 (fun K178_1 l178_1 f178_1 => (base_Ints_ok q178 (f178_0.mono l178_1) rfl f178_1 rfl)) (by exact fun _ _ _ _ h => h))) (by exact fun _ _ _ _ h => h)) (.cons r1 (.cons r0 .nil)) ?_
                    rintro _ K178 _ l178 ⟨_, rfl, _, rfl, rfl, rfl⟩
                    conv => whnf
                    refine ⟨⟨((l175.trans l177).trans l178), (ConvH.of (.cons r3 .nil))⟩, ?_⟩
                    conv => whnf
                    refine un_not ?_
                    obtain ⟨x186, e186, hl0⟩ := bnd hl0
                    conv => whnf
                    refine cond_s (fun g180_45 => ?_) (fun g180_45 => ?_)
                    · replace e186 := ift (not_t (ni_t g180_45)) e186
                      conv => whnf
                      refine cond_t g180_45 ?_
                      conv => whnf
                      refine cond_t g180_45 ?_
                      conv => whnf
                      refine cond_t g180_45 ?_
                      conv => whnf
                      refine cond_t g180_45 ?_
                      conv => whnf
                      refine cond_t g180_45 ?_
                      obtain ⟨x194, e194, hl0⟩ := bnd hl0
                      replace e194 := ift (si e186).symm e194
                      conv => whnf
                      refine cond_T ?_
                      conv => whnf
                      refine cond_T ?_
                      conv => whnf
                      refine cond_T ?_
                      conv => whnf
                      refine cond_T ?_
                      conv => whnf
                      refine cond_T ?_
                      conv => whnf
                      refine cond_T ?_
                      conv => whnf
                      refine cond_T ?_
                      conv => whnf
                      refine cond_go rfl ?_
                      conv => whnf
                      refine cond_T ?_
                      replace hl0 := ift (si e194).symm hl0
                      obtain rfl := si hl0
                      replace hm := elr hm
                      obtain rfl := si hm
                      conv => whnf
                      refine EndStep.mk _ (((((((((((l19.trans l21).trans l28).trans l33).trans l37).trans lc0_0).trans lc0_1).trans lk0).trans lt904).trans l175).trans l177).trans l178) ⟨rfl, rfl⟩ (ConvH.of (.cons r4 .nil))
                    · replace e186 := iff_ (not_f (ni_f g180_45)) e186
                      conv => whnf
                      refine cond_f g180_45 ?_
                      obtain ⟨x182, q182, e186⟩ := bnd e186
                      conv => whnf
                      refine call_fn (fanout_Stream_Least_nil_ok q182) .nil ?_
                      rintro _ K182 _ l182 ⟨rfl, rfl⟩
                      conv => whnf
                      refine ⟨⟨(((l175.trans l177).trans l178).trans l182), (ConvH.of (.cons r3 .nil))⟩, ?_⟩
                      conv => whnf
                      refine cond_f g180_45 ?_
                      conv => whnf
                      refine loadn_l m0 rfl (Nat.le_of_ble_eq_true rfl) ?_
                      conv => whnf
                      refine cond_f g180_45 ?_
                      obtain ⟨x184, q184, e186⟩ := bnd e186
                      conv => whnf
                      refine call_fn (ref28_Least_ok (s := (⟨t904.1, t904.2.1, t904.2.2.1, t904.2.2.2⟩ : S_ref28_Stream)) q184 (t904_h2.mono (((l175.trans l177).trans l178).trans l182)) (t904_h3.mono (((l175.trans l177).trans l178).trans l182))) .nil ?_
                      rintro _ K184 _ l184 ⟨rfl, rfl⟩
                      conv => whnf
                      refine ⟨⟨((((l175.trans l177).trans l178).trans l182).trans l184), (ConvH.of (.cons r3 .nil))⟩, ?_⟩
                      conv => whnf
                      refine cond_f g180_45 ?_
                      conv => whnf
                      refine neq_int ?_
                      conv => whnf
                      refine cond_f g180_45 ?_
                      obtain ⟨x194, e194, hl0⟩ := bnd hl0
                      conv => whnf
                      refine cond_s (fun g187_45 => ?_) (fun g187_45 => ?_)
                      · replace e194 := ift ((si e186).symm.trans g187_45) e194
                        conv => whnf
                        refine cond_t g187_45 ?_
                        conv => whnf
                        refine cond_t g187_45 ?_
                        conv => whnf
                        refine cond_t g187_45 ?_
                        conv => whnf
                        refine cond_t g187_45 ?_
                        conv => whnf
                        refine cond_t g187_45 ?_
                        conv => whnf
                        refine cond_t g187_45 ?_
                        conv => whnf
                        refine cond_go rfl ?_
                        conv => whnf
                        refine cond_T ?_
                        replace hl0 := ift (si e194).symm hl0
                        obtain rfl := si hl0
                        replace hm := elr hm
                        obtain rfl := si hm
                        conv => whnf
                        refine EndStep.mk _ (((((((((((((l19.trans l21).trans l28).trans l33).trans l37).trans lc0_0).trans lc0_1).trans lk0).trans lt904).trans l175).trans l177).trans l178).trans l182).trans l184) ⟨rfl, rfl⟩ (ConvH.of (.cons r4 .nil))
                      · replace e194 := iff_ ((si e186).symm.trans g187_45) e194
                        conv => whnf
                        refine cond_f g187_45 ?_
                        obtain ⟨x189, q189, e194⟩ := bnd e194
                        conv => whnf
                        refine call_fn (fanout_Stream_Written_nil_ok q189) .nil ?_
                        rintro _ K189 _ l189 ⟨rfl, rfl⟩
                        conv => whnf
                        refine ⟨⟨(((((l175.trans l177).trans l178).trans l182).trans l184).trans l189), (ConvH.of (.cons r3 .nil))⟩, ?_⟩
                        conv => whnf
                        refine cond_f g187_45 ?_
                        conv => whnf
                        refine field_addr rfl ?_
                        conv => whnf
                        refine cond_f g187_45 ?_
                        conv => whnf
                        refine load1_l m0 rfl rfl ?_
                        conv => whnf
                        refine cond_f g187_45 ?_
                        conv => whnf
                        refine len_sliceN rfl ?_
                        conv => whnf
                        refine cond_f g187_45 ?_
                        conv => whnf
                        refine neq_int ?_
                        conv => whnf
                        refine cond_f g187_45 ?_
                        conv => whnf
                        refine cond_go rfl ?_
                        conv => whnf
                        refine cond_s (fun w194 => ?_) (fun w194 => ?_)
                        · replace hl0 := ift ((si e194).symm.trans w194) hl0
                          obtain rfl := si hl0
                          replace hm := elr hm
                          obtain rfl := si hm
                          conv => whnf
                          refine EndStep.mk _ ((((((((((((((l19.trans l21).trans l28).trans l33).trans l37).trans lc0_0).trans lc0_1).trans lk0).trans lt904).trans l175).trans l177).trans l178).trans l182).trans l184).trans l189) ⟨rfl, rfl⟩ (ConvH.of (.cons r4 .nil))
                        · replace hl0 := iff_ ((si e194).symm.trans w194) hl0
                          conv => whnf
                          refine int_in (cntz hx0 hk0) ?_
                          conv => whnf
                          refine RoundStep.mk (i0 + 1, t904.1, t904.2.1, t904.2.2.1, t904.2.2.2, t904_a2, t904_c2, t904_a3, t904_c3) ⟨rfl, trivial⟩ (by repeat (first | exact trivial | refine And.intro rfl ?_)) (ConvH.of (.cons r3 (.cons r3 .nil))) (((((((lk0.trans lt904).trans l175).trans l177).trans l178).trans l182).trans l184).trans l189) (ltm hx0) ⟨(t904_h2.mono (((((l175.trans l177).trans l178).trans l182).trans l184).trans l189)), (t904_h3.mono (((((l175.trans l177).trans l178).trans l182).trans l184).trans l189)), hl0⟩
                · rw [lty w0, law28_FanoutPlays_L0.eq_1] at hl0
                  conv => whnf
                  refine cond_T ?_
                  conv => whnf
                  refine MeetStep.mk ((y0_0, y0_1, y0_2, y0_3), y0_a2, y0_c2, y0_a3, y0_c3) trivial (by repeat (first | exact trivial | refine And.intro rfl ?_)) (ConvH.of (.cons r0 (.cons r0 .nil))) lk0 ⟨y0_h2, y0_h3, (si hl0).symm⟩
              · rintro ⟨t0, t0_a2, t0_c2, t0_a3, t0_c3⟩ Kt0 lt0 ⟨t0_h2, t0_h3, rfl⟩ j0
                replace hm := elg hm
                obtain rfl := si hm
                conv => whnf
                refine EndStep.mk _ (((((((l19.trans l21).trans l28).trans l33).trans l37).trans lc0_0).trans lc0_1).trans lt0) ⟨rfl, rfl⟩ (ConvH.of (.cons r1 .nil))
      · rw [hq28] at p28 hm
        obtain ⟨b28_0, a28_1, c28_1, m28_2, rfl, h28_1, rfl⟩ := p28
        replace hm := oe_s hm
        obtain ⟨x33, q33, hm⟩ := bnd hm
        conv => whnf
        refine call_fn (ref28_New_ok q33) .nil ?_
        rintro _ K33 _ l33 ⟨a33_0, c33_0, a33_1, c33_1, rfl, h33_0, h33_1, rfl⟩
        conv => whnf
        refine alloc_rule rfl ?_
        intro b7
        conv => whnf
        refine store_rule r0 rfl ?_
        conv => whnf
        refine ⟨rfl, rfl, (Nat.le_of_ble_eq_true rfl), ?_⟩
        obtain ⟨x37, q37, hm⟩ := bnd hm
        conv => whnf
        refine call_fn (base_Num_ok q37) .nil ?_
        rintro _ K37 _ l37 ⟨rfl, rfl⟩
        conv => whnf
        refine neq_int ?_
        conv => whnf
        refine cond_s (fun g40_5 => ?_) (fun g40_5 => ?_)
        · conv => whnf
          refine cond_t g40_5 ?_
          conv => whnf
          refine cond_t g40_5 ?_
          conv => whnf
          refine cond_t g40_5 ?_
          conv => whnf
          refine cond_t g40_5 ?_
          conv => whnf
          refine cond_t g40_5 ?_
          conv => whnf
          refine cond_go rfl ?_
          conv => whnf
          refine cond_T ?_
          replace hm := ift (or_t g40_5) hm
          obtain rfl := si hm
          conv => whnf
          refine EndStep.mk _ ((((l19.trans l21).trans l28).trans l33).trans l37) ⟨rfl, rfl⟩ (ConvH.of (.cons r6 .nil))
        · conv => whnf
          refine cond_f g40_5 ?_
          conv => whnf
          refine eq_ptr_nil rfl ?_
          conv => whnf
          refine cond_f g40_5 ?_
          conv => whnf
          refine cond_f g40_5 ?_
          conv => whnf
          refine neq_int ?_
          conv => whnf
          refine cond_f g40_5 ?_
          conv => whnf
          refine neq_bool rfl ?_
          conv => whnf
          refine cond_f g40_5 ?_
          conv => whnf
          refine cond_go rfl ?_
          conv => whnf
          refine cond_s (fun w46 => ?_) (fun w46 => ?_)
          · replace hm := ift (or_u g40_5 w46) hm
            obtain rfl := si hm
            conv => whnf
            refine EndStep.mk _ ((((l19.trans l21).trans l28).trans l33).trans l37) ⟨rfl, rfl⟩ (ConvH.of (.cons r6 .nil))
          · replace hm := iff_ (or_f g40_5 w46) hm
            conv => whnf
            refine neq_int ?_
            conv => whnf
            refine cond_go rfl ?_
            conv => whnf
            refine cond_s (fun w48 => ?_) (fun w48 => ?_)
            · replace hm := ift w48 hm
              obtain rfl := si hm
              conv => whnf
              refine EndStep.mk _ ((((l19.trans l21).trans l28).trans l33).trans l37) ⟨rfl, rfl⟩ (ConvH.of (.cons r6 .nil))
            · replace hm := iff_ w48 hm
              conv => whnf
              refine RStep.of (len_slice rfl ?_)
              obtain ⟨hk0, hm⟩ := chkb hm
              obtain ⟨s0, hl0, hm⟩ := bnd hm
              conv => whnf
              refine fC r1 fun Kc0_0 lc0_0 fc0_0 => ?_
              refine fC r1 fun Kc0_1 lc0_1 fc0_1 => ?_
              refine code_cut (σ := (Int × Int × Str × (List S_ref28_Reader) × S_fanout_Stream) × Option Addr × Nat × Option Addr × Nat × Option Addr × Nat × Nat) [4, 8, 10, 11, 12, 13, 14, 15, 16, 17, 51, 52, 53, 54, 55, 56, 57, 58, 59, 60, 61, 62, 63, 64, 65, 66, 67, 68, 69, 70, 71, 72, 73, 74, 75, 76, 77, 78, 79, 80, 81, 82, 83, 84, 85, 86, 87, 88, 89, 90, 91, 92, 93, 94, 95, 96, 97, 98, 99, 100, 101, 102, 103, 104, 105, 106, 107, 108, 109, 110, 111, 112, 113, 114, 115, 116, 117, 118, 119, 120, 121, 122, 123, 124, 125, 126, 127, 128, 129, 130, 131, 132, 133, 134, 135, 136, 137, 138, 139, 140, 141, 142, 143, 144, 145, 146, 147, 148, 149, 150, 151, 152, 153, 154, 155, 156, 157, 158, 159, 160, 161, 162, 163, 164, 165, 166, 167, 168, 169, 170, 171, 172, 173, 174, 175, 176, 177, 178, 179, 180, 181, 182, 183, 184, 185, 186, 187, 188, 189, 190, 191, 192, 193, 194, 195] (fun (t0, t0_a2, t0_c2, t0_a3, t0_c3, at0_4_0, ct0_4_0, mt0_4_1) => []) (fun (t0, t0_a2, t0_c2, t0_a3, t0_c3, at0_4_0, ct0_4_0, mt0_4_1) => [Cells b28_0 77 [.int .i64 t0.2.2.2.2.limit, .int .i64 t0.2.2.2.2.state, .slice at0_4_0 t0.2.2.2.2.data.length ct0_4_0, .map (some mt0_4_1)], OwnL eU at0_4_0 5 1 ct0_4_0 t0.2.2.2.2.data, MapE intK (fun x => .int .i64 x) mt0_4_1 t0.2.2.2.2.offsets, Cells b7 60 [.int .i64 t0.1, .int .i64 t0.2.1, .slice t0_a2 t0.2.2.1.length t0_c2, .slice t0_a3 t0.2.2.2.1.length t0_c3], F]) (fun zz K1 => match zz with | (t0, t0_a2, t0_c2, t0_a3, t0_c3, at0_4_0, ct0_4_0, mt0_4_1) => RdC eU K1 t0_a2 t0_c2 1 t0.2.2.1 ∧ RdC S_ref28_Reader.enc K1 t0_a3 t0_c3 2 t0.2.2.2.1 ∧ (0 < t0.2.2.2.2.data.length → Has at0_4_0) ∧ s0 = Fl.go t0) ?_ ?_
              · refine block_go rfl ?_
                conv => whnf
                refine loop_rule (σ := Nat × Int × Int × Str × (List S_ref28_Reader) × S_fanout_Stream × Option Addr × Nat × Option Addr × Nat × Option Addr × Nat × Nat) [4, 8, 10, 11, 12, 13, 14, 15, 16, 17, 51, 52, 53, 54, 55, 56, 57, 58, 59, 60, 61, 62, 63, 64, 65, 66, 67, 68, 69, 70, 71, 72, 73, 74, 75, 76, 77, 78, 79, 80, 81, 82, 83, 84, 85, 86, 87, 88, 89, 90, 91, 92, 93, 94, 95, 96, 97, 98, 99, 100, 101, 102, 103, 104, 105, 106, 107, 108, 109, 110, 111, 112, 113, 114, 115, 116, 117, 118, 119, 120, 121, 122, 123, 124, 125, 126, 127, 128, 129, 130, 131, 132, 133, 134, 135, 136, 137, 138, 139, 140, 141, 142, 143, 144, 145, 146, 147, 148, 149, 150, 151, 152, 153, 154, 155, 156, 157, 158, 159, 160, 161, 162, 163, 164, 165, 166, 167, 168, 169, 170, 171, 172, 173, 174, 175, 176, 177, 178, 179, 180, 181, 182, 183, 184, 185, 186, 187, 188, 189, 190, 191, 192, 193, 194, 195] (fun (i0, y0_0, y0_1, y0_2, y0_3, y0_4, y0_a2, y0_c2, y0_a3, y0_c3, ay0_4_0, cy0_4_0, my0_4_1) => [(51, .int .i64 (i0 : Int))]) (fun (i0, y0_0, y0_1, y0_2, y0_3, y0_4, y0_a2, y0_c2, y0_a3, y0_c3, ay0_4_0, cy0_4_0, my0_4_1) => [Cells b28_0 77 [.int .i64 y0_4.limit, .int .i64 y0_4.state, .slice ay0_4_0 y0_4.data.length cy0_4_0, .map (some my0_4_1)], OwnL eU ay0_4_0 5 1 cy0_4_0 y0_4.data, MapE intK (fun x => .int .i64 x) my0_4_1 y0_4.offsets, Cells b7 60 [.int .i64 y0_0, .int .i64 y0_1, .slice y0_a2 y0_2.length y0_c2, .slice y0_a3 y0_3.length y0_c3], F]) (fun zz K1 => match zz with | (i0, y0_0, y0_1, y0_2, y0_3, y0_4, y0_a2, y0_c2, y0_a3, y0_c3, ay0_4_0, cy0_4_0, my0_4_1) => RdC eU K1 y0_a2 y0_c2 1 y0_2 ∧ RdC S_ref28_Reader.enc K1 y0_a3 y0_c3 2 y0_3 ∧ (0 < y0_4.data.length → Has ay0_4_0) ∧ law28_FanoutPlays_L0b n (script.drop i0) i0 y0_0 y0_1 y0_2 y0_3 y0_4 = some s0) (fun zz => script.length - zz.1) (0, x33.1.Limit, x33.1.State, x33.1.Data, x33.1.Readers, o28, a33_0, c33_0, a33_1, c33_1, a28_1, c28_1, m28_2) rfl ⟨rfl, trivial⟩ (ConvH.of (.cons r1 (.cons r1 (.cons r1 (.cons r0 (.cons r0 .nil)))))) ⟨(fc0_0.mono lc0_1), fc0_1, h28_1, hl0⟩ ?_
                clear hl0
                rintro ⟨i0, y0_0, y0_1, y0_2, y0_3, y0_4, y0_a2, y0_c2, y0_a3, y0_c3, ay0_4_0, cy0_4_0, my0_4_1⟩ Kb0 lk0 ⟨y0_h2, y0_h3, hy0_4_0, hl0⟩ j0
                conv => whnf
                refine cond_go rfl ?_
                conv => whnf
                refine cond_s (fun w0 => ?_) (fun w0 => ?_)
                · obtain ⟨e0, hx0, hd0⟩ := ltx w0
                  rw [hd0, law28_FanoutPlays_L0b.eq_2] at hl0
                  conv => whnf
                  refine block_go rfl ?_
                  conv => whnf
                  refine RStep.ofN (index_addr rfl rfl (hasR (LiC.mono S_law28_Step.R_ok (((((((l19.trans l21).trans l28).trans l33).trans l37).trans lc0_0).trans lc0_1).trans lk0) hp1_0).rd hx0) (nn _) (lt_ofN hx0) ?_)
                  obtain ⟨ss54, cc54, hr54, hc54, hR54⟩ := LiR.get (LiC.mono S_law28_Step.R_ok (((((((l19.trans l21).trans l28).trans l33).trans l37).trans lc0_0).trans lc0_1).trans lk0) hp1_0).rd hx0
                  obtain ⟨a54_0, c54_0, rfl, h54_0⟩ := hR54
                  conv => whnf
                  refine RStep.of (load_rd_agg i0 _ hr54 rfl hc54 rfl ?_)
                  conv => whnf
                  refine alloc_rule rfl ?_
                  intro b10
                  conv => whnf
                  refine store_rule r0 rfl ?_
                  conv => whnf
                  refine ⟨rfl, rfl, (Nat.le_of_ble_eq_true rfl), ?_⟩
                  conv => whnf
                  refine field_addr rfl ?_
                  conv => whnf
                  refine RStep.of (load1_s r0 rfl rfl ?_)
                  conv => whnf
                  refine u8_rem (x := e0.What) (y := (12 : UInt8)) rfl rfl (by decide) ?_
                  obtain ⟨s927, hl927, hl0⟩ := bnd hl0
                  conv => whnf
                  refine code_cut (σ := (Int × Int × Str × (List S_ref28_Reader) × S_fanout_Stream) × Option Addr × Nat × Option Addr × Nat × Option Addr × Nat × Nat) [4, 8, 11, 12, 13, 14, 15, 16, 17, 58, 59, 60, 61, 62, 63, 64, 65, 66, 67, 68, 69, 70, 71, 72, 73, 74, 75, 76, 77, 78, 79, 80, 81, 82, 83, 84, 85, 86, 87, 88, 89, 90, 91, 92, 93, 94, 95, 96, 97, 98, 99, 100, 101, 102, 103, 104, 105, 106, 107, 108, 109, 110, 111, 112, 113, 114, 115, 116, 117, 118, 119, 120, 121, 122, 123, 124, 125, 126, 127, 128, 129, 130, 131, 132, 133, 134, 135, 136, 137, 138, 139, 140, 141, 142, 143, 144, 145, 146, 147, 148, 149, 150, 151, 152, 153, 154, 155, 156, 157, 158, 159, 160, 161, 162, 163, 164, 165, 166, 167, 168, 169, 170, 171, 172, 173] (fun (t927, t927_a2, t927_c2, t927_a3, t927_c3, at927_4_0, ct927_4_0, mt927_4_1) => []) (fun (t927, t927_a2, t927_c2, t927_a3, t927_c3, at927_4_0, ct927_4_0, mt927_4_1) => [Cells b28_0 77 [.int .i64 t927.2.2.2.2.limit, .int .i64 t927.2.2.2.2.state, .slice at927_4_0 t927.2.2.2.2.data.length ct927_4_0, .map (some mt927_4_1)], OwnL eU at927_4_0 5 1 ct927_4_0 t927.2.2.2.2.data, MapE intK (fun x => .int .i64 x) mt927_4_1 t927.2.2.2.2.offsets, Cells b10 50 [.int .u8 (e0.What.toNat : Int), .int .i64 e0.ID, .int .i64 e0.N, .slice a54_0 e0.Data.length c54_0], Cells b7 60 [.int .i64 t927.1, .int .i64 t927.2.1, .slice t927_a2 t927.2.2.1.length t927_c2, .slice t927_a3 t927.2.2.2.1.length t927_c3], F]) (fun zz K1 => match zz with | (t927, t927_a2, t927_c2, t927_a3, t927_c3, at927_4_0, ct927_4_0, mt927_4_1) => RdC eU K1 t927_a2 t927_c2 1 t927.2.2.1 ∧ RdC S_ref28_Reader.enc K1 t927_a3 t927_c3 2 t927.2.2.2.1 ∧ (0 < t927.2.2.2.2.data.length → Has at927_4_0) ∧ s927 = Fl.go t927) ?_ ?_
                  · refine block_go rfl ?_
                    conv => whnf
                    refine eq_int ?_
                    conv => whnf
                    refine cond_go rfl ?_
                    conv => whnf
                    refine cond_s (fun w72 => ?_) (fun w72 => ?_)
                    · replace hl927 := ift w72 hl927
                      conv => whnf
                      refine cond_go rfl ?_
                      conv => whnf
                      refine cond_t w72 ?_
                      conv => whnf
                      refine field_addr rfl ?_
                      conv => whnf
                      refine RStep.of (load1_s r0 rfl rfl ?_)
                      conv => whnf
                      refine field_addr rfl ?_
                      conv => whnf
                      refine RStep.of (load1_s r0 rfl rfl ?_)
                      obtain ⟨x80, q80, hl927⟩ := bnd hl927
                      conv => whnf
                      refine call_fn (fanout_Stream_Attach_ok q80 hy0_4_0) (.cons r1 (.cons r1 (.cons r1 .nil))) ?_
                      rintro _ K80 _ l80 ⟨a80_0, c80_0, m80_1, rfl, h80_0, rfl⟩
                      conv => whnf
                      refine RStep.of (loadn_s r4 rfl (Nat.le_of_ble_eq_true rfl) ?_)
                      conv => whnf
                      refine field_addr rfl ?_
                      conv => whnf
                      refine RStep.of (load1_s r3 rfl rfl ?_)
                      conv => whnf
                      refine field_addr rfl ?_
                      conv => whnf
                      refine RStep.of (load1_s r3 rfl rfl ?_)
                      obtain ⟨x87, q87, hl927⟩ := bnd hl927
                      conv => whnf
                      refine call_fn (ref28_Attach_ok (s := (⟨y0_0, y0_1, y0_2, y0_3⟩ : S_ref28_Stream)) q87 (y0_h2.mono l80) (y0_h3.mono l80)) .nil ?_
                      rintro _ K87 _ l87 ⟨a87_0, c87_0, a87_1, c87_1, rfl, h87_0, h87_1, rfl⟩
                      conv => whnf
                      refine store_rule r4 rfl ?_
                      conv => whnf
                      refine ⟨rfl, rfl, (Nat.le_of_ble_eq_true rfl), ?_⟩
                      obtain ⟨x91, q91, hl927⟩ := bnd hl927
                      conv => whnf
                      refine call_fn (base_Num_ok q91) .nil ?_
                      rintro _ K91 _ l91 ⟨rfl, rfl⟩
                      conv => whnf
                      refine neq_int ?_
                      conv => whnf
                      refine cond_go rfl ?_
                      conv => whnf
                      refine cond_s (fun w93 => ?_) (fun w93 => ?_)
                      · replace hl927 := ift w93 hl927
                        obtain rfl := si hl927
                        replace hl0 := elr hl0
                        obtain rfl := si hl0
                        replace hm := elr hm
                        obtain rfl := si hm
                        conv => whnf
                        refine EndStep.mk _ ((((((((((l19.trans l21).trans l28).trans l33).trans l37).trans lc0_0).trans lc0_1).trans lk0).trans l80).trans l87).trans l91) ⟨rfl, rfl⟩ (ConvH.of (.cons r5 .nil))
                      · replace hl927 := iff_ w93 hl927
                        conv => whnf
                        refine MeetStep.mk ((x87.1.Limit, x87.1.State, x87.1.Data, x87.1.Readers, x80.2), a87_0, c87_0, a87_1, c87_1, a80_0, c80_0, m80_1) trivial (by repeat (first | exact trivial | refine And.intro rfl ?_)) (ConvH.of (.cons r1 (.cons r1 (.cons r1 (.cons r1 (.cons r0 (.cons r0 .nil))))))) ((l80.trans l87).trans l91) ⟨(h87_0.mono l91), (h87_1.mono l91), h80_0, (si hl927).symm⟩
                    · replace hl927 := iff_ w72 hl927
                      conv => whnf
                      refine eq_int ?_
                      conv => whnf
                      refine cond_go rfl ?_
                      conv => whnf
                      refine cond_s (fun w72 => ?_) (fun w72 => ?_)
                      · replace hl927 := ift w72 hl927
                        conv => whnf
                        refine field_addr rfl ?_
                        conv => whnf
                        refine RStep.of (load1_s r0 rfl rfl ?_)
                        conv => whnf
                        refine field_addr rfl ?_
                        conv => whnf
                        refine RStep.of (load1_s r0 rfl rfl ?_)
                        obtain ⟨x80, q80, hl927⟩ := bnd hl927
                        conv => whnf
                        refine call_fn (fanout_Stream_Attach_ok q80 hy0_4_0) (.cons r1 (.cons r1 (.cons r1 .nil))) ?_
                        rintro _ K80 _ l80 ⟨a80_0, c80_0, m80_1, rfl, h80_0, rfl⟩
                        conv => whnf
                        refine RStep.of (loadn_s r4 rfl (Nat.le_of_ble_eq_true rfl) ?_)
                        conv => whnf
                        refine field_addr rfl ?_
                        conv => whnf
                        refine RStep.of (load1_s r3 rfl rfl ?_)
                        conv => whnf
                        refine field_addr rfl ?_
                        conv => whnf
                        refine RStep.of (load1_s r3 rfl rfl ?_)
                        obtain ⟨x87, q87, hl927⟩ := bnd hl927
                        conv => whnf
                        refine call_fn (ref28_Attach_ok (s := (⟨y0_0, y0_1, y0_2, y0_3⟩ : S_ref28_Stream)) q87 (y0_h2.mono l80) (y0_h3.mono l80)) .nil ?_
                        rintro _ K87 _ l87 ⟨a87_0, c87_0, a87_1, c87_1, rfl, h87_0, h87_1, rfl⟩
                        conv => whnf
                        refine store_rule r4 rfl ?_
                        conv => whnf
                        refine ⟨rfl, rfl, (Nat.le_of_ble_eq_true rfl), ?_⟩
                        obtain ⟨x91, q91, hl927⟩ := bnd hl927
                        conv => whnf
                        refine call_fn (base_Num_ok q91) .nil ?_
                        rintro _ K91 _ l91 ⟨rfl, rfl⟩
                        conv => whnf
                        refine neq_int ?_
                        conv => whnf
                        refine cond_go rfl ?_
                        conv => whnf
                        refine cond_s (fun w93 => ?_) (fun w93 => ?_)
                        · replace hl927 := ift w93 hl927
                          obtain rfl := si hl927
                          replace hl0 := elr hl0
                          obtain rfl := si hl0
                          replace hm := elr hm
                          obtain rfl := si hm
                          conv => whnf
                          refine EndStep.mk _ ((((((((((l19.trans l21).trans l28).trans l33).trans l37).trans lc0_0).trans lc0_1).trans lk0).trans l80).trans l87).trans l91) ⟨rfl, rfl⟩ (ConvH.of (.cons r5 .nil))
                        · replace hl927 := iff_ w93 hl927
                          conv => whnf
                          refine MeetStep.mk ((x87.1.Limit, x87.1.State, x87.1.Data, x87.1.Readers, x80.2), a87_0, c87_0, a87_1, c87_1, a80_0, c80_0, m80_1) trivial (by repeat (first | exact trivial | refine And.intro rfl ?_)) (ConvH.of (.cons r1 (.cons r1 (.cons r1 (.cons r1 (.cons r0 (.cons r0 .nil))))))) ((l80.trans l87).trans l91) ⟨(h87_0.mono l91), (h87_1.mono l91), h80_0, (si hl927).symm⟩
                      · replace hl927 := iff_ w72 hl927
                        conv => whnf
                        refine eq_int ?_
                        conv => whnf
                        refine cond_go rfl ?_
                        conv => whnf
                        refine cond_s (fun w94 => ?_) (fun w94 => ?_)
                        · replace hl927 := ift w94 hl927
                          conv => whnf
                          refine cond_go rfl ?_
                          conv => whnf
                          refine cond_t w94 ?_
                          conv => whnf
                          refine field_addr rfl ?_
                          conv => whnf
                          refine RStep.of (load1_s r0 rfl rfl ?_)
                          conv => whnf
                          refine field_addr rfl ?_
                          conv => whnf
                          refine RStep.of (load1_s r0 rfl rfl ?_)
                          obtain ⟨x105, q105, hl927⟩ := bnd hl927
                          conv => whnf
                          refine call_fn (fanout_Stream_Read_ok q105 hy0_4_0) (.cons r1 (.cons r1 (.cons r1 .nil))) ?_
                          rintro _ K105 _ l105 ⟨a105_0, c105_0, a105_1, c105_1, m105_2, rfl, h105_0, h105_1, rfl⟩
                          conv => whnf
                          refine RStep.of (loadn_s r5 rfl (Nat.le_of_ble_eq_true rfl) ?_)
                          conv => whnf
                          refine field_addr rfl ?_
                          conv => whnf
                          refine RStep.of (load1_s r4 rfl rfl ?_)
                          conv => whnf
                          refine field_addr rfl ?_
                          conv => whnf
                          refine RStep.of (load1_s r4 rfl rfl ?_)
                          obtain ⟨x115, q115, hl927⟩ := bnd hl927
                          conv => whnf
                          refine call_fn (ref28_Read_ok (s := (⟨y0_0, y0_1, y0_2, y0_3⟩ : S_ref28_Stream)) q115 (y0_h2.mono l105) (y0_h3.mono l105)) .nil ?_
                          rintro _ K115 _ l115 ⟨a115_0, c115_0, a115_1, c115_1, a115_2, c115_2, rfl, h115_0, h115_1, h115_2, rfl⟩
                          conv => whnf
                          refine store_rule r5 rfl ?_
                          conv => whnf
                          refine ⟨rfl, rfl, (Nat.le_of_ble_eq_true rfl), ?_⟩
                          obtain ⟨x121, q121, hl927⟩ := bnd hl927
                          conv => whnf
                          refine call_fn (base_Num_ok q121) .nil ?_
                          rintro _ K121 _ l121 ⟨rfl, rfl⟩
                          conv => whnf
                          refine neq_int ?_
                          conv => whnf
                          refine cond_s (fun g124_30 => ?_) (fun g124_30 => ?_)
                          · conv => whnf
                            refine cond_t g124_30 ?_
                            conv => whnf
                            refine cond_t g124_30 ?_
                            conv => whnf
                            refine cond_t g124_30 ?_
                            obtain ⟨x134, e134, hl927⟩ := bnd hl927
                            replace e134 := ift (or_t g124_30) e134
                            conv => whnf
                            refine cond_T ?_
                            conv => whnf
                            refine cond_T ?_
                            conv => whnf
                            refine cond_T ?_
                            conv => whnf
                            refine cond_T ?_
                            conv => whnf
                            refine cond_T ?_
                            conv => whnf
                            refine cond_go rfl ?_
                            conv => whnf
                            refine cond_T ?_
                            replace hl927 := ift (si e134).symm hl927
                            obtain rfl := si hl927
                            replace hl0 := elr hl0
                            obtain rfl := si hl0
                            replace hm := elr hm
                            obtain rfl := si hm
                            conv => whnf
                            refine EndStep.mk _ ((((((((((l19.trans l21).trans l28).trans l33).trans l37).trans lc0_0).trans lc0_1).trans lk0).trans l105).trans l115).trans l121) ⟨rfl, rfl⟩ (ConvH.of (.cons r6 .nil))
                          · conv => whnf
                            refine cond_f g124_30 ?_
                            conv => whnf
                            refine cond_f g124_30 ?_
                            conv => whnf
                            refine neq_int ?_
                            conv => whnf
                            refine cond_f g124_30 ?_
                            obtain ⟨x134, e134, hl927⟩ := bnd hl927
                            conv => whnf
                            refine cond_s (fun g129_30 => ?_) (fun g129_30 => ?_)
                            · replace e134 := ift (or_u g124_30 g129_30) e134
                              conv => whnf
                              refine cond_t g129_30 ?_
                              conv => whnf
                              refine cond_t g129_30 ?_
                              conv => whnf
                              refine cond_t g129_30 ?_
                              conv => whnf
                              refine cond_t g129_30 ?_
                              conv => whnf
                              refine cond_go rfl ?_
                              conv => whnf
                              refine cond_T ?_
                              replace hl927 := ift (si e134).symm hl927
                              obtain rfl := si hl927
                              replace hl0 := elr hl0
                              obtain rfl := si hl0
                              replace hm := elr hm
                              obtain rfl := si hm
                              conv => whnf
                              refine EndStep.mk _ ((((((((((l19.trans l21).trans l28).trans l33).trans l37).trans lc0_0).trans lc0_1).trans lk0).trans l105).trans l115).trans l121) ⟨rfl, rfl⟩ (ConvH.of (.cons r6 .nil))
                            · replace e134 := iff_ (or_f g124_30 g129_30) e134
                              conv => whnf
                              refine cond_f g129_30 ?_
                              conv => whnf
                              refine cond_f g129_30 ?_
                              obtain ⟨x132, q132, e134⟩ := bnd e134
                              conv => whnf
                              refine call_fn (Fn.lend Try.call15 (fun K132_0 l132_0 f132_0 => (base_Bytes_ok q132 f132_0 rfl (h115_2.mono (l121.trans l132_0)) rfl)) (by exact fun _ _ _ _ h => h)) (.cons r1 .nil) ?_
                              rintro _ K132 _ l132 ⟨_, rfl, rfl, rfl⟩
                              conv => whnf
                              refine cond_f g129_30 ?_
                              conv => whnf
                              refine un_not ?_
                              conv => whnf
                              refine cond_f g129_30 ?_
                              conv => whnf
                              refine cond_go rfl ?_
                              conv => whnf
                              refine cond_s (fun w134 => ?_) (fun w134 => ?_)
                              · replace hl927 := ift ((si e134).symm.trans (not_t (ni_t w134))) hl927
                                obtain rfl := si hl927
                                replace hl0 := elr hl0
                                obtain rfl := si hl0
                                replace hm := elr hm
                                obtain rfl := si hm
                                conv => whnf
                                refine EndStep.mk _ (((((((((((l19.trans l21).trans l28).trans l33).trans l37).trans lc0_0).trans lc0_1).trans lk0).trans l105).trans l115).trans l121).trans l132) ⟨rfl, rfl⟩ (ConvH.of (.cons r6 .nil))
                              · replace hl927 := iff_ ((si e134).symm.trans (not_f (ni_f w134))) hl927
                                conv => whnf
                                refine MeetStep.mk ((x115.1.Limit, x115.1.State, x115.1.Data, x115.1.Readers, x105.2.2.2), a115_0, c115_0, a115_1, c115_1, a105_1, c105_1, m105_2) trivial (by repeat (first | exact trivial | refine And.intro rfl ?_)) (ConvH.of (.cons r2 (.cons r2 (.cons r2 (.cons r2 (.cons r1 (.cons r1 .nil))))))) (((l105.trans l115).trans l121).trans l132) ⟨(h115_0.mono (l121.trans l132)), (h115_1.mono (l121.trans l132)), h105_1, (si hl927).symm⟩
                        · replace hl927 := iff_ w94 hl927
                          conv => whnf
                          refine eq_int ?_
                          conv => whnf
                          refine cond_go rfl ?_
                          conv => whnf
                          refine cond_s (fun w94 => ?_) (fun w94 => ?_)
                          · replace hl927 := ift w94 hl927
                            conv => whnf
                            refine cond_go rfl ?_
                            conv => whnf
                            refine cond_t w94 ?_
                            conv => whnf
                            refine field_addr rfl ?_
                            conv => whnf
                            refine RStep.of (load1_s r0 rfl rfl ?_)
                            conv => whnf
                            refine field_addr rfl ?_
                            conv => whnf
                            refine RStep.of (load1_s r0 rfl rfl ?_)
                            obtain ⟨x105, q105, hl927⟩ := bnd hl927
                            conv => whnf
                            refine call_fn (fanout_Stream_Read_ok q105 hy0_4_0) (.cons r1 (.cons r1 (.cons r1 .nil))) ?_
                            rintro _ K105 _ l105 ⟨a105_0, c105_0, a105_1, c105_1, m105_2, rfl, h105_0, h105_1, rfl⟩
                            conv => whnf
                            refine RStep.of (loadn_s r5 rfl (Nat.le_of_ble_eq_true rfl) ?_)
                            conv => whnf
                            refine field_addr rfl ?_
                            conv => whnf
                            refine RStep.of (load1_s r4 rfl rfl ?_)
                            conv => whnf
                            refine field_addr rfl ?_
                            conv => whnf
                            refine RStep.of (load1_s r4 rfl rfl ?_)
                            obtain ⟨x115, q115, hl927⟩ := bnd hl927
                            conv => whnf
                            refine call_fn (ref28_Read_ok (s := (⟨y0_0, y0_1, y0_2, y0_3⟩ : S_ref28_Stream)) q115 (y0_h2.mono l105) (y0_h3.mono l105)) .nil ?_
                            rintro _ K115 _ l115 ⟨a115_0, c115_0, a115_1, c115_1, a115_2, c115_2, rfl, h115_0, h115_1, h115_2, rfl⟩
                            conv => whnf
                            refine store_rule r5 rfl ?_
                            conv => whnf
                            refine ⟨rfl, rfl, (Nat.le_of_ble_eq_true rfl), ?_⟩
                            obtain ⟨x121, q121, hl927⟩ := bnd hl927
                            conv => whnf
                            refine call_fn (base_Num_ok q121) .nil ?_
                            rintro _ K121 _ l121 ⟨rfl, rfl⟩
                            conv => whnf
                            refine neq_int ?_
                            conv => whnf
                            refine cond_s (fun g124_30 => ?_) (fun g124_30 => ?_)
                            · conv => whnf
                              refine cond_t g124_30 ?_
                              conv => whnf
                              refine cond_t g124_30 ?_
                              conv => whnf
                              refine cond_t g124_30 ?_
                              obtain ⟨x134, e134, hl927⟩ := bnd hl927
                              replace e134 := ift (or_t g124_30) e134
                              conv => whnf
                              refine cond_T ?_
                              conv => whnf
                              refine cond_T ?_
                              conv => whnf
                              refine cond_T ?_
                              conv => whnf
                              refine cond_T ?_
                              conv => whnf
                              refine cond_T ?_
                              conv => whnf
                              refine cond_go rfl ?_
                              conv => whnf
                              refine cond_T ?_
                              replace hl927 := ift (si e134).symm hl927
                              obtain rfl := si hl927
                              replace hl0 := elr hl0
                              obtain rfl := si hl0
                              replace hm := elr hm
                              obtain rfl := si hm
                              conv => whnf
                              refine EndStep.mk _ ((((((((((l19.trans l21).trans l28).trans l33).trans l37).trans lc0_0).trans lc0_1).trans lk0).trans l105).trans l115).trans l121) ⟨rfl, rfl⟩ (ConvH.of (.cons r6 .nil))
                            · conv => whnf
                              refine cond_f g124_30 ?_
                              conv => whnf
                              refine cond_f g124_30 ?_
                              conv => whnf
                              refine neq_int ?_
                              conv => whnf
                              refine cond_f g124_30 ?_
                              obtain ⟨x134, e134, hl927⟩ := bnd hl927
                              conv => whnf
                              refine cond_s (fun g129_30 => ?_) (fun g129_30 => ?_)
                              · replace e134 := ift (or_u g124_30 g129_30) e134
                                conv => whnf
                                refine cond_t g129_30 ?_
                                conv => whnf
                                refine cond_t g129_30 ?_
                                conv => whnf
                                refine cond_t g129_30 ?_
                                conv => whnf
                                refine cond_t g129_30 ?_
                                conv => whnf
                                refine cond_go rfl ?_
                                conv => whnf
                                refine cond_T ?_
                                replace hl927 := ift (si e134).symm hl927
                                obtain rfl := si hl927
                                replace hl0 := elr hl0
                                obtain rfl := si hl0
                                replace hm := elr hm
                                obtain rfl := si hm
                                conv => whnf
                                refine EndStep.mk _ ((((((((((l19.trans l21).trans l28).trans l33).trans l37).trans lc0_0).trans lc0_1).trans lk0).trans l105).trans l115).trans l121) ⟨rfl, rfl⟩ (ConvH.of (.cons r6 .nil))
                              · replace e134 := iff_ (or_f g124_30 g129_30) e134
                                conv => whnf
                                refine cond_f g129_30 ?_
                                conv => whnf
                                refine cond_f g129_30 ?_
                                obtain ⟨x132, q132, e134⟩ := bnd e134
                                conv => whnf
                                refine call_fn (Fn.lend Try.call15 (fun K132_0 l132_0 f132_0 => (base_Bytes_ok q132 f132_0 rfl (h115_2.mono (l121.trans l132_0)) rfl)) (by exact fun _ _ _ _ h => h)) (.cons r1 .nil) ?_
                                rintro _ K132 _ l132 ⟨_, rfl, rfl, rfl⟩
                                conv => whnf
                                refine cond_f g129_30 ?_
                                conv => whnf
                                refine un_not ?_
                                conv => whnf
                                refine cond_f g129_30 ?_
                                conv => whnf
                                refine cond_go rfl ?_
                                conv => whnf
                                refine cond_s (fun w134 => ?_) (fun w134 => ?_)
                                · replace hl927 := ift ((si e134).symm.trans (not_t (ni_t w134))) hl927
                                  obtain rfl := si hl927
                                  replace hl0 := elr hl0
                                  obtain rfl := si hl0
                                  replace hm := elr hm
                                  obtain rfl := si hm
                                  conv => whnf
                                  refine EndStep.mk _ (((((((((((l19.trans l21).trans l28).trans l33).trans l37).trans lc0_0).trans lc0_1).trans lk0).trans l105).trans l115).trans l121).trans l132) ⟨rfl, rfl⟩ (ConvH.of (.cons r6 .nil))
                                · replace hl927 := iff_ ((si e134).symm.trans (not_f (ni_f w134))) hl927
                                  conv => whnf
                                  refine MeetStep.mk ((x115.1.Limit, x115.1.State, x115.1.Data, x115.1.Readers, x105.2.2.2), a115_0, c115_0, a115_1, c115_1, a105_1, c105_1, m105_2) trivial (by repeat (first | exact trivial | refine And.intro rfl ?_)) (ConvH.of (.cons r2 (.cons r2 (.cons r2 (.cons r2 (.cons r1 (.cons r1 .nil))))))) (((l105.trans l115).trans l121).trans l132) ⟨(h115_0.mono (l121.trans l132)), (h115_1.mono (l121.trans l132)), h105_1, (si hl927).symm⟩
                          · replace hl927 := iff_ w94 hl927
                            conv => whnf
                            refine eq_int ?_
                            conv => whnf
                            refine cond_go rfl ?_
                            conv => whnf
                            refine cond_s (fun w94 => ?_) (fun w94 => ?_)
                            · replace hl927 := ift w94 hl927
                              conv => whnf
                              refine cond_go rfl ?_
                              conv => whnf
                              refine cond_t w94 ?_
                              conv => whnf
                              refine field_addr rfl ?_
                              conv => whnf
                              refine RStep.of (load1_s r0 rfl rfl ?_)
                              conv => whnf
                              refine field_addr rfl ?_
                              conv => whnf
                              refine RStep.of (load1_s r0 rfl rfl ?_)
                              obtain ⟨x105, q105, hl927⟩ := bnd hl927
                              conv => whnf
                              refine call_fn (fanout_Stream_Read_ok q105 hy0_4_0) (.cons r1 (.cons r1 (.cons r1 .nil))) ?_
                              rintro _ K105 _ l105 ⟨a105_0, c105_0, a105_1, c105_1, m105_2, rfl, h105_0, h105_1, rfl⟩
                              conv => whnf
                              refine RStep.of (loadn_s r5 rfl (Nat.le_of_ble_eq_true rfl) ?_)
                              conv => whnf
                              refine field_addr rfl ?_
                              conv => whnf
                              refine RStep.of (load1_s r4 rfl rfl ?_)
                              conv => whnf
                              refine field_addr rfl ?_
                              conv => whnf
                              refine RStep.of (load1_s r4 rfl rfl ?_)
                              obtain ⟨x115, q115, hl927⟩ := bnd hl927
                              conv => whnf
                              refine call_fn (ref28_Read_ok (s := (⟨y0_0, y0_1, y0_2, y0_3⟩ : S_ref28_Stream)) q115 (y0_h2.mono l105) (y0_h3.mono l105)) .nil ?_
                              rintro _ K115 _ l115 ⟨a115_0, c115_0, a115_1, c115_1, a115_2, c115_2, rfl, h115_0, h115_1, h115_2, rfl⟩
                              conv => whnf
                              refine store_rule r5 rfl ?_
                              conv => whnf
                              refine ⟨rfl, rfl, (Nat.le_of_ble_eq_true rfl), ?_⟩
                              obtain ⟨x121, q121, hl927⟩ := bnd hl927
                              conv => whnf
                              refine call_fn (base_Num_ok q121) .nil ?_
                              rintro _ K121 _ l121 ⟨rfl, rfl⟩
                              conv => whnf
                              refine neq_int ?_
                              conv => whnf
                              refine cond_s (fun g124_30 => ?_) (fun g124_30 => ?_)
                              · conv => whnf
                                refine cond_t g124_30 ?_
                                conv => whnf
                                refine cond_t g124_30 ?_
                                conv => whnf
                                refine cond_t g124_30 ?_
                                obtain ⟨x134, e134, hl927⟩ := bnd hl927
                                replace e134 := ift (or_t g124_30) e134
                                conv => whnf
                                refine cond_T ?_
                                conv => whnf
                                refine cond_T ?_
                                conv => whnf
                                refine cond_T ?_
                                conv => whnf
                                refine cond_T ?_
                                conv => whnf
                                refine cond_T ?_
                                conv => whnf
                                refine cond_go rfl ?_
                                conv => whnf
                                refine cond_T ?_
                                replace hl927 := ift (si e134).symm hl927
                                obtain rfl := si hl927
                                replace hl0 := elr hl0
                                obtain rfl := si hl0
                                replace hm := elr hm
                                obtain rfl := si hm
                                conv => whnf
                                refine EndStep.mk _ ((((((((((l19.trans l21).trans l28).trans l33).trans l37).trans lc0_0).trans lc0_1).trans lk0).trans l105).trans l115).trans l121) ⟨rfl, rfl⟩ (ConvH.of (.cons r6 .nil))
                              · conv => whnf
                                refine cond_f g124_30 ?_
                                conv => whnf
                                refine cond_f g124_30 ?_
                                conv => whnf
                                refine neq_int ?_
                                conv => whnf
                                refine cond_f g124_30 ?_
                                obtain ⟨x134, e134, hl927⟩ := bnd hl927
                                conv => whnf
                                refine cond_s (fun g129_30 => ?_) (fun g129_30 => ?_)
                                · replace e134 := ift (or_u g124_30 g129_30) e134
                                  conv => whnf
                                  refine cond_t g129_30 ?_
                                  conv => whnf
                                  refine cond_t g129_30 ?_
                                  conv => whnf
                                  refine cond_t g129_30 ?_
                                  conv => whnf
                                  refine cond_t g129_30 ?_
                                  conv => whnf
                                  refine cond_go rfl ?_
                                  conv => whnf
                                  refine cond_T ?_
                                  replace hl927 := ift (si e134).symm hl927
                                  obtain rfl := si hl927
                                  replace hl0 := elr hl0
                                  obtain rfl := si hl0
                                  replace hm := elr hm
                                  obtain rfl := si hm
                                  conv => whnf
                                  refine EndStep.mk _ ((((((((((l19.trans l21).trans l28).trans l33).trans l37).trans lc0_0).trans lc0_1).trans lk0).trans l105).trans l115).trans l121) ⟨rfl, rfl⟩ (ConvH.of (.cons r6 .nil))
                                · replace e134 := iff_ (or_f g124_30 g129_30) e134
                                  conv => whnf
                                  refine cond_f g129_30 ?_
                                  conv => whnf
                                  refine cond_f g129_30 ?_
                                  obtain ⟨x132, q132, e134⟩ := bnd e134
                                  conv => whnf
                                  refine call_fn (Fn.lend Try.call15 (fun K132_0 l132_0 f132_0 => (base_Bytes_ok q132 f132_0 rfl (h115_2.mono (l121.trans l132_0)) rfl)) (by exact fun _ _ _ _ h => h)) (.cons r1 .nil) ?_
                                  rintro _ K132 _ l132 ⟨_, rfl, rfl, rfl⟩
                                  conv => whnf
                                  refine cond_f g129_30 ?_
                                  conv => whnf
                                  refine un_not ?_
                                  conv => whnf
                                  refine cond_f g129_30 ?_
                                  conv => whnf
                                  refine cond_go rfl ?_
                                  conv => whnf
                                  refine cond_s (fun w134 => ?_) (fun w134 => ?_)
                                  · replace hl927 := ift ((si e134).symm.trans (not_t (ni_t w134))) hl927
                                    obtain rfl := si hl927
                                    replace hl0 := elr hl0
                                    obtain rfl := si hl0
                                    replace hm := elr hm
                                    obtain rfl := si hm
                                    conv => whnf
                                    refine EndStep.mk _ (((((((((((l19.trans l21).trans l28).trans l33).trans l37).trans lc0_0).trans lc0_1).trans lk0).trans l105).trans l115).trans l121).trans l132) ⟨rfl, rfl⟩ (ConvH.of (.cons r6 .nil))
                                  · replace hl927 := iff_ ((si e134).symm.trans (not_f (ni_f w134))) hl927
                                    conv => whnf
                                    refine MeetStep.mk ((x115.1.Limit, x115.1.State, x115.1.Data, x115.1.Readers, x105.2.2.2), a115_0, c115_0, a115_1, c115_1, a105_1, c105_1, m105_2) trivial (by repeat (first | exact trivial | refine And.intro rfl ?_)) (ConvH.of (.cons r2 (.cons r2 (.cons r2 (.cons r2 (.cons r1 (.cons r1 .nil))))))) (((l105.trans l115).trans l121).trans l132) ⟨(h115_0.mono (l121.trans l132)), (h115_1.mono (l121.trans l132)), h105_1, (si hl927).symm⟩
                            · replace hl927 := iff_ w94 hl927
                              conv => whnf
                              refine eq_int ?_
                              conv => whnf
                              refine cond_go rfl ?_
                              conv => whnf
                              refine cond_s (fun w94 => ?_) (fun w94 => ?_)
                              · replace hl927 := ift w94 hl927
                                conv => whnf
                                refine field_addr rfl ?_
                                conv => whnf
                                refine RStep.of (load1_s r0 rfl rfl ?_)
                                conv => whnf
                                refine field_addr rfl ?_
                                conv => whnf
                                refine RStep.of (load1_s r0 rfl rfl ?_)
                                obtain ⟨x105, q105, hl927⟩ := bnd hl927
                                conv => whnf
                                refine call_fn (fanout_Stream_Read_ok q105 hy0_4_0) (.cons r1 (.cons r1 (.cons r1 .nil))) ?_
                                rintro _ K105 _ l105 ⟨a105_0, c105_0, a105_1, c105_1, m105_2, rfl, h105_0, h105_1, rfl⟩
                                conv => whnf
                                refine RStep.of (loadn_s r5 rfl (Nat.le_of_ble_eq_true rfl) ?_)
                                conv => whnf
                                refine field_addr rfl ?_
                                conv => whnf
                                refine RStep.of (load1_s r4 rfl rfl ?_)
                                conv => whnf
                                refine field_addr rfl ?_
                                conv => whnf
                                refine RStep.of (load1_s r4 rfl rfl ?_)
                                obtain ⟨x115, q115, hl927⟩ := bnd hl927
                                conv => whnf
                                refine call_fn (ref28_Read_ok (s := (⟨y0_0, y0_1, y0_2, y0_3⟩ : S_ref28_Stream)) q115 (y0_h2.mono l105) (y0_h3.mono l105)) .nil ?_
                                rintro _ K115 _ l115 ⟨a115_0, c115_0, a115_1, c115_1, a115_2, c115_2, rfl, h115_0, h115_1, h115_2, rfl⟩
                                conv => whnf
                                refine store_rule r5 rfl ?_
                                conv => whnf
                                refine ⟨rfl, rfl, (Nat.le_of_ble_eq_true rfl), ?_⟩
                                obtain ⟨x121, q121, hl927⟩ := bnd hl927
                                conv => whnf
                                refine call_fn (base_Num_ok q121) .nil ?_
                                rintro _ K121 _ l121 ⟨rfl, rfl⟩
                                conv => whnf
                                refine neq_int ?_
                                conv => whnf
                                refine cond_s (fun g124_30 => ?_) (fun g124_30 => ?_)
                                · conv => whnf
                                  refine cond_t g124_30 ?_
                                  conv => whnf
                                  refine cond_t g124_30 ?_
                                  conv => whnf
                                  refine cond_t g124_30 ?_
                                  obtain ⟨x134, e134, hl927⟩ := bnd hl927
                                  replace e134 := ift (or_t g124_30) e134
                                  conv => whnf
                                  refine cond_T ?_
                                  conv => whnf
                                  refine cond_T ?_
                                  conv => whnf
                                  refine cond_T ?_
                                  conv => whnf
                                  refine cond_T ?_
                                  conv => whnf
                                  refine cond_T ?_
                                  conv => whnf
                                  refine cond_go rfl ?_
                                  conv => whnf
                                  refine cond_T ?_
                                  replace hl927 := ift (si e134).symm hl927
                                  obtain rfl := si hl927
                                  replace hl0 := elr hl0
                                  obtain rfl := si hl0
                                  replace hm := elr hm
                                  obtain rfl := si hm
                                  conv => whnf
                                  refine EndStep.mk _ ((((((((((l19.trans l21).trans l28).trans l33).trans l37).trans lc0_0).trans lc0_1).trans lk0).trans l105).trans l115).trans l121) ⟨rfl, rfl⟩ (ConvH.of (.cons r6 .nil))
                                · conv => whnf
                                  refine cond_f g124_30 ?_
                                  conv => whnf
                                  refine cond_f g124_30 ?_
                                  conv => whnf
                                  refine neq_int ?_
                                  conv => whnf
                                  refine cond_f g124_30 ?_
                                  obtain ⟨x134, e134, hl927⟩ := bnd hl927
                                  conv => whnf
                                  refine cond_s (fun g129_30 => ?_) (fun g129_30 => ?_)
                                  · replace e134 := ift (or_u g124_30 g129_30) e134
                                    conv => whnf
                                    refine cond_t g129_30 ?_
                                    conv => whnf
                                    refine cond_t g129_30 ?_
                                    conv => whnf
                                    refine cond_t g129_30 ?_
                                    conv => whnf
                                    refine cond_t g129_30 ?_
                                    conv => whnf
                                    refine cond_go rfl ?_
                                    conv => whnf
                                    refine cond_T ?_
                                    replace hl927 := ift (si e134).symm hl927
                                    obtain rfl := si hl927
                                    replace hl0 := elr hl0
                                    obtain rfl := si hl0
                                    replace hm := elr hm
                                    obtain rfl := si hm
                                    conv => whnf
                                    refine EndStep.mk _ ((((((((((l19.trans l21).trans l28).trans l33).trans l37).trans lc0_0).trans lc0_1).trans lk0).trans l105).trans l115).trans l121) ⟨rfl, rfl⟩ (ConvH.of (.cons r6 .nil))
                                  · replace e134 := iff_ (or_f g124_30 g129_30) e134
                                    conv => whnf
                                    refine cond_f g129_30 ?_
                                    conv => whnf
                                    refine cond_f g129_30 ?_
                                    obtain ⟨x132, q132, e134⟩ := bnd e134
                                    conv => whnf
                                    refine call_fn (Fn.lend Try.call15 (fun K132_0 l132_0 f132_0 => (base_Bytes_ok q132 f132_0 rfl (h115_2.mono (l121.trans l132_0)) rfl)) (by exact fun _ _ _ _ h => h)) (.cons r1 .nil) ?_
                                    rintro _ K132 _ l132 ⟨_, rfl, rfl, rfl⟩
                                    conv => whnf
                                    refine cond_f g129_30 ?_
                                    conv => whnf
                                    refine un_not ?_
                                    conv => whnf
                                    refine cond_f g129_30 ?_
                                    conv => whnf
                                    refine cond_go rfl ?_
                                    conv => whnf
                                    refine cond_s (fun w134 => ?_) (fun w134 => ?_)
                                    · replace hl927 := ift ((si e134).symm.trans (not_t (ni_t w134))) hl927
                                      obtain rfl := si hl927
                                      replace hl0 := elr hl0
                                      obtain rfl := si hl0
                                      replace hm := elr hm
                                      obtain rfl := si hm
                                      conv => whnf
                                      refine EndStep.mk _ (((((((((((l19.trans l21).trans l28).trans l33).trans l37).trans lc0_0).trans lc0_1).trans lk0).trans l105).trans l115).trans l121).trans l132) ⟨rfl, rfl⟩ (ConvH.of (.cons r6 .nil))
                                    · replace hl927 := iff_ ((si e134).symm.trans (not_f (ni_f w134))) hl927
                                      conv => whnf
                                      refine MeetStep.mk ((x115.1.Limit, x115.1.State, x115.1.Data, x115.1.Readers, x105.2.2.2), a115_0, c115_0, a115_1, c115_1, a105_1, c105_1, m105_2) trivial (by repeat (first | exact trivial | refine And.intro rfl ?_)) (ConvH.of (.cons r2 (.cons r2 (.cons r2 (.cons r2 (.cons r1 (.cons r1 .nil))))))) (((l105.trans l115).trans l121).trans l132) ⟨(h115_0.mono (l121.trans l132)), (h115_1.mono (l121.trans l132)), h105_1, (si hl927).symm⟩
                              · replace hl927 := iff_ w94 hl927
                                conv => whnf
                                refine eq_int ?_
                                conv => whnf
                                refine cond_go rfl ?_
                                conv => whnf
                                refine cond_s (fun w135 => ?_) (fun w135 => ?_)
                                · replace hl927 := ift w135 hl927
                                  conv => whnf
                                  refine RStep.of (loadn_s r4 rfl (Nat.le_of_ble_eq_true rfl) ?_)
                                  conv => whnf
                                  refine field_addr rfl ?_
                                  conv => whnf
                                  refine RStep.of (load1_s r0 rfl rfl ?_)
                                  obtain ⟨x141, q141, hl927⟩ := bnd hl927
                                  conv => whnf
                                  refine call_fn (ref28_Detach_ok (s := (⟨y0_0, y0_1, y0_2, y0_3⟩ : S_ref28_Stream)) q141 y0_h2 y0_h3) .nil ?_
                                  rintro _ K141 _ l141 ⟨a141_0, c141_0, a141_1, c141_1, rfl, h141_0, h141_1, rfl⟩
                                  conv => whnf
                                  refine store_rule r4 rfl ?_
                                  conv => whnf
                                  refine ⟨rfl, rfl, (Nat.le_of_ble_eq_true rfl), ?_⟩
                                  conv => whnf
                                  refine field_addr rfl ?_
                                  conv => whnf
                                  refine RStep.of (load1_s r1 rfl rfl ?_)
                                  obtain ⟨x147, q147, hl927⟩ := bnd hl927
                                  conv => whnf
                                  refine call_fn (fanout_Stream_Detach_ok q147 hy0_4_0) (.cons r2 (.cons r2 (.cons r2 .nil))) ?_
                                  rintro _ K147 _ l147 ⟨a147_0, c147_0, m147_1, rfl, h147_0, rfl⟩
                                  conv => whnf
                                  refine neq_bool rfl ?_
                                  conv => whnf
                                  refine cond_go rfl ?_
                                  conv => whnf
                                  refine cond_s (fun w149 => ?_) (fun w149 => ?_)
                                  · replace hl927 := ift w149 hl927
                                    obtain rfl := si hl927
                                    replace hl0 := elr hl0
                                    obtain rfl := si hl0
                                    replace hm := elr hm
                                    obtain rfl := si hm
                                    conv => whnf
                                    refine EndStep.mk _ (((((((((l19.trans l21).trans l28).trans l33).trans l37).trans lc0_0).trans lc0_1).trans lk0).trans l141).trans l147) ⟨rfl, rfl⟩ (ConvH.of (.cons r5 .nil))
                                  · replace hl927 := iff_ w149 hl927
                                    conv => whnf
                                    refine MeetStep.mk ((x141.1.Limit, x141.1.State, x141.1.Data, x141.1.Readers, x147.2), a141_0, c141_0, a141_1, c141_1, a147_0, c147_0, m147_1) trivial (by repeat (first | exact trivial | refine And.intro rfl ?_)) (ConvH.of (.cons r0 (.cons r0 (.cons r0 (.cons r1 (.cons r0 (.cons r0 .nil))))))) (l141.trans l147) ⟨(h141_0.mono l147), (h141_1.mono l147), h147_0, (si hl927).symm⟩
                                · replace hl927 := iff_ w135 hl927
                                  conv => whnf
                                  refine eq_int ?_
                                  conv => whnf
                                  refine cond_go rfl ?_
                                  conv => whnf
                                  refine cond_s (fun w150 => ?_) (fun w150 => ?_)
                                  · replace hl927 := ift w150 hl927
                                    conv => whnf
                                    refine RStep.of (loadn_s r4 rfl (Nat.le_of_ble_eq_true rfl) ?_)
                                    obtain ⟨x154, q154, hl927⟩ := bnd hl927
                                    conv => whnf
                                    refine call_fn (ref28_Close_ok (s := (⟨y0_0, y0_1, y0_2, y0_3⟩ : S_ref28_Stream)) q154 y0_h2 y0_h3) .nil ?_
                                    rintro _ K154 _ l154 ⟨a154_0, c154_0, a154_1, c154_1, rfl, h154_0, h154_1, rfl⟩
                                    conv => whnf
                                    refine store_rule r4 rfl ?_
                                    conv => whnf
                                    refine ⟨rfl, rfl, (Nat.le_of_ble_eq_true rfl), ?_⟩
                                    obtain ⟨x158, q158, hl927⟩ := bnd hl927
                                    conv => whnf
                                    refine call_fn (fanout_Stream_End_ok q158 hy0_4_0) (.cons r2 (.cons r2 (.cons r2 .nil))) ?_
                                    rintro _ K158 _ l158 ⟨a158_0, c158_0, m158_1, rfl, h158_0, rfl⟩
                                    obtain ⟨x159, q159, hl927⟩ := bnd hl927
                                    conv => whnf
                                    refine call_fn (base_Num_ok q159) .nil ?_
                                    rintro _ K159 _ l159 ⟨rfl, rfl⟩
                                    conv => whnf
                                    refine neq_int ?_
                                    conv => whnf
                                    refine cond_go rfl ?_
                                    conv => whnf
                                    refine cond_s (fun w161 => ?_) (fun w161 => ?_)
                                    · replace hl927 := ift w161 hl927
                                      obtain rfl := si hl927
                                      replace hl0 := elr hl0
                                      obtain rfl := si hl0
                                      replace hm := elr hm
                                      obtain rfl := si hm
                                      conv => whnf
                                      refine EndStep.mk _ ((((((((((l19.trans l21).trans l28).trans l33).trans l37).trans lc0_0).trans lc0_1).trans lk0).trans l154).trans l158).trans l159) ⟨rfl, rfl⟩ (ConvH.of (.cons r5 .nil))
                                    · replace hl927 := iff_ w161 hl927
                                      conv => whnf
                                      refine MeetStep.mk ((x154.1.Limit, x154.1.State, x154.1.Data, x154.1.Readers, x158.2), a154_0, c154_0, a154_1, c154_1, a158_0, c158_0, m158_1) trivial (by repeat (first | exact trivial | refine And.intro rfl ?_)) (ConvH.of (.cons r0 (.cons r0 (.cons r0 (.cons r1 (.cons r0 (.cons r0 .nil))))))) ((l154.trans l158).trans l159) ⟨(h154_0.mono (l158.trans l159)), (h154_1.mono (l158.trans l159)), h158_0, (si hl927).symm⟩
                                  · replace hl927 := iff_ w150 hl927
                                    conv => whnf
                                    refine eq_int ?_
                                    conv => whnf
                                    refine cond_go rfl ?_
                                    conv => whnf
                                    refine cond_s (fun w162 => ?_) (fun w162 => ?_)
                                    · replace hl927 := ift w162 hl927
                                      conv => whnf
                                      refine RStep.of (loadn_s r4 rfl (Nat.le_of_ble_eq_true rfl) ?_)
                                      obtain ⟨x166, q166, hl927⟩ := bnd hl927
                                      conv => whnf
                                      refine call_fn (ref28_Close_ok (s := (⟨y0_0, y0_1, y0_2, y0_3⟩ : S_ref28_Stream)) q166 y0_h2 y0_h3) .nil ?_
                                      rintro _ K166 _ l166 ⟨a166_0, c166_0, a166_1, c166_1, rfl, h166_0, h166_1, rfl⟩
                                      conv => whnf
                                      refine store_rule r4 rfl ?_
                                      conv => whnf
                                      refine ⟨rfl, rfl, (Nat.le_of_ble_eq_true rfl), ?_⟩
                                      obtain ⟨x170, q170, hl927⟩ := bnd hl927
                                      conv => whnf
                                      refine call_fn (fanout_Stream_Abort_ok q170 hy0_4_0) (.cons r2 (.cons r2 (.cons r2 .nil))) ?_
                                      rintro _ K170 _ l170 ⟨a170_0, c170_0, m170_1, rfl, h170_0, rfl⟩
                                      obtain ⟨x171, q171, hl927⟩ := bnd hl927
                                      conv => whnf
                                      refine call_fn (base_Num_ok q171) .nil ?_
                                      rintro _ K171 _ l171 ⟨rfl, rfl⟩
                                      conv => whnf
                                      refine neq_int ?_
                                      conv => whnf
                                      refine cond_go rfl ?_
                                      conv => whnf
                                      refine cond_s (fun w173 => ?_) (fun w173 => ?_)
                                      · replace hl927 := ift w173 hl927
                                        obtain rfl := si hl927
                                        replace hl0 := elr hl0
                                        obtain rfl := si hl0
                                        replace hm := elr hm
                                        obtain rfl := si hm
                                        conv => whnf
                                        refine EndStep.mk _ ((((((((((l19.trans l21).trans l28).trans l33).trans l37).trans lc0_0).trans lc0_1).trans lk0).trans l166).trans l170).trans l171) ⟨rfl, rfl⟩ (ConvH.of (.cons r5 .nil))
                                      · replace hl927 := iff_ w173 hl927
                                        conv => whnf
                                        refine MeetStep.mk ((x166.1.Limit, x166.1.State, x166.1.Data, x166.1.Readers, x170.2), a166_0, c166_0, a166_1, c166_1, a170_0, c170_0, m170_1) trivial (by repeat (first | exact trivial | refine And.intro rfl ?_)) (ConvH.of (.cons r0 (.cons r0 (.cons r0 (.cons r1 (.cons r0 (.cons r0 .nil))))))) ((l166.trans l170).trans l171) ⟨(h166_0.mono (l170.trans l171)), (h166_1.mono (l170.trans l171)), h170_0, (si hl927).symm⟩
                                    · replace hl927 := iff_ w162 hl927
                                      conv => whnf
                                      refine RStep.of (loadn_s r4 rfl (Nat.le_of_ble_eq_true rfl) ?_)
                                      conv => whnf
                                      refine field_addr rfl ?_
                                      conv => whnf
                                      refine RStep.of (load1_s r0 rfl rfl ?_)
                                      obtain ⟨x62, q62, hl927⟩ := bnd hl927
                                      conv => whnf
                                      refine call_fn (ref28_Write_ok (s := (⟨y0_0, y0_1, y0_2, y0_3⟩ : S_ref28_Stream)) q62 y0_h2 y0_h3 h54_0 rfl) .nil ?_
                                      rintro _ K62 _ l62 ⟨a62_0, c62_0, a62_1, c62_1, rfl, h62_0, h62_1, rfl⟩
                                      conv => whnf
                                      refine store_rule r4 rfl ?_
                                      conv => whnf
                                      refine ⟨rfl, rfl, (Nat.le_of_ble_eq_true rfl), ?_⟩
                                      conv => whnf
                                      refine field_addr rfl ?_
                                      conv => whnf
                                      refine RStep.of (load1_s r1 rfl rfl ?_)
                                      obtain ⟨x68, q68, hl927⟩ := bnd hl927
                                      conv => whnf
                                      refine call_fn (fanout_Stream_Write_ok q68 hy0_4_0 (h54_0.mono l62) rfl) (.cons r2 (.cons r2 (.cons r2 .nil))) ?_
                                      rintro _ K68 _ l68 ⟨a68_0, c68_0, m68_1, rfl, h68_0, rfl⟩
                                      obtain ⟨x69, q69, hl927⟩ := bnd hl927
                                      conv => whnf
                                      refine call_fn (base_Num_ok q69) .nil ?_
                                      rintro _ K69 _ l69 ⟨rfl, rfl⟩
                                      conv => whnf
                                      refine neq_int ?_
                                      conv => whnf
                                      refine cond_go rfl ?_
                                      conv => whnf
                                      refine cond_s (fun w71 => ?_) (fun w71 => ?_)
                                      · replace hl927 := ift w71 hl927
                                        obtain rfl := si hl927
                                        replace hl0 := elr hl0
                                        obtain rfl := si hl0
                                        replace hm := elr hm
                                        obtain rfl := si hm
                                        conv => whnf
                                        refine EndStep.mk _ ((((((((((l19.trans l21).trans l28).trans l33).trans l37).trans lc0_0).trans lc0_1).trans lk0).trans l62).trans l68).trans l69) ⟨rfl, rfl⟩ (ConvH.of (.cons r5 .nil))
                                      · replace hl927 := iff_ w71 hl927
                                        conv => whnf
                                        refine MeetStep.mk ((x62.1.Limit, x62.1.State, x62.1.Data, x62.1.Readers, x68.2), a62_0, c62_0, a62_1, c62_1, a68_0, c68_0, m68_1) trivial (by repeat (first | exact trivial | refine And.intro rfl ?_)) (ConvH.of (.cons r0 (.cons r0 (.cons r0 (.cons r1 (.cons r0 (.cons r0 .nil))))))) ((l62.trans l68).trans l69) ⟨(h62_0.mono (l68.trans l69)), (h62_1.mono (l68.trans l69)), h68_0, (si hl927).symm⟩
                  · rintro ⟨t927, t927_a2, t927_c2, t927_a3, t927_c3, at927_4_0, ct927_4_0, mt927_4_1⟩ Kt927 lt927 ⟨t927_h2, t927_h3, ht927_4_0, rfl⟩ j927
                    replace hl0 := elg hl0
                    conv => whnf
                    refine draw_go ⟨⟨[], false⟩, _, [(_, _)]⟩ (by kernel_rfl) ⟨Hp.Le.refl _, (ConvH.of (.cons r4 .nil))⟩ ?_
                    obtain ⟨x175, q175, hl0⟩ := bnd hl0
                    conv => whnf
                    refine call_fn (fanout_Stream_Readers_ok q175 ht927_4_0) (.cons r0 (.cons r0 (.cons r0 .nil))) ?_
                    rintro _ K175 _ l175 ⟨a175_0, c175_0, rfl, h175_0, rfl⟩
                    conv => whnf
                    refine ⟨⟨l175, (ConvH.of (.cons r5 .nil))⟩, ?_⟩
                    conv => whnf
                    refine loadn_l m0 rfl (Nat.le_of_ble_eq_true rfl) ?_
                    obtain ⟨x177, q177, hl0⟩ := bnd hl0
                    conv => whnf
                    refine call_fn (ref28_IDs_ok (s := (⟨t927.1, t927.2.1, t927.2.2.1, t927.2.2.2.1⟩ : S_ref28_Stream)) q177 (t927_h2.mono l175) (t927_h3.mono l175)) .nil ?_
                    rintro _ K177 _ l177 ⟨a177_0, c177_0, rfl, h177_0, rfl⟩
                    conv => whnf
                    refine ⟨⟨(l175.trans l177), (ConvH.of (.cons r6 .nil))⟩, ?_⟩
                    obtain ⟨x178, q178, hl0⟩ := bnd hl0
                    conv => whnf
                    refine call_fn (Fn.lend Try.call33 (fun K178_0 l178_0 f178_0 => (Fn.lend Try.call33 (fun K178_1 l178_1 f178_1 => (base_Ints_ok q178 (f178_0.mono l178_1) rfl f178_1 rfl)) (by exact fun _ _ _ _ h => h))) (by exact fun _ _ _ _ h => h)) (.cons r1 (.cons r0 .nil)) ?_
                    rintro _ K178 _ l178 ⟨_, rfl, _, rfl, rfl, rfl⟩
                    conv => whnf
                    refine ⟨⟨((l175.trans l177).trans l178), (ConvH.of (.cons r6 .nil))⟩, ?_⟩
                    conv => whnf
                    refine un_not ?_
                    obtain ⟨x186, e186, hl0⟩ := bnd hl0
                    conv => whnf
                    refine cond_s (fun g180_45 => ?_) (fun g180_45 => ?_)
                    · replace e186 := ift (not_t (ni_t g180_45)) e186
                      conv => whnf
                      refine cond_t g180_45 ?_
                      conv => whnf
                      refine cond_t g180_45 ?_
                      conv => whnf
                      refine cond_t g180_45 ?_
                      conv => whnf
                      refine cond_t g180_45 ?_
                      conv => whnf
                      refine cond_t g180_45 ?_
                      obtain ⟨x194, e194, hl0⟩ := bnd hl0
                      replace e194 := ift (si e186).symm e194
                      conv => whnf
                      refine cond_T ?_
                      conv => whnf
                      refine cond_T ?_
                      conv => whnf
                      refine cond_T ?_
                      conv => whnf
                      refine cond_T ?_
                      conv => whnf
                      refine cond_T ?_
                      conv => whnf
                      refine cond_T ?_
                      conv => whnf
                      refine cond_T ?_
                      conv => whnf
                      refine cond_go rfl ?_
                      conv => whnf
                      refine cond_T ?_
                      replace hl0 := ift (si e194).symm hl0
                      obtain rfl := si hl0
                      replace hm := elr hm
                      obtain rfl := si hm
                      conv => whnf
                      refine EndStep.mk _ (((((((((((l19.trans l21).trans l28).trans l33).trans l37).trans lc0_0).trans lc0_1).trans lk0).trans lt927).trans l175).trans l177).trans l178) ⟨rfl, rfl⟩ (ConvH.of (.cons r7 .nil))
                    · replace e186 := iff_ (not_f (ni_f g180_45)) e186
                      conv => whnf
                      refine cond_f g180_45 ?_
                      obtain ⟨x182, q182, e186⟩ := bnd e186
                      conv => whnf
                      refine call_fn (fanout_Stream_Least_ok q182 ht927_4_0) (.cons r2 (.cons r2 (.cons r2 .nil))) ?_
                      rintro _ K182 _ l182 ⟨rfl, rfl⟩
                      conv => whnf
                      refine ⟨⟨(((l175.trans l177).trans l178).trans l182), (ConvH.of (.cons r6 .nil))⟩, ?_⟩
                      conv => whnf
                      refine cond_f g180_45 ?_
                      conv => whnf
                      refine loadn_l m0 rfl (Nat.le_of_ble_eq_true rfl) ?_
                      conv => whnf
                      refine cond_f g180_45 ?_
                      obtain ⟨x184, q184, e186⟩ := bnd e186
                      conv => whnf
                      refine call_fn (ref28_Least_ok (s := (⟨t927.1, t927.2.1, t927.2.2.1, t927.2.2.2.1⟩ : S_ref28_Stream)) q184 (t927_h2.mono (((l175.trans l177).trans l178).trans l182)) (t927_h3.mono (((l175.trans l177).trans l178).trans l182))) .nil ?_
                      rintro _ K184 _ l184 ⟨rfl, rfl⟩
                      conv => whnf
                      refine ⟨⟨((((l175.trans l177).trans l178).trans l182).trans l184), (ConvH.of (.cons r6 .nil))⟩, ?_⟩
                      conv => whnf
                      refine cond_f g180_45 ?_
                      conv => whnf
                      refine neq_int ?_
                      conv => whnf
                      refine cond_f g180_45 ?_
                      obtain ⟨x194, e194, hl0⟩ := bnd hl0
                      conv => whnf
                      refine cond_s (fun g187_45 => ?_) (fun g187_45 => ?_)
                      · replace e194 := ift ((si e186).symm.trans g187_45) e194
                        conv => whnf
                        refine cond_t g187_45 ?_
                        conv => whnf
                        refine cond_t g187_45 ?_
                        conv => whnf
                        refine cond_t g187_45 ?_
                        conv => whnf
                        refine cond_t g187_45 ?_
                        conv => whnf
                        refine cond_t g187_45 ?_
                        conv => whnf
                        refine cond_t g187_45 ?_
                        conv => whnf
                        refine cond_go rfl ?_
                        conv => whnf
                        refine cond_T ?_
                        replace hl0 := ift (si e194).symm hl0
                        obtain rfl := si hl0
                        replace hm := elr hm
                        obtain rfl := si hm
                        conv => whnf
                        refine EndStep.mk _ (((((((((((((l19.trans l21).trans l28).trans l33).trans l37).trans lc0_0).trans lc0_1).trans lk0).trans lt927).trans l175).trans l177).trans l178).trans l182).trans l184) ⟨rfl, rfl⟩ (ConvH.of (.cons r7 .nil))
                      · replace e194 := iff_ ((si e186).symm.trans g187_45) e194
                        conv => whnf
                        refine cond_f g187_45 ?_
                        obtain ⟨x189, q189, e194⟩ := bnd e194
                        conv => whnf
                        refine call_fn (fanout_Stream_Written_ok q189 ht927_4_0) (.cons r0 (.cons r0 (.cons r0 .nil))) ?_
                        rintro _ K189 _ l189 ⟨rfl, rfl⟩
                        conv => whnf
                        refine ⟨⟨(((((l175.trans l177).trans l178).trans l182).trans l184).trans l189), (ConvH.of (.cons r6 .nil))⟩, ?_⟩
                        conv => whnf
                        refine cond_f g187_45 ?_
                        conv => whnf
                        refine field_addr rfl ?_
                        conv => whnf
                        refine cond_f g187_45 ?_
                        conv => whnf
                        refine load1_l m0 rfl rfl ?_
                        conv => whnf
                        refine cond_f g187_45 ?_
                        conv => whnf
                        refine len_sliceN rfl ?_
                        conv => whnf
                        refine cond_f g187_45 ?_
                        conv => whnf
                        refine neq_int ?_
                        conv => whnf
                        refine cond_f g187_45 ?_
                        conv => whnf
                        refine cond_go rfl ?_
                        conv => whnf
                        refine cond_s (fun w194 => ?_) (fun w194 => ?_)
                        · replace hl0 := ift ((si e194).symm.trans w194) hl0
                          obtain rfl := si hl0
                          replace hm := elr hm
                          obtain rfl := si hm
                          conv => whnf
                          refine EndStep.mk _ ((((((((((((((l19.trans l21).trans l28).trans l33).trans l37).trans lc0_0).trans lc0_1).trans lk0).trans lt927).trans l175).trans l177).trans l178).trans l182).trans l184).trans l189) ⟨rfl, rfl⟩ (ConvH.of (.cons r7 .nil))
                        · replace hl0 := iff_ ((si e194).symm.trans w194) hl0
                          conv => whnf
                          refine int_in (cntz hx0 hk0) ?_
                          conv => whnf
                          refine RoundStep.mk (i0 + 1, t927.1, t927.2.1, t927.2.2.1, t927.2.2.2.1, t927.2.2.2.2, t927_a2, t927_c2, t927_a3, t927_c3, at927_4_0, ct927_4_0, mt927_4_1) ⟨rfl, trivial⟩ (by repeat (first | exact trivial | refine And.intro rfl ?_)) (ConvH.of (.cons r0 (.cons r0 (.cons r0 (.cons r3 (.cons r3 .nil)))))) (((((((lk0.trans lt927).trans l175).trans l177).trans l178).trans l182).trans l184).trans l189) (ltm hx0) ⟨(t927_h2.mono (((((l175.trans l177).trans l178).trans l182).trans l184).trans l189)), (t927_h3.mono (((((l175.trans l177).trans l178).trans l182).trans l184).trans l189)), ht927_4_0, hl0⟩
                · rw [lty w0, law28_FanoutPlays_L0b.eq_1] at hl0
                  conv => whnf
                  refine cond_T ?_
                  conv => whnf
                  refine MeetStep.mk ((y0_0, y0_1, y0_2, y0_3, y0_4), y0_a2, y0_c2, y0_a3, y0_c3, ay0_4_0, cy0_4_0, my0_4_1) trivial (by repeat (first | exact trivial | refine And.intro rfl ?_)) (ConvH.of (.cons r0 (.cons r0 (.cons r0 (.cons r0 (.cons r0 .nil)))))) lk0 ⟨y0_h2, y0_h3, hy0_4_0, (si hl0).symm⟩
              · rintro ⟨t0, t0_a2, t0_c2, t0_a3, t0_c3, at0_4_0, ct0_4_0, mt0_4_1⟩ Kt0 lt0 ⟨t0_h2, t0_h3, ht0_4_0, rfl⟩ j0
                replace hm := elg hm
                obtain rfl := si hm
                conv => whnf
                refine EndStep.mk _ (((((((l19.trans l21).trans l28).trans l33).trans l37).trans lc0_0).trans lc0_1).trans lt0) ⟨rfl, rfl⟩ (ConvH.of (.cons r4 .nil))
