/- Arrays of fixed length: their elements' addresses, and how they are read. -/
import Derived.Test.YtpmdpondlmkojaaSL18
import Derived.OpenShut
set_option linter.unusedVariables false
set_option linter.unusedSimpArgs false
namespace Go.SL
open Go Go.ChangeShapes Go.WideShapes Go.ChangeAt Go.RowKit
section
variable {P : Program} {Bd : Nat}
theorem arr_addr {t e k sz b off : Nat} {n : Int} (i : Nat) {c : Value → Prop} (hn : n = (i : Int)) (ht : P.underlying t = some (.array k e)) (hs : tySize P e = some sz) (hi : Nat.blt i k = true)
    (h : forceN (off + i * sz) fun o' => c (.pointer (some ⟨b, o', none⟩))) : NStep P (.indexAddr t (.pointer (some ⟨b, off, none⟩)) (.int .i64 n)) c := by
  subst hn
  rw [forceN_eq] at h
  have hi' : i < k := by simpa [Nat.blt_eq] using hi
  refine NStep.mk _ (fun w => ?_) h
  simp [M.sem, Instr.indexAt, asIntOf, run_underlying ht, run_sizeOf' hs, addr_add, Instr.sureAddr, hi', Int.natCast_nonneg, Int.toNat_natCast]
theorem weightsAll_mem' {H : Type} {e : TypeId} {l : List (DataW H)} {d : DataW H} {n : Nat} (hd : d ∈ l) (hn : n ∈ d.weights P e) : n ∈ DataW.weightsAll P e l := weightsAll_mem hd hn
theorem rd_arrayA {H : Type} {enc : TypeId × Value → H} {w : World} {sp : Nat → Bool} {held : Bool} {fuel n k e : Nat} {t : TypeId} {cs : List Value} {x : DataW H × List MemPlace}
    (ht : P.underlying t = some (.array k e)) (hn : P.cellsOf t = n) (h : DataW.trod enc P w 0 sp held fuel t cs = some x) (hz : SzOK Bd P t x.1) :
    cs.length = n ∧ ∀ (i off sz : Nat) (ft : TypeId) {β : Type} {R : Rp β}, (Nat.blt i k = true ∧ i * P.cellsOf e = off ∧ e = ft ∧ P.cellsOf e = sz) → RdrA Bd P ft R → ∃ a, R (old w) ((cs.drop off).take sz) a := by
  obtain ⟨xs, m, hm, hx, hl, hxl, hf⟩ := DataW.trod_array ht h
  refine ⟨by rw [hl, hn], fun i off sz ft β R ⟨hi, ho, he, hs⟩ hr => ?_⟩
  subst ho he hs
  have hi' : i < k := by simpa [Nat.blt_eq] using hi
  have hlt : i < xs.length := by omega
  have := hf i hi'
  rw [List.getElem?_eq_getElem hlt] at this
  refine hr m enc w sp held m _ _ (Nat.le_refl _) this fun q hq => hz q ?_
  rw [hx]
  simp only [DataW.weights, ht]
  exact weightsAll_mem (List.mem_map.2 ⟨_, List.getElem_mem hlt, rfl⟩) hq
/-- Counters of bytes. -/
theorem u8c_eq {i : Nat} (h : i ≤ 255) : ((UInt8.ofNat i).toNat : Int) = (i : Int) := by rw [UInt8.toNat_ofNat']; omega
theorem u8c_w {i : Nat} {n : Int} {b : Bool} (h : i ≤ 255) (w : decide (((UInt8.ofNat i).toNat : Int) < n) = b) : decide ((i : Int) < n) = b := by rw [← u8c_eq h]; exact w
theorem u8c_le {i : Nat} {n : Int} (h : decide ((i : Int) < n) = true) (hn : decide (n ≤ 255) = true) : i + 1 ≤ 255 := by simp at h hn; omega
theorem u8c_inc {i : Nat} {n : Int} {c : Value → Prop} (hn : n = ((UInt8.ofNat i).toNat : Int)) (h : c (.int .u8 ((UInt8.ofNat (i + 1)).toNat : Int))) : IntStep .u8 (n + 1) c := by
  refine u8_addS (x := UInt8.ofNat i) (y := 1) hn rfl ?_
  rw [show UInt8.ofNat i + 1 = UInt8.ofNat (i + 1) from by rw [UInt8.ofNat_add]; rfl]
  exact h
end
end Go.SL
