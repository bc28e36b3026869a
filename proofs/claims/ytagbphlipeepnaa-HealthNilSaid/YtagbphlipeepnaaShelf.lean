import Derived.Test.YtagbphlipeepnaaSL16
/-
  DERIVED: THE SHELF's CONTRACTS AT THIS DUMP, IN PLAIN WORDS (tools/lay-plain.mjs out of 'TryShelf.lean', which tools/lay-shelf.mjs wrote): THE SAME DECLARATIONS UNDER THE SAME NAMES: 'import', 'namespace', 'open', 'def', 'theorem' AND NOTHING ELSE: no command of the shelf's: FOR A HAND-IN. Each laying: the table of numbers ('.._ren') and one theorem, a field a fact of the dump's own or the kernel's comparison; each contract: ONE APPLICATION.
-/
import Derived.Shelf.Sort.Plain
import Derived.Shelf.Slices.In.SortNone
import Derived.Test.YtagbphlipeepnaaProg
namespace Go.Proofs
open Go.Shelf
def Try.lays190_ren : Go.Shelf.Ren := ⟨fun | 190 => 30 | 125 => 32 | 258 => 31 | 128 => 42 | 129 => 43 | 302 => 33 | 303 => 34 | 304 => 35 | 305 => 36 | 306 => 37 | 307 => 38 | 308 => 39 | 309 => 40 | 310 => 41 | 333 => 44 | 329 => 45 | 330 => 46 | 334 => 47 | 335 => 48 | 336 => 49 | 344 => 50 | n => n, fun | 31 => 54 | 9 => 9 | 3 => 3 | 46 => 73 | 0 => 0 | 51 => 84 | 53 => 86 | 4 => 4 | 183 => 76 | 182 => 75 | 131 => 81 | 5 => 5 | 218 => 87 | 222 => 91 | 228 => 93 | 229 => 94 | n => n, fun | n => n⟩
theorem Try.lays190 : Go.Proofs.Lays.n190 Try.prog Try.lays190_ren := {
  mixed := by kernel_rfl
  f125 := Try.func32.trans (congrArg some (by kernel_rfl))
  f128 := Try.func42.trans (congrArg some (by kernel_rfl))
  f129 := Try.func43.trans (congrArg some (by kernel_rfl))
  f190 := Try.func30.trans (congrArg some (by kernel_rfl))
  f258 := Try.func31.trans (congrArg some (by kernel_rfl))
  f302 := Try.func33.trans (congrArg some (by kernel_rfl))
  f303 := Try.func34.trans (congrArg some (by kernel_rfl))
  f304 := Try.func35.trans (congrArg some (by kernel_rfl))
  f305 := Try.func36.trans (congrArg some (by kernel_rfl))
  f306 := Try.func37.trans (congrArg some (by kernel_rfl))
  f307 := Try.func38.trans (congrArg some (by kernel_rfl))
  f308 := Try.func39.trans (congrArg some (by kernel_rfl))
  f309 := Try.func40.trans (congrArg some (by kernel_rfl))
  f310 := Try.func41.trans (congrArg some (by kernel_rfl))
  f329 := Try.func45.trans (congrArg some (by kernel_rfl))
  f330 := Try.func46.trans (congrArg some (by kernel_rfl))
  f333 := Try.func44.trans (congrArg some (by kernel_rfl))
  f334 := Try.func47.trans (congrArg some (by kernel_rfl))
  f335 := Try.func48.trans (congrArg some (by kernel_rfl))
  f336 := Try.func49.trans (congrArg some (by kernel_rfl))
  f344 := Try.func50.trans (congrArg some (by kernel_rfl))
  t0 := Try.underlying0
  a0 := Try.isAgg0
  z0 := Try.sizeOf0
  v0 := Try.zeroValue0
  t3 := Try.underlying3
  a3 := Try.isAgg3
  z3 := Try.sizeOf3
  v3 := Try.zeroValue3
  t4 := Try.underlying4
  a4 := Try.isAgg4
  z4 := Try.sizeOf4
  v4 := Try.zeroValue4
  t5 := Try.underlying5
  a5 := Try.isAgg5
  z5 := Try.sizeOf5
  v5 := Try.zeroValue5
  t9 := Try.underlying9
  a9 := Try.isAgg9
  z9 := Try.sizeOf9
  v9 := Try.zeroValue9
  t31 := Try.underlying54
  a31 := Try.isAgg54
  z31 := Try.sizeOf54
  v31 := Try.zeroValue54
  t46 := Try.underlying73
  a46 := Try.isAgg73
  z46 := Try.sizeOf73
  v46 := Try.zeroValue73
  t51 := Try.underlying84
  a51 := Try.isAgg84
  z51 := Try.sizeOf84
  v51 := Try.zeroValue84
  t53 := Try.underlying86
  a53 := Try.isAgg86
  z53 := Try.sizeOf86
  v53 := Try.zeroValue86
  t131 := Try.underlying81
  a131 := Try.isAgg81
  z131 := Try.sizeOf81
  v131 := Try.zeroValue81
  t182 := Try.underlying75
  a182 := Try.isAgg75
  z182 := Try.sizeOf75
  v182 := Try.zeroValue75
  t183 := Try.underlying76
  a183 := Try.isAgg76
  z183 := Try.sizeOf76
  v183 := Try.zeroValue76
  t218 := Try.underlying87
  a218 := Try.isAgg87
  z218 := Try.sizeOf87
  v218 := Try.zeroValue87
  t222 := Try.underlying91
  a222 := Try.isAgg91
  z222 := Try.sizeOf91
  v222 := Try.zeroValue91
  t228 := Try.underlying93
  a228 := Try.isAgg93
  z228 := Try.sizeOf93
  v228 := Try.zeroValue93
  t229 := Try.underlying94
  a229 := Try.isAgg94
  z229 := Try.sizeOf94
  v229 := Try.zeroValue94 }
open Go.Sort Go.RowKit in
theorem Try.slices_Sort_string (blk off cap : Nat) (ss : List (List UInt8)) (w : World) (hH : Holds encStr w blk off ss.toArray) (hblk : blk < w.heap.size) (hsz : ss.length < 4611686018427387904) :
    Calls Try.prog 30 #[.slice (some ⟨blk, off, none⟩) ss.length cap] w fun e w' =>
      e = .returned (.tuple #[]) ∧ ∃ n os, w' = grow (putRow encStr (Sort.ahead w n) blk off (ss.mergeSort fun x y => decide (x ≤ y)).toArray) os := Any.slices_Sort_string Try.lays190 blk off cap ss w hH hblk hsz
open Go.RowKit Go.Sort in
/-- .. and plain. (LAID: no walk: one application.) -/
theorem Try.slices_Sort_string_none (p : Option Addr) (cap : Nat) (w : World) :
    Calls Try.prog 30 #[.slice p 0 cap] w fun e w' => e = .returned (.tuple #[]) ∧ w' = w := Any.slices_Sort_string_none Try.lays190 p cap w
end Go.Proofs
namespace Go.Proofs
open Go Go.SL
theorem sort_string_run : ∀ (blk off cap : Nat) (ss : List Str) (w : World), Sort.Holds (fun l : Str => Value.string ⟨l.toArray⟩) w blk off ss.toArray → blk < w.heap.size → ss.length < 4611686018427387904 →
    Calls Try.prog 30 #[.slice (some ⟨blk, off, none⟩) ss.length cap] w fun e w' => e = .returned (.tuple #[]) ∧ ∃ n os, w' = Sort.grow (Sort.putRow (fun l : Str => Value.string ⟨l.toArray⟩) (Sort.ahead w n) blk off (ss.mergeSort (fun x y => decide (x ≤ y))).toArray) os := Try.slices_Sort_string
theorem sort_string_ok {l r : List Str} {a : Option Addr} {n cap e : Nat} {K : Hp} (hm : sortSM l = some r) (hn : n = l.length) :
    Go.SL.Fn Try.prog 30 [.slice a n cap] K [OwnL eS a e 1 cap l] (fun v K' H' => v = .tuple #[] ∧ H' = [OwnL eS a e 1 cap r]) := by
  obtain ⟨h1, rfl⟩ := sortSM_some hm
  have hs := @sort_gen Try.prog Str _ 30 (fun l : Str => Value.string ⟨l.toArray⟩) (fun _ => rfl) (fun x y => decide (x ≤ y)) Try.call30
  have hz := hs sort_string_run (fun p cap w => Try.slices_Sort_string_none p cap w) (a := a) (n := n) (e := e) (cap := cap) (l := l) (K := K) h1 hn
  exact hz
end Go.Proofs
