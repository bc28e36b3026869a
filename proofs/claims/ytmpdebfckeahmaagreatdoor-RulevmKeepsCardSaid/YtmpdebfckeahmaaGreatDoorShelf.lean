import Derived.Test.YtmpdebfckeahmaaGreatDoorLS
import Derived.KernelRfl
import Derived.Shelf.Strconv.Atoi
import Derived.Shelf.Strings.SlTrimAscii
/-
  DERIVED: THE SHELF's CONTRACTS AT THIS DUMP, IN PLAIN WORDS (tools/lay-plain.mjs out of 'TryzShelf.lean', which tools/lay-shelf.mjs wrote): THE SAME DECLARATIONS UNDER THE SAME NAMES: 'import', 'namespace', 'open', 'def', 'theorem' AND NOTHING ELSE: no command of the shelf's: FOR A HAND-IN. Each laying: the table of numbers ('.._ren') and one theorem, a field a fact of the dump's own or the kernel's comparison; each contract: ONE APPLICATION.
-/
import Derived.Shelf.Strings.Builder1
import Derived.Shelf.Strings.Builder2
import Derived.Shelf.Strings.OnBuilder
import Derived.Shelf.Strings.Trim
import Derived.Shelf.Small.Strs
import Derived.Shelf.LaysM
import Derived.Shelf.Strconv.Itoa3
import Derived.Shelf.Strings.Search1
import Derived.Shelf.Strings.Search3
import Derived.Shelf.Strings.Cut
import Derived.Shelf.Strings.Split
import Derived.Shelf.Strings.SplitShaped
import Derived.Test.YtmpdebfckeahmaaGreatDoorProg
namespace Go.Proofs
open Go.Shelf
def Tryz.lays156_ren : Go.Shelf.Ren := ⟨fun | 156 => 146 | 165 => 179 | 166 => 180 | 169 => 181 | 240 => 207 | 241 => 208 | 276 => 240 | 277 => 241 | n => n, fun | 31 => 31 | 9 => 9 | 3 => 3 | 4 => 4 | 0 => 0 | 20 => 20 | 72 => 261 | 76 => 84 | 70 => 259 | 37 => 130 | 75 => 35 | 127 => 279 | 164 => 310 | 5 => 5 | 80 => 262 | n => n, fun | n => n⟩
theorem Tryz.lays156 : Go.Proofs.Lays.n156 Tryz.prog Tryz.lays156_ren := {
  mixed := by kernel_rfl
  f156 := Tryz.func146.trans (congrArg some (by kernel_rfl))
  f165 := Tryz.func179.trans (congrArg some (by kernel_rfl))
  f166 := Tryz.func180.trans (congrArg some (by kernel_rfl))
  f169 := Tryz.func181.trans (congrArg some (by kernel_rfl))
  f240 := Tryz.func207.trans (congrArg some (by kernel_rfl))
  f241 := Tryz.func208.trans (congrArg some (by kernel_rfl))
  f276 := Tryz.func240.trans (congrArg some (by kernel_rfl))
  f277 := Tryz.func241.trans (congrArg some (by kernel_rfl))
  t0 := Tryz.underlying0
  a0 := Tryz.isAgg0
  z0 := Tryz.sizeOf0
  v0 := Tryz.zeroValue0
  t3 := Tryz.underlying3
  a3 := Tryz.isAgg3
  z3 := Tryz.sizeOf3
  v3 := Tryz.zeroValue3
  t4 := Tryz.underlying4
  a4 := Tryz.isAgg4
  z4 := Tryz.sizeOf4
  v4 := Tryz.zeroValue4
  t9 := Tryz.underlying9
  a9 := Tryz.isAgg9
  z9 := Tryz.sizeOf9
  v9 := Tryz.zeroValue9
  t20 := Tryz.underlying20
  a20 := Tryz.isAgg20
  z20 := Tryz.sizeOf20
  v20 := Tryz.zeroValue20
  t31 := Tryz.underlying31
  a31 := Tryz.isAgg31
  z31 := Tryz.sizeOf31
  v31 := Tryz.zeroValue31
  t37 := Tryz.underlying130
  a37 := Tryz.isAgg130
  z37 := Tryz.sizeOf130
  v37 := Tryz.zeroValue130
  t70 := Tryz.underlying259
  a70 := Tryz.isAgg259
  z70 := Tryz.sizeOf259
  v70 := Tryz.zeroValue259
  t72 := Tryz.underlying261
  a72 := Tryz.isAgg261
  z72 := Tryz.sizeOf261
  v72 := Tryz.zeroValue261
  t75 := Tryz.underlying35
  a75 := Tryz.isAgg35
  z75 := Tryz.sizeOf35
  v75 := Tryz.zeroValue35
  t76 := Tryz.underlying84
  a76 := Tryz.isAgg84
  z76 := Tryz.sizeOf84
  v76 := Tryz.zeroValue84
  t127 := Tryz.underlying279
  a127 := Tryz.isAgg279
  z127 := Tryz.sizeOf279
  v127 := Tryz.zeroValue279
  t164 := Tryz.underlying310
  a164 := Tryz.isAgg310
  z164 := Tryz.sizeOf310
  v164 := Tryz.zeroValue310 }
theorem Tryz.Builder_Extra_156 : Builder.Extra Tryz.prog Tryz.lays156_ren := {
  sizeBuilder := by kernel_rfl
  liesBuilder := by kernel_rfl
  t5 := Tryz.underlying5
  a5 := Tryz.isAgg5
  z5 := Tryz.sizeOf5
  v5 := Tryz.zeroValue5
  infoByte := by kernel_rfl
  cellsByte := by kernel_rfl
  sizeByte := by kernel_rfl
  neB5 := by decide }
open Go.RowKit in
/-- No element: the empty string; the world is as it was. (Whatever the slice's address and capacity: a nil slice too.) (LAID: no walk: one application.) -/
theorem Tryz.strings_Join_none (a : Option Addr) (c : Nat) (sep : ByteArray) (w : World) :
    Calls Tryz.prog 146 #[.slice a 0 c, .string sep] w fun e w' => e = .returned (.string ⟨#[]⟩) ∧ w' = w := Any.strings_Join_none Tryz.lays156 Tryz.Builder_Extra_156 a c sep w
open Go.RowKit in
/-- strings.Join: "Join concatenates the elements of its first argument to create a single string. The separator string sep is placed between elements in the resulting string.": HOWEVER MANY ELEMENTS. Below the heap's end the world is as it was. (LAID: no walk: one application.) -/
theorem Tryz.strings_Join (bk o c : Nat) (xs : List ByteArray) (sep : ByteArray) (w : World) (hcells : ∀ (j : Nat) x, xs[j]? = some x → w.cell? ⟨bk, o + j, none⟩ = some (.string x)) (hbk : bk < w.heap.size) (hN : xs.length ≤ 140737488355328) (hcap : xs.length ≤ c) (hlen : (Lib.join (xs.map (·.data.toList)) sep.data.toList).length ≤ 140737488355328) :
    Calls Tryz.prog 146 #[.slice (some ⟨bk, o, none⟩) xs.length c, .string sep] w fun e w' => e = .returned (.string ⟨(Lib.join (xs.map (·.data.toList)) sep.data.toList).toArray⟩) ∧ Below w.heap.size w w' := Any.strings_Join Tryz.lays156 Tryz.Builder_Extra_156 bk o c xs sep w hcells hbk hN hcap hlen
def Tryz.lays160_ren : Go.Shelf.Ren := ⟨fun | 160 => 185 | 232 => 215 | 231 => 214 | 227 => 216 | 234 => 218 | 233 => 217 | 236 => 220 | 235 => 219 | 228 => 245 | 271 => 247 | 151 => 246 | 197 => 238 | 120 => 259 | 152 => 258 | 260 => 257 | 137 => 244 | 119 => 265 | 224 => 211 | 225 => 210 | 217 => 209 | 266 => 242 | n => n, fun | 9 => 9 | 4 => 4 | 3 => 3 | 5 => 5 | 117 => 286 | 116 => 285 | 0 => 0 | 124 => 289 | 21 => 21 | 105 => 308 | 46 => 281 | 119 => 333 | 139 => 336 | 138 => 335 | n => n, fun | 3 => 10 | 4 => 11 | n => n⟩
theorem Tryz.lays160 : Go.Proofs.Lays.n160 Tryz.prog Tryz.lays160_ren := {
  mixed := by kernel_rfl
  f119 := Tryz.func265.trans (congrArg some (by kernel_rfl))
  f120 := Tryz.func259.trans (congrArg some (by kernel_rfl))
  f137 := Tryz.func244.trans (congrArg some (by kernel_rfl))
  f151 := Tryz.func246.trans (congrArg some (by kernel_rfl))
  f152 := Tryz.func258.trans (congrArg some (by kernel_rfl))
  f160 := Tryz.func185.trans (congrArg some (by kernel_rfl))
  f197 := Tryz.func238.trans (congrArg some (by kernel_rfl))
  f217 := Tryz.func209.trans (congrArg some (by kernel_rfl))
  f224 := Tryz.func211.trans (congrArg some (by kernel_rfl))
  f225 := Tryz.func210.trans (congrArg some (by kernel_rfl))
  f227 := Tryz.func216.trans (congrArg some (by kernel_rfl))
  f228 := Tryz.func245.trans (congrArg some (by kernel_rfl))
  f231 := Tryz.func214.trans (congrArg some (by kernel_rfl))
  f232 := Tryz.func215.trans (congrArg some (by kernel_rfl))
  f233 := Tryz.func217.trans (congrArg some (by kernel_rfl))
  f234 := Tryz.func218.trans (congrArg some (by kernel_rfl))
  f235 := Tryz.func219.trans (congrArg some (by kernel_rfl))
  f236 := Tryz.func220.trans (congrArg some (by kernel_rfl))
  f260 := Tryz.func257.trans (congrArg some (by kernel_rfl))
  f266 := Tryz.func242.trans (congrArg some (by kernel_rfl))
  f271 := Tryz.func247.trans (congrArg some (by kernel_rfl))
  t0 := Tryz.underlying0
  a0 := Tryz.isAgg0
  z0 := Tryz.sizeOf0
  v0 := Tryz.zeroValue0
  t3 := Tryz.underlying3
  a3 := Tryz.isAgg3
  z3 := Tryz.sizeOf3
  v3 := Tryz.zeroValue3
  t4 := Tryz.underlying4
  a4 := Tryz.isAgg4
  z4 := Tryz.sizeOf4
  v4 := Tryz.zeroValue4
  t5 := Tryz.underlying5
  a5 := Tryz.isAgg5
  z5 := Tryz.sizeOf5
  v5 := Tryz.zeroValue5
  t9 := Tryz.underlying9
  a9 := Tryz.isAgg9
  z9 := Tryz.sizeOf9
  v9 := Tryz.zeroValue9
  t21 := Tryz.underlying21
  a21 := Tryz.isAgg21
  z21 := Tryz.sizeOf21
  v21 := Tryz.zeroValue21
  t46 := Tryz.underlying281
  a46 := Tryz.isAgg281
  z46 := Tryz.sizeOf281
  v46 := Tryz.zeroValue281
  t105 := Tryz.underlying308
  a105 := Tryz.isAgg308
  z105 := Tryz.sizeOf308
  v105 := Tryz.zeroValue308
  t116 := Tryz.underlying285
  a116 := Tryz.isAgg285
  z116 := Tryz.sizeOf285
  t117 := Tryz.underlying286
  a117 := Tryz.isAgg286
  z117 := Tryz.sizeOf286
  v117 := Tryz.zeroValue286
  t119 := Tryz.underlying333
  a119 := Tryz.isAgg333
  z119 := Tryz.sizeOf333
  t124 := Tryz.underlying289
  a124 := Tryz.isAgg289
  z124 := Tryz.sizeOf289
  v124 := Tryz.zeroValue289
  t138 := Tryz.underlying335
  a138 := Tryz.isAgg335
  z138 := Tryz.sizeOf335
  v138 := Tryz.zeroValue335
  t139 := Tryz.underlying336
  a139 := Tryz.isAgg336
  z139 := Tryz.sizeOf336
  v139 := Tryz.zeroValue336
  g3 := by kernel_rfl
  g4 := by kernel_rfl }
open Go.RowKit in
/-- strings.Trim: "Trim returns a slice of the string s with all leading and trailing Unicode code points contained in cutset removed.": AT A cutset OF ONE ASCII BYTE. THE WORLD BEHIND IT: as it was, or (where s is not empty) with ONE DRAW MORE off the tape: the statement 'return trimLeftByte(trimRightByte(s, c), c)' draws its order of evaluation. (LAID: no walk: one application.) -/
theorem Tryz.strings_Trim_one (s : ByteArray) (c : UInt8) (hc : c.toNat < 128) (w : World) (hs : s.size ≤ 9223372036854775807) :
    Calls Tryz.prog 185 #[.string s, .string ⟨#[c]⟩] w fun e w' => e = .returned (.string ⟨(Lib.trimB s.data.toList c).toArray⟩) ∧ (w' = w ∨ w' = w.drew) := Any.strings_Trim_one Tryz.lays160 s c hc w hs
def Tryz.lays137_ren : Go.Shelf.Ren := ⟨fun | 137 => 244 | 217 => 209 | 266 => 242 | n => n, fun | 9 => 9 | 5 => 5 | 3 => 3 | n => n, fun | n => n⟩
theorem Tryz.lays137 : Go.Proofs.Lays.n137 Tryz.prog Tryz.lays137_ren := {
  mixed := by kernel_rfl
  f137 := Tryz.func244.trans (congrArg some (by kernel_rfl))
  f217 := Tryz.func209.trans (congrArg some (by kernel_rfl))
  f266 := Tryz.func242.trans (congrArg some (by kernel_rfl))
  t3 := Tryz.underlying3
  a3 := Tryz.isAgg3
  z3 := Tryz.sizeOf3
  v3 := Tryz.zeroValue3
  t5 := Tryz.underlying5
  a5 := Tryz.isAgg5
  z5 := Tryz.sizeOf5
  v5 := Tryz.zeroValue5
  t9 := Tryz.underlying9
  a9 := Tryz.isAgg9
  z9 := Tryz.sizeOf9
  v9 := Tryz.zeroValue9 }
open Go.RowKit in
/-- strings.IndexByte: "IndexByte returns the index of the first instance of c in s, or -1 if c is not present in s.": IT RETURNS 'Lib.indexByte s c'; the world is as it was. (LAID: no walk: one application.) -/
theorem Tryz.strings_IndexByte (s : ByteArray) (c : Int) (w : World) :
    Calls Tryz.prog 244 #[.string s, .int .u8 c] w fun e w' => e = .returned (.int .i64 (Lib.indexByte s.data.toList c.toNat.toUInt8)) ∧ w' = w := Any.strings_IndexByte Tryz.lays137 s c w
def Tryz.lays244_ren : Go.Shelf.Ren := ⟨fun | 244 => 198 | 247 => 227 | 287 => 252 | 321 => 263 | 322 => 264 | n => n, fun | 9 => 9 | 3 => 3 | 75 => 35 | 4 => 4 | 5 => 5 | 167 => 298 | 37 => 130 | 0 => 0 | 85 => 299 | 2 => 2 | 53 => 201 | 175 => 320 | 46 => 281 | 21 => 21 | 80 => 262 | n => n, fun | n => n⟩
theorem Tryz.lays244 : Go.Proofs.Lays.n244 Tryz.prog Tryz.lays244_ren := {
  mixed := by kernel_rfl
  f244 := Tryz.func198.trans (congrArg some (by kernel_rfl))
  f247 := Tryz.func227.trans (congrArg some (by kernel_rfl))
  f287 := Tryz.func252.trans (congrArg some (by kernel_rfl))
  f321 := Tryz.func263.trans (congrArg some (by kernel_rfl))
  f322 := Tryz.func264.trans (congrArg some (by kernel_rfl))
  t0 := Tryz.underlying0
  a0 := Tryz.isAgg0
  z0 := Tryz.sizeOf0
  v0 := Tryz.zeroValue0
  t2 := Tryz.underlying2
  a2 := Tryz.isAgg2
  z2 := Tryz.sizeOf2
  v2 := Tryz.zeroValue2
  t3 := Tryz.underlying3
  a3 := Tryz.isAgg3
  z3 := Tryz.sizeOf3
  v3 := Tryz.zeroValue3
  t4 := Tryz.underlying4
  a4 := Tryz.isAgg4
  z4 := Tryz.sizeOf4
  v4 := Tryz.zeroValue4
  t5 := Tryz.underlying5
  a5 := Tryz.isAgg5
  z5 := Tryz.sizeOf5
  v5 := Tryz.zeroValue5
  t9 := Tryz.underlying9
  a9 := Tryz.isAgg9
  z9 := Tryz.sizeOf9
  v9 := Tryz.zeroValue9
  t21 := Tryz.underlying21
  a21 := Tryz.isAgg21
  z21 := Tryz.sizeOf21
  v21 := Tryz.zeroValue21
  t37 := Tryz.underlying130
  a37 := Tryz.isAgg130
  z37 := Tryz.sizeOf130
  v37 := Tryz.zeroValue130
  t46 := Tryz.underlying281
  a46 := Tryz.isAgg281
  z46 := Tryz.sizeOf281
  v46 := Tryz.zeroValue281
  t53 := Tryz.underlying201
  a53 := Tryz.isAgg201
  z53 := Tryz.sizeOf201
  v53 := Tryz.zeroValue201
  t75 := Tryz.underlying35
  a75 := Tryz.isAgg35
  z75 := Tryz.sizeOf35
  v75 := Tryz.zeroValue35
  t85 := Tryz.underlying299
  a85 := Tryz.isAgg299
  z85 := Tryz.sizeOf299
  v85 := Tryz.zeroValue299
  t167 := Tryz.underlying298
  a167 := Tryz.isAgg298
  z167 := Tryz.sizeOf298
  v167 := Tryz.zeroValue298
  t175 := Tryz.underlying320
  a175 := Tryz.isAgg320
  z175 := Tryz.sizeOf320
  v175 := Tryz.zeroValue320 }
open Go.RowKit in
/-- internal/strconv.Atoi, at a decimal numeral of at most 18 bytes: ITS VALUE, AND NO ERROR. The world behind the call: the one new row that '[]byte(s)' lays. (LAID: no walk: one application.) -/
theorem Tryz.internal_strconv_Atoi (s : ByteArray) (n : Int) (hl : s.size ≤ 18) (h : Lib.atoi s.data.toList = some n) (w : World) :
    Calls Tryz.prog 198 #[.string s] w fun e w' => e = .returned (.tuple #[.int .i64 n, .nilIface]) ∧ ∃ t, w' = Lib.bytesWorld w 5 t := Any.internal_strconv_Atoi Tryz.lays244 s n hl h w
def Tryz.lays172_ren : Go.Shelf.Ren := ⟨fun | 172 => 166 | 244 => 198 | 245 => 199 | 247 => 227 | 279 => 228 | 280 => 229 | 281 => 230 | 282 => 231 | 287 => 252 | 316 => 253 | 171 => 103 | 205 => 254 | 321 => 263 | 322 => 264 | 243 => 142 | 246 => 175 | 283 => 201 | 284 => 202 | 285 => 203 | 286 => 204 | 129 => 233 | 317 => 232 | 318 => 234 | 319 => 235 | 320 => 236 | 337 => 255 | 338 => 256 | n => n, fun | 9 => 9 | 3 => 3 | 75 => 35 | 76 => 84 | 4 => 4 | 5 => 5 | 167 => 298 | 37 => 130 | 0 => 0 | 85 => 299 | 2 => 2 | 168 => 301 | 53 => 201 | 175 => 320 | 46 => 281 | 210 => 323 | 127 => 279 | 145 => 330 | 143 => 328 | 21 => 21 | 171 => 273 | 173 => 276 | 212 => 305 | 51 => 50 | 20 => 20 | 213 => 306 | 232 => 331 | 233 => 332 | 80 => 262 | n => n, fun | 15 => 6 | 16 => 7 | 17 => 5 | 18 => 8 | 19 => 9 | n => n⟩
theorem Tryz.lays172 : Go.Proofs.Lays.n172 Tryz.prog Tryz.lays172_ren := {
  mixed := by kernel_rfl
  f129 := Tryz.func233.trans (congrArg some (by kernel_rfl))
  f171 := Tryz.func103.trans (congrArg some (by kernel_rfl))
  f172 := Tryz.func166.trans (congrArg some (by kernel_rfl))
  f205 := Tryz.func254.trans (congrArg some (by kernel_rfl))
  f243 := Tryz.func142.trans (congrArg some (by kernel_rfl))
  f244 := Tryz.func198.trans (congrArg some (by kernel_rfl))
  f245 := Tryz.func199.trans (congrArg some (by kernel_rfl))
  f246 := Tryz.func175.trans (congrArg some (by kernel_rfl))
  f247 := Tryz.func227.trans (congrArg some (by kernel_rfl))
  f279 := Tryz.func228.trans (congrArg some (by kernel_rfl))
  f280 := Tryz.func229.trans (congrArg some (by kernel_rfl))
  f281 := Tryz.func230.trans (congrArg some (by kernel_rfl))
  f282 := Tryz.func231.trans (congrArg some (by kernel_rfl))
  f283 := Tryz.func201.trans (congrArg some (by kernel_rfl))
  f284 := Tryz.func202.trans (congrArg some (by kernel_rfl))
  f285 := Tryz.func203.trans (congrArg some (by kernel_rfl))
  f286 := Tryz.func204.trans (congrArg some (by kernel_rfl))
  f287 := Tryz.func252.trans (congrArg some (by kernel_rfl))
  f316 := Tryz.func253.trans (congrArg some (by kernel_rfl))
  f317 := Tryz.func232.trans (congrArg some (by kernel_rfl))
  f318 := Tryz.func234.trans (congrArg some (by kernel_rfl))
  f319 := Tryz.func235.trans (congrArg some (by kernel_rfl))
  f320 := Tryz.func236.trans (congrArg some (by kernel_rfl))
  f321 := Tryz.func263.trans (congrArg some (by kernel_rfl))
  f322 := Tryz.func264.trans (congrArg some (by kernel_rfl))
  f337 := Tryz.func255.trans (congrArg some (by kernel_rfl))
  f338 := Tryz.func256.trans (congrArg some (by kernel_rfl))
  t0 := Tryz.underlying0
  a0 := Tryz.isAgg0
  z0 := Tryz.sizeOf0
  v0 := Tryz.zeroValue0
  t2 := Tryz.underlying2
  a2 := Tryz.isAgg2
  z2 := Tryz.sizeOf2
  v2 := Tryz.zeroValue2
  t3 := Tryz.underlying3
  a3 := Tryz.isAgg3
  z3 := Tryz.sizeOf3
  v3 := Tryz.zeroValue3
  t4 := Tryz.underlying4
  a4 := Tryz.isAgg4
  z4 := Tryz.sizeOf4
  v4 := Tryz.zeroValue4
  t5 := Tryz.underlying5
  a5 := Tryz.isAgg5
  z5 := Tryz.sizeOf5
  v5 := Tryz.zeroValue5
  t9 := Tryz.underlying9
  a9 := Tryz.isAgg9
  z9 := Tryz.sizeOf9
  v9 := Tryz.zeroValue9
  t20 := Tryz.underlying20
  a20 := Tryz.isAgg20
  z20 := Tryz.sizeOf20
  v20 := Tryz.zeroValue20
  t21 := Tryz.underlying21
  a21 := Tryz.isAgg21
  z21 := Tryz.sizeOf21
  v21 := Tryz.zeroValue21
  t37 := Tryz.underlying130
  a37 := Tryz.isAgg130
  z37 := Tryz.sizeOf130
  v37 := Tryz.zeroValue130
  t46 := Tryz.underlying281
  a46 := Tryz.isAgg281
  z46 := Tryz.sizeOf281
  v46 := Tryz.zeroValue281
  t51 := Tryz.underlying50
  a51 := Tryz.isAgg50
  z51 := Tryz.sizeOf50
  v51 := Tryz.zeroValue50
  t53 := Tryz.underlying201
  a53 := Tryz.isAgg201
  z53 := Tryz.sizeOf201
  v53 := Tryz.zeroValue201
  t75 := Tryz.underlying35
  a75 := Tryz.isAgg35
  z75 := Tryz.sizeOf35
  v75 := Tryz.zeroValue35
  t76 := Tryz.underlying84
  a76 := Tryz.isAgg84
  z76 := Tryz.sizeOf84
  v76 := Tryz.zeroValue84
  t85 := Tryz.underlying299
  a85 := Tryz.isAgg299
  z85 := Tryz.sizeOf299
  v85 := Tryz.zeroValue299
  t127 := Tryz.underlying279
  a127 := Tryz.isAgg279
  z127 := Tryz.sizeOf279
  v127 := Tryz.zeroValue279
  t143 := Tryz.underlying328
  a143 := Tryz.isAgg328
  z143 := Tryz.sizeOf328
  v143 := Tryz.zeroValue328
  t145 := Tryz.underlying330
  a145 := Tryz.isAgg330
  z145 := Tryz.sizeOf330
  v145 := Tryz.zeroValue330
  t167 := Tryz.underlying298
  a167 := Tryz.isAgg298
  z167 := Tryz.sizeOf298
  v167 := Tryz.zeroValue298
  t168 := Tryz.underlying301
  a168 := Tryz.isAgg301
  z168 := Tryz.sizeOf301
  v168 := Tryz.zeroValue301
  t171 := Tryz.underlying273
  a171 := Tryz.isAgg273
  z171 := Tryz.sizeOf273
  v171 := Tryz.zeroValue273
  t173 := Tryz.underlying276
  a173 := Tryz.isAgg276
  z173 := Tryz.sizeOf276
  v173 := Tryz.zeroValue276
  t175 := Tryz.underlying320
  a175 := Tryz.isAgg320
  z175 := Tryz.sizeOf320
  v175 := Tryz.zeroValue320
  t210 := Tryz.underlying323
  a210 := Tryz.isAgg323
  z210 := Tryz.sizeOf323
  v210 := Tryz.zeroValue323
  t212 := Tryz.underlying305
  a212 := Tryz.isAgg305
  z212 := Tryz.sizeOf305
  v212 := Tryz.zeroValue305
  t213 := Tryz.underlying306
  a213 := Tryz.isAgg306
  z213 := Tryz.sizeOf306
  t232 := Tryz.underlying331
  a232 := Tryz.isAgg331
  z232 := Tryz.sizeOf331
  v232 := Tryz.zeroValue331
  t233 := Tryz.underlying332
  a233 := Tryz.isAgg332
  z233 := Tryz.sizeOf332
  v233 := Tryz.zeroValue332
  g15 := by kernel_rfl
  g16 := by kernel_rfl
  g17 := by kernel_rfl
  g18 := by kernel_rfl
  g19 := by kernel_rfl }
open Go.RowKit in
/-- strconv.Atoi: "Atoi is equivalent to ParseInt(s, 10, 0), converted to type int.": AT A DECIMAL NUMERAL OF AT MOST 18 BYTES: its value, and a nil error. The world behind the call: the one new row that the library's '[]byte(s)' lays. (LAID: no walk: one application.) -/
theorem Tryz.strconv_Atoi (s : ByteArray) (n : Int) (hl : s.size ≤ 18) (h : Lib.atoi s.data.toList = some n) (w : World) :
    Calls Tryz.prog 166 #[.string s] w fun e w' => e = .returned (.tuple #[.int .i64 n, .nilIface]) ∧ ∃ t, w' = Lib.bytesWorld w 5 t := Any.strconv_Atoi Tryz.lays172 s n hl h w
def Tryz.laysM171_ren : Go.Shelf.Ren := ⟨fun | 171 => 103 | 243 => 142 | 246 => 175 | 283 => 201 | 284 => 202 | 285 => 203 | 286 => 204 | 129 => 233 | 317 => 232 | 318 => 234 | 319 => 235 | 320 => 236 | 337 => 255 | 338 => 256 | n => n, fun | 3 => 3 | 9 => 9 | 2 => 2 | 4 => 4 | 171 => 273 | 0 => 0 | 53 => 201 | 37 => 130 | 5 => 5 | 173 => 276 | 212 => 305 | 51 => 50 | 20 => 20 | 213 => 306 | 46 => 281 | 232 => 331 | 233 => 332 | n => n, fun | 17 => 5 | 18 => 8 | 19 => 9 | n => n⟩
theorem Tryz.laysM171 : Go.Proofs.LaysM.n171 Tryz.prog Tryz.laysM171_ren := {
  mixed := by kernel_rfl
  f129 := Tryz.func233.trans (congrArg some (by kernel_rfl))
  f171 := Tryz.func103.trans (congrArg some (by kernel_rfl))
  f243 := Tryz.func142.trans (congrArg some (by kernel_rfl))
  f246 := Tryz.func175.trans (congrArg some (by kernel_rfl))
  f283 := Tryz.func201.trans (congrArg some (by kernel_rfl))
  f284 := Tryz.func202.trans (congrArg some (by kernel_rfl))
  f285 := Tryz.func203.trans (congrArg some (by kernel_rfl))
  f286 := Tryz.func204.trans (congrArg some (by kernel_rfl))
  f317 := Tryz.func232.trans (congrArg some (by kernel_rfl))
  f318 := Tryz.func234.trans (congrArg some (by kernel_rfl))
  f319 := Tryz.func235.trans (congrArg some (by kernel_rfl))
  f320 := Tryz.func236.trans (congrArg some (by kernel_rfl))
  f337 := Tryz.func255.trans (congrArg some (by kernel_rfl))
  f338 := Tryz.func256.trans (congrArg some (by kernel_rfl))
  t0 := Tryz.underlying0
  a0 := Tryz.isAgg0
  z0 := Tryz.sizeOf0
  v0 := Tryz.zeroValue0
  t2 := Tryz.underlying2
  a2 := Tryz.isAgg2
  z2 := Tryz.sizeOf2
  v2 := Tryz.zeroValue2
  t3 := Tryz.underlying3
  a3 := Tryz.isAgg3
  z3 := Tryz.sizeOf3
  v3 := Tryz.zeroValue3
  t4 := Tryz.underlying4
  a4 := Tryz.isAgg4
  z4 := Tryz.sizeOf4
  v4 := Tryz.zeroValue4
  t5 := Tryz.underlying5
  a5 := Tryz.isAgg5
  z5 := Tryz.sizeOf5
  v5 := Tryz.zeroValue5
  t9 := Tryz.underlying9
  a9 := Tryz.isAgg9
  z9 := Tryz.sizeOf9
  v9 := Tryz.zeroValue9
  t20 := Tryz.underlying20
  a20 := Tryz.isAgg20
  z20 := Tryz.sizeOf20
  v20 := Tryz.zeroValue20
  t37 := Tryz.underlying130
  a37 := Tryz.isAgg130
  z37 := Tryz.sizeOf130
  v37 := Tryz.zeroValue130
  t46 := Tryz.underlying281
  a46 := Tryz.isAgg281
  z46 := Tryz.sizeOf281
  v46 := Tryz.zeroValue281
  t51 := Tryz.underlying50
  a51 := Tryz.isAgg50
  z51 := Tryz.sizeOf50
  v51 := Tryz.zeroValue50
  t53 := Tryz.underlying201
  a53 := Tryz.isAgg201
  z53 := Tryz.sizeOf201
  v53 := Tryz.zeroValue201
  t171 := Tryz.underlying273
  a171 := Tryz.isAgg273
  z171 := Tryz.sizeOf273
  v171 := Tryz.zeroValue273
  t173 := Tryz.underlying276
  a173 := Tryz.isAgg276
  z173 := Tryz.sizeOf276
  v173 := Tryz.zeroValue276
  t212 := Tryz.underlying305
  a212 := Tryz.isAgg305
  z212 := Tryz.sizeOf305
  v212 := Tryz.zeroValue305
  t213 := Tryz.underlying306
  a213 := Tryz.isAgg306
  z213 := Tryz.sizeOf306
  t232 := Tryz.underlying331
  a232 := Tryz.isAgg331
  z232 := Tryz.sizeOf331
  v232 := Tryz.zeroValue331
  t233 := Tryz.underlying332
  a233 := Tryz.isAgg332
  z233 := Tryz.sizeOf332
  v233 := Tryz.zeroValue332
  g17 := by kernel_rfl
  g18 := by kernel_rfl
  g19 := by kernel_rfl
  i0 := by kernel_rfl
  i2 := by kernel_rfl
  i3 := by kernel_rfl
  i4 := by kernel_rfl
  i5 := by kernel_rfl
  i9 := by kernel_rfl
  i20 := by kernel_rfl
  i37 := by kernel_rfl
  i46 := by kernel_rfl
  i51 := by kernel_rfl
  i53 := by kernel_rfl
  i171 := by kernel_rfl
  i173 := by kernel_rfl
  i212 := by kernel_rfl
  i232 := by kernel_rfl
  i233 := by kernel_rfl
  m17 := by kernel_rfl
  m18 := by kernel_rfl
  m19 := by kernel_rfl }
open Go.RowKit Go.Sort Go.Lib in
/-- strconv.Itoa: "Itoa is equivalent to FormatInt(int64(i), 10).": i's DECIMAL NUMERAL ('Lib.itoa': a '-' where i is negative, then the digits), FOR EVERY int. The world behind the call: the world before it, new blocks behind the heap (the library's 'var a [24]byte'), draws. (LAID: no walk: one application.) -/
theorem Tryz.strconv_Itoa (n : Int) (h0 : -9223372036854775808 ≤ n) (h1 : n ≤ 9223372036854775807) (w : World) (htab : Lib.TabIs Tryz.prog w "internal/strconv.uint64pow10" .u64 Lib.pow10Tab) :
    Calls Tryz.prog 103 #[.int .i64 n] w fun e w' => e = .returned (.string ⟨(Lib.itoa n).toArray⟩) ∧ ∃ k os, w' = grow (w.drewN k) os := Any.strconv_Itoa Tryz.laysM171 n h0 h1 w htab
def Tryz.lays144_ren : Go.Shelf.Ren := ⟨fun | 144 => 111 | 143 => 148 | 219 => 182 | 217 => 209 | 225 => 210 | 224 => 211 | 267 => 212 | 266 => 242 | 314 => 243 | n => n, fun | 9 => 9 | 4 => 4 | 3 => 3 | 5 => 5 | 46 => 281 | 146 => 313 | 51 => 50 | n => n, fun | 1 => 3 | n => n⟩
theorem Tryz.lays144 : Go.Proofs.Lays.n144 Tryz.prog Tryz.lays144_ren := {
  mixed := by kernel_rfl
  f143 := Tryz.func148.trans (congrArg some (by kernel_rfl))
  f144 := Tryz.func111.trans (congrArg some (by kernel_rfl))
  f217 := Tryz.func209.trans (congrArg some (by kernel_rfl))
  f219 := Tryz.func182.trans (congrArg some (by kernel_rfl))
  f224 := Tryz.func211.trans (congrArg some (by kernel_rfl))
  f225 := Tryz.func210.trans (congrArg some (by kernel_rfl))
  f266 := Tryz.func242.trans (congrArg some (by kernel_rfl))
  f267 := Tryz.func212.trans (congrArg some (by kernel_rfl))
  f314 := Tryz.func243.trans (congrArg some (by kernel_rfl))
  t3 := Tryz.underlying3
  a3 := Tryz.isAgg3
  z3 := Tryz.sizeOf3
  v3 := Tryz.zeroValue3
  t4 := Tryz.underlying4
  a4 := Tryz.isAgg4
  z4 := Tryz.sizeOf4
  v4 := Tryz.zeroValue4
  t5 := Tryz.underlying5
  a5 := Tryz.isAgg5
  z5 := Tryz.sizeOf5
  v5 := Tryz.zeroValue5
  t9 := Tryz.underlying9
  a9 := Tryz.isAgg9
  z9 := Tryz.sizeOf9
  v9 := Tryz.zeroValue9
  t46 := Tryz.underlying281
  a46 := Tryz.isAgg281
  z46 := Tryz.sizeOf281
  v46 := Tryz.zeroValue281
  t51 := Tryz.underlying50
  a51 := Tryz.isAgg50
  z51 := Tryz.sizeOf50
  v51 := Tryz.zeroValue50
  t146 := Tryz.underlying313
  a146 := Tryz.isAgg313
  z146 := Tryz.sizeOf313
  v146 := Tryz.zeroValue313
  g1 := by kernel_rfl }
open Go.RowKit Go.Lib in
/-- strings.Contains: "Contains reports whether substr is within s.": AT A substr OF ONE BYTE c: IT RETURNS 'decide (0 ≤ Lib.indexByte s c)'; the world is as it was. (LAID: no walk: one application.) -/
theorem Tryz.strings_Contains_one (s : ByteArray) (c : UInt8) (w : World) :
    Calls Tryz.prog 111 #[.string s, .string ⟨#[c]⟩] w fun e w' => e = .returned (.bool (decide (0 ≤ Lib.indexByte s.data.toList c))) ∧ w' = w := Any.strings_Contains_one Tryz.lays144 s c w
open Go.RowKit Go.Lib in
/-- strings.Contains: "Contains reports whether substr is within s.": IT RETURNS 'Lib.contains s substr'; the world is as it was. (LAID: no walk: one application.) -/
theorem Tryz.strings_Contains (s sub : ByteArray) (m : Int) (w : World) (hs : s.size < 4294967281) (hm : w.cell? ⟨3, 0, none⟩ = some (.int .i64 m)) :
    Calls Tryz.prog 111 #[.string s, .string sub] w fun e w' => e = .returned (.bool (Lib.contains s.data.toList sub.data.toList)) ∧ w' = w := Any.strings_Contains Tryz.lays144 s sub m w hs hm
def Tryz.lays145_ren : Go.Shelf.Ren := ⟨fun | 145 => 143 | 220 => 176 | 219 => 182 | 217 => 209 | 225 => 210 | 224 => 211 | 267 => 212 | 266 => 242 | 314 => 243 | n => n, fun | 9 => 9 | 4 => 4 | 59 => 236 | 3 => 3 | 5 => 5 | 46 => 281 | 146 => 313 | 51 => 50 | n => n, fun | 1 => 3 | n => n⟩
theorem Tryz.lays145 : Go.Proofs.Lays.n145 Tryz.prog Tryz.lays145_ren := {
  mixed := by kernel_rfl
  f145 := Tryz.func143.trans (congrArg some (by kernel_rfl))
  f217 := Tryz.func209.trans (congrArg some (by kernel_rfl))
  f219 := Tryz.func182.trans (congrArg some (by kernel_rfl))
  f220 := Tryz.func176.trans (congrArg some (by kernel_rfl))
  f224 := Tryz.func211.trans (congrArg some (by kernel_rfl))
  f225 := Tryz.func210.trans (congrArg some (by kernel_rfl))
  f266 := Tryz.func242.trans (congrArg some (by kernel_rfl))
  f267 := Tryz.func212.trans (congrArg some (by kernel_rfl))
  f314 := Tryz.func243.trans (congrArg some (by kernel_rfl))
  t3 := Tryz.underlying3
  a3 := Tryz.isAgg3
  z3 := Tryz.sizeOf3
  v3 := Tryz.zeroValue3
  t4 := Tryz.underlying4
  a4 := Tryz.isAgg4
  z4 := Tryz.sizeOf4
  v4 := Tryz.zeroValue4
  t5 := Tryz.underlying5
  a5 := Tryz.isAgg5
  z5 := Tryz.sizeOf5
  v5 := Tryz.zeroValue5
  t9 := Tryz.underlying9
  a9 := Tryz.isAgg9
  z9 := Tryz.sizeOf9
  v9 := Tryz.zeroValue9
  t46 := Tryz.underlying281
  a46 := Tryz.isAgg281
  z46 := Tryz.sizeOf281
  v46 := Tryz.zeroValue281
  t51 := Tryz.underlying50
  a51 := Tryz.isAgg50
  z51 := Tryz.sizeOf50
  v51 := Tryz.zeroValue50
  t59 := Tryz.underlying236
  a59 := Tryz.isAgg236
  z59 := Tryz.sizeOf236
  v59 := Tryz.zeroValue236
  t146 := Tryz.underlying313
  a146 := Tryz.isAgg313
  z146 := Tryz.sizeOf313
  v146 := Tryz.zeroValue313
  g1 := by kernel_rfl }
open Go.RowKit Go.Lib in
/-- strings.Cut: "Cut slices s around the first instance of sep, returning the text before and after sep. The found result reports whether sep appears in s. If sep does not appear in s, cut returns s, "", false.": IT RETURNS 'Lib.cut s sep'; the world is as it was but for the count of draws. (LAID: no walk: one application.) -/
theorem Tryz.strings_Cut (s sep : ByteArray) (m : Int) (w : World) (hs : s.size < 4294967281) (hm : w.cell? ⟨3, 0, none⟩ = some (.int .i64 m)) :
    Calls Tryz.prog 143 #[.string s, .string sep] w fun e w' => e = .returned (.tuple #[.string ⟨(Lib.cut s.data.toList sep.data.toList).1.toArray⟩, .string ⟨(Lib.cut s.data.toList sep.data.toList).2.1.toArray⟩, .bool (Lib.cut s.data.toList sep.data.toList).2.2]) ∧ ∃ n, w' = w.drewN n := Any.strings_Cut Tryz.lays145 s sep m w hs hm
def Tryz.lays146_ren : Go.Shelf.Ren := ⟨fun | 146 => 144 | 221 => 177 | 268 => 205 | 138 => 206 | 143 => 148 | 195 => 237 | 197 => 238 | 218 => 239 | 219 => 182 | 260 => 257 | 217 => 209 | 225 => 210 | 224 => 211 | 267 => 212 | 266 => 242 | 314 => 243 | n => n, fun | 9 => 9 | 31 => 31 | 3 => 3 | 4 => 4 | 0 => 0 | 105 => 308 | 21 => 21 | 5 => 5 | 46 => 281 | 119 => 333 | 139 => 336 | 138 => 335 | 146 => 313 | 51 => 50 | n => n, fun | 1 => 3 | 3 => 10 | 4 => 11 | n => n⟩
theorem Tryz.lays146 : Go.Proofs.Lays.n146 Tryz.prog Tryz.lays146_ren := {
  mixed := by kernel_rfl
  f138 := Tryz.func206.trans (congrArg some (by kernel_rfl))
  f143 := Tryz.func148.trans (congrArg some (by kernel_rfl))
  f146 := Tryz.func144.trans (congrArg some (by kernel_rfl))
  f195 := Tryz.func237.trans (congrArg some (by kernel_rfl))
  f197 := Tryz.func238.trans (congrArg some (by kernel_rfl))
  f217 := Tryz.func209.trans (congrArg some (by kernel_rfl))
  f218 := Tryz.func239.trans (congrArg some (by kernel_rfl))
  f219 := Tryz.func182.trans (congrArg some (by kernel_rfl))
  f221 := Tryz.func177.trans (congrArg some (by kernel_rfl))
  f224 := Tryz.func211.trans (congrArg some (by kernel_rfl))
  f225 := Tryz.func210.trans (congrArg some (by kernel_rfl))
  f260 := Tryz.func257.trans (congrArg some (by kernel_rfl))
  f266 := Tryz.func242.trans (congrArg some (by kernel_rfl))
  f267 := Tryz.func212.trans (congrArg some (by kernel_rfl))
  f268 := Tryz.func205.trans (congrArg some (by kernel_rfl))
  f314 := Tryz.func243.trans (congrArg some (by kernel_rfl))
  t0 := Tryz.underlying0
  a0 := Tryz.isAgg0
  z0 := Tryz.sizeOf0
  v0 := Tryz.zeroValue0
  t3 := Tryz.underlying3
  a3 := Tryz.isAgg3
  z3 := Tryz.sizeOf3
  v3 := Tryz.zeroValue3
  t4 := Tryz.underlying4
  a4 := Tryz.isAgg4
  z4 := Tryz.sizeOf4
  v4 := Tryz.zeroValue4
  t5 := Tryz.underlying5
  a5 := Tryz.isAgg5
  z5 := Tryz.sizeOf5
  v5 := Tryz.zeroValue5
  t9 := Tryz.underlying9
  a9 := Tryz.isAgg9
  z9 := Tryz.sizeOf9
  v9 := Tryz.zeroValue9
  t21 := Tryz.underlying21
  a21 := Tryz.isAgg21
  z21 := Tryz.sizeOf21
  v21 := Tryz.zeroValue21
  t31 := Tryz.underlying31
  a31 := Tryz.isAgg31
  z31 := Tryz.sizeOf31
  v31 := Tryz.zeroValue31
  t46 := Tryz.underlying281
  a46 := Tryz.isAgg281
  z46 := Tryz.sizeOf281
  v46 := Tryz.zeroValue281
  t51 := Tryz.underlying50
  a51 := Tryz.isAgg50
  z51 := Tryz.sizeOf50
  v51 := Tryz.zeroValue50
  t105 := Tryz.underlying308
  a105 := Tryz.isAgg308
  z105 := Tryz.sizeOf308
  v105 := Tryz.zeroValue308
  t119 := Tryz.underlying333
  a119 := Tryz.isAgg333
  z119 := Tryz.sizeOf333
  t138 := Tryz.underlying335
  a138 := Tryz.isAgg335
  z138 := Tryz.sizeOf335
  v138 := Tryz.zeroValue335
  t139 := Tryz.underlying336
  a139 := Tryz.isAgg336
  z139 := Tryz.sizeOf336
  v139 := Tryz.zeroValue336
  t146 := Tryz.underlying313
  a146 := Tryz.isAgg313
  z146 := Tryz.sizeOf313
  v146 := Tryz.zeroValue313
  g1 := by kernel_rfl
  g3 := by kernel_rfl
  g4 := by kernel_rfl }
open Go.RowKit Go.Lib in
/-- strings.Split. (LAID: no walk: one application.) -/
theorem Tryz.strings_Split (s sep : ByteArray) (m : Int) (w : World) (hs : s.size < 4294967281) (hm : w.cell? ⟨3, 0, none⟩ = some (.int .i64 m)) (h1 : 1 ≤ sep.size) :
    Calls Tryz.prog 144 #[.string s, .string sep] w fun e w' =>
      e = .returned (.slice (some ⟨w.heap.size, 0, none⟩) (Lib.countB s sep + 1) (Lib.countB s sep + 1)) ∧ w' = w.alloc (.cells ((Lib.splitB sep 0 (Lib.countB s sep) s).map Value.string).toArray 9) := Any.strings_Split Tryz.lays146 (by kernel_rfl) s sep m w hs hm h1
def Tryz.laysM146_ren : Go.Shelf.Ren := ⟨fun | 146 => 144 | 221 => 177 | 268 => 205 | 138 => 206 | 143 => 148 | 195 => 237 | 197 => 238 | 218 => 239 | 219 => 182 | 260 => 257 | 217 => 209 | 225 => 210 | 224 => 211 | 267 => 212 | 266 => 242 | 314 => 243 | n => n, fun | 9 => 9 | 31 => 31 | 3 => 3 | 4 => 4 | 0 => 0 | 105 => 308 | 21 => 21 | 5 => 5 | 46 => 281 | 119 => 333 | 139 => 336 | 138 => 335 | 146 => 313 | 51 => 50 | n => n, fun | 1 => 3 | 3 => 10 | 4 => 11 | n => n⟩
theorem Tryz.laysM146 : Go.Proofs.LaysM.n146 Tryz.prog Tryz.laysM146_ren := {
  mixed := by kernel_rfl
  f138 := Tryz.func206.trans (congrArg some (by kernel_rfl))
  f143 := Tryz.func148.trans (congrArg some (by kernel_rfl))
  f146 := Tryz.func144.trans (congrArg some (by kernel_rfl))
  f195 := Tryz.func237.trans (congrArg some (by kernel_rfl))
  f197 := Tryz.func238.trans (congrArg some (by kernel_rfl))
  f217 := Tryz.func209.trans (congrArg some (by kernel_rfl))
  f218 := Tryz.func239.trans (congrArg some (by kernel_rfl))
  f219 := Tryz.func182.trans (congrArg some (by kernel_rfl))
  f221 := Tryz.func177.trans (congrArg some (by kernel_rfl))
  f224 := Tryz.func211.trans (congrArg some (by kernel_rfl))
  f225 := Tryz.func210.trans (congrArg some (by kernel_rfl))
  f260 := Tryz.func257.trans (congrArg some (by kernel_rfl))
  f266 := Tryz.func242.trans (congrArg some (by kernel_rfl))
  f267 := Tryz.func212.trans (congrArg some (by kernel_rfl))
  f268 := Tryz.func205.trans (congrArg some (by kernel_rfl))
  f314 := Tryz.func243.trans (congrArg some (by kernel_rfl))
  t0 := Tryz.underlying0
  a0 := Tryz.isAgg0
  z0 := Tryz.sizeOf0
  v0 := Tryz.zeroValue0
  t3 := Tryz.underlying3
  a3 := Tryz.isAgg3
  z3 := Tryz.sizeOf3
  v3 := Tryz.zeroValue3
  t4 := Tryz.underlying4
  a4 := Tryz.isAgg4
  z4 := Tryz.sizeOf4
  v4 := Tryz.zeroValue4
  t5 := Tryz.underlying5
  a5 := Tryz.isAgg5
  z5 := Tryz.sizeOf5
  v5 := Tryz.zeroValue5
  t9 := Tryz.underlying9
  a9 := Tryz.isAgg9
  z9 := Tryz.sizeOf9
  v9 := Tryz.zeroValue9
  t21 := Tryz.underlying21
  a21 := Tryz.isAgg21
  z21 := Tryz.sizeOf21
  v21 := Tryz.zeroValue21
  t31 := Tryz.underlying31
  a31 := Tryz.isAgg31
  z31 := Tryz.sizeOf31
  v31 := Tryz.zeroValue31
  t46 := Tryz.underlying281
  a46 := Tryz.isAgg281
  z46 := Tryz.sizeOf281
  v46 := Tryz.zeroValue281
  t51 := Tryz.underlying50
  a51 := Tryz.isAgg50
  z51 := Tryz.sizeOf50
  v51 := Tryz.zeroValue50
  t105 := Tryz.underlying308
  a105 := Tryz.isAgg308
  z105 := Tryz.sizeOf308
  v105 := Tryz.zeroValue308
  t119 := Tryz.underlying333
  a119 := Tryz.isAgg333
  z119 := Tryz.sizeOf333
  t138 := Tryz.underlying335
  a138 := Tryz.isAgg335
  z138 := Tryz.sizeOf335
  v138 := Tryz.zeroValue335
  t139 := Tryz.underlying336
  a139 := Tryz.isAgg336
  z139 := Tryz.sizeOf336
  v139 := Tryz.zeroValue336
  t146 := Tryz.underlying313
  a146 := Tryz.isAgg313
  z146 := Tryz.sizeOf313
  v146 := Tryz.zeroValue313
  g1 := by kernel_rfl
  g3 := by kernel_rfl
  g4 := by kernel_rfl
  i0 := by kernel_rfl
  i3 := by kernel_rfl
  i4 := by kernel_rfl
  i5 := by kernel_rfl
  i9 := by kernel_rfl
  i21 := by kernel_rfl
  i31 := by kernel_rfl
  i46 := by kernel_rfl
  i51 := by kernel_rfl
  i105 := by kernel_rfl
  i138 := by kernel_rfl
  i139 := by kernel_rfl
  i146 := by kernel_rfl
  m1 := by kernel_rfl
  s1_3 := fun w h => Go.Proofs.cell_of_shapedOpen_int (zero := #[.int .i64 0]) (t := 3) h (of_decide_eq_true (by kernel_rfl)) (by kernel_rfl) rfl (by kernel_rfl) (by kernel_rfl) Tryz.underlying3
  m3 := by kernel_rfl
  m4 := by kernel_rfl }
open Go.RowKit Go.Lib in
/-- strings.Split, sep not empty. (LAID: no walk: one application.) -/
theorem Tryz.strings_Split_shaped (s sep : ByteArray) (w : World) (h : w.ShapedOpen Tryz.prog) (hs : s.size < 4294967281) (h1 : 1 ≤ sep.size) :
    Calls Tryz.prog 144 #[.string s, .string sep] w fun e w' =>
      e = .returned (.slice (some ⟨w.heap.size, 0, none⟩) (Lib.countB s sep + 1) (Lib.countB s sep + 1)) ∧ w' = w.alloc (.cells ((Lib.splitB sep 0 (Lib.countB s sep) s).map Value.string).toArray 9) := Any.strings_Split_shaped Tryz.laysM146 s sep w h hs h1
open Go Go.SL
theorem qs7 {l : List Str} {sep r : Str} {a : Option Addr} {n cap : Nat} {K : Hp} (hm : qjg l sep = some r) (hr : RdC eS K a cap 1 l) (hn : n = l.length) :
    Go.SL.Fn Tryz.prog 146 [.slice a n cap, str sep] K [] (fun v K' H' => v = str r ∧ H' = []) :=
  qo9 Tryz.call146 Tryz.strings_Join Tryz.strings_Join_none hm hr hn
theorem qs8 {s cut r : Str} {K : Hp} (hm : qjh s cut = some r) : Go.SL.Fn Tryz.prog 185 [str s, str cut] K [] (fun v K' H' => v = str r ∧ H' = []) :=
  qpb Tryz.call185 (fun s c w h1 h2 h3 => Any.strings_Trim_laid Tryz.lays160 (by kernel_rfl) s c w h1 h2 h3) hm
theorem qlg {s : Str} {c : UInt8} {r : Int} {K : Hp} (hm : qhp s c = some r) : Go.SL.Fn Tryz.prog 244 [str s, .int .u8 (c.toNat : Int)] K [] (fun v K' H' => v = .int .i64 r ∧ H' = []) :=
  qr7 Tryz.call244 Tryz.strings_IndexByte hm
theorem qvu {s : Str} {r : Int × Err} {K : Hp} {E : TypeId} (hm : qsa s = some r) : Go.SL.Fn Tryz.prog 166 [str s] K [] (fun v K' H' => v = .tuple #[.int .i64 r.1, qcu E r.2] ∧ H' = []) :=
  qpf Tryz.call166 (fun s n w hl h => Tryz.strconv_Atoi s n hl h w) hm
theorem qs9 {n : Int} {r : Str} {K : Hp} (hm : qls n = some r) (hG : GlA 5 (Go.Lib.pow10Tab.map fun z => Value.int .u64 z) K) : Go.SL.Fn Tryz.prog 103 [.int .i64 n] K [] (fun v K' H' => v = str r ∧ H' = []) :=
  qpg Tryz.call103 (by kernel_rfl) (fun n w h0 h1 ht => Tryz.strconv_Itoa n h0 h1 w ht) hm hG
theorem qop {W : World} (h : W.ShapedOpen Tryz.prog) : GlN 3 (old W) := let ⟨m, hm⟩ := Tryz.laysM146.s1_3 W h; qts (g := 3) hm
theorem qj2 {s sub : Str} {r : Bool} {K : Hp} (hm : qc2 s sub = some r) (hG : GlN 3 K) : Go.SL.Fn Tryz.prog 111 [str s, str sub] K [] (fun v K' H' => v = .bool r ∧ H' = []) :=
  qic Tryz.call111 (fun s sub m w h1 h2 => Tryz.strings_Contains s sub m w h1 h2) hm hG
theorem qrm {s sep : Str} {r : Str × Str × Bool} {K : Hp} (hm : cutM s sep = some r) (hG : GlN 3 K) : Go.SL.Fn Tryz.prog 143 [str s, str sep] K [] (fun v K' H' => v = .tuple #[str r.1, str r.2.1, .bool r.2.2] ∧ H' = []) :=
  qsb Tryz.call143 (fun s sep m w h1 h2 => Tryz.strings_Cut s sep m w h1 h2) hm hG
theorem qfi {s sep : Str} {r : List Str} {K : Hp} (hm : qf8 s sep = some r) (hG : GlN 3 K) :
    Go.SL.Fn Tryz.prog 144 [str s, str sep] K [] (fun v K' H' => ∃ ar_0 : Option Addr, ∃ cr_0 : Nat, v = .slice ar_0 r.length cr_0 ∧ (0 < r.length → Has ar_0) ∧ H' = [OwnL eS ar_0 9 1 cr_0 r]) :=
  qm9 Tryz.call144 (fun s sep m w h1 h2 h3 => Tryz.strings_Split s sep m w h1 h2 h3) hm hG
end Go.Proofs
