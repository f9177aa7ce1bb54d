import Derived.Shelf.Strings.OnBuilder
import Derived.Test.YtfhpmbenldgfnaaGreatDoorProg
namespace Go.Proofs
open Go.Shelf
def Tryz.lays156_ren : Go.Shelf.Ren := ⟨fun | 156 => 146 | 165 => 204 | 166 => 205 | 169 => 206 | 240 => 241 | 241 => 242 | 276 => 254 | 277 => 255 | n => n, fun | 31 => 78 | 9 => 9 | 3 => 3 | 4 => 4 | 0 => 0 | 20 => 20 | 72 => 199 | 76 => 202 | 70 => 197 | 37 => 188 | 75 => 201 | 127 => 234 | 164 => 245 | 5 => 5 | 80 => 204 | n => n, fun | n => n⟩
theorem Tryz.lays156 : Go.Proofs.Lays.n156 Tryz.prog Tryz.lays156_ren := {
  mixed := by kernel_rfl
  f156 := Tryz.func146.trans (congrArg some (by kernel_rfl))
  f165 := Tryz.func204.trans (congrArg some (by kernel_rfl))
  f166 := Tryz.func205.trans (congrArg some (by kernel_rfl))
  f169 := Tryz.func206.trans (congrArg some (by kernel_rfl))
  f240 := Tryz.func241.trans (congrArg some (by kernel_rfl))
  f241 := Tryz.func242.trans (congrArg some (by kernel_rfl))
  f276 := Tryz.func254.trans (congrArg some (by kernel_rfl))
  f277 := Tryz.func255.trans (congrArg some (by kernel_rfl))
  t0 := Tryz.underlying0
  a0 := Tryz.isAgg0
  z0 := Tryz.sizeOf0
  v0 := Tryz.zeroValue0
  t3 := Tryz.underlying3
  a3 := Tryz.isAgg3
  z3 := Tryz.sizeOf3
  v3 := Tryz.zeroValue3
  t4 := Tryz.underlying4
  a4 := Tryz.isAgg4
  z4 := Tryz.sizeOf4
  v4 := Tryz.zeroValue4
  t9 := Tryz.underlying9
  a9 := Tryz.isAgg9
  z9 := Tryz.sizeOf9
  v9 := Tryz.zeroValue9
  t20 := Tryz.underlying20
  a20 := Tryz.isAgg20
  z20 := Tryz.sizeOf20
  v20 := Tryz.zeroValue20
  t31 := Tryz.underlying78
  a31 := Tryz.isAgg78
  z31 := Tryz.sizeOf78
  v31 := Tryz.zeroValue78
  t37 := Tryz.underlying188
  a37 := Tryz.isAgg188
  z37 := Tryz.sizeOf188
  v37 := Tryz.zeroValue188
  t70 := Tryz.underlying197
  a70 := Tryz.isAgg197
  z70 := Tryz.sizeOf197
  v70 := Tryz.zeroValue197
  t72 := Tryz.underlying199
  a72 := Tryz.isAgg199
  z72 := Tryz.sizeOf199
  v72 := Tryz.zeroValue199
  t75 := Tryz.underlying201
  a75 := Tryz.isAgg201
  z75 := Tryz.sizeOf201
  v75 := Tryz.zeroValue201
  t76 := Tryz.underlying202
  a76 := Tryz.isAgg202
  z76 := Tryz.sizeOf202
  v76 := Tryz.zeroValue202
  t127 := Tryz.underlying234
  a127 := Tryz.isAgg234
  z127 := Tryz.sizeOf234
  v127 := Tryz.zeroValue234
  t164 := Tryz.underlying245
  a164 := Tryz.isAgg245
  z164 := Tryz.sizeOf245
  v164 := Tryz.zeroValue245 }
theorem Tryz.Builder_Extra_156 : Builder.Extra Tryz.prog Tryz.lays156_ren := {
  sizeBuilder := by kernel_rfl
  liesBuilder := by kernel_rfl
  t5 := Tryz.underlying5
  a5 := Tryz.isAgg5
  z5 := Tryz.sizeOf5
  v5 := Tryz.zeroValue5
  infoByte := by kernel_rfl
  cellsByte := by kernel_rfl
  sizeByte := by kernel_rfl
  neB5 := by decide }
open Go.RowKit in
theorem Tryz.strings_Join_none (a : Option Addr) (c : Nat) (sep : ByteArray) (w : World) :
    Calls Tryz.prog 146 #[.slice a 0 c, .string sep] w fun e w' => e = .returned (.string ⟨#[]⟩) ∧ w' = w := Any.strings_Join_none Tryz.lays156 Tryz.Builder_Extra_156 a c sep w
open Go.RowKit in
theorem Tryz.strings_Join (bk o c : Nat) (xs : List ByteArray) (sep : ByteArray) (w : World) (hcells : ∀ (j : Nat) x, xs[j]? = some x → w.cell? ⟨bk, o + j, none⟩ = some (.string x)) (hbk : bk < w.heap.size) (hN : xs.length ≤ 140737488355328) (hcap : xs.length ≤ c) (hlen : (Lib.join (xs.map (·.data.toList)) sep.data.toList).length ≤ 140737488355328) :
    Calls Tryz.prog 146 #[.slice (some ⟨bk, o, none⟩) xs.length c, .string sep] w fun e w' => e = .returned (.string ⟨(Lib.join (xs.map (·.data.toList)) sep.data.toList).toArray⟩) ∧ Below w.heap.size w w' := Any.strings_Join Tryz.lays156 Tryz.Builder_Extra_156 bk o c xs sep w hcells hbk hN hcap hlen
end Go.Proofs
