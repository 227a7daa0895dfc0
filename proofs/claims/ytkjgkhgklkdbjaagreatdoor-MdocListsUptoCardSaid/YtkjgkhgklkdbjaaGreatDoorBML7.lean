/- Of what the law MdocLists needs: part 7. -/
import Derived.Lib.DecodeN
import Derived.Test.YtkjgkhgklkdbjaaGreatDoorBML4
import Derived.Test.YtkjgkhgklkdbjaaGreatDoorBML6
set_option linter.unusedSimpArgs false
set_option linter.unusedVariables false
section
namespace Go.Proofs.YtkjgkhgklkdbjaaGreatDoor.Ev
open Go
def firstPV : List PV := (List.range 256).map fun c => .int .u8 (Go.Lib.firstT c : Nat)
def acceptPV : List PV := (List.range 32).map fun j => .int .u8 ((if j % 2 = 0 then Go.Lib.accLo (j / 2) else Go.Lib.accHi (j / 2) : Nat) : Int)
noncomputable def C0 : Ctx := { P := Tryz.prog, laid := fun g => if g = 0 then some [.int .i32 32, .int .u8 0] else if g = 1 then some [.int .i32 32, .int .u8 0] else if g = 5 then some firstPV else if g = 6 then some acceptPV else if g = 3 then some [.mp 3] else if g = 4 then some [.mp 4] else none, keep := fun w => GL w, mapT := 283, maps := tabs, mapsOk := GL.mapsOk }
theorem C0_mapT : C0.mapT = 283 := rfl
theorem C0_maps : C0.maps = tabs := rfl
theorem laid3 : C0.laid 3 = some [.mp 3] := rfl
theorem laid4 : C0.laid 4 = some [.mp 4] := rfl
theorem laidFirst : C0.laid 5 = some firstPV := rfl
theorem laidAccept : C0.laid 6 = some acceptPV := rfl
theorem C0_P : C0.P = Tryz.prog := rfl
theorem laid0 : C0.laid 0 = some [.int .i32 32, .int .u8 0] := rfl
theorem laid1 : C0.laid 1 = some [.int .i32 32, .int .u8 0] := rfl
theorem mixed : C0.P.follows .mixedOrders = true := by kernel_rfl
theorem sz2 : szOf Tryz.prog 2 = some 1 := by kernel_rfl
theorem zero2 : zeroOf Tryz.prog 2 = some (.int .i64 0) := by kernel_rfl
theorem bytes2 : bytesOf Tryz.prog 2 = some 8 := by kernel_rfl
theorem sz3 : szOf Tryz.prog 3 = some 1 := by kernel_rfl
theorem zero3 : zeroOf Tryz.prog 3 = some (.int .i64 0) := by kernel_rfl
theorem bytes3 : bytesOf Tryz.prog 3 = some 8 := by kernel_rfl
theorem sz4 : szOf Tryz.prog 4 = some 1 := by kernel_rfl
theorem zero4 : zeroOf Tryz.prog 4 = some (.bool false) := by kernel_rfl
theorem bytes4 : bytesOf Tryz.prog 4 = some 1 := by kernel_rfl
theorem sz5 : szOf Tryz.prog 5 = some 1 := by kernel_rfl
theorem zero5 : zeroOf Tryz.prog 5 = some (.int .u8 0) := by kernel_rfl
theorem bytes5 : bytesOf Tryz.prog 5 = some 1 := by kernel_rfl
theorem sz9 : szOf Tryz.prog 9 = some 1 := by kernel_rfl
theorem zero9 : zeroOf Tryz.prog 9 = some (.string ByteArray.empty) := by kernel_rfl
theorem bytes9 : bytesOf Tryz.prog 9 = some 16 := by kernel_rfl
theorem sz20 : szOf Tryz.prog 20 = some 1 := by kernel_rfl
theorem zero20 : zeroOf Tryz.prog 20 = some (.nilIface) := by kernel_rfl
theorem bytes20 : bytesOf Tryz.prog 20 = some 16 := by kernel_rfl
theorem sz21 : szOf Tryz.prog 21 = some 1 := by kernel_rfl
theorem zero21 : zeroOf Tryz.prog 21 = some (.int .i32 0) := by kernel_rfl
theorem bytes21 : bytesOf Tryz.prog 21 = some 4 := by kernel_rfl
theorem sz22 : szOf Tryz.prog 22 = some 1 := by kernel_rfl
theorem zero22 : zeroOf Tryz.prog 22 = some (.slice none 0 0) := by kernel_rfl
theorem bytes22 : bytesOf Tryz.prog 22 = some 24 := by kernel_rfl
theorem sz26 : szOf Tryz.prog 26 = some 4 := by kernel_rfl
theorem zero26 : zeroOf Tryz.prog 26 = some (.agg #[.int .i64 0, .string ByteArray.empty, .slice none 0 0, .string ByteArray.empty]) := by kernel_rfl
theorem bytes26 : bytesOf Tryz.prog 26 = some 64 := by kernel_rfl
theorem sz27 : szOf Tryz.prog 27 = some 1 := by kernel_rfl
theorem zero27 : zeroOf Tryz.prog 27 = some (.slice none 0 0) := by kernel_rfl
theorem bytes27 : bytesOf Tryz.prog 27 = some 24 := by kernel_rfl
theorem sz28 : szOf Tryz.prog 28 = some 1 := by kernel_rfl
theorem zero28 : zeroOf Tryz.prog 28 = some (.slice none 0 0) := by kernel_rfl
theorem bytes28 : bytesOf Tryz.prog 28 = some 24 := by kernel_rfl
theorem sz30 : szOf Tryz.prog 30 = some 5 := by kernel_rfl
theorem zero30 : zeroOf Tryz.prog 30 = some (.agg #[.string ByteArray.empty, .string ByteArray.empty, .string ByteArray.empty, .string ByteArray.empty, .slice none 0 0]) := by kernel_rfl
theorem bytes30 : bytesOf Tryz.prog 30 = some 88 := by kernel_rfl
theorem sz31 : szOf Tryz.prog 31 = some 1 := by kernel_rfl
theorem zero31 : zeroOf Tryz.prog 31 = some (.slice none 0 0) := by kernel_rfl
theorem bytes31 : bytesOf Tryz.prog 31 = some 24 := by kernel_rfl
theorem sz36 : szOf Tryz.prog 36 = some 3 := by kernel_rfl
theorem zero36 : zeroOf Tryz.prog 36 = some (.agg #[.int .i64 0, .int .i64 0, .int .i64 0]) := by kernel_rfl
theorem bytes36 : bytesOf Tryz.prog 36 = some 24 := by kernel_rfl
theorem tags36 : tagsOf Tryz.prog 36 = some [.int, .int, .int] := by kernel_rfl
theorem sz37 : szOf Tryz.prog 37 = some 1 := by kernel_rfl
theorem zero37 : zeroOf Tryz.prog 37 = some (.slice none 0 0) := by kernel_rfl
theorem bytes37 : bytesOf Tryz.prog 37 = some 24 := by kernel_rfl
theorem sz38 : szOf Tryz.prog 38 = some 1 := by kernel_rfl
theorem zero38 : zeroOf Tryz.prog 38 = some (.slice none 0 0) := by kernel_rfl
theorem bytes38 : bytesOf Tryz.prog 38 = some 24 := by kernel_rfl
theorem sz39 : szOf Tryz.prog 39 = some 1 := by kernel_rfl
theorem zero39 : zeroOf Tryz.prog 39 = some (.slice none 0 0) := by kernel_rfl
theorem bytes39 : bytesOf Tryz.prog 39 = some 24 := by kernel_rfl
theorem sz41 : szOf Tryz.prog 41 = some 4 := by kernel_rfl
theorem zero41 : zeroOf Tryz.prog 41 = some (.agg #[.string ByteArray.empty, .slice none 0 0, .bool false, .bool false]) := by kernel_rfl
theorem bytes41 : bytesOf Tryz.prog 41 = some 48 := by kernel_rfl
theorem sz43 : szOf Tryz.prog 43 = some 10 := by kernel_rfl
theorem zero43 : zeroOf Tryz.prog 43 = some (.agg #[.int .i64 0, .int .i64 0, .int .i64 0, .slice none 0 0, .slice none 0 0, .slice none 0 0, .string ByteArray.empty, .slice none 0 0, .bool false, .bool false]) := by kernel_rfl
theorem bytes43 : bytesOf Tryz.prog 43 = some 144 := by kernel_rfl
theorem sz48 : szOf Tryz.prog 48 = some 1 := by kernel_rfl
theorem zero48 : zeroOf Tryz.prog 48 = some (.nilFunc) := by kernel_rfl
theorem bytes48 : bytesOf Tryz.prog 48 = some 8 := by kernel_rfl
theorem sz51 : szOf Tryz.prog 51 = some 1 := by kernel_rfl
theorem zero51 : zeroOf Tryz.prog 51 = some (.slice none 0 0) := by kernel_rfl
theorem bytes51 : bytesOf Tryz.prog 51 = some 24 := by kernel_rfl
theorem sz53 : szOf Tryz.prog 53 = some 2 := by kernel_rfl
theorem zero53 : zeroOf Tryz.prog 53 = some (.agg #[.int .u8 0, .int .u8 0]) := by kernel_rfl
theorem bytes53 : bytesOf Tryz.prog 53 = some 2 := by kernel_rfl
theorem tags53 : tagsOf Tryz.prog 53 = some [.int, .int] := by kernel_rfl
theorem sz57 : szOf Tryz.prog 57 = some 2 := by kernel_rfl
theorem zero57 : zeroOf Tryz.prog 57 = some (.agg #[.int .i32 0, .int .u8 0]) := by kernel_rfl
theorem bytes57 : bytesOf Tryz.prog 57 = some 8 := by kernel_rfl
theorem tags57 : tagsOf Tryz.prog 57 = some [.int, .int] := by kernel_rfl
theorem sz61 : szOf Tryz.prog 61 = some 1 := by kernel_rfl
theorem zero61 : zeroOf Tryz.prog 61 = some (.slice none 0 0) := by kernel_rfl
theorem bytes61 : bytesOf Tryz.prog 61 = some 24 := by kernel_rfl
theorem sz64 : szOf Tryz.prog 64 = some 3 := by kernel_rfl
theorem zero64 : zeroOf Tryz.prog 64 = some (.agg #[.int .i64 0, .int .i64 0, .slice none 0 0]) := by kernel_rfl
theorem bytes64 : bytesOf Tryz.prog 64 = some 40 := by kernel_rfl
theorem sz74 : szOf Tryz.prog 74 = some 1 := by kernel_rfl
theorem zero74 : zeroOf Tryz.prog 74 = some (.slice none 0 0) := by kernel_rfl
theorem bytes74 : bytesOf Tryz.prog 74 = some 24 := by kernel_rfl
theorem sz78 : szOf Tryz.prog 78 = some 1 := by kernel_rfl
theorem zero78 : zeroOf Tryz.prog 78 = some (.nilFunc) := by kernel_rfl
theorem bytes78 : bytesOf Tryz.prog 78 = some 8 := by kernel_rfl
theorem sz79 : szOf Tryz.prog 79 = some 1 := by kernel_rfl
theorem zero79 : zeroOf Tryz.prog 79 = some (.pointer none) := by kernel_rfl
theorem bytes79 : bytesOf Tryz.prog 79 = some 8 := by kernel_rfl
theorem sz80 : szOf Tryz.prog 80 = some 1 := by kernel_rfl
theorem zero80 : zeroOf Tryz.prog 80 = some (.pointer none) := by kernel_rfl
theorem bytes80 : bytesOf Tryz.prog 80 = some 8 := by kernel_rfl
theorem sz82 : szOf Tryz.prog 82 = some 4 := by kernel_rfl
theorem zero82 : zeroOf Tryz.prog 82 = some (.agg #[.string ByteArray.empty, .string ByteArray.empty, .string ByteArray.empty, .string ByteArray.empty]) := by kernel_rfl
theorem bytes82 : bytesOf Tryz.prog 82 = some 64 := by kernel_rfl
theorem sz83 : szOf Tryz.prog 83 = some 1 := by kernel_rfl
theorem zero83 : zeroOf Tryz.prog 83 = some (.slice none 0 0) := by kernel_rfl
theorem bytes83 : bytesOf Tryz.prog 83 = some 24 := by kernel_rfl
theorem sz85 : szOf Tryz.prog 85 = some 9 := by kernel_rfl
theorem zero85 : zeroOf Tryz.prog 85 = some (.agg #[.pointer none, .slice none 0 0, .string ByteArray.empty, .string ByteArray.empty, .string ByteArray.empty, .string ByteArray.empty, .string ByteArray.empty, .bool false, .slice none 0 0]) := by kernel_rfl
theorem bytes85 : bytesOf Tryz.prog 85 = some 144 := by kernel_rfl
theorem sz86 : szOf Tryz.prog 86 = some 1 := by kernel_rfl
theorem zero86 : zeroOf Tryz.prog 86 = some (.nilFunc) := by kernel_rfl
theorem bytes86 : bytesOf Tryz.prog 86 = some 8 := by kernel_rfl
theorem sz89 : szOf Tryz.prog 89 = some 1 := by kernel_rfl
theorem zero89 : zeroOf Tryz.prog 89 = some (.slice none 0 0) := by kernel_rfl
theorem bytes89 : bytesOf Tryz.prog 89 = some 24 := by kernel_rfl
theorem sz92 : szOf Tryz.prog 92 = some 2 := by kernel_rfl
theorem zero92 : zeroOf Tryz.prog 92 = some (.agg #[.bool false, .slice none 0 0]) := by kernel_rfl
theorem bytes92 : bytesOf Tryz.prog 92 = some 32 := by kernel_rfl
theorem sz93 : szOf Tryz.prog 93 = some 1 := by kernel_rfl
theorem zero93 : zeroOf Tryz.prog 93 = some (.slice none 0 0) := by kernel_rfl
theorem bytes93 : bytesOf Tryz.prog 93 = some 24 := by kernel_rfl
theorem sz96 : szOf Tryz.prog 96 = some 1 := by kernel_rfl
theorem zero96 : zeroOf Tryz.prog 96 = some (.slice none 0 0) := by kernel_rfl
theorem bytes96 : bytesOf Tryz.prog 96 = some 24 := by kernel_rfl
theorem sz101 : szOf Tryz.prog 101 = some 1 := by kernel_rfl
theorem zero101 : zeroOf Tryz.prog 101 = some (.pointer none) := by kernel_rfl
theorem bytes101 : bytesOf Tryz.prog 101 = some 8 := by kernel_rfl
theorem sz102 : szOf Tryz.prog 102 = some 1 := by kernel_rfl
theorem zero102 : zeroOf Tryz.prog 102 = some (.pointer none) := by kernel_rfl
theorem bytes102 : bytesOf Tryz.prog 102 = some 8 := by kernel_rfl
theorem sz103 : szOf Tryz.prog 103 = some 1 := by kernel_rfl
theorem zero103 : zeroOf Tryz.prog 103 = some (.map none) := by kernel_rfl
theorem bytes103 : bytesOf Tryz.prog 103 = some 8 := by kernel_rfl
theorem sz105 : szOf Tryz.prog 105 = some 8 := by kernel_rfl
theorem zero105 : zeroOf Tryz.prog 105 = some (.agg #[.pointer none, .slice none 0 0, .bool false, .pointer none, .pointer none, .pointer none, .slice none 0 0, .map none]) := by kernel_rfl
theorem bytes105 : bytesOf Tryz.prog 105 = some 96 := by kernel_rfl
theorem sz116 : szOf Tryz.prog 116 = some 1 := by kernel_rfl
theorem zero116 : zeroOf Tryz.prog 116 = some (.pointer none) := by kernel_rfl
theorem bytes116 : bytesOf Tryz.prog 116 = some 8 := by kernel_rfl
theorem sz118 : szOf Tryz.prog 118 = some 4 := by kernel_rfl
theorem zero118 : zeroOf Tryz.prog 118 = some (.agg #[.slice none 0 0, .slice none 0 0, .string ByteArray.empty, .int .i64 0]) := by kernel_rfl
theorem bytes118 : bytesOf Tryz.prog 118 = some 72 := by kernel_rfl
theorem sz122 : szOf Tryz.prog 122 = some 3 := by kernel_rfl
theorem zero122 : zeroOf Tryz.prog 122 = some (.agg #[.slice none 0 0, .bool false, .bool false]) := by kernel_rfl
theorem bytes122 : bytesOf Tryz.prog 122 = some 32 := by kernel_rfl
theorem sz127 : szOf Tryz.prog 127 = some 9 := by kernel_rfl
theorem zero127 : zeroOf Tryz.prog 127 = some (.agg #[.string ByteArray.empty, .string ByteArray.empty, .string ByteArray.empty, .string ByteArray.empty, .slice none 0 0, .slice none 0 0, .slice none 0 0, .int .i64 0, .bool false]) := by kernel_rfl
theorem bytes127 : bytesOf Tryz.prog 127 = some 152 := by kernel_rfl
theorem sz128 : szOf Tryz.prog 128 = some 1 := by kernel_rfl
theorem zero128 : zeroOf Tryz.prog 128 = some (.pointer none) := by kernel_rfl
theorem bytes128 : bytesOf Tryz.prog 128 = some 8 := by kernel_rfl
theorem sz131 : szOf Tryz.prog 131 = some 6 := by kernel_rfl
theorem zero131 : zeroOf Tryz.prog 131 = some (.agg #[.int .i64 0, .string ByteArray.empty, .int .i64 0, .int .i64 0, .bool false, .pointer none]) := by kernel_rfl
theorem bytes131 : bytesOf Tryz.prog 131 = some 56 := by kernel_rfl
theorem sz138 : szOf Tryz.prog 138 = some 1 := by kernel_rfl
theorem zero138 : zeroOf Tryz.prog 138 = some (.nilFunc) := by kernel_rfl
theorem bytes138 : bytesOf Tryz.prog 138 = some 8 := by kernel_rfl
theorem sz144 : szOf Tryz.prog 144 = some 2 := by kernel_rfl
theorem zero144 : zeroOf Tryz.prog 144 = some (.agg #[.slice none 0 0, .slice none 0 0]) := by kernel_rfl
theorem bytes144 : bytesOf Tryz.prog 144 = some 48 := by kernel_rfl
theorem sz150 : szOf Tryz.prog 150 = some 2 := by kernel_rfl
theorem zero150 : zeroOf Tryz.prog 150 = some (.agg #[.int .i64 0, .int .i32 0]) := by kernel_rfl
theorem bytes150 : bytesOf Tryz.prog 150 = some 16 := by kernel_rfl
theorem tags150 : tagsOf Tryz.prog 150 = some [.int, .int] := by kernel_rfl
theorem sz163 : szOf Tryz.prog 163 = some 1 := by kernel_rfl
theorem zero163 : zeroOf Tryz.prog 163 = some (.nilFunc) := by kernel_rfl
theorem bytes163 : bytesOf Tryz.prog 163 = some 8 := by kernel_rfl
theorem sz164 : szOf Tryz.prog 164 = some 2 := by kernel_rfl
theorem zero164 : zeroOf Tryz.prog 164 = some (.agg #[.int .u8 0, .int .u8 0]) := by kernel_rfl
theorem bytes164 : bytesOf Tryz.prog 164 = some 2 := by kernel_rfl
theorem sz165 : szOf Tryz.prog 165 = some 1 := by kernel_rfl
theorem zero165 : zeroOf Tryz.prog 165 = some (.pointer none) := by kernel_rfl
theorem bytes165 : bytesOf Tryz.prog 165 = some 8 := by kernel_rfl
theorem sz167 : szOf Tryz.prog 167 = some 5 := by kernel_rfl
theorem zero167 : zeroOf Tryz.prog 167 = some (.agg #[.slice none 0 0, .slice none 0 0, .int .i64 0, .string ByteArray.empty, .int .i64 0]) := by kernel_rfl
theorem bytes167 : bytesOf Tryz.prog 167 = some 80 := by kernel_rfl
theorem sz170 : szOf Tryz.prog 170 = some 1 := by kernel_rfl
theorem zero170 : zeroOf Tryz.prog 170 = some (.nilFunc) := by kernel_rfl
theorem bytes170 : bytesOf Tryz.prog 170 = some 8 := by kernel_rfl
theorem sz171 : szOf Tryz.prog 171 = some 1 := by kernel_rfl
theorem zero171 : zeroOf Tryz.prog 171 = some (.nilFunc) := by kernel_rfl
theorem bytes171 : bytesOf Tryz.prog 171 = some 8 := by kernel_rfl
theorem sz188 : szOf Tryz.prog 188 = some 1 := by kernel_rfl
theorem zero188 : zeroOf Tryz.prog 188 = some (.pointer none) := by kernel_rfl
theorem bytes188 : bytesOf Tryz.prog 188 = some 8 := by kernel_rfl
theorem sz190 : szOf Tryz.prog 190 = some 1 := by kernel_rfl
theorem zero190 : zeroOf Tryz.prog 190 = some (.agg #[.int .i64 0]) := by kernel_rfl
theorem bytes190 : bytesOf Tryz.prog 190 = some 8 := by kernel_rfl
theorem tags190 : tagsOf Tryz.prog 190 = some [.int] := by kernel_rfl
theorem sz195 : szOf Tryz.prog 195 = some 1 := by kernel_rfl
theorem zero195 : zeroOf Tryz.prog 195 = some (.slice none 0 0) := by kernel_rfl
theorem bytes195 : bytesOf Tryz.prog 195 = some 24 := by kernel_rfl
theorem sz197 : szOf Tryz.prog 197 = some 1 := by kernel_rfl
theorem zero197 : zeroOf Tryz.prog 197 = some (.pointer none) := by kernel_rfl
theorem bytes197 : bytesOf Tryz.prog 197 = some 8 := by kernel_rfl
theorem sz199 : szOf Tryz.prog 199 = some 8 := by kernel_rfl
theorem zero199 : zeroOf Tryz.prog 199 = some (.agg #[.slice none 0 0, .int .i64 0, .int .i64 0, .string ByteArray.empty, .slice none 0 0, .bool false, .bool false, .slice none 0 0]) := by kernel_rfl
theorem bytes199 : bytesOf Tryz.prog 199 = some 112 := by kernel_rfl
theorem sz201 : szOf Tryz.prog 201 = some 1 := by kernel_rfl
theorem zero201 : zeroOf Tryz.prog 201 = some (.pointer none) := by kernel_rfl
theorem bytes201 : bytesOf Tryz.prog 201 = some 8 := by kernel_rfl
theorem sz203 : szOf Tryz.prog 203 = some 4 := by kernel_rfl
theorem zero203 : zeroOf Tryz.prog 203 = some (.agg #[.slice none 0 0, .int .i64 0, .slice none 0 0, .slice none 0 0]) := by kernel_rfl
theorem bytes203 : bytesOf Tryz.prog 203 = some 80 := by kernel_rfl
theorem sz211 : szOf Tryz.prog 211 = some 1 := by kernel_rfl
theorem zero211 : zeroOf Tryz.prog 211 = some (.pointer none) := by kernel_rfl
theorem bytes211 : bytesOf Tryz.prog 211 = some 8 := by kernel_rfl
theorem sz213 : szOf Tryz.prog 213 = some 2 := by kernel_rfl
theorem zero213 : zeroOf Tryz.prog 213 = some (.agg #[.pointer none, .slice none 0 0]) := by kernel_rfl
theorem bytes213 : bytesOf Tryz.prog 213 = some 32 := by kernel_rfl
theorem sz216 : szOf Tryz.prog 216 = some 1 := by kernel_rfl
theorem zero216 : zeroOf Tryz.prog 216 = some (.nilIface) := by kernel_rfl
theorem bytes216 : bytesOf Tryz.prog 216 = some 16 := by kernel_rfl
theorem sz228 : szOf Tryz.prog 228 = some 1 := by kernel_rfl
theorem zero228 : zeroOf Tryz.prog 228 = some (.nilFunc) := by kernel_rfl
theorem bytes228 : bytesOf Tryz.prog 228 = some 8 := by kernel_rfl
theorem sz242 : szOf Tryz.prog 242 = some 1 := by kernel_rfl
theorem zero242 : zeroOf Tryz.prog 242 = some (.int .u64 0) := by kernel_rfl
theorem bytes242 : bytesOf Tryz.prog 242 = some 8 := by kernel_rfl
theorem sz253 : szOf Tryz.prog 253 = some 1 := by kernel_rfl
theorem zero253 : zeroOf Tryz.prog 253 = some (.pointer none) := by kernel_rfl
theorem bytes253 : bytesOf Tryz.prog 253 = some 8 := by kernel_rfl
theorem sz256 : szOf Tryz.prog 256 = some 1 := by kernel_rfl
theorem zero256 : zeroOf Tryz.prog 256 = some (.pointer none) := by kernel_rfl
theorem bytes256 : bytesOf Tryz.prog 256 = some 8 := by kernel_rfl
theorem sz265 : szOf Tryz.prog 265 = some 1 := by kernel_rfl
theorem zero265 : zeroOf Tryz.prog 265 = some (.nilFunc) := by kernel_rfl
theorem bytes265 : bytesOf Tryz.prog 265 = some 8 := by kernel_rfl
theorem sz267 : szOf Tryz.prog 267 = some 1 := by kernel_rfl
theorem zero267 : zeroOf Tryz.prog 267 = some (.int .u32 0) := by kernel_rfl
theorem bytes267 : bytesOf Tryz.prog 267 = some 4 := by kernel_rfl
theorem sz273 : szOf Tryz.prog 273 = some 24 := by kernel_rfl
theorem zero273 : zeroOf Tryz.prog 273 = some (.agg #[.int .u8 0, .int .u8 0, .int .u8 0, .int .u8 0, .int .u8 0, .int .u8 0, .int .u8 0, .int .u8 0, .int .u8 0, .int .u8 0, .int .u8 0, .int .u8 0, .int .u8 0, .int .u8 0, .int .u8 0, .int .u8 0, .int .u8 0, .int .u8 0, .int .u8 0, .int .u8 0, .int .u8 0, .int .u8 0, .int .u8 0, .int .u8 0]) := by kernel_rfl
theorem bytes273 : bytesOf Tryz.prog 273 = some 24 := by kernel_rfl
theorem sz274 : szOf Tryz.prog 274 = some 1 := by kernel_rfl
theorem zero274 : zeroOf Tryz.prog 274 = some (.int .u64 0) := by kernel_rfl
theorem bytes274 : bytesOf Tryz.prog 274 = some 8 := by kernel_rfl
theorem sz283 : szOf Tryz.prog 283 = some 1 := by kernel_rfl
theorem zero283 : zeroOf Tryz.prog 283 = some (.map none) := by kernel_rfl
theorem bytes283 : bytesOf Tryz.prog 283 = some 8 := by kernel_rfl
theorem sz287 : szOf Tryz.prog 287 = some 2 := by kernel_rfl
theorem zero287 : zeroOf Tryz.prog 287 = some (.agg #[.int .u8 0, .int .u8 0]) := by kernel_rfl
theorem bytes287 : bytesOf Tryz.prog 287 = some 2 := by kernel_rfl
theorem tags287 : tagsOf Tryz.prog 287 = some [.int, .int] := by kernel_rfl
theorem sz288 : szOf Tryz.prog 288 = some 32 := by kernel_rfl
theorem zero288 : zeroOf Tryz.prog 288 = some (.agg #[.int .u8 0, .int .u8 0, .int .u8 0, .int .u8 0, .int .u8 0, .int .u8 0, .int .u8 0, .int .u8 0, .int .u8 0, .int .u8 0, .int .u8 0, .int .u8 0, .int .u8 0, .int .u8 0, .int .u8 0, .int .u8 0, .int .u8 0, .int .u8 0, .int .u8 0, .int .u8 0, .int .u8 0, .int .u8 0, .int .u8 0, .int .u8 0, .int .u8 0, .int .u8 0, .int .u8 0, .int .u8 0, .int .u8 0, .int .u8 0, .int .u8 0, .int .u8 0]) := by kernel_rfl
theorem bytes288 : bytesOf Tryz.prog 288 = some 32 := by kernel_rfl
theorem sz290 : szOf Tryz.prog 290 = some 20 := by kernel_rfl
theorem zero290 : zeroOf Tryz.prog 290 = some (.agg #[.int .u64 0, .int .u64 0, .int .u64 0, .int .u64 0, .int .u64 0, .int .u64 0, .int .u64 0, .int .u64 0, .int .u64 0, .int .u64 0, .int .u64 0, .int .u64 0, .int .u64 0, .int .u64 0, .int .u64 0, .int .u64 0, .int .u64 0, .int .u64 0, .int .u64 0, .int .u64 0]) := by kernel_rfl
theorem bytes290 : bytesOf Tryz.prog 290 = some 160 := by kernel_rfl
theorem sz293 : szOf Tryz.prog 293 = some 1 := by kernel_rfl
theorem zero293 : zeroOf Tryz.prog 293 = some (.slice none 0 0) := by kernel_rfl
theorem bytes293 : bytesOf Tryz.prog 293 = some 24 := by kernel_rfl
theorem sz295 : szOf Tryz.prog 295 = some 2 := by kernel_rfl
theorem zero295 : zeroOf Tryz.prog 295 = some (.agg #[.int .i64 0, .int .i64 0]) := by kernel_rfl
theorem bytes295 : bytesOf Tryz.prog 295 = some 16 := by kernel_rfl
theorem tags295 : tagsOf Tryz.prog 295 = some [.int, .int] := by kernel_rfl
theorem sz298 : szOf Tryz.prog 298 = some 32 := by kernel_rfl
theorem zero298 : zeroOf Tryz.prog 298 = some (.agg #[.int .u8 0, .int .u8 0, .int .u8 0, .int .u8 0, .int .u8 0, .int .u8 0, .int .u8 0, .int .u8 0, .int .u8 0, .int .u8 0, .int .u8 0, .int .u8 0, .int .u8 0, .int .u8 0, .int .u8 0, .int .u8 0, .int .u8 0, .int .u8 0, .int .u8 0, .int .u8 0, .int .u8 0, .int .u8 0, .int .u8 0, .int .u8 0, .int .u8 0, .int .u8 0, .int .u8 0, .int .u8 0, .int .u8 0, .int .u8 0, .int .u8 0, .int .u8 0]) := by kernel_rfl
theorem bytes298 : bytesOf Tryz.prog 298 = some 32 := by kernel_rfl
theorem sz299 : szOf Tryz.prog 299 = some 64 := by kernel_rfl
theorem zero299 : zeroOf Tryz.prog 299 = some (.agg #[.int .u8 0, .int .u8 0, .int .u8 0, .int .u8 0, .int .u8 0, .int .u8 0, .int .u8 0, .int .u8 0, .int .u8 0, .int .u8 0, .int .u8 0, .int .u8 0, .int .u8 0, .int .u8 0, .int .u8 0, .int .u8 0, .int .u8 0, .int .u8 0, .int .u8 0, .int .u8 0, .int .u8 0, .int .u8 0, .int .u8 0, .int .u8 0, .int .u8 0, .int .u8 0, .int .u8 0, .int .u8 0, .int .u8 0, .int .u8 0, .int .u8 0, .int .u8 0, .int .u8 0, .int .u8 0, .int .u8 0, .int .u8 0, .int .u8 0, .int .u8 0, .int .u8 0, .int .u8 0, .int .u8 0, .int .u8 0, .int .u8 0, .int .u8 0, .int .u8 0, .int .u8 0, .int .u8 0, .int .u8 0, .int .u8 0, .int .u8 0, .int .u8 0, .int .u8 0, .int .u8 0, .int .u8 0, .int .u8 0, .int .u8 0, .int .u8 0, .int .u8 0, .int .u8 0, .int .u8 0, .int .u8 0, .int .u8 0, .int .u8 0, .int .u8 0]) := by kernel_rfl
theorem bytes299 : bytesOf Tryz.prog 299 = some 64 := by kernel_rfl
attribute [simp] C0_P C0_mapT C0_maps laid3 laid4 laid0 laid1 sz2 zero2 bytes2 sz3 zero3 bytes3 sz4 zero4 bytes4 sz5 zero5 bytes5 sz9 zero9 bytes9 sz20 zero20 bytes20 sz21 zero21 bytes21 sz22 zero22 bytes22 sz26 zero26 bytes26 sz27 zero27 bytes27 sz28 zero28 bytes28 sz30 zero30 bytes30 sz31 zero31 bytes31 sz36 zero36 bytes36 tags36 sz37 zero37 bytes37 sz38 zero38 bytes38 sz39 zero39 bytes39 sz41 zero41 bytes41 sz43 zero43 bytes43 sz48 zero48 bytes48 sz51 zero51 bytes51 sz53 zero53 bytes53 tags53 sz57 zero57 bytes57 tags57 sz61 zero61 bytes61 sz64 zero64 bytes64 sz74 zero74 bytes74 sz78 zero78 bytes78 sz79 zero79 bytes79 sz80 zero80 bytes80 sz82 zero82 bytes82 sz83 zero83 bytes83 sz85 zero85 bytes85 sz86 zero86 bytes86 sz89 zero89 bytes89 sz92 zero92 bytes92 sz93 zero93 bytes93 sz96 zero96 bytes96 sz101 zero101 bytes101 sz102 zero102 bytes102 sz103 zero103 bytes103 sz105 zero105 bytes105 sz116 zero116 bytes116 sz118 zero118 bytes118 sz122 zero122 bytes122 sz127 zero127 bytes127 sz128 zero128 bytes128 sz131 zero131 bytes131 sz138 zero138 bytes138 sz144 zero144 bytes144 sz150 zero150 bytes150 tags150 sz163 zero163 bytes163 sz164 zero164 bytes164 sz165 zero165 bytes165 sz167 zero167 bytes167 sz170 zero170 bytes170 sz171 zero171 bytes171 sz188 zero188 bytes188 sz190 zero190 bytes190 tags190 sz195 zero195 bytes195 sz197 zero197 bytes197 sz199 zero199 bytes199 sz201 zero201 bytes201 sz203 zero203 bytes203 sz211 zero211 bytes211 sz213 zero213 bytes213 sz216 zero216 bytes216 sz228 zero228 bytes228 sz242 zero242 bytes242 sz253 zero253 bytes253 sz256 zero256 bytes256 sz265 zero265 bytes265 sz267 zero267 bytes267 sz273 zero273 bytes273 sz274 zero274 bytes274 sz283 zero283 bytes283 sz287 zero287 bytes287 tags287 sz288 zero288 bytes288 sz290 zero290 bytes290 sz293 zero293 bytes293 sz295 zero295 bytes295 tags295 sz298 zero298 bytes298 sz299 zero299 bytes299 Tryz.underlying0 Tryz.underlying2 Tryz.underlying3 Tryz.underlying4 Tryz.underlying5 Tryz.underlying9 Tryz.underlying20 Tryz.underlying21 Tryz.underlying22 Tryz.underlying26 Tryz.underlying27 Tryz.underlying28 Tryz.underlying30 Tryz.underlying31 Tryz.underlying32 Tryz.underlying36 Tryz.underlying37 Tryz.underlying38 Tryz.underlying39 Tryz.underlying41 Tryz.underlying43 Tryz.underlying48 Tryz.underlying51 Tryz.underlying53 Tryz.underlying54 Tryz.underlying57 Tryz.underlying61 Tryz.underlying64 Tryz.underlying66 Tryz.underlying74 Tryz.underlying75 Tryz.underlying78 Tryz.underlying79 Tryz.underlying80 Tryz.underlying82 Tryz.underlying83 Tryz.underlying85 Tryz.underlying86 Tryz.underlying89 Tryz.underlying92 Tryz.underlying93 Tryz.underlying96 Tryz.underlying97 Tryz.underlying99 Tryz.underlying101 Tryz.underlying102 Tryz.underlying103 Tryz.underlying105 Tryz.underlying107 Tryz.underlying112 Tryz.underlying116 Tryz.underlying118 Tryz.underlying122 Tryz.underlying123 Tryz.underlying127 Tryz.underlying128 Tryz.underlying131 Tryz.underlying132 Tryz.underlying138 Tryz.underlying144 Tryz.underlying145 Tryz.underlying150 Tryz.underlying156 Tryz.underlying158 Tryz.underlying163 Tryz.underlying164 Tryz.underlying165 Tryz.underlying167 Tryz.underlying168 Tryz.underlying170 Tryz.underlying171 Tryz.underlying185 Tryz.underlying188 Tryz.underlying190 Tryz.underlying192 Tryz.underlying195 Tryz.underlying197 Tryz.underlying199 Tryz.underlying201 Tryz.underlying203 Tryz.underlying208 Tryz.underlying211 Tryz.underlying213 Tryz.underlying216 Tryz.underlying217 Tryz.underlying222 Tryz.underlying226 Tryz.underlying228 Tryz.underlying229 Tryz.underlying233 Tryz.underlying237 Tryz.underlying242 Tryz.underlying247 Tryz.underlying248 Tryz.underlying251 Tryz.underlying253 Tryz.underlying256 Tryz.underlying265 Tryz.underlying266 Tryz.underlying267 Tryz.underlying268 Tryz.underlying270 Tryz.underlying273 Tryz.underlying274 Tryz.underlying277 Tryz.underlying283 Tryz.underlying285 Tryz.underlying287 Tryz.underlying288 Tryz.underlying290 Tryz.underlying291 Tryz.underlying293 Tryz.underlying295 Tryz.underlying298 Tryz.underlying299
theorem penter3 {args : List FV} {r : FV} (h : wpC C0 160 [64, 80, 87, 88] [0, 1, 2, 6, 7, 8, 9, 10, 11, 12, 13, 20, 35, 44, 62, 79, 105, 108, 130, 134, 158] (Tryz.f3.body.getD .skip) (argsEnv 0 args) [] fun x e H₁ => (match x with | .exit _ => False | _ => True) ∧ resultOf C0 e H₁ Tryz.f3.results.toList = some r ∧ True) : PCon C0 3 args r :=
  pcon_of (C := C0) (fn := Tryz.f3) Tryz.func3 rfl (by decide) mixed (by kernel_rfl) h
theorem penter11 {args : List FV} {r : FV} (h : wpC C0 21 [] [0, 2, 3, 4, 8] (Tryz.f11.body.getD .skip) (argsEnv 0 args) [] fun x e H₁ => (match x with | .exit _ => False | _ => True) ∧ resultOf C0 e H₁ Tryz.f11.results.toList = some r ∧ True) : PCon C0 11 args r :=
  pcon_of (C := C0) (fn := Tryz.f11) Tryz.func11 rfl (by decide) mixed rfl h
theorem callable11 : callable C0.P 11 = true := by kernel_rfl
theorem penter12 {args : List FV} {r : FV} (h : wpC C0 26 [7, 8, 9] [0, 1, 2, 3] (Tryz.f12.body.getD .skip) (argsEnv 0 args) [] fun x e H₁ => (match x with | .exit _ => False | _ => True) ∧ resultOf C0 e H₁ Tryz.f12.results.toList = some r ∧ True) : PCon C0 12 args r :=
  pcon_of (C := C0) (fn := Tryz.f12) Tryz.func12 rfl (by decide) mixed rfl h
theorem callable12 : callable C0.P 12 = true := by kernel_rfl
theorem penter13 {args : List FV} {r : FV} (h : wpC C0 38 [9000033, 11000000000000000000000000000000000000000000000000000000000000000000000000000000000000000000000000000085480603931384750144, 11000000000000000000000000000000000000000000000000000000000000000000000000000000000000000000000000000085462871007851978816] [0, 2, 3, 4, 6, 10, 11, 12, 13, 26] (Tryz.f13.body.getD .skip) (argsEnv 0 args) [] fun x e H₁ => (match x with | .exit _ => False | _ => True) ∧ resultOf C0 e H₁ Tryz.f13.results.toList = some r ∧ True) : PCon C0 13 args r :=
  pcon_of (C := C0) (fn := Tryz.f13) Tryz.func13 rfl (by decide) mixed (by kernel_rfl) h
theorem callable13 : callable C0.P 13 = true := by kernel_rfl
theorem penter14 {args : List FV} {r : FV} (h : wpC C0 26 [] [0, 1, 4, 5, 10, 14, 25] (Tryz.f14.body.getD .skip) (argsEnv 0 args) [] fun x e H₁ => (match x with | .exit _ => False | _ => True) ∧ resultOf C0 e H₁ Tryz.f14.results.toList = some r ∧ True) : PCon C0 14 args r :=
  pcon_of (C := C0) (fn := Tryz.f14) Tryz.func14 rfl (by decide) mixed (by kernel_rfl) h
theorem callable14 : callable C0.P 14 = true := by kernel_rfl
theorem penter15 {args : List FV} {r : FV} (h : wpC C0 21 [11] [0, 2, 3, 4, 8] (Tryz.f15.body.getD .skip) (argsEnv 0 args) [] fun x e H₁ => (match x with | .exit _ => False | _ => True) ∧ resultOf C0 e H₁ Tryz.f15.results.toList = some r ∧ True) : PCon C0 15 args r :=
  pcon_of (C := C0) (fn := Tryz.f15) Tryz.func15 rfl (by decide) mixed rfl h
theorem callable15 : callable C0.P 15 = true := by kernel_rfl
theorem penter16 {args : List FV} {r : FV} (h : wpC C0 84 [15, 32, 69, 75, 83, 7000021, 7000041, 7000074] [0, 2, 3, 4, 5, 6, 7, 8, 12, 29, 50, 66] (Tryz.f16.body.getD .skip) (argsEnv 0 args) [] fun x e H₁ => (match x with | .exit _ => False | _ => True) ∧ resultOf C0 e H₁ Tryz.f16.results.toList = some r ∧ True) : PCon C0 16 args r :=
  pcon_of (C := C0) (fn := Tryz.f16) Tryz.func16 rfl (by decide) mixed rfl h
theorem callable16 : callable C0.P 16 = true := by kernel_rfl
theorem penter34 {args : List FV} {r : FV} (h : wpC C0 78 [44, 45, 56] [0, 1, 4, 5, 6, 7, 8, 9, 10, 17, 21, 30, 49, 50, 51] (Tryz.f34.body.getD .skip) (argsEnv 0 args) [] fun x e H₁ => (match x with | .exit _ => False | _ => True) ∧ resultOf C0 e H₁ Tryz.f34.results.toList = some r ∧ True) : PCon C0 34 args r :=
  pcon_of (C := C0) (fn := Tryz.f34) Tryz.func34 rfl (by decide) mixed (by kernel_rfl) h
theorem callable34 : callable C0.P 34 = true := by kernel_rfl
theorem penter35 {args : List FV} {r : FV} (h : wpC C0 36 [24, 28, 35] [0, 2, 3, 4, 6, 7, 8, 9, 10, 16, 23] (Tryz.f35.body.getD .skip) (argsEnv 0 args) [] fun x e H₁ => (match x with | .exit _ => False | _ => True) ∧ resultOf C0 e H₁ Tryz.f35.results.toList = some r ∧ True) : PCon C0 35 args r :=
  pcon_of (C := C0) (fn := Tryz.f35) Tryz.func35 rfl (by decide) mixed (by kernel_rfl) h
theorem callable35 : callable C0.P 35 = true := by kernel_rfl
theorem penter36 {args : List FV} {r : FV} (h : wpC C0 16 [] [0, 2] (Tryz.f36.body.getD .skip) (argsEnv 0 args) [] fun x e H₁ => (match x with | .exit _ => False | _ => True) ∧ resultOf C0 e H₁ Tryz.f36.results.toList = some r ∧ True) : PCon C0 36 args r :=
  pcon_of (C := C0) (fn := Tryz.f36) Tryz.func36 rfl (by decide) mixed rfl h
theorem callable36 : callable C0.P 36 = true := by kernel_rfl
theorem enter37 {args : List FV} {H H' : Heap} {r : FV} (h : wpC C0 3 [] [0] (Tryz.f37.body.getD .skip) (argsEnv 0 args) H fun x e H₁ => (match x with | .exit _ => False | _ => True) ∧ resultOf C0 e H₁ Tryz.f37.results.toList = some r ∧ H₁ = H') : Con C0 37 args H r H' :=
  con_of (C := C0) (fn := Tryz.f37) Tryz.func37 rfl (by decide) mixed rfl h
theorem callable37 : callable C0.P 37 = true := by kernel_rfl
theorem enter38 {args : List FV} {H H' : Heap} {r : FV} (h : wpC C0 157 [25, 26, 43, 59, 60, 8000083] [0, 1, 3, 4, 5, 6, 7, 8, 9, 20, 31, 49, 61, 70, 94, 99, 106, 112, 119, 124, 129, 134, 136, 143, 150] (Tryz.f38.body.getD .skip) (argsEnv 0 args) H fun x e H₁ => (match x with | .exit _ => False | _ => True) ∧ resultOf C0 e H₁ Tryz.f38.results.toList = some r ∧ H₁ = H') : Con C0 38 args H r H' :=
  con_of (C := C0) (fn := Tryz.f38) Tryz.func38 rfl (by decide) mixed (by kernel_rfl) h
theorem callable38 : callable C0.P 38 = true := by kernel_rfl
theorem enter39 {args : List FV} {H H' : Heap} {r : FV} (h : wpC C0 17 [] [0, 2, 6] (Tryz.f39.body.getD .skip) (argsEnv 0 args) H fun x e H₁ => (match x with | .exit _ => False | _ => True) ∧ resultOf C0 e H₁ Tryz.f39.results.toList = some r ∧ H₁ = H') : Con C0 39 args H r H' :=
  con_of (C := C0) (fn := Tryz.f39) Tryz.func39 rfl (by decide) mixed rfl h
theorem callable39 : callable C0.P 39 = true := by kernel_rfl
theorem enter40 {args : List FV} {H H' : Heap} {r : FV} (h : wpC C0 18 [10] [0, 1, 2] (Tryz.f40.body.getD .skip) (argsEnv 0 args) H fun x e H₁ => (match x with | .exit _ => False | _ => True) ∧ resultOf C0 e H₁ Tryz.f40.results.toList = some r ∧ H₁ = H') : Con C0 40 args H r H' :=
  con_of (C := C0) (fn := Tryz.f40) Tryz.func40 rfl (by decide) mixed rfl h
theorem callable40 : callable C0.P 40 = true := by kernel_rfl
theorem callable41 : callable C0.P 41 = true := by kernel_rfl
theorem penter42 {args : List FV} {r : FV} (h : wpC C0 60 [] [0, 2, 3, 8, 10, 15, 26] (Tryz.f42.body.getD .skip) (argsEnv 0 args) [] fun x e H₁ => (match x with | .exit _ => False | _ => True) ∧ resultOf C0 e H₁ Tryz.f42.results.toList = some r ∧ True) : PCon C0 42 args r :=
  pcon_of (C := C0) (fn := Tryz.f42) Tryz.func42 rfl (by decide) mixed rfl h
theorem callable42 : callable C0.P 42 = true := by kernel_rfl
theorem henter43 {args : List FV} {r : FV} (h : wpC C0 26 [18, 25] [0, 1, 4, 5, 9, 17] (Tryz.f43.body.getD .skip) (argsEnv 0 args) [] fun x e H₁ => (match x with | .exit _ => False | _ => True) ∧ resultOf C0 e H₁ Tryz.f43.results.toList = some r ∧ True) : PConH C0 43 args r :=
  pconH_of (C := C0) (fn := Tryz.f43) Tryz.func43 rfl (by decide) mixed rfl h
theorem callable43 : callable C0.P 43 = true := by kernel_rfl
theorem enter54 {args : List FV} {H H' : Heap} {r : FV} (h : wpC C0 35 [8000028] [0, 10, 17] (Tryz.f54.body.getD .skip) (argsEnv 0 args) H fun x e H₁ => (match x with | .exit _ => False | _ => True) ∧ resultOf C0 e H₁ Tryz.f54.results.toList = some r ∧ H₁ = H') : Con C0 54 args H r H' :=
  con_of (C := C0) (fn := Tryz.f54) Tryz.func54 rfl (by decide) mixed (by kernel_rfl) h
theorem callable54 : callable C0.P 54 = true := by kernel_rfl
theorem penter55 {args : List FV} {r : FV} (h : wpC C0 24 [13, 14, 19, 20, 21, 23] [0, 1, 2, 4, 5, 6, 7, 8, 9] (Tryz.f55.body.getD .skip) (argsEnv 0 args) [] fun x e H₁ => (match x with | .exit _ => False | _ => True) ∧ resultOf C0 e H₁ Tryz.f55.results.toList = some r ∧ True) : PCon C0 55 args r :=
  pcon_of (C := C0) (fn := Tryz.f55) Tryz.func55 rfl (by decide) mixed (by kernel_rfl) h
theorem callable55 : callable C0.P 55 = true := by kernel_rfl
theorem callable56 : callable C0.P 56 = true := by kernel_rfl
theorem penter66 {args : List FV} {r : FV} (h : wpC C0 19 [17] [0, 1, 4, 5, 7, 8, 9, 16] (Tryz.f66.body.getD .skip) (argsEnv 0 args) [] fun x e H₁ => (match x with | .exit _ => False | _ => True) ∧ resultOf C0 e H₁ Tryz.f66.results.toList = some r ∧ True) : PCon C0 66 args r :=
  pcon_of (C := C0) (fn := Tryz.f66) Tryz.func66 rfl (by decide) mixed rfl h
theorem callable66 : callable C0.P 66 = true := by kernel_rfl
theorem callable67 : callable C0.P 67 = true := by kernel_rfl
theorem penter68 {args : List FV} {r : FV} (h : wpC C0 26 [] [0, 2, 3, 4, 12] (Tryz.f68.body.getD .skip) (argsEnv 0 args) [] fun x e H₁ => (match x with | .exit _ => False | _ => True) ∧ resultOf C0 e H₁ Tryz.f68.results.toList = some r ∧ True) : PCon C0 68 args r :=
  pcon_of (C := C0) (fn := Tryz.f68) Tryz.func68 rfl (by decide) mixed rfl h
theorem callable68 : callable C0.P 68 = true := by kernel_rfl
theorem penter69 {args : List FV} {r : FV} (h : wpC C0 8 [] [0, 2, 4] (Tryz.f69.body.getD .skip) (argsEnv 0 args) [] fun x e H₁ => (match x with | .exit _ => False | _ => True) ∧ resultOf C0 e H₁ Tryz.f69.results.toList = some r ∧ True) : PCon C0 69 args r :=
  pcon_of (C := C0) (fn := Tryz.f69) Tryz.func69 rfl (by decide) mixed rfl h
theorem callable69 : callable C0.P 69 = true := by kernel_rfl
theorem enter70 {args : List FV} {H H' : Heap} {r : FV} (h : wpC C0 21 [] [0, 2, 8] (Tryz.f70.body.getD .skip) (argsEnv 0 args) H fun x e H₁ => (match x with | .exit _ => False | _ => True) ∧ resultOf C0 e H₁ Tryz.f70.results.toList = some r ∧ H₁ = H') : Con C0 70 args H r H' :=
  con_of (C := C0) (fn := Tryz.f70) Tryz.func70 rfl (by decide) mixed (by kernel_rfl) h
theorem callable70 : callable C0.P 70 = true := by kernel_rfl
theorem callable71 : callable C0.P 71 = true := by kernel_rfl
theorem enter72 {args : List FV} {H H' : Heap} {r : FV} (h : wpC C0 40 [8000034] [0, 2, 23] (Tryz.f72.body.getD .skip) (argsEnv 0 args) H fun x e H₁ => (match x with | .exit _ => False | _ => True) ∧ resultOf C0 e H₁ Tryz.f72.results.toList = some r ∧ H₁ = H') : Con C0 72 args H r H' :=
  con_of (C := C0) (fn := Tryz.f72) Tryz.func72 rfl (by decide) mixed (by kernel_rfl) h
theorem callable72 : callable C0.P 72 = true := by kernel_rfl
theorem penter73 {args : List FV} {r : FV} (h : wpC C0 25 [] [0, 2, 3, 18] (Tryz.f73.body.getD .skip) (argsEnv 0 args) [] fun x e H₁ => (match x with | .exit _ => False | _ => True) ∧ resultOf C0 e H₁ Tryz.f73.results.toList = some r ∧ True) : PCon C0 73 args r :=
  pcon_of (C := C0) (fn := Tryz.f73) Tryz.func73 rfl (by decide) mixed (by kernel_rfl) h
theorem callable73 : callable C0.P 73 = true := by kernel_rfl
theorem enter74 {args : List FV} {H H' : Heap} {r : FV} (h : wpC C0 29 [] [0, 1, 2, 7, 12] (Tryz.f74.body.getD .skip) (argsEnv 0 args) H fun x e H₁ => (match x with | .exit _ => False | _ => True) ∧ resultOf C0 e H₁ Tryz.f74.results.toList = some r ∧ H₁ = H') : Con C0 74 args H r H' :=
  con_of (C := C0) (fn := Tryz.f74) Tryz.func74 rfl (by decide) mixed rfl h
theorem callable74 : callable C0.P 74 = true := by kernel_rfl
theorem callable75 : callable C0.P 75 = true := by kernel_rfl
theorem enter77 {args : List FV} {H H' : Heap} {r : FV} (h : wpC C0 66 [39, 40, 60, 2000062, 2000063] [0, 1, 3, 4, 5, 6, 7, 20, 32, 46, 55] (Tryz.f77.body.getD .skip) (argsEnv 0 args) H fun x e H₁ => (match x with | .exit _ => False | _ => True) ∧ resultOf C0 e H₁ Tryz.f77.results.toList = some r ∧ H₁ = H') : Con C0 77 args H r H' :=
  con_of (C := C0) (fn := Tryz.f77) Tryz.func77 rfl (by decide) mixed (by kernel_rfl) h
theorem callable77 : callable C0.P 77 = true := by kernel_rfl
theorem enter78 {args : List FV} {H H' : Heap} {r : FV} (h : wpC C0 80 [8000050, 11000000000000000000000000000000000000000000000000000000000000000000000000000000000000000000000000359723203064972803055680, 11000000000000000000000000000000000000000000000000000000000000000000000000000000000000000000000000359723201943540752719936, 11000000000000000000000000000000000000000000000000000000000000000000000000000000000000000000000000359720915517837075554368] [0, 1, 3, 4, 5, 16, 24, 43, 44, 57, 63] (Tryz.f78.body.getD .skip) (argsEnv 0 args) H fun x e H₁ => (match x with | .exit _ => False | _ => True) ∧ resultOf C0 e H₁ Tryz.f78.results.toList = some r ∧ H₁ = H') : Con C0 78 args H r H' :=
  con_of (C := C0) (fn := Tryz.f78) Tryz.func78 rfl (by decide) mixed (by kernel_rfl) h
theorem callable78 : callable C0.P 78 = true := by kernel_rfl
theorem callable80 : callable C0.P 80 = true := by kernel_rfl
theorem callable81 : callable C0.P 81 = true := by kernel_rfl
theorem penter82 {args : List FV} {r : FV} (h : wpC C0 12 [] [0, 1, 2, 3] (Tryz.f82.body.getD .skip) (argsEnv 0 args) [] fun x e H₁ => (match x with | .exit _ => False | _ => True) ∧ resultOf C0 e H₁ Tryz.f82.results.toList = some r ∧ True) : PCon C0 82 args r :=
  pcon_of (C := C0) (fn := Tryz.f82) Tryz.func82 rfl (by decide) mixed rfl h
theorem callable82 : callable C0.P 82 = true := by kernel_rfl
theorem penter83 {args : List FV} {r : FV} (h : wpC C0 17 [] [0, 2] (Tryz.f83.body.getD .skip) (argsEnv 0 args) [] fun x e H₁ => (match x with | .exit _ => False | _ => True) ∧ resultOf C0 e H₁ Tryz.f83.results.toList = some r ∧ True) : PCon C0 83 args r :=
  pcon_of (C := C0) (fn := Tryz.f83) Tryz.func83 rfl (by decide) mixed rfl h
theorem callable83 : callable C0.P 83 = true := by kernel_rfl
theorem enter104 {args : List FV} {H H' : Heap} {r : FV} (h : wpC C0 30 [] [0, 1, 4, 5, 11, 29] (Tryz.f104.body.getD .skip) (argsEnv 0 args) H fun x e H₁ => (match x with | .exit _ => False | _ => True) ∧ resultOf C0 e H₁ Tryz.f104.results.toList = some r ∧ H₁ = H') : Con C0 104 args H r H' :=
  con_of (C := C0) (fn := Tryz.f104) Tryz.func104 rfl (by decide) mixed (by kernel_rfl) h
theorem callable104 : callable C0.P 104 = true := by kernel_rfl
theorem callable110 : callable C0.P 110 = true := by kernel_rfl
theorem penter111 {args : List FV} {r : FV} (h : wpC C0 74 [] [0, 2, 3, 4, 5, 6, 21, 43, 48, 51, 59] (Tryz.f111.body.getD .skip) (argsEnv 0 args) [] fun x e H₁ => (match x with | .exit _ => False | _ => True) ∧ resultOf C0 e H₁ Tryz.f111.results.toList = some r ∧ True) : PCon C0 111 args r :=
  pcon_of (C := C0) (fn := Tryz.f111) Tryz.func111 rfl (by decide) mixed (by kernel_rfl) h
theorem callable111 : callable C0.P 111 = true := by kernel_rfl
theorem penter112 {args : List FV} {r : FV} (h : wpC C0 42 [19, 29, 40] [0, 1, 2, 4, 5, 6, 8, 9, 10, 11, 12, 16, 17, 27, 33] (Tryz.f112.body.getD .skip) (argsEnv 0 args) [] fun x e H₁ => (match x with | .exit _ => False | _ => True) ∧ resultOf C0 e H₁ Tryz.f112.results.toList = some r ∧ True) : PCon C0 112 args r :=
  pcon_of (C := C0) (fn := Tryz.f112) Tryz.func112 rfl (by decide) mixed (by kernel_rfl) h
theorem callable112 : callable C0.P 112 = true := by kernel_rfl
theorem penter116 {args : List FV} {r : FV} (h : wpC C0 23 [] [0, 1, 4, 5, 11] (Tryz.f116.body.getD .skip) (argsEnv 0 args) [] fun x e H₁ => (match x with | .exit _ => False | _ => True) ∧ resultOf C0 e H₁ Tryz.f116.results.toList = some r ∧ True) : PCon C0 116 args r :=
  pcon_of (C := C0) (fn := Tryz.f116) Tryz.func116 rfl (by decide) mixed rfl h
theorem callable116 : callable C0.P 116 = true := by kernel_rfl
theorem callable124 : callable C0.P 124 = true := by kernel_rfl
theorem enter125 {args : List FV} {H H' : Heap} {r : FV} (h : wpC C0 35 [] [0, 1, 4, 5, 8, 9, 15, 24] (Tryz.f125.body.getD .skip) (argsEnv 0 args) H fun x e H₁ => (match x with | .exit _ => False | _ => True) ∧ resultOf C0 e H₁ Tryz.f125.results.toList = some r ∧ H₁ = H') : Con C0 125 args H r H' :=
  con_of (C := C0) (fn := Tryz.f125) Tryz.func125 rfl (by decide) mixed rfl h
theorem callable125 : callable C0.P 125 = true := by kernel_rfl
theorem penter126 {args : List FV} {r : FV} (h : wpC C0 24 [16, 23] [0, 1, 4, 5, 7, 10, 11, 12, 13] (Tryz.f126.body.getD .skip) (argsEnv 0 args) [] fun x e H₁ => (match x with | .exit _ => False | _ => True) ∧ resultOf C0 e H₁ Tryz.f126.results.toList = some r ∧ True) : PCon C0 126 args r :=
  pcon_of (C := C0) (fn := Tryz.f126) Tryz.func126 rfl (by decide) mixed rfl h
theorem callable126 : callable C0.P 126 = true := by kernel_rfl
theorem enter127 {args : List FV} {H H' : Heap} {r : FV} (h : wpC C0 30 [18] [0, 1, 2, 7, 8, 9, 10, 11] (Tryz.f127.body.getD .skip) (argsEnv 0 args) H fun x e H₁ => (match x with | .exit _ => False | _ => True) ∧ resultOf C0 e H₁ Tryz.f127.results.toList = some r ∧ H₁ = H') : Con C0 127 args H r H' :=
  con_of (C := C0) (fn := Tryz.f127) Tryz.func127 rfl (by decide) mixed (by kernel_rfl) h
theorem callable127 : callable C0.P 127 = true := by kernel_rfl
theorem callable128 : callable C0.P 128 = true := by kernel_rfl
theorem penter130 {args : List FV} {r : FV} (h : wpC C0 15 [] [0, 1, 2, 4, 9] (Tryz.f130.body.getD .skip) (argsEnv 0 args) [] fun x e H₁ => (match x with | .exit _ => False | _ => True) ∧ resultOf C0 e H₁ Tryz.f130.results.toList = some r ∧ True) : PCon C0 130 args r :=
  pcon_of (C := C0) (fn := Tryz.f130) Tryz.func130 rfl (by decide) mixed rfl h
theorem callable130 : callable C0.P 130 = true := by kernel_rfl
theorem enter131 {args : List FV} {H H' : Heap} {r : FV} (h : wpC C0 32 [] [0, 1, 2, 3, 4, 11] (Tryz.f131.body.getD .skip) (argsEnv 0 args) H fun x e H₁ => (match x with | .exit _ => False | _ => True) ∧ resultOf C0 e H₁ Tryz.f131.results.toList = some r ∧ H₁ = H') : Con C0 131 args H r H' :=
  con_of (C := C0) (fn := Tryz.f131) Tryz.func131 rfl (by decide) mixed rfl h
theorem callable131 : callable C0.P 131 = true := by kernel_rfl
theorem enter132 {args : List FV} {H H' : Heap} {r : FV} (h : wpC C0 26 [8000025] [0, 1, 3, 4, 15] (Tryz.f132.body.getD .skip) (argsEnv 0 args) H fun x e H₁ => (match x with | .exit _ => False | _ => True) ∧ resultOf C0 e H₁ Tryz.f132.results.toList = some r ∧ H₁ = H') : Con C0 132 args H r H' :=
  con_of (C := C0) (fn := Tryz.f132) Tryz.func132 rfl (by decide) mixed (by kernel_rfl) h
theorem callable132 : callable C0.P 132 = true := by kernel_rfl
theorem callable133 : callable C0.P 133 = true := by kernel_rfl
theorem callable134 : callable C0.P 134 = true := by kernel_rfl
theorem callable136 : callable C0.P 136 = true := by kernel_rfl
theorem callable137 : callable C0.P 137 = true := by kernel_rfl
theorem enter143 {args : List FV} {H H' : Heap} {r : FV} (h : wpC C0 10 [] [0, 2, 4] (Tryz.f143.body.getD .skip) (argsEnv 0 args) H fun x e H₁ => (match x with | .exit _ => False | _ => True) ∧ resultOf C0 e H₁ Tryz.f143.results.toList = some r ∧ H₁ = H') : Con C0 143 args H r H' :=
  con_of (C := C0) (fn := Tryz.f143) Tryz.func143 rfl (by decide) mixed rfl h
theorem callable143 : callable C0.P 143 = true := by kernel_rfl
theorem enter144 {args : List FV} {H H' : Heap} {r : FV} (h : wpC C0 20 [11, 2000016, 4000000000000000000000000000000000000000000000000000000000000000000000000000000000000000000000023329313775742927122473024, 4000000000000000000000000000000000000000000000000000000000000000000000000000000000000000000000022427416717412624331710528, 4000000000000000000000000000000000000000000000000000000000000000000000000000000000000000000000022408602227407742214873152] [0, 1, 3, 5] (Tryz.f144.body.getD .skip) (argsEnv 0 args) H fun x e H₁ => (match x with | .exit _ => False | _ => True) ∧ resultOf C0 e H₁ Tryz.f144.results.toList = some r ∧ H₁ = H') : Con C0 144 args H r H' :=
  con_of (C := C0) (fn := Tryz.f144) Tryz.func144 rfl (by decide) mixed (by kernel_rfl) h
theorem callable144 : callable C0.P 144 = true := by kernel_rfl
theorem callable145 : callable C0.P 145 = true := by kernel_rfl
theorem penter149 {args : List FV} {r : FV} (h : wpC C0 76 [63, 69] [0, 1, 2, 3, 4, 6, 7, 8, 9, 19, 31, 32, 33, 34, 48, 55] (Tryz.f149.body.getD .skip) (argsEnv 0 args) [] fun x e H₁ => (match x with | .exit _ => False | _ => True) ∧ resultOf C0 e H₁ Tryz.f149.results.toList = some r ∧ True) : PCon C0 149 args r :=
  pcon_of (C := C0) (fn := Tryz.f149) Tryz.func149 rfl (by decide) mixed rfl h
theorem callable149 : callable C0.P 149 = true := by kernel_rfl
theorem penter150 {args : List FV} {r : FV} (h : wpC C0 22 [12, 13, 14, 21] [0, 2, 3, 4, 5, 8] (Tryz.f150.body.getD .skip) (argsEnv 0 args) [] fun x e H₁ => (match x with | .exit _ => False | _ => True) ∧ resultOf C0 e H₁ Tryz.f150.results.toList = some r ∧ True) : PCon C0 150 args r :=
  pcon_of (C := C0) (fn := Tryz.f150) Tryz.func150 rfl (by decide) mixed rfl h
theorem callable150 : callable C0.P 150 = true := by kernel_rfl
theorem enter151 {args : List FV} {H H' : Heap} {r : FV} (h : wpC C0 18 [10] [0, 1, 2] (Tryz.f151.body.getD .skip) (argsEnv 0 args) H fun x e H₁ => (match x with | .exit _ => False | _ => True) ∧ resultOf C0 e H₁ Tryz.f151.results.toList = some r ∧ H₁ = H') : Con C0 151 args H r H' :=
  con_of (C := C0) (fn := Tryz.f151) Tryz.func151 rfl (by decide) mixed rfl h
theorem callable151 : callable C0.P 151 = true := by kernel_rfl
theorem enter152 {args : List FV} {H H' : Heap} {r : FV} (h : wpC C0 92 [] [0, 1, 4, 5, 15, 36, 40, 45, 51, 55, 60, 66, 72, 74, 87] (Tryz.f152.body.getD .skip) (argsEnv 0 args) H fun x e H₁ => (match x with | .exit _ => False | _ => True) ∧ resultOf C0 e H₁ Tryz.f152.results.toList = some r ∧ H₁ = H') : Con C0 152 args H r H' :=
  con_of (C := C0) (fn := Tryz.f152) Tryz.func152 rfl (by decide) mixed (by kernel_rfl) h
theorem callable152 : callable C0.P 152 = true := by kernel_rfl
theorem penter153 {args : List FV} {r : FV} (h : wpC C0 21 [] [0, 2, 3, 16] (Tryz.f153.body.getD .skip) (argsEnv 0 args) [] fun x e H₁ => (match x with | .exit _ => False | _ => True) ∧ resultOf C0 e H₁ Tryz.f153.results.toList = some r ∧ True) : PCon C0 153 args r :=
  pcon_of (C := C0) (fn := Tryz.f153) Tryz.func153 rfl (by decide) mixed rfl h
theorem callable153 : callable C0.P 153 = true := by kernel_rfl
theorem enter154 {args : List FV} {H H' : Heap} {r : FV} (h : wpC C0 19 [10] [0, 1, 2] (Tryz.f154.body.getD .skip) (argsEnv 0 args) H fun x e H₁ => (match x with | .exit _ => False | _ => True) ∧ resultOf C0 e H₁ Tryz.f154.results.toList = some r ∧ H₁ = H') : Con C0 154 args H r H' :=
  con_of (C := C0) (fn := Tryz.f154) Tryz.func154 rfl (by decide) mixed rfl h
theorem callable154 : callable C0.P 154 = true := by kernel_rfl
theorem penter155 {args : List FV} {r : FV} (h : wpC C0 25 [] [0, 1, 2, 4, 5, 6, 8, 11] (Tryz.f155.body.getD .skip) (argsEnv 0 args) [] fun x e H₁ => (match x with | .exit _ => False | _ => True) ∧ resultOf C0 e H₁ Tryz.f155.results.toList = some r ∧ True) : PCon C0 155 args r :=
  pcon_of (C := C0) (fn := Tryz.f155) Tryz.func155 rfl (by decide) mixed rfl h
theorem callable155 : callable C0.P 155 = true := by kernel_rfl
theorem callable157 : callable C0.P 157 = true := by kernel_rfl
theorem penter166 {args : List FV} {r : FV} (h : wpC C0 12 [] [0, 2, 3, 4, 7] (Tryz.f166.body.getD .skip) (argsEnv 0 args) [] fun x e H₁ => (match x with | .exit _ => False | _ => True) ∧ resultOf C0 e H₁ Tryz.f166.results.toList = some r ∧ True) : PCon C0 166 args r :=
  pcon_of (C := C0) (fn := Tryz.f166) Tryz.func166 rfl (by decide) mixed rfl h
theorem callable166 : callable C0.P 166 = true := by kernel_rfl
theorem callable167 : callable C0.P 167 = true := by kernel_rfl
theorem penter173 {args : List FV} {r : FV} (h : wpC C0 20 [] [0, 1, 4, 5, 6, 10] (Tryz.f173.body.getD .skip) (argsEnv 0 args) [] fun x e H₁ => (match x with | .exit _ => False | _ => True) ∧ resultOf C0 e H₁ Tryz.f173.results.toList = some r ∧ True) : PCon C0 173 args r :=
  pcon_of (C := C0) (fn := Tryz.f173) Tryz.func173 rfl (by decide) mixed rfl h
theorem callable173 : callable C0.P 173 = true := by kernel_rfl
theorem penter174 {args : List FV} {r : FV} (h : wpC C0 47 [14, 15, 16, 17, 18] [0, 1, 2, 4, 5, 7, 8, 9, 10, 25, 30, 35, 40] (Tryz.f174.body.getD .skip) (argsEnv 0 args) [] fun x e H₁ => (match x with | .exit _ => False | _ => True) ∧ resultOf C0 e H₁ Tryz.f174.results.toList = some r ∧ True) : PCon C0 174 args r :=
  pcon_of (C := C0) (fn := Tryz.f174) Tryz.func174 rfl (by decide) mixed rfl h
theorem callable174 : callable C0.P 174 = true := by kernel_rfl
theorem penter175 {args : List FV} {r : FV} (h : wpC C0 35 [] [0, 1, 2, 4, 5, 13, 19, 25] (Tryz.f175.body.getD .skip) (argsEnv 0 args) [] fun x e H₁ => (match x with | .exit _ => False | _ => True) ∧ resultOf C0 e H₁ Tryz.f175.results.toList = some r ∧ True) : PCon C0 175 args r :=
  pcon_of (C := C0) (fn := Tryz.f175) Tryz.func175 rfl (by decide) mixed rfl h
theorem callable175 : callable C0.P 175 = true := by kernel_rfl
theorem penter176 {args : List FV} {r : FV} (h : wpC C0 26 [21, 22, 23, 24, 25] [0, 2, 3, 4, 5, 6, 7, 8, 10, 13, 15, 17, 19] (Tryz.f176.body.getD .skip) (argsEnv 0 args) [] fun x e H₁ => (match x with | .exit _ => False | _ => True) ∧ resultOf C0 e H₁ Tryz.f176.results.toList = some r ∧ True) : PCon C0 176 args r :=
  pcon_of (C := C0) (fn := Tryz.f176) Tryz.func176 rfl (by decide) mixed rfl h
theorem callable176 : callable C0.P 176 = true := by kernel_rfl
theorem callable188 : callable C0.P 188 = true := by kernel_rfl
theorem penter189 {args : List FV} {r : FV} (h : wpC C0 6 [5] [0, 2, 4] (Tryz.f189.body.getD .skip) (argsEnv 0 args) [] fun x e H₁ => (match x with | .exit _ => False | _ => True) ∧ resultOf C0 e H₁ Tryz.f189.results.toList = some r ∧ True) : PCon C0 189 args r :=
  pcon_of (C := C0) (fn := Tryz.f189) Tryz.func189 rfl (by decide) mixed rfl h
theorem penter190 {args : List FV} {r : FV} (h : wpC C0 9 [] [0, 1, 4] (Tryz.f190.body.getD .skip) (argsEnv 0 args) [] fun x e H₁ => (match x with | .exit _ => False | _ => True) ∧ resultOf C0 e H₁ Tryz.f190.results.toList = some r ∧ True) : PCon C0 190 args r :=
  pcon_of (C := C0) (fn := Tryz.f190) Tryz.func190 rfl (by decide) mixed rfl h
theorem callable190 : callable C0.P 190 = true := by kernel_rfl
theorem penter191 {args : List FV} {r : FV} (h : wpC C0 34 [24, 28, 33] [0, 2, 3, 4, 6, 7, 8, 9, 10, 17, 23] (Tryz.f191.body.getD .skip) (argsEnv 0 args) [] fun x e H₁ => (match x with | .exit _ => False | _ => True) ∧ resultOf C0 e H₁ Tryz.f191.results.toList = some r ∧ True) : PCon C0 191 args r :=
  pcon_of (C := C0) (fn := Tryz.f191) Tryz.func191 rfl (by decide) mixed rfl h
theorem callable191 : callable C0.P 191 = true := by kernel_rfl
theorem penter192 {args : List FV} {r : FV} (h : wpC C0 75 [73, 74] [0, 2, 3, 4, 5, 6, 8, 12, 17, 24, 31, 45, 48, 49, 50, 51, 56, 72] (Tryz.f192.body.getD .skip) (argsEnv 0 args) [] fun x e H₁ => (match x with | .exit _ => False | _ => True) ∧ resultOf C0 e H₁ Tryz.f192.results.toList = some r ∧ True) : PCon C0 192 args r :=
  pcon_of (C := C0) (fn := Tryz.f192) Tryz.func192 rfl (by decide) mixed rfl h
theorem callable192 : callable C0.P 192 = true := by kernel_rfl
theorem enter193 {args : List FV} {H H' : Heap} {r : FV} (h : wpC C0 39 [17, 18, 29, 30] [0, 1, 2, 6, 7, 8, 9, 10, 11, 12, 20, 24, 31] (Tryz.f193.body.getD .skip) (argsEnv 0 args) H fun x e H₁ => (match x with | .exit _ => False | _ => True) ∧ resultOf C0 e H₁ Tryz.f193.results.toList = some r ∧ H₁ = H') : Con C0 193 args H r H' :=
  con_of (C := C0) (fn := Tryz.f193) Tryz.func193 rfl (by decide) mixed rfl h
theorem callable193 : callable C0.P 193 = true := by kernel_rfl
theorem enter198 {args : List FV} {H H' : Heap} {r : FV} (h : wpC C0 27 [26, 4000022] [0, 1, 4, 6, 16] (Tryz.f198.body.getD .skip) (argsEnv 0 args) H fun x e H₁ => (match x with | .exit _ => False | _ => True) ∧ resultOf C0 e H₁ Tryz.f198.results.toList = some r ∧ H₁ = H') : Con C0 198 args H r H' :=
  con_of (C := C0) (fn := Tryz.f198) Tryz.func198 rfl (by decide) mixed rfl h
theorem callable198 : callable C0.P 198 = true := by kernel_rfl
theorem penter204 {args : List FV} {r : FV} (h : wpC C0 187 [177, 178, 179, 182] [0, 1, 4, 5, 6, 7, 8, 9, 10, 11, 12, 13, 14, 15, 16, 26, 33, 43, 51, 64, 98, 108, 124, 139, 143, 156, 160, 171, 175, 176, 177, 181, 183] (Tryz.f204.body.getD .skip) (argsEnv 0 args) [] fun x e H₁ => (match x with | .exit _ => False | _ => True) ∧ resultOf C0 e H₁ Tryz.f204.results.toList = some r ∧ True) : PCon C0 204 args r :=
  pcon_of (C := C0) (fn := Tryz.f204) Tryz.func204 rfl (by decide) mixed (by kernel_rfl) h
theorem callable204 : callable C0.P 204 = true := by kernel_rfl
theorem penter219 {args : List FV} {r : FV} (h : wpC C0 19 [12, 18] [0, 2, 3, 5, 6, 7, 8, 9] (Tryz.f219.body.getD .skip) (argsEnv 0 args) [] fun x e H₁ => (match x with | .exit _ => False | _ => True) ∧ resultOf C0 e H₁ Tryz.f219.results.toList = some r ∧ True) : PCon C0 219 args r :=
  pcon_of (C := C0) (fn := Tryz.f219) Tryz.func219 rfl (by decide) mixed rfl h
theorem callable219 : callable C0.P 219 = true := by kernel_rfl
theorem callable222 : callable C0.P 222 = true := by kernel_rfl
theorem penter229 {args : List FV} {r : FV} (h : wpC C0 17 [] [0, 2] (Tryz.f229.body.getD .skip) (argsEnv 0 args) [] fun x e H₁ => (match x with | .exit _ => False | _ => True) ∧ resultOf C0 e H₁ Tryz.f229.results.toList = some r ∧ True) : PCon C0 229 args r :=
  pcon_of (C := C0) (fn := Tryz.f229) Tryz.func229 rfl (by decide) mixed rfl h
theorem callable229 : callable C0.P 229 = true := by kernel_rfl
theorem penter230 {args : List FV} {r : FV} (h : wpC C0 12 [] [0, 2, 3, 6, 9] (Tryz.f230.body.getD .skip) (argsEnv 0 args) [] fun x e H₁ => (match x with | .exit _ => False | _ => True) ∧ resultOf C0 e H₁ Tryz.f230.results.toList = some r ∧ True) : PCon C0 230 args r :=
  pcon_of (C := C0) (fn := Tryz.f230) Tryz.func230 rfl (by decide) mixed rfl h
theorem callable230 : callable C0.P 230 = true := by kernel_rfl
theorem enter231 {args : List FV} {H H' : Heap} {r : FV} (h : wpC C0 104 [103] [0, 1, 4, 5, 6, 7, 8, 9, 19, 23, 28, 36, 78] (Tryz.f231.body.getD .skip) (argsEnv 0 args) H fun x e H₁ => (match x with | .exit _ => False | _ => True) ∧ resultOf C0 e H₁ Tryz.f231.results.toList = some r ∧ H₁ = H') : Con C0 231 args H r H' :=
  con_of (C := C0) (fn := Tryz.f231) Tryz.func231 rfl (by decide) mixed (by kernel_rfl) h
theorem callable231 : callable C0.P 231 = true := by kernel_rfl
theorem penter232 {args : List FV} {r : FV} (h : wpC C0 55 [14, 15, 17, 42, 43, 54] [0, 2, 3, 4, 5, 6, 7, 8, 9, 16, 30, 34, 45, 53] (Tryz.f232.body.getD .skip) (argsEnv 0 args) [] fun x e H₁ => (match x with | .exit _ => False | _ => True) ∧ resultOf C0 e H₁ Tryz.f232.results.toList = some r ∧ True) : PCon C0 232 args r :=
  pcon_of (C := C0) (fn := Tryz.f232) Tryz.func232 rfl (by decide) mixed rfl h
theorem callable232 : callable C0.P 232 = true := by kernel_rfl
theorem penter233 {args : List FV} {r : FV} (h : wpC C0 14 [10, 11, 12, 13] [0, 2, 3, 4, 5] (Tryz.f233.body.getD .skip) (argsEnv 0 args) [] fun x e H₁ => (match x with | .exit _ => False | _ => True) ∧ resultOf C0 e H₁ Tryz.f233.results.toList = some r ∧ True) : PCon C0 233 args r :=
  pcon_of (C := C0) (fn := Tryz.f233) Tryz.func233 rfl (by decide) mixed rfl h
theorem callable233 : callable C0.P 233 = true := by kernel_rfl
theorem callable237 : callable C0.P 237 = true := by kernel_rfl
theorem penter250 {args : List FV} {r : FV} (h : wpC C0 19 [17] [0, 1, 4, 5, 7, 8, 9, 16] (Tryz.f250.body.getD .skip) (argsEnv 0 args) [] fun x e H₁ => (match x with | .exit _ => False | _ => True) ∧ resultOf C0 e H₁ Tryz.f250.results.toList = some r ∧ True) : PCon C0 250 args r :=
  pcon_of (C := C0) (fn := Tryz.f250) Tryz.func250 rfl (by decide) mixed rfl h
theorem callable250 : callable C0.P 250 = true := by kernel_rfl
theorem penter251 {args : List FV} {r : FV} (h : wpC C0 25 [] [0, 2, 3, 4, 14] (Tryz.f251.body.getD .skip) (argsEnv 0 args) [] fun x e H₁ => (match x with | .exit _ => False | _ => True) ∧ resultOf C0 e H₁ Tryz.f251.results.toList = some r ∧ True) : PCon C0 251 args r :=
  pcon_of (C := C0) (fn := Tryz.f251) Tryz.func251 rfl (by decide) mixed rfl h
theorem callable251 : callable C0.P 251 = true := by kernel_rfl
theorem penter252 {args : List FV} {r : FV} (h : wpC C0 11 [10] [0, 2, 9] (Tryz.f252.body.getD .skip) (argsEnv 0 args) [] fun x e H₁ => (match x with | .exit _ => False | _ => True) ∧ resultOf C0 e H₁ Tryz.f252.results.toList = some r ∧ True) : PCon C0 252 args r :=
  pcon_of (C := C0) (fn := Tryz.f252) Tryz.func252 rfl (by decide) mixed rfl h
theorem callable252 : callable C0.P 252 = true := by kernel_rfl
end Go.Proofs.YtkjgkhgklkdbjaaGreatDoor.Ev
end
section
namespace Go.Proofs.YtkjgkhgklkdbjaaGreatDoor.Ev
open Go
section
variable {C : Ctx} {nt : Nat} {mv vars : List Nat} {call : Nat → FuncId → List FV → Heap → FV → Heap → Prop} {ops : Array Oper}
def KSeq (C : Ctx) (nt : Nat) (mv vars : List Nat) (b : Code) (Q : Ex → Env → Heap → Prop) : Ex → Env → Heap → Prop := fun x e H => match x with
  | .normal => wpC C nt mv vars b e H Q
  | x => Q x e H
def KBlock (id : Nat) (Q : Ex → Env → Heap → Prop) : Ex → Env → Heap → Prop := fun x e H => match x with
  | .exit i => if i = id then Q .normal e H else Q (.exit i) e H
  | x => Q x e H
def KEnd (vars : List Nat) (Q : Ex → Env → Heap → Prop) : Env → Heap → Prop := fun e H => Q .normal (keep vars e) H
def KRest (C : Ctx) (nt : Nat) (mv : List Nat) (call : Nat → FuncId → List FV → Heap → FV → Heap → Prop) (ops : Array Oper) (l : List Oper) (K : Env → Heap → Prop) : Env → Heap → Prop := fun e H => wpOps C nt mv call ops l e H K
def CondC (C : Ctx) (nt : Nat) (mv vars : List Nat) (t : Bool) (a b : Code) (e : Env) (H : Heap) (Q : Ex → Env → Heap → Prop) : Prop := Cond t (wpC C nt mv vars a e H Q) (wpC C nt mv vars b e H Q)
def LoopC (C : Ctx) (nt : Nat) (mv vars : List Nat) (c : Code) (e : Env) (H : Heap) (Q : Ex → Env → Heap → Prop) : Prop := Loop (wpC C nt mv vars c) e H Q
theorem KSeq_normal {b : Code} {Q : Ex → Env → Heap → Prop} {e : Env} {H : Heap} : KSeq C nt mv vars b Q .normal e H = wpC C nt mv vars b e H Q := rfl
theorem KSeq_exit {b : Code} {Q : Ex → Env → Heap → Prop} {e : Env} {H : Heap} {i : Nat} : KSeq C nt mv vars b Q (.exit i) e H = Q (.exit i) e H := rfl
theorem KSeq_ret {b : Code} {Q : Ex → Env → Heap → Prop} {e : Env} {H : Heap} : KSeq C nt mv vars b Q .ret e H = Q .ret e H := rfl
theorem KBlock_normal {id : Nat} {Q : Ex → Env → Heap → Prop} {e : Env} {H : Heap} : KBlock id Q .normal e H = Q .normal e H := rfl
theorem KBlock_ret {id : Nat} {Q : Ex → Env → Heap → Prop} {e : Env} {H : Heap} : KBlock id Q .ret e H = Q .ret e H := rfl
theorem KBlock_exit {id i : Nat} {Q : Ex → Env → Heap → Prop} {e : Env} {H : Heap} : KBlock id Q (.exit i) e H = if i = id then Q .normal e H else Q (.exit i) e H := rfl
theorem KEnd_apply {Q : Ex → Env → Heap → Prop} {e : Env} {H : Heap} : KEnd vars Q e H = Q .normal (keep vars e) H := rfl
theorem KRest_apply {l : List Oper} {K : Env → Heap → Prop} {e : Env} {H : Heap} : KRest C nt mv call ops l K e H = wpOps C nt mv call ops l e H K := rfl
theorem KCall_apply {e : Env} {dst : Option Nat} {K : Env → Heap → Prop} {r : FV} {H : Heap} : KCall e dst K r H = K (e.put dst r.home) H := rfl
theorem CondC_true {a b : Code} {e : Env} {H : Heap} {Q : Ex → Env → Heap → Prop} : CondC C nt mv vars true a b e H Q = wpC C nt mv vars a e H Q := by simp [CondC, Cond]
theorem CondC_false {a b : Code} {e : Env} {H : Heap} {Q : Ex → Env → Heap → Prop} : CondC C nt mv vars false a b e H Q = wpC C nt mv vars b e H Q := by simp [CondC, Cond]
theorem CondC.mk {t : Bool} {a b : Code} {e : Env} {H : Heap} {Q : Ex → Env → Heap → Prop} (h1 : t = true → wpC C nt mv vars a e H Q) (h2 : t = false → wpC C nt mv vars b e H Q) : CondC C nt mv vars t a b e H Q := ⟨h1, h2⟩
theorem NilQ.mk {l : List PV} {sg : Bool} {e : Env} {dst : Option Nat} {H : Heap} {K : Env → Heap → Prop} (h1 : l ≠ [] → K (e.put dst (.sc (.bool sg))) H) (h2 : l = [] → ∀ b, K (e.put dst (.sc (.bool b))) H) : NilQ l sg e dst H K := ⟨h1, h2⟩
section
variable {e : Env} {H : Heap} {Q : Ex → Env → Heap → Prop} {K : Env → Heap → Prop}
theorem wpC_skip : wpC C nt mv vars .skip e H Q = Q .normal e H := rfl
theorem wpC_label {l : Nat} : wpC C nt mv vars (.label l) e H Q = Q .normal e H := rfl
theorem wpC_exit {i : Nat} : wpC C nt mv vars (.exit i) e H Q = Q (.exit i) e H := rfl
theorem wpC_ret : wpC C nt mv vars .ret e H Q = Q .ret e H := rfl
theorem wpC_seq {a b : Code} : wpC C nt mv vars (.seq a b) e H Q = wpC C nt mv vars a e H (KSeq C nt mv vars b Q) := rfl
theorem wpC_block {id : Nat} {a : Code} : wpC C nt mv vars (.block id a) e H Q = wpC C nt mv vars a e H (KBlock id Q) := rfl
theorem wpC_scope {a : Code} : wpC C nt mv vars (.scope a) e H Q = wpC C nt mv vars a e H Q := rfl
theorem wpC_loop {a : Code} : wpC C nt mv vars (.loop a) e H Q = LoopC C nt mv vars a e H Q := rfl
theorem wpC_cond {c : Operand} {a b : Code} : wpC C nt mv vars (.cond c a b) e H Q = match rd C e c with
    | some (.sc (.bool t)) => CondC C nt mv vars t a b e H Q
    | _ => False := rfl
theorem wpC_region {id : Nat} {ops : Array Oper} : wpC C nt mv vars (.region id ops false) e H Q = wpOps C nt mv (fun _ => Call C) ops ops.toList e H (KEnd vars Q) := rfl
theorem wpC_regionD {id : Nat} {ops : Array Oper} : wpC C nt mv vars (.region id ops true) e H Q = (barred mv id = false ∧ DrawC C nt mv ops e H (KEnd vars Q) (ordersOf mv id)) := rfl
theorem DrawC_nil : DrawC C nt mv ops e H K [] = wpOps C nt mv (CallP C) ops ops.toList e H K := rfl
theorem DrawC.mk2 {l : List Nat} {R : List (List Nat)} (ρ : Det) (h : ∀ r ∈ l :: R, wpOps C nt mv (CallD C (det ρ)) ops (opersOf ops r) e H K) : DrawC C nt mv ops e H K (l :: R) := ⟨ρ, h⟩
def det0 (ρ : FuncId → List FV → FV) : Rho := det ⟨ρ, fun _ _ _ => (.undef, [])⟩
theorem DrawC.mk {l : List Nat} {R : List (List Nat)} (ρ : FuncId → List FV → FV) (h : ∀ r ∈ l :: R, wpOps C nt mv (CallD C (det0 ρ)) ops (opersOf ops r) e H K) : DrawC C nt mv ops e H K (l :: R) := ⟨⟨ρ, fun _ _ _ => (.undef, [])⟩, h⟩
theorem DrawC.two {l₁ l₂ : List Nat} (ρ : FuncId → List FV → FV) (h1 : wpOps C nt mv (CallD C (det0 ρ)) ops (opersOf ops l₁) e H K) (h2 : wpOps C nt mv (CallD C (det0 ρ)) ops (opersOf ops l₂) e H K) : DrawC C nt mv ops e H K [l₁, l₂] :=
  DrawC.mk ρ fun r hr => by
    rcases List.mem_cons.1 hr with rfl | hr
    · exact h1
    · rw [List.mem_singleton.1 hr]; exact h2
theorem wpOps_nil : wpOps C nt mv call ops [] e H K = K e H := rfl
def WantC (C : Ctx) (nt : Nat) (mv : List Nat) (call : Nat → FuncId → List FV → Heap → FV → Heap → Prop) (ops : Array Oper) (o : Oper) (l : List Oper) (e : Env) (H : Heap) (K : Env → Heap → Prop) : Option Bool → Prop
  | some true => wpOp C nt mv call o e H (KRest C nt mv call ops l K)
  | some false => KRest C nt mv call ops l K (e.put o.dst (.tup [])) H
  | none => False
theorem WantC_true {o : Oper} {l : List Oper} : WantC C nt mv call ops o l e H K (some true) = wpOp C nt mv call o e H (KRest C nt mv call ops l K) := rfl
theorem WantC_false {o : Oper} {l : List Oper} : WantC C nt mv call ops o l e H K (some false) = KRest C nt mv call ops l K (e.put o.dst (.tup [])) H := rfl
theorem WantC_none {o : Oper} {l : List Oper} : WantC C nt mv call ops o l e H K none = False := rfl
theorem wpOps_cons {o : Oper} {l : List Oper} : wpOps C nt mv call ops (o :: l) e H K = WantC C nt mv call ops o l e H K (wanted nt ops e o) := by
  unfold wpOps WantC
  rcases wanted nt ops e o with _ | t
  · rfl
  · cases t <;> rfl
end
end
attribute [simp] handed HandQ DrawC_nil ordersOf decOrd opersOf WantC_true WantC_false WantC_none isClear boxed rowed rowOf body rowCells MoveQ ZerosQ zeroed stripO demote0 located callMode pended pendSlots PendQ setBody barred bytesConv strOf bytesFrom byteOf wpC_skip wpC_label wpC_exit wpC_ret wpC_seq wpC_block wpC_scope wpC_loop wpC_cond wpC_region wpC_regionD wpOps_nil wpOps_cons KSeq_normal KSeq_exit KSeq_ret KBlock_normal KBlock_ret KBlock_exit KEnd_apply KRest_apply KCall_apply CondC_true CondC_false
  argsEnv dstOk wanted wpOp give rd FV.ofConst FV.ofValue Env.put keep Env.get FV.home FV.homeE empd nilArg mvOf valOp demote demote1 FV.asRow FV.asList Value.cells rdAll rdParts rdo resultOf resAll resOf strip
  nilRow isAppend binOf intBin strBin unOf convOf lenOf foldMin foldMax minFrom maxFrom sliceOf loOf hiOf partOf fieldOf aggOf buildOf fillOf fieldPlaces FV.cells FV.ofValues FV.toPV FV.leafPV allPV PV.toFV PV.leaves
  FV.isLeaf PV.isLeaf FV.noPtr FV.np0 FV.np1 splice eqAll
theorem CallQ.mk {call : FuncId → List FV → Heap → FV → Heap → Prop} {f : FuncId} {args : List FV} {H H' : Heap} {r : FV} {K : FV → Heap → Prop} (h : call f args H r H') (hK : K r H') : CallQ call f args H K := ⟨r, H', h, hK⟩
theorem Call.pure {C : Ctx} {f : FuncId} {args : List FV} {H : Heap} {r : FV} (hc : callable C.P f = true) (ha : args.all FV.noPtr = true) (hr : r.noPtr = true) (h : PCon C f args r) : Call C f args H r H :=
  ⟨hc, .inl ⟨rfl, ha, hr, h⟩⟩
theorem CallP.pure {C : Ctx} {f : FuncId} {args : List FV} {H : Heap} {r : FV} (hc : callable C.P f = true) (ha : args.all FV.noPtr = true) (hr : r.noPtr = true) (h : PCon C f args r) : CallP C 0 f args H r H := by
  simp only [CallP, if_true]
  exact ⟨hc, rfl, ha, hr, h⟩
theorem CallD.pure {C : Ctx} {ρ : Rho} {f : FuncId} {args : List FV} {H : Heap} {r : FV} (hc : callable C.P f = true) (ha : args.all FV.noPtr = true) (hr : r.noPtr = true) (h : PCon C f args r) (hρ : ρ.p f args r) : CallD C ρ 0 f args H r H := by
  simp only [CallD, if_true]
  exact ⟨⟨hc, rfl, ha, hr, h⟩, hρ⟩
theorem CallP.shared {C : Ctx} {f : FuncId} {args : List FV} {H : Heap} {r : FV} {H' : Heap} (hc : callable C.P f = true) (h : Con C f args H r H') : CallP C 1 f args H r H' := by
  show (if (1 : Nat) = 0 then _ else if (1 : Nat) = 2 then _ else _)
  rw [if_neg (by decide), if_neg (by decide)]
  exact ⟨hc, .inr h⟩
theorem CallD.reads {C : Ctx} {ρ : Rho} {f : FuncId} {args : List FV} {H : Heap} {r : FV} (hc : callable C.P f = true) (h : Con C f args H r H) (hρ : ρ.p f args r) : CallD C ρ 2 f args H r H := by
  show (if (2 : Nat) = 0 then _ else if (2 : Nat) = 2 then _ else _)
  rw [if_neg (by decide), if_pos rfl]
  exact ⟨⟨⟨hc, .inr h⟩, rfl⟩, hρ⟩
theorem CallD.shared {C : Ctx} {ρ : Rho} {f : FuncId} {args : List FV} {H : Heap} {r : FV} {H' : Heap} (hc : callable C.P f = true) (h : Con C f args H r H') (hρ : ρ.q f args H r H') : CallD C ρ 1 f args H r H' := by
  show (if (1 : Nat) = 0 then _ else if (1 : Nat) = 2 then _ else _)
  rw [if_neg (by decide), if_neg (by decide)]
  exact ⟨⟨hc, .inr h⟩, hρ⟩
theorem Call.shared {C : Ctx} {f : FuncId} {args : List FV} {H : Heap} {r : FV} {H' : Heap} (hc : callable C.P f = true) (h : Con C f args H r H') : Call C f args H r H' := ⟨hc, .inr h⟩
theorem CallH.mk {C : Ctx} {f : FuncId} {args : List FV} {r : FV} {K : FV → Prop} (hc : callable C.P f = true) (ha : args.all FV.noPtr = true) (hr : r.noPtr = true) (h : PConH C f args r) (hK : K r) : CallH C f args K := ⟨r, hc, ha, hr, h, hK⟩
theorem loop_of {step : Env → Heap → (Ex → Env → Heap → Prop) → Prop} {Q : Ex → Env → Heap → Prop} (hm : ∀ e H Q Q', (∀ x e H, Q x e H → Q' x e H) → step e H Q → step e H Q') (I : Nat → Env → Heap → Prop)
    (round : ∀ d e H, I d e H → step e H fun x e' H' => match x with | .normal => ∃ d' < d, I d' e' H' | x => Q x e' H') : ∀ d e H, I d e H → Loop step e H Q := by
  have key : ∀ n d e H, d ≤ n → I d e H → iterP step (n + 1) e H Q := by
    intro n
    induction n with
    | zero =>
      intro d e H hd hI
      refine hm _ _ _ _ (fun x e' H' h => ?_) (round d e H hI)
      cases x with
      | normal => obtain ⟨d', h1, _⟩ := h; omega
      | exit i => exact h
      | ret => exact h
    | succ n ih =>
      intro d e H hd hI
      refine hm _ _ _ _ (fun x e' H' h => ?_) (round d e H hI)
      cases x with
      | normal => obtain ⟨d', h1, h2⟩ := h; exact ih d' e' H' (by omega) h2
      | exit i => exact h
      | ret => exact h
  exact fun d e H h => ⟨d + 1, key d d e H (Nat.le_refl _) h⟩
theorem wpOp_mono' {C : Ctx} {nt : Nat} {mv : List Nat} {call : Nat → FuncId → List FV → Heap → FV → Heap → Prop} {o : Oper} {e : Env} {H : Heap} {K K' : Env → Heap → Prop} (hh : ∀ e H, K e H → K' e H) (h : wpOp C nt mv call o e H K) : wpOp C nt mv call o e H K' := by
  unfold wpOp at h ⊢
  refine ⟨h.1, ?_⟩
  have h := h.2
  split at h
  · split at h
    · exact hh _ _ h
    · exact h.elim
  · split at h
    · rename_i hm
      rw [if_pos hm]
      split at h
      · exact hh _ _ h
      · exact h.elim
    · rename_i hm
      rw [if_neg hm]
      split at h
      · exact hh _ _ h
      · exact h.elim
  · split at h
    · rename_i hm
      rw [if_pos hm]
      split at h
      · split at h
        · exact hh _ _ h
        · exact h.elim
      · exact h.elim
    · rename_i hm
      rw [if_neg hm]
      split at h
      · exact hh _ _ h
      · exact h.elim
  · split at h
    · rename_i hm
      rw [if_pos hm]
      split at h
      · split at h
        · exact hh _ _ h
        · exact h.elim
      · split at h
        · exact ⟨h.1, hh _ _ h.2⟩
        · exact h.elim
      · split at h
        · obtain ⟨h1, h⟩ := h
          refine ⟨h1, ?_⟩
          split at h
          · exact hh _ _ h
          · exact h.elim
        · exact h.elim
      · exact h.elim
    · rename_i hm
      rw [if_neg hm]
      split at h
      · exact hh _ _ h
      · exact h.elim
  · split at h
    · split at h
      · exact hh _ _ h
      · exact h.elim
    · exact h.elim
  · split at h
    · split at h
      · exact ⟨h.1, hh _ _ h.2⟩
      · exact h.elim
    · exact h.elim
  · split at h
    · split at h
      · exact ⟨h.1, h.2.1, h.2.2.1, hh _ _ h.2.2.2⟩
      · exact h.elim
    · split at h
      · exact ⟨h.1, h.2.1, h.2.2.1, h.2.2.2.1, hh _ _ h.2.2.2.2⟩
      · exact h.elim
    · obtain ⟨h0, h⟩ := h
      refine ⟨h0, ?_⟩
      split at h
      · split at h
        · split at h
          · exact ⟨h.1, h.2.1, h.2.2.1, h.2.2.2.1, hh _ _ h.2.2.2.2⟩
          · exact h.elim
        · exact ⟨h.1, h.2.1, h.2.2.1, h.2.2.2.1, hh _ _ h.2.2.2.2⟩
        · exact h.elim
      · exact h.elim
    · exact h.elim
  · split at h
    · rename_i hm
      rw [if_pos hm]
      split at h
      · split at h
        · split at h
          · obtain ⟨h1, h2, h3, h4, h5, h⟩ := h
            exact ⟨h1, h2, h3, h4, h5, hh _ _ h⟩
          · exact h.elim
        · exact h.elim
      · exact h.elim
    rename_i hm
    rw [if_neg hm]
    split at h
    · split at h
      · obtain ⟨h1, h2, h3, h4, h⟩ := h
        refine ⟨h1, h2, h3, h4, ?_⟩
        split at h
        · exact ⟨h.1, hh _ _ h.2⟩
        · exact h.elim
      · exact h.elim
    · exact h.elim
  · split at h
    · rename_i hm
      rw [if_pos hm]
      split at h
      · exact hh _ _ h
      · exact hh _ _ h
      · exact hh _ _ h
      · exact hh _ _ h
      · split at h
        · exact ⟨fun hl => hh _ _ (h.1 hl), fun hl b => hh _ _ (h.2 hl b)⟩
        · exact h.elim
      · split at h
        · exact ⟨fun hl => hh _ _ (h.1 hl), fun hl b => hh _ _ (h.2 hl b)⟩
        · exact h.elim
      · exact h.elim
    · rename_i hm
      rw [if_neg hm]
      split at h
      · exact hh _ _ h
      · exact h.elim
  · split at h
    · exact hh _ _ h
    · split at h
      · exact hh _ _ h
      · exact h.elim
  · split at h
    · split at h
      · rename_i hm
        rw [if_pos hm]
        unfold HandQ at h ⊢
        split at h
        · split at h
          · obtain ⟨r, h1, h2, h3, h4, hK⟩ := h
            exact ⟨r, h1, h2, h3, h4, hh _ _ hK⟩
          · exact h.elim
        · exact h.elim
      rename_i hm
      rw [if_neg hm]
      split at h
      · obtain ⟨r, H', hc, hK⟩ := h
        exact ⟨r, H', hc, hh _ _ hK⟩
      · exact h.elim
    · split at h
      · rename_i hm
        rw [if_pos hm]
        unfold PendQ at h ⊢
        split at h
        · split at h
          · split at h
            · split at h
              · obtain ⟨h1, h2, h3, h4, h5, h6, h7, h⟩ := h
                exact ⟨h1, h2, h3, h4, h5, h6, h7, fun k o => hh _ _ (h k o)⟩
              · exact h.elim
            · exact h.elim
          · exact h.elim
        · exact h.elim
      rename_i hp0
      rw [if_neg hp0]
      split at h
      · rename_i hm
        rw [if_pos hm]
        unfold ZerosQ at h ⊢
        split at h
        · split at h
          · split at h
            · obtain ⟨h1, h2, h3, h4, h5, h6, h⟩ := h
              exact ⟨h1, h2, h3, h4, h5, h6, hh _ _ h⟩
            · exact h.elim
          · exact h.elim
        · exact h.elim
      rename_i hz0
      rw [if_neg hz0]
      split at h
      · rename_i hm
        rw [if_pos hm]
        split at h
        · split at h
          · split at h
            · split at h
              · obtain ⟨hr, h⟩ := h
                refine ⟨hr, ?_⟩
                split at h
                · obtain ⟨h1, h2, h3, h4, h5, h6, h7, h8, h9, h⟩ := h
                  exact ⟨h1, h2, h3, h4, h5, h6, h7, h8, h9, hh _ _ h⟩
                · exact h.elim
              · split at h
                · rename_i hrw
                  rw [if_pos hrw]
                  obtain ⟨h1, h2, h3, h4, h5, h6, h7, h8, h⟩ := h
                  exact ⟨h1, h2, h3, h4, h5, h6, h7, h8, hh _ _ h⟩
                rename_i hrw
                rw [if_neg hrw]
                split at h
                · rename_i hbx
                  rw [if_pos hbx]
                  obtain ⟨h1, h2, h3, h4, h5, h6, h7, h8, h⟩ := h
                  exact ⟨h1, h2, h3, h4, h5, h6, h7, h8, hh _ _ h⟩
                · rename_i hbx
                  rw [if_neg hbx]
                  obtain ⟨h1, h2, h3, h4, h5, h6, h7, h⟩ := h
                  exact ⟨h1, h2, h3, h4, h5, h6, h7, hh _ _ h⟩
              · obtain ⟨h1, h2, h3, h4, h⟩ := h
                refine ⟨h1, h2, h3, h4, ?_⟩
                unfold MoveQ at h ⊢
                split at h
                · split at h
                  · obtain ⟨p1, p2, p3, p4, p5, h⟩ := h
                    refine ⟨p1, p2, p3, p4, p5, ?_⟩
                    split at h
                    · exact ⟨h.1, h.2.1, hh _ _ h.2.2⟩
                    · split at h
                      · obtain ⟨p1, p2, p3, p4, p5, h⟩ := h
                        exact ⟨p1, p2, p3, p4, p5, hh _ _ h⟩
                      · exact h.elim
                    · exact h.elim
                  · exact h.elim
                · exact h.elim
              · exact h.elim
            · exact h.elim
          · exact h.elim
        · exact h.elim
      · rename_i hm
        rw [if_neg hm]
        split at h
        · rename_i hc
          rw [if_pos hc]
          split at h
          · split at h
            · split at h
              · obtain ⟨h1, h2, h3, h⟩ := h
                exact ⟨h1, h2, h3, hh _ _ h⟩
              · exact h.elim
            · exact hh _ _ h
            · exact h.elim
          · exact h.elim
        · rename_i hc
          rw [if_neg hc]
          split at h
          · exact hh _ _ h
          · exact h.elim
    · exact h.elim
  · split at h
    · exact hh _ _ h
    · exact h.elim
theorem wpOps_mono' {C : Ctx} {nt : Nat} {mv : List Nat} {call : Nat → FuncId → List FV → Heap → FV → Heap → Prop} {ops : Array Oper} {K K' : Env → Heap → Prop} (hh : ∀ e H, K e H → K' e H) : ∀ {l : List Oper} {e : Env} {H : Heap}, wpOps C nt mv call ops l e H K → wpOps C nt mv call ops l e H K'
  | [], e, H, h => hh e H h
  | o :: l, e, H, h => by
    unfold wpOps at h ⊢
    split at h
    · exact wpOp_mono' (fun e H h => wpOps_mono' hh h) h
    · exact wpOps_mono' hh h
    · exact h.elim
theorem iterP_mono {step : Env → Heap → (Ex → Env → Heap → Prop) → Prop} (hm : ∀ e H Q Q', (∀ x e H, Q x e H → Q' x e H) → step e H Q → step e H Q') {Q Q' : Ex → Env → Heap → Prop} (hh : ∀ x e H, Q x e H → Q' x e H) : ∀ {k : Nat} {e : Env} {H : Heap}, iterP step k e H Q → iterP step k e H Q'
  | 0, _, _, h => h
  | k + 1, e, H, h => by
    unfold iterP at h ⊢
    refine hm _ _ _ _ (fun x e' H' h => ?_) h
    cases x with
    | normal => exact iterP_mono hm hh h
    | exit i => exact hh _ _ _ h
    | ret => exact hh _ _ _ h
theorem wpC_mono {C : Ctx} {nt : Nat} {mv vars : List Nat} : ∀ (c : Code) (e : Env) (H : Heap) (Q Q' : Ex → Env → Heap → Prop), (∀ x e H, Q x e H → Q' x e H) → wpC C nt mv vars c e H Q → wpC C nt mv vars c e H Q' := by
  intro c
  induction c with
  | skip => exact fun e H Q Q' hh h => hh _ _ _ h
  | label l => exact fun e H Q Q' hh h => hh _ _ _ h
  | exit id => exact fun e H Q Q' hh h => hh _ _ _ h
  | ret => exact fun e H Q Q' hh h => hh _ _ _ h
  | region id ops draw =>
    intro e H Q Q' hh h
    cases draw with
    | false => exact wpOps_mono' (fun e H h => hh _ _ _ h) (l := ops.toList) h
    | true =>
      refine ⟨h.1, ?_⟩
      have h := h.2
      revert h
      cases ordersOf mv id with
      | nil => exact fun h => wpOps_mono' (fun e H h => hh _ _ _ h) h
      | cons l R => exact fun ⟨ρ, h⟩ => ⟨ρ, fun r hr => wpOps_mono' (fun e H h => hh _ _ _ h) (h r hr)⟩
  | seq a b iha ihb =>
    intro e H Q Q' hh h
    refine iha _ _ _ _ (fun x e H h => ?_) h
    cases x with
    | normal => exact ihb _ _ _ _ hh h
    | exit i => exact hh _ _ _ h
    | ret => exact hh _ _ _ h
  | cond c a b iha ihb =>
    intro e H Q Q' hh h
    unfold wpC at h ⊢
    split at h
    · exact ⟨fun ht => iha _ _ _ _ hh (h.1 ht), fun ht => ihb _ _ _ _ hh (h.2 ht)⟩
    · exact h.elim
  | block id c ih =>
    intro e H Q Q' hh h
    refine ih _ _ _ _ (fun x e H h => ?_) h
    cases x with
    | normal => exact hh _ _ _ h
    | ret => exact hh _ _ _ h
    | exit i =>
      simp only at h ⊢
      split
      · rename_i hi; rw [if_pos hi] at h; exact hh _ _ _ h
      · rename_i hi; rw [if_neg hi] at h; exact hh _ _ _ h
  | loop c ih =>
    intro e H Q Q' hh h
    obtain ⟨k, hk⟩ := h
    exact ⟨k, iterP_mono ih hh hk⟩
  | scope c ih => exact fun e H Q Q' hh h => ih _ _ _ _ hh h
  | rangeFunc => exact fun e H Q Q' _ h => h.elim
  | goto => exact fun e H Q Q' _ h => h.elim
  | refuse => exact fun e H Q Q' _ h => h.elim
def KLoop (I : Nat → Env → Heap → Prop) (d : Nat) (Q : Ex → Env → Heap → Prop) : Ex → Env → Heap → Prop := fun x e H => match x with
  | .normal => ∃ d', d' < d ∧ I d' e H
  | x => Q x e H
theorem KLoop_normal {I : Nat → Env → Heap → Prop} {d : Nat} {Q : Ex → Env → Heap → Prop} {e : Env} {H : Heap} : KLoop I d Q .normal e H = ∃ d', d' < d ∧ I d' e H := rfl
theorem KLoop_exit {I : Nat → Env → Heap → Prop} {d : Nat} {Q : Ex → Env → Heap → Prop} {e : Env} {H : Heap} {i : Nat} : KLoop I d Q (.exit i) e H = Q (.exit i) e H := rfl
theorem KLoop_ret {I : Nat → Env → Heap → Prop} {d : Nat} {Q : Ex → Env → Heap → Prop} {e : Env} {H : Heap} : KLoop I d Q .ret e H = Q .ret e H := rfl
attribute [simp] KLoop_normal KLoop_exit KLoop_ret
theorem loopC {C : Ctx} {nt : Nat} {mv vars : List Nat} {c : Code} {Q : Ex → Env → Heap → Prop} (I : Nat → Env → Heap → Prop) {d : Nat} {e : Env} {H : Heap} (h0 : I d e H)
    (round : ∀ d e H, I d e H → wpC C nt mv vars c e H (KLoop I d Q)) : LoopC C nt mv vars c e H Q :=
  loop_of (wpC_mono c) I (fun d e H h => wpC_mono c _ _ _ _ (fun x e H h => by cases x <;> exact h) (round d e H h)) d e H h0
end Go.Proofs.YtkjgkhgklkdbjaaGreatDoor.Ev
end
section
namespace Go.Proofs.YtkjgkhgklkdbjaaGreatDoor.Ev
open Go
theorem heap_at {H L : List (List FV)} {k : Nat} : (H ++ L)[H.length + k]? = L[k]? := by
  rw [List.getElem?_append_right (by omega)]; congr 1; omega
theorem heap_at0 {H L : List (List FV)} : (H ++ L)[H.length]? = L[0]? := heap_at (k := 0)
theorem heap_set {H L : List (List FV)} {k : Nat} {x : List FV} : (H ++ L).set (H.length + k) x = H ++ L.set k x := by
  have := List.set_append_right (s := H) (t := L) (H.length + k) x (by omega)
  rw [this]; congr 2; omega
theorem heap_set0 {H L : List (List FV)} {x : List FV} : (H ++ L).set H.length x = H ++ L.set 0 x := heap_set (k := 0)
attribute [simp] heap_at heap_at0 heap_set heap_set0 List.append_assoc
theorem wrap64 {n : Int} (h0 : -9223372036854775808 ≤ n) (h1 : n ≤ 9223372036854775807) : IntKind.i64.wrap n = n := by
  simp only [IntKind.wrap, IntKind.signed, IntKind.bits]
  simp
  omega
structure Glyph where
  r : Int
  s : Int
  deriving DecidableEq
def Glyph.pv (g : Glyph) : PV := .agg [.int .i32 g.r, .int .u8 g.s]
def gl (l : List Glyph) : PV := .sl (l.map Glyph.pv)
def sumBy {α : Type} (f : α → Nat) : List α → Nat
  | [] => 0
  | x :: l => f x + sumBy f l
theorem sumBy_append {α : Type} (f : α → Nat) (l m : List α) : sumBy f (l ++ m) = sumBy f l + sumBy f m := by
  induction l with
  | nil => simp [sumBy]
  | cons x l ih => rw [List.cons_append, sumBy, sumBy, ih]; omega
theorem sumBy_take {α : Type} (f : α → Nat) {l : List α} {i : Nat} (h : i < l.length) : sumBy f (l.take (i + 1)) = sumBy f (l.take i) + f l[i] := by
  rw [List.take_succ_eq_append_getElem h, sumBy_append]; simp [sumBy]
theorem sumBy_take_le {α : Type} (f : α → Nat) (l : List α) (i : Nat) : sumBy f (l.take i) ≤ sumBy f l := by
  conv => rhs; rw [← List.take_append_drop i l, sumBy_append]
  congr 1; omega
theorem sumBy_mem {α : Type} (f : α → Nat) {l : List α} {i : Nat} (h : i < l.length) : sumBy f (l.take i) + f l[i] ≤ sumBy f l := by
  have := sumBy_take f h; have := sumBy_take_le f l (i + 1); omega
end Go.Proofs.YtkjgkhgklkdbjaaGreatDoor.Ev
end
section
namespace Go.Proofs.YtkjgkhgklkdbjaaGreatDoor.Ev
open Go
theorem take_succ_eq {α : Type} {a b : List α} {i : Nat} (ha : i < a.length) (hb : i < b.length) : a.take (i + 1) = b.take (i + 1) ↔ a.take i = b.take i ∧ a[i] = b[i] := by
  rw [List.take_succ_eq_append_getElem ha, List.take_succ_eq_append_getElem hb]
  constructor
  · intro h
    obtain ⟨h1, h2⟩ := List.append_inj h (by simp; omega)
    exact ⟨h1, by simpa using h2⟩
  · rintro ⟨h1, h2⟩; rw [h1, h2]
end Go.Proofs.YtkjgkhgklkdbjaaGreatDoor.Ev
end
section
namespace Go.Proofs.YtkjgkhgklkdbjaaGreatDoor.Ev
open Go
theorem wrapInc {i : Nat} (h : i < 4611686018427387904) : IntKind.i64.wrap ((i : Int) + 1) = ((i + 1 : Nat) : Int) := by
  rw [wrap64 (by omega) (by omega)]; omega
end Go.Proofs.YtkjgkhgklkdbjaaGreatDoor.Ev
end
section
namespace Go.Proofs.YtkjgkhgklkdbjaaGreatDoor.Ev
open Go
structure TRow where
  rule : Bool
  cells : List (List Glyph)
deriving DecidableEq
def TRow.pv (x : TRow) : PV := .agg [.bool x.rule, .sl (x.cells.map gl)]
end Go.Proofs.YtkjgkhgklkdbjaaGreatDoor.Ev
end
section
namespace Go.Proofs.YtkjgkhgklkdbjaaGreatDoor.Ev
open Go
structure Tbl where
  cols : ByteArray
  rows : List TRow
  box : Bool
  all : Bool
deriving DecidableEq
def Tbl.pv (t : Tbl) : PV := .agg [.str t.cols, .sl (t.rows.map TRow.pv), .bool t.box, .bool t.all]
end Go.Proofs.YtkjgkhgklkdbjaaGreatDoor.Ev
end
section
namespace Go.Proofs.YtkjgkhgklkdbjaaGreatDoor.Ev
open Go
inductive Node where
  | mk (kind line n : Int) (text : List Glyph) (kids : List Node) (rows : List (List Glyph)) (grid : Tbl)
namespace Node
def kind : Node → Int | mk k _ _ _ _ _ _ => k
def line : Node → Int | mk _ k _ _ _ _ _ => k
def n : Node → Int | mk _ _ k _ _ _ _ => k
def text : Node → List Glyph | mk _ _ _ k _ _ _ => k
def kids : Node → List Node | mk _ _ _ _ k _ _ => k
def rows : Node → List (List Glyph) | mk _ _ _ _ _ k _ => k
def grid : Node → Tbl | mk _ _ _ _ _ _ k => k
@[simp] theorem kind_mk {k l m : Int} {t : List Glyph} {c : List Node} {r : List (List Glyph)} {g : Tbl} : (mk k l m t c r g).kind = k := rfl
@[simp] theorem line_mk {k l m : Int} {t : List Glyph} {c : List Node} {r : List (List Glyph)} {g : Tbl} : (mk k l m t c r g).line = l := rfl
@[simp] theorem n_mk {k l m : Int} {t : List Glyph} {c : List Node} {r : List (List Glyph)} {g : Tbl} : (mk k l m t c r g).n = m := rfl
@[simp] theorem text_mk {k l m : Int} {t : List Glyph} {c : List Node} {r : List (List Glyph)} {g : Tbl} : (mk k l m t c r g).text = t := rfl
@[simp] theorem kids_mk {k l m : Int} {t : List Glyph} {c : List Node} {r : List (List Glyph)} {g : Tbl} : (mk k l m t c r g).kids = c := rfl
@[simp] theorem rows_mk {k l m : Int} {t : List Glyph} {c : List Node} {r : List (List Glyph)} {g : Tbl} : (mk k l m t c r g).rows = r := rfl
@[simp] theorem grid_mk {k l m : Int} {t : List Glyph} {c : List Node} {r : List (List Glyph)} {g : Tbl} : (mk k l m t c r g).grid = g := rfl
mutual
def pv : Node → PV
  | mk kind line n text kids rows grid => .agg [.int .i64 kind, .int .i64 line, .int .i64 n, gl text, .sl (pvs kids), .sl (rows.map gl), .str grid.cols, .sl (grid.rows.map TRow.pv), .bool grid.box, .bool grid.all]
def pvs : List Node → List PV
  | [] => []
  | x :: l => x.pv :: pvs l
end
theorem pvs_eq (l : List Node) : pvs l = l.map pv := by
  induction l with
  | nil => rw [pvs]; rfl
  | cons x l ih => rw [pvs, ih]; rfl
theorem pv_eq (x : Node) : x.pv = .agg [.int .i64 x.kind, .int .i64 x.line, .int .i64 x.n, gl x.text, .sl (x.kids.map pv), .sl (x.rows.map gl), .str x.grid.cols, .sl (x.grid.rows.map TRow.pv), .bool x.grid.box, .bool x.grid.all] := by
  cases x; rw [pv, pvs_eq]; rfl
end Node
noncomputable instance : DecidableEq Node := fun _ _ => Classical.propDecidable _
end Go.Proofs.YtkjgkhgklkdbjaaGreatDoor.Ev
end
section
namespace Go.Proofs.YtkjgkhgklkdbjaaGreatDoor.Ev
open Go
theorem Node.ext' {x y : Node} (h1 : x.kind = y.kind) (h2 : x.line = y.line) (h3 : x.n = y.n) (h4 : x.text = y.text) (h5 : x.rows = y.rows) (h6 : x.grid = y.grid) (h7 : x.kids = y.kids) : x = y := by
  cases x; cases y; simp_all
end Go.Proofs.YtkjgkhgklkdbjaaGreatDoor.Ev
end
section
namespace Go.Proofs.YtkjgkhgklkdbjaaGreatDoor.Ev
open Go
theorem Node.kids_lt {x : Node} {l : List Node} (h : x ∈ l) : SizeOf.sizeOf x.kids < SizeOf.sizeOf l := by
  have h1 := List.sizeOf_lt_of_mem h
  have h2 : SizeOf.sizeOf x.kids < SizeOf.sizeOf x := by cases x; simp only [kids_mk, mk.sizeOf_spec]; omega
  omega
end Go.Proofs.YtkjgkhgklkdbjaaGreatDoor.Ev
end
section
namespace Go.Proofs.YtkjgkhgklkdbjaaGreatDoor.Ev
open Go
namespace Node
mutual
def deep : Node → Nat
  | mk _ _ _ _ kids _ _ => 1 + deeps kids
def deeps : List Node → Nat
  | [] => 0
  | x :: l => max x.deep (deeps l)
end
theorem deep_eq (x : Node) : x.deep = 1 + deeps x.kids := by cases x; rw [deep]; rfl
theorem deeps_append (l m : List Node) : deeps (l ++ m) = max (deeps l) (deeps m) := by
  induction l with
  | nil => simp [deeps]
  | cons x l ih => rw [List.cons_append, deeps, deeps, ih]; omega
end Node
end Go.Proofs.YtkjgkhgklkdbjaaGreatDoor.Ev
end
section
namespace Go.Proofs.YtkjgkhgklkdbjaaGreatDoor.Ev
open Go
def rowsLong (l : List (List Glyph)) : Nat := sumBy (fun r => 1 + r.length) l
def trowLong (r : TRow) : Nat := 1 + r.cells.length + sumBy List.length r.cells
namespace Node
mutual
def long : Node → Nat
  | mk _ _ _ text kids rows grid => 3 + text.length + grid.cols.size + longs kids + rowsLong rows + sumBy trowLong grid.rows
def longs : List Node → Nat
  | [] => 0
  | x :: l => x.long + longs l
end
theorem longs_eq (l : List Node) : longs l = sumBy long l := by
  induction l with
  | nil => rw [longs]; rfl
  | cons x l ih => rw [longs, ih]; rfl
theorem long_eq (x : Node) : x.long = 3 + x.text.length + x.grid.cols.size + sumBy long x.kids + rowsLong x.rows + sumBy trowLong x.grid.rows := by cases x; rw [long, longs_eq]; rfl
end Node
end Go.Proofs.YtkjgkhgklkdbjaaGreatDoor.Ev
end
section
namespace Go.Proofs.YtkjgkhgklkdbjaaGreatDoor.Ev
open Go
theorem len_le_long (a : List Node) : a.length ≤ sumBy Node.long a := by
  induction a with
  | nil => simp
  | cons x l ih => rw [sumBy, Node.long_eq, List.length_cons]; omega
end Go.Proofs.YtkjgkhgklkdbjaaGreatDoor.Ev
end
section
namespace Go.Proofs.YtkjgkhgklkdbjaaGreatDoor.Ev
open Go
def hasText (k : Int) : Bool := decide (1 ≤ k) && decide (k ≤ 4)
def hasKids (k : Int) : Bool := decide (k = 1) || decide (k = 2) || decide (k = 4) || decide (k = 5)
def hasN (k : Int) : Bool := decide (k = 4) || decide (k = 5)
def standsIn (k i : Int) : Bool := if k = 1 then decide (i = 0) else if k = 2 then decide (i = 1) else decide (3 ≤ k) && decide (k ≤ 7)
set_option maxRecDepth 20000 in
set_option maxHeartbeats 4000000 in
theorem treeStands (k i : Int) : PCon C0 173 [.sc (.int .i64 k), .sc (.int .i64 i)] (.sc (.bool (standsIn k i))) := by
  refine penter173 ?_
  by_cases h1 : k = 1
  · simp [Tryz.f173, standsIn, h1]
  · by_cases h2 : k = 2
    · simp [Tryz.f173, standsIn, h1, h2]
    · by_cases h3 : 3 ≤ k
      · simp [Tryz.f173, standsIn, h1, h2, h3]
      · simp [Tryz.f173, standsIn, h1, h2, h3]
set_option maxRecDepth 20000 in
set_option maxHeartbeats 4000000 in
theorem treeFull (k : Int) : PCon C0 176 [.sc (.int .i64 k)] (.tup [.sc (.bool (hasText k)), .sc (.bool (hasKids k)), .sc (.bool (decide (k = 6))), .sc (.bool (decide (k = 7))), .sc (.bool (hasN k))]) := by
  refine penter176 ?_
  by_cases h4 : k = 4
  · simp [Tryz.f176, h4, hasText, hasKids, hasN]
  · by_cases h1 : k = 1
    · simp [Tryz.f176, h1, hasText, hasKids, hasN]
    · by_cases h2 : k = 2
      · simp [Tryz.f176, h2, hasText, hasKids, hasN]
      · by_cases h3 : k = 3
        · simp [Tryz.f176, h3, hasText, hasKids, hasN]
        · by_cases h5 : k = 5
          · simp [Tryz.f176, h5, hasText, hasKids, hasN]
          · by_cases h6 : k = 6
            · simp [Tryz.f176, h6, hasText, hasKids, hasN]
            · by_cases h7 : k = 7
              · simp [Tryz.f176, h7, hasText, hasKids, hasN]
              · have ht : ¬ (1 ≤ k ∧ k ≤ 4) := by omega
                simp [Tryz.f176, h1, h2, h3, h4, h5, h6, h7, hasText, hasKids, hasN]
                omega
end Go.Proofs.YtkjgkhgklkdbjaaGreatDoor.Ev
end
section
namespace Go.Proofs.YtkjgkhgklkdbjaaGreatDoor.Ev
open Go
def sqStep (s : List Glyph × Bool) (g : Glyph) : List Glyph × Bool :=
  if g.r = 32 then (s.1, true) else ((if s.2 = true ∧ s.1 ≠ [] then s.1 ++ [⟨32, 0⟩] else s.1) ++ [g], false)
def sqAll (l : List Glyph) : List Glyph × Bool := l.foldl sqStep ([], false)
def squeeze (l : List Glyph) : List Glyph := (sqAll l).1
theorem sqAll_take {l : List Glyph} {i : Nat} (h : i < l.length) : sqAll (l.take (i + 1)) = sqStep (sqAll (l.take i)) l[i] := by
  rw [List.take_succ_eq_append_getElem h, sqAll, List.foldl_append]; rfl
theorem sqAll_len (l : List Glyph) : (sqAll l).1.length ≤ 2 * l.length := by
  have : ∀ (l : List Glyph) (s : List Glyph × Bool), (l.foldl sqStep s).1.length ≤ s.1.length + 2 * l.length := by
    intro l
    induction l with
    | nil => intro s; simp
    | cons g l ih =>
      intro s
      have h1 := ih (sqStep s g)
      have h2 : (sqStep s g).1.length ≤ s.1.length + 2 := by
        unfold sqStep; split
        · simp
        · split <;> simp
      rw [List.foldl_cons, List.length_cons]; omega
  have := this l ([], false)
  simpa [sqAll] using this
set_option maxRecDepth 20000 in
set_option maxHeartbeats 4000000 in
theorem treeSqueeze (l : List Glyph) (hl : l.length ≤ 1073741824) : PCon C0 191 [.sc (gl l)] (.own ((squeeze l).map Glyph.pv)) := by
  refine penter191 ?_
  simp [Tryz.f191, gl]
  refine loopC (fun d e H => ∃ i x2 x6 x10 x17 x23, d = l.length - i ∧ i ≤ l.length ∧
    e = [(0, FV.sc (PV.sl (List.map Glyph.pv l))), (2, x2), (3, FV.own ((sqAll (l.take i)).1.map Glyph.pv)), (4, FV.sc (PV.bool (sqAll (l.take i)).2)), (6, x6), (7, FV.sc (PV.sl (List.map Glyph.pv l))), (8, FV.sc (PV.int IntKind.i64 l.length)),
      (9, FV.sc (PV.int IntKind.i64 (i : Nat))), (10, x10), (17, x17), (23, x23)]) (d := l.length) ⟨0, .own [], .undef, .undef, .undef, .undef, rfl, by omega, by simp [sqAll]⟩ ?_
  rintro d e H ⟨i, x2, x6, x10, x17, x23, rfl, hi, rfl⟩
  simp
  refine CondC.mk (fun hlt => ?_) (fun hlt => ?_)
  · simp at hlt
    have hlen := sqAll_len (l.take i)
    have ht := sqAll_take hlt
    generalize hS : sqAll (l.take i) = S at *
    obtain ⟨out, wants⟩ := S
    simp [hlt, Glyph.pv]
    have hout : out.length ≤ 2147483648 := by
      simp only [List.length_take] at hlen; omega
    have fin : ∀ (o : List Glyph) (w : Bool) (q : List PV), sqStep (out, wants) l[i] = (o, w) → q = o.map Glyph.pv → ∃ d', d' < l.length - i ∧ ∃ k, d' = l.length - k ∧ k ≤ l.length ∧
        q = List.map Glyph.pv (sqAll (List.take k l)).fst ∧ (sqAll (List.take k l)).snd = w ∧ (i : Int) + 1 = (k : Nat) := by
      intro o w q ho hq
      refine ⟨l.length - (i + 1), by omega, i + 1, rfl, by omega, ?_, ?_, by omega⟩
      · rw [ht, ho, hq]
      · rw [ht, ho]
    refine CondC.mk (fun h32 => ?_) (fun h32 => ?_)
    · simp at h32
      simp [wrapInc (i := i) (by omega)]
      exact fin out true _ (by simp [sqStep, h32]) rfl
    · simp at h32
      cases wants
      · simp [wrapInc (i := i) (by omega), Sized]
        refine ⟨fun g _ => rfl, by unfold lenMax; omega, fin (out ++ [l[i]]) false _ (by simp [sqStep, h32]) (by simp [Glyph.pv])⟩
      · by_cases ho : out = []
        · subst ho
          simp [wrapInc (i := i) (by omega), Sized]
          exact ⟨by unfold lenMax; omega, fin [l[i]] false _ (by simp [sqStep, h32]) (by simp [Glyph.pv])⟩
        · have hp : 0 < out.length := List.length_pos_iff.2 ho
          simp [wrapInc (i := i) (by omega), Sized, hp]
          refine ⟨fun g _ => rfl, by unfold lenMax; omega, ?_, by unfold lenMax; omega, fin (out ++ [⟨32, 0⟩] ++ [l[i]]) false _ (by simp [sqStep, h32, ho]) (by simp [Glyph.pv])⟩
          rintro p (⟨g, _, rfl⟩ | rfl) <;> rfl
  · simp at hlt
    simp [List.take_of_length_le hlt, squeeze]
end Go.Proofs.YtkjgkhgklkdbjaaGreatDoor.Ev
end
section
namespace Go.Proofs.YtkjgkhgklkdbjaaGreatDoor.Ev
open Go
def wholeN (x : Node) : Bool :=
  if x.kind = 1 ∨ x.kind = 2 ∨ x.kind = 3 then !x.text.isEmpty
  else if x.kind = 5 then !x.kids.isEmpty
  else if x.kind = 6 then !x.rows.isEmpty
  else if x.kind = 7 then !x.grid.rows.isEmpty
  else decide (x.kind = 4)
theorem len_pos {α : Type} (l : List α) : decide (0 < (l.length : Int)) = !l.isEmpty := by
  cases l <;> simp
set_option maxRecDepth 20000 in
set_option maxHeartbeats 4000000 in
theorem treeWhole (x : Node) : PCon C0 175 [x.pv.toFV] (.sc (.bool (wholeN x))) := by
  refine penter175 ?_
  rw [Node.pv_eq]
  by_cases h1 : x.kind = 1
  · simp [Tryz.f175, h1, gl, wholeN, ← len_pos]
  · by_cases h2 : x.kind = 2
    · simp [Tryz.f175, h2, gl, wholeN, ← len_pos]
    · by_cases h3 : x.kind = 3
      · simp [Tryz.f175, h3, gl, wholeN, ← len_pos]
      · by_cases h5 : x.kind = 5
        · simp [Tryz.f175, h5, gl, wholeN, ← len_pos]
        · by_cases h6 : x.kind = 6
          · simp [Tryz.f175, h6, gl, wholeN, ← len_pos]
          · by_cases h7 : x.kind = 7
            · simp [Tryz.f175, h7, gl, wholeN, ← len_pos]
            · simp [Tryz.f175, h1, h2, h3, h5, h6, h7, gl, wholeN]
end Go.Proofs.YtkjgkhgklkdbjaaGreatDoor.Ev
end
section
namespace Go.Proofs.YtkjgkhgklkdbjaaGreatDoor.Ev
open Go
def clamp (m n : Int) : Int := if 0 < (if m < n then m else n) then (if m < n then m else n) else 0
def isSide (b : UInt8) : Bool := b == 108 || b == 99 || b == 114
def mendCols (c : ByteArray) : ByteArray := ⟨(if (c.data.toList.filter isSide).take 20 = [] then [108] else (c.data.toList.filter isSide).take 20).toArray⟩
def mendRow (n : Nat) (r : TRow) : TRow := ⟨r.rule, if r.rule = true then [] else (List.range n).map fun k => if k < r.cells.length then squeeze (r.cells.getD k []) else []⟩
def mendT (t : Tbl) : Tbl := ⟨mendCols t.cols, t.rows.map (mendRow (mendCols t.cols).size), t.box, t.all && t.box⟩
def noTbl : Tbl := ⟨ByteArray.empty, [], false, false⟩
def ownN (x : Node) (k : Int) : Node := .mk k (clamp 1099511627775 x.line) (if hasN k = true then clamp 200 x.n else 0) (if hasText k = true then squeeze x.text else []) [] (if k = 6 then x.rows else []) (if k = 7 then mendT x.grid else noTbl)
set_option maxRecDepth 20000 in
set_option maxHeartbeats 4000000 in
theorem treeOwn5 (x : Node) (k : Int) (hk : 1 ≤ k ∧ k ≤ 5) (hx : x.text.length ≤ 1073741824) : PCon C0 174 [x.pv.toFV, .sc (.int .i64 k)] (ownN x k).pv.toFV := by
  refine penter174 ?_
  rw [Node.pv_eq]
  have cf := treeFull k
  have h6 : ¬ k = 6 := by omega
  have h7 : ¬ k = 7 := by omega
  simp [h6, h7] at cf
  simp [Tryz.f174, gl]
  refine CallQ.mk (Call.pure callable176 (by simp) (by simp) cf) ?_
  simp
  have sq := treeSqueeze x.text hx
  cases ht : hasText k <;> cases hn : hasN k
  · simp [Node.pv_eq, gl, ownN, ht, hn, clamp, h6, h7, noTbl]
  · simp [Node.pv_eq, gl, ownN, ht, hn, clamp, h6, h7, noTbl]
  · simp
    refine CallQ.mk (Call.pure callable191 (by simp) (by simp) sq) ?_
    simp [Node.pv_eq, gl, ownN, ht, hn, clamp, h6, h7, noTbl]
  · simp
    refine CallQ.mk (Call.pure callable191 (by simp) (by simp) sq) ?_
    simp [Node.pv_eq, gl, ownN, ht, hn, clamp, h6, h7, noTbl]
end Go.Proofs.YtkjgkhgklkdbjaaGreatDoor.Ev
end
section
namespace Go.Proofs.YtkjgkhgklkdbjaaGreatDoor.Ev
open Go
def below (n : Nat) : Root → Bool
  | .box i => decide (i < n)
  | _ => true
theorem only_some {W : Wd} {p : Root → Bool} {b : Nat} {q : Root} {k : Nat} (h : W.o b = some (q, k)) (hp : p q = true) : (W.only p).o b = some (q, k) := by
  simp [Wd.only, h, hp]
theorem only_of {W : Wd} {p : Root → Bool} {b : Nat} {q : Root} {k : Nat} (h : (W.only p).o b = some (q, k)) : W.o b = some (q, k) := by
  simp only [Wd.only] at h
  split at h
  · rename_i q' k' hq
    split at h
    · rw [hq]; exact h
    · simp at h
  · simp at h
def FV.und0 (n : Nat) : FV → Bool
  | .sc _ | .own _ | .emp | .ea _ | .nilp => true
  | .ptr b _ | .bs b _ _ | .gr b _ _ _ | .gp b _ _ => decide (b < n)
  | .fn _ [] [] => true
  | _ => false
def FV.und1 (n : Nat) : FV → Bool
  | .agg l => l.all (FV.und0 n)
  | .fn _ a b => a.all (FV.und0 n) && b.all (FV.und0 n)
  | .sc _ | .own _ | .emp | .ea _ | .nilp => true
  | .ptr b _ | .bs b _ _ | .gr b _ _ _ | .gp b _ _ => decide (b < n)
  | _ => false
def FV.under (n : Nat) : FV → Bool
  | .tup l => l.all (FV.und1 n)
  | .oagg l => l.all (FV.und0 n)
  | .agg l => l.all (FV.und0 n)
  | .fn _ a b => a.all (FV.und0 n) && b.all (FV.und0 n)
  | .sc _ | .own _ | .emp | .ea _ | .nilp => true
  | .ptr b _ | .bs b _ _ | .gr b _ _ _ | .gp b _ _ => decide (b < n)
  | _ => false
theorem FV.und_np {n : Nat} {f : FV} (h : f.np0 = true) : f.und0 n = true := by
  cases f with
  | fn f a b => cases a <;> cases b <;> simp_all [FV.np0, FV.und0]
  | _ => simp_all [FV.np0, FV.und0]
section
variable {A B : Wd} {r r' : Root} {n : Nat} (hc : ∀ b off, off < A.lim b → B.w.cell? ⟨b, off, none⟩ = A.w.cell? ⟨b, off, none⟩) (hl : ∀ b, A.lim b ≤ B.lim b)
    (hs : ∀ (b : Nat) (c : Array Value) (T : TypeId) (fz : Nat × Nat), A.w.heap[b]? = some (Obj.cells c T fz) → ∃ c' : Array Value, B.w.heap[b]? = some (Obj.cells c' T fz) ∧ c'.size = c.size)
    (hb : ∀ b i, i < n → A.o b = some (.box i, 0) → A.β i = b → B.β i = b ∧ B.o b = some (.box i, 0))
    (hw : ∀ i, i < n → A.gen i ≤ B.gen i ∧ (B.gen i = A.gen i → A.o (A.β i) = some (.box i, 1) → B.β i = A.β i ∧ B.o (A.β i) = some (.box i, 1)))
include hc hl hs hb hw
theorem FRep.und0 {q : Option Root} (hh : q = some r → ∀ b i, A.o b = some (r, i) → B.o b = some (r', i) ∧ B.lim b = A.lim b) {i : Nat} {f : FV} {v : Value} (h : FRep A q i f v) (hq : q = none ∨ q = some r) (hn : f.und0 n = true) : FRep B (q.map fun _ => r') i f v := by
  by_cases h0 : f.np0 = true
  · exact h.np0 hc hl hs hh hq h0
  cases h with
  | ptr h1 =>
    obtain ⟨q1, q2⟩ := hb _ _ (by simpa [FV.und0] using hn) h1 rfl
    rw [← q1]
    exact .ptr (by rw [q1]; exact q2)
  | bs h1 h2 =>
    obtain ⟨q1, q2⟩ := hb _ _ (by simpa [FV.und0] using hn) h1 rfl
    rw [← q1]
    exact .bs (by rw [q1]; exact q2) h2
  | @gr _ _ b g z n' cap A' hg hnn hcc =>
    obtain ⟨h1, h2⟩ := hw b (by simpa [FV.und0] using hn)
    refine .gr (Nat.le_trans hg h1) hnn fun hB => ?_
    have hA := Nat.le_antisymm (hB ▸ h1) hg
    obtain ⟨q1, q2, c, T, fz, q3, q4⟩ := hcc hA
    obtain ⟨h3, h4⟩ := h2 (hB.trans hA.symm) q2
    obtain ⟨c', hc', hsz⟩ := hs _ _ _ _ q3
    exact ⟨by rw [h3]; exact q1, by rw [h3]; exact h4, c', T, fz, by rw [h3]; exact hc', by rw [hsz]; exact q4⟩
  | @gp _ _ b g off A' hg hcc =>
    obtain ⟨h1, h2⟩ := hw b (by simpa [FV.und0] using hn)
    refine .gp (Nat.le_trans hg h1) fun hB => ?_
    have hA := Nat.le_antisymm (hB ▸ h1) hg
    obtain ⟨q1, q2⟩ := hcc hA
    obtain ⟨h3, h4⟩ := h2 (hB.trans hA.symm) q2
    exact ⟨by rw [h3]; exact q1, by rw [h3]; exact h4⟩
  | nilp => exact .nilp
  | sc => simp [FV.np0] at h0
  | own => simp [FV.np0] at h0
  | emp => simp [FV.np0] at h0
  | ea => simp [FV.np0] at h0
  | @fn _ _ f first cap fs cs a b c d => cases first <;> cases cap <;> simp_all [FV.np0, FV.und0]
  | undef => simp [FV.und0] at hn
  | ext => simp [FV.und0] at hn
  | exr => simp [FV.und0] at hn
  | exq => simp [FV.und0] at hn
  | agg => simp [FV.und0] at hn
  | tup => simp [FV.und0] at hn
  | oagg => simp [FV.und0] at hn
theorem FRep.und1 {q : Option Root} (hh : q = some r → ∀ b i, A.o b = some (r, i) → B.o b = some (r', i) ∧ B.lim b = A.lim b) {i : Nat} {f : FV} {v : Value} (h : FRep A q i f v) (hq : q = none ∨ q = some r) (hn : f.und1 n = true) : FRep B (q.map fun _ => r') i f v := by
  by_cases h0 : f.und0 n = true
  · exact h.und0 hc hl hs hb hw hh hq h0
  cases h with
  | agg a b =>
    refine .agg a fun j g u hg hu => ?_
    have := List.all_eq_true.1 hn g (List.mem_of_getElem? hg)
    exact (b j g u hg hu).und0 (r := r) (r' := r') hc hl hs hb hw (by simp) (.inl rfl) this
  | @fn _ _ f first cap fs cs a b c d =>
    simp only [FV.und1, Bool.and_eq_true] at hn
    refine .fn a b (fun j g u hg hu => ?_) (fun j g u hg hu => ?_)
    · exact (c j g u hg hu).und0 (r := r) (r' := r') hc hl hs hb hw (by simp) (.inl rfl) (List.all_eq_true.1 hn.1 g (List.mem_of_getElem? hg))
    · exact (d j g u hg hu).und0 (r := r) (r' := r') hc hl hs hb hw (by simp) (.inl rfl) (List.all_eq_true.1 hn.2 g (List.mem_of_getElem? hg))
  | _ => simp_all [FV.und1, FV.und0]
theorem FRep.under {q : Option Root} (hh : q = some r → ∀ b i, A.o b = some (r, i) → B.o b = some (r', i) ∧ B.lim b = A.lim b) {i : Nat} {f : FV} {v : Value} (h : FRep A q i f v) (hq : q = none ∨ q = some r) (hn : f.under n = true) : FRep B (q.map fun _ => r') i f v := by
  by_cases h0 : f.und1 n = true
  · exact h.und1 hc hl hs hb hw hh hq h0
  cases h with
  | tup a b =>
    refine .tup a fun j g u hg hu => ?_
    have := List.all_eq_true.1 hn g (List.mem_of_getElem? hg)
    exact (b j g u hg hu).und1 hc hl hs hb hw hh hq this
  | oagg a b =>
    refine .oagg a fun j g u hg hu => ?_
    have := List.all_eq_true.1 hn g (List.mem_of_getElem? hg)
    exact (b j g u hg hu).und0 hc hl hs hb hw hh hq this
  | _ => simp_all [FV.under, FV.und1]
end
theorem GenOk.congr {A B : Wd} {b : Nat} {fs : List FV} (hg : B.gen b = A.gen b) (h : GenOk A b fs) : GenOk B b fs := by
  rcases kind_cases fs with ⟨_, _, k⟩ | ⟨g, l, rfl⟩
  · exact k _ _
  · exact hg.trans h
def Wd.forget (W : Wd) (n : Nat) : Wd := { W.only (below n) with gen := fun b => if b < n then W.gen b else 0 }
theorem forget_o {W : Wd} {n b : Nat} : (W.forget n).o b = (W.only (below n)).o b := rfl
theorem HInv.trim {C : Ctx} {H : Heap} {W : Wd} {n : Nat} (h : HInv C H W) (hp : ∀ fs ∈ H.take n, ∀ f ∈ body fs, f.und0 n = true) : HInv C (H.take n) (W.forget n) := by
  refine ⟨fun b fs hfs => ?_, h.laid, fun b hb => ⟨(h.fresh b hb).1, ?_⟩, fun b i k hb => ?_, fun b hb => ?_, h.kept.same rfl fun b hb => only_none fun q k hq => by rw [hb] at hq; simp at hq⟩
  · have hm := List.mem_of_getElem? hfs
    have hbn : b < n := by
      have := (List.getElem?_eq_some_iff.1 hfs).1
      simp at this; omega
    have hfs' : H[b]? = some fs := by
      rw [List.getElem?_take, if_pos hbn] at hfs
      exact hfs
    obtain ⟨h1, h2, c, T, fz, h3, h4, h5, h6⟩ := h.box b fs hfs'
    refine ⟨⟨only_some h1.1 (by simp [below, hbn]), h1.2.congr (by simp [Wd.forget, hbn])⟩, h2, c, T, fz, h3, h4, h5, fun i f v hf hv => ⟨(h6 i f v hf hv).1, ?_⟩⟩
    exact (h6 i f v hf hv).2.und0 (A := W) (r := .leaf b i) (r' := .leaf b i) (n := n) (B := W.forget n) (fun _ _ _ => rfl) (fun _ => Nat.le_refl _) (fun _ c _ _ h => ⟨c, h, rfl⟩) (fun b' i' hi hb' hβ => ⟨hβ, only_some hb' (by simp [below, hi])⟩) (fun i' hi => ⟨by simp [Wd.forget, hi], fun _ ho => ⟨rfl, only_some ho (by simp [below, hi])⟩⟩) (fun _ b' i' hb' => ⟨only_some hb' rfl, rfl⟩) (.inr rfl) (hp fs hm f (List.mem_of_getElem? hf))
  · exact only_none fun q k hq => by rw [(h.fresh b hb).2] at hq; simp at hq
  · have h1 := only_of hb
    have h2 : below n (.box i) = true := by
      rw [forget_o] at hb
      simp only [Wd.only, h1] at hb
      split at hb
      · assumption
      · simp at hb
    have h3 := h.boxes b i k h1
    simp [below] at h2
    simp; omega
  · simp only [Wd.forget]
    split
    · exact h.gen0 b (by simp at hb; omega)
    · rfl
theorem Evo.forget {C : Ctx} {H : Heap} {W W' : Wd} (hH : HInv C H W) (h : Evo W W' (fun _ _ => False)) : Evo W (W'.forget H.length) (fun _ _ => False) := by
  refine Evo.of h.os h.tape h.output h.size h.cell h.lim h.shape (fun _ _ _ _ hk => hk.elim) (fun b i hbi hβ => ?_) (fun i => ?_) (fun b hlt hbo => ?_)
  · obtain ⟨q1, q2⟩ := h.beta b i hbi hβ
    exact ⟨q1, only_some q2 (by simp [below]; exact hH.boxes b i 0 hbi)⟩
  · obtain ⟨q1, q2⟩ := h.row i
    by_cases hi : i < H.length
    · have hg : (W'.forget H.length).gen i = W'.gen i := by simp [Wd.forget, hi]
      rw [hg]
      refine ⟨q1, fun hq ho => ?_⟩
      obtain ⟨q3, q4⟩ := q2 hq ho
      exact ⟨q3, only_some q4 (by simp [below, hi])⟩
    · refine ⟨by rw [hH.gen0 i (by omega)]; exact Nat.zero_le _, fun _ ho => absurd (hH.boxes _ i 1 ho) hi⟩
  · obtain ⟨q1, q2, q3⟩ := h.away b hlt hbo
    exact ⟨q1, q2, only_none fun q k hq => by rw [q3] at hq; simp at hq⟩
theorem body_np {H' : Heap} {n : Nat} (hp : ∀ fs ∈ H', ∀ f ∈ fs, f.np0 = true) : ∀ fs ∈ H', ∀ f ∈ body fs, f.und0 n = true := fun fs hfs f hf => by
  rcases kind_cases fs with ⟨_, k, _⟩ | ⟨g, l, rfl⟩
  · rw [k] at hf; exact FV.und_np (hp fs hfs f hf)
  · have := hp _ hfs (.row g l) (by simp)
    simp [FV.np0] at this
section
variable {C : Ctx} {f : FuncId} {fn : Func} {c : Code} {args : List FV} {H H' : Heap} {r : FV} {mv vars : List Nat} (hf : C.P.funcs[f]? = some fn) (hb : fn.body = some c) (hn : (resTmps fn.results.toList).Nodup) (hmix : C.P.follows .mixedOrders = true) (hk : codeOk mv c = true)
include hf hb hn hmix hk
theorem con_trimU (hr : r.under H.length = true) (hp : ∀ fs ∈ H', ∀ f ∈ body fs, f.und0 H.length = true)
    (h : wpC C fn.ntmps mv vars c (argsEnv 0 args) H fun x e H₁ => (match x with | .exit _ => False | _ => True) ∧ resultOf C e H₁ fn.results.toList = some r ∧ H₁.take H.length = H') : Con C f args H r H' :=
  fun vs W hl hargs hH _ => (con_gen (G := fun H₁ => H₁.take H.length = H') hf hb hn hmix hk h vs W hl hargs hH).mono fun _ _ ⟨v, W', H₁, h1, h2, h3, h4, h5, h6⟩ => by
    refine ⟨v, W'.forget H.length, h1, h2, ?_, h3 ▸ h5.trim (h3 ▸ hp), h6.forget hH⟩
    exact h4.under (A := W') (B := W'.forget H.length) (r := .res) (r' := .res) (n := H.length) (fun _ _ _ => rfl) (fun _ => Nat.le_refl _) (fun _ c _ _ h => ⟨c, h, rfl⟩) (fun b' i' hi hb' hβ => ⟨hβ, only_some hb' (by simp [below, hi])⟩) (fun i' hi => ⟨by simp [Wd.forget, hi], fun _ ho => ⟨rfl, only_some ho (by simp [below, hi])⟩⟩) (fun _ b' i' hb' => ⟨only_some hb' rfl, rfl⟩) (.inr rfl) hr
theorem con_trim (hr : r.noPtr = true) (hp : ∀ fs ∈ H', ∀ f ∈ fs, f.np0 = true)
    (h : wpC C fn.ntmps mv vars c (argsEnv 0 args) H fun x e H₁ => (match x with | .exit _ => False | _ => True) ∧ resultOf C e H₁ fn.results.toList = some r ∧ H₁.take H.length = H') : Con C f args H r H' :=
  fun vs W hl hargs hH _ => (con_gen (G := fun H₁ => H₁.take H.length = H') hf hb hn hmix hk h vs W hl hargs hH).mono fun _ _ ⟨v, W', H₁, h1, h2, h3, h4, h5, h6⟩ => by
    have key : HInv C H' (W'.forget H.length) := h3 ▸ h5.trim (h3 ▸ body_np hp)
    refine ⟨v, W'.forget H.length, h1, h2, ?_, key, h6.forget hH⟩
    exact h4.np (A := W') (B := W'.forget H.length) (r := .res) (r' := .res) (fun _ _ _ => rfl) (fun _ => Nat.le_refl _) (fun _ c _ _ h => ⟨c, h, rfl⟩) (fun _ b' i' hb' => ⟨only_some hb' rfl, rfl⟩) (.inr rfl) hr
end
theorem heap_old {H L : List (List FV)} {b : Nat} (h : b < H.length) : (H ++ L)[b]? = H[b]? := List.getElem?_append_left h
theorem heap_old_set {H L : List (List FV)} {b : Nat} {x : List FV} (h : b < H.length) : (H ++ L).set b x = H.set b x ++ L := List.set_append_left b x h
theorem heap_old_take_set {H L : List (List FV)} {b : Nat} {x : List FV} : (H.set b x ++ L).take H.length = H.set b x := by
  have : H.length = (H.set b x).length := by simp
  rw [this]; simp only [List.take_left']
end Go.Proofs.YtkjgkhgklkdbjaaGreatDoor.Ev
end
section
namespace Go.Proofs.YtkjgkhgklkdbjaaGreatDoor.Ev
open Go
def Node.withKids (x : Node) (l : List Node) : Node := .mk x.kind x.line x.n x.text l x.rows x.grid
def Node.zero : Node := .mk 0 0 0 [] [] [] noTbl
mutual
def tidyN (inn deep : Int) (left : Nat) : Node → List Node × Nat
  | .mk kind line n text kids rows grid =>
    let x := Node.mk kind line n text kids rows grid
    if (kind = 1 ∨ kind = 2) ∧ standsIn kind inn = false then
      ((if wholeN (ownN x 3) = true then [ownN x 3] else []) ++ (tidyL inn deep (left - 1) kids).1, (tidyL inn deep (left - 1) kids).2)
    else if hasKids kind = true then
      let r := if wholeN ((ownN x kind).withKids [Node.zero]) = true then tidyL kind (deep + 1) (left - 1) kids else tidyL inn deep (left - 1) kids
      (if wholeN ((ownN x kind).withKids r.1) = true then [(ownN x kind).withKids r.1] else r.1, r.2)
    else (if wholeN (ownN x kind) = true then [ownN x kind] else [], left - 1)
def tidyL (inn deep : Int) (left : Nat) : List Node → List Node × Nat
  | [] => ([], left)
  | x :: l => if left = 0 then ([], 0) else if 20 ≤ deep then tidyL inn deep left l
    else ((tidyN inn deep left x).1 ++ (tidyL inn deep (tidyN inn deep left x).2 l).1, (tidyL inn deep (tidyN inn deep left x).2 l).2)
end
theorem tidyN_eq (inn deep : Int) (left : Nat) (x : Node) : tidyN inn deep left x =
    if (x.kind = 1 ∨ x.kind = 2) ∧ standsIn x.kind inn = false then
      ((if wholeN (ownN x 3) = true then [ownN x 3] else []) ++ (tidyL inn deep (left - 1) x.kids).1, (tidyL inn deep (left - 1) x.kids).2)
    else if hasKids x.kind = true then
      let r := if wholeN ((ownN x x.kind).withKids [Node.zero]) = true then tidyL x.kind (deep + 1) (left - 1) x.kids else tidyL inn deep (left - 1) x.kids
      (if wholeN ((ownN x x.kind).withKids r.1) = true then [(ownN x x.kind).withKids r.1] else r.1, r.2)
    else (if wholeN (ownN x x.kind) = true then [ownN x x.kind] else [], left - 1) := by
  cases x; rw [tidyN]; rfl
theorem tidyL_count : ∀ (n : Nat) (l : List Node), SizeOf.sizeOf l < n → ∀ inn deep left, (tidyL inn deep left l).1.length + (tidyL inn deep left l).2 ≤ left := by
  intro n
  induction n with
  | zero => intro l h; omega
  | succ n ih =>
    intro l hn inn deep left
    cases l with
    | nil => rw [tidyL]; simp
    | cons x l =>
      have hx : SizeOf.sizeOf x.kids < n ∧ SizeOf.sizeOf l < n := by
        cases x; simp at hn ⊢; omega
      rw [tidyL]
      split
      · simp
      · split
        · exact ih l hx.2 _ _ _
        · rename_i h0 _
          have h1 : (tidyN inn deep left x).1.length + (tidyN inn deep left x).2 ≤ left := by
            rw [tidyN_eq]
            have h1 := ih x.kids hx.1 inn deep (left - 1)
            have h2 := ih x.kids hx.1 x.kind (deep + 1) (left - 1)
            split
            · split <;> simp <;> omega
            · split
              · simp only
                split <;> split <;> simp <;> omega
              · split <;> simp <;> omega
          have h2 := ih l hx.2 inn deep (tidyN inn deep left x).2
          simp; omega
end Go.Proofs.YtkjgkhgklkdbjaaGreatDoor.Ev
end
section
namespace Go.Proofs.YtkjgkhgklkdbjaaGreatDoor.Ev
open Go
structure Fit (P : Node → Prop) : Prop where
  own : ∀ x, P x → PCon C0 174 [x.pv.toFV, .sc (.int .i64 x.kind)] (ownN x x.kind).pv.toFV
  para : ∀ x, P x → PCon C0 174 [x.pv.toFV, .sc (.int .i64 3)] (ownN x 3).pv.toFV
  kids : ∀ x, P x → ∀ y ∈ x.kids, P y
  len : ∀ x, P x → x.kids.length ≤ 4611686018427387904
section
variable {H L : Heap} {b k : Nat} {v w : List FV}
theorem hs_b (h : b < H.length) : (H.set b v ++ L)[b]? = some v := by rw [List.getElem?_append_left (by simpa using h)]; simp [h]
theorem hs_set (h : b < H.length) : (H.set b v ++ L).set b w = H.set b w ++ L := by rw [List.set_append_left _ _ (by simpa using h)]; simp
theorem hs_at : (H.set b v ++ L)[H.length + k]? = L[k]? := by
  have := heap_at (H := H.set b v) (L := L) (k := k)
  simpa only [List.length_set] using this
theorem hs_at0 : (H.set b v ++ L)[H.length]? = L[0]? := hs_at (k := 0)
theorem hs_put : (H.set b v ++ L).set (H.length + k) w = H.set b v ++ L.set k w := by
  have := heap_set (H := H.set b v) (L := L) (k := k) (x := w)
  simpa only [List.length_set] using this
theorem hs_put0 : (H.set b v ++ L).set H.length w = H.set b v ++ L.set 0 w := hs_put (k := 0)
end
theorem Node.zero_pv : Node.zero.pv = .agg [.int .i64 0, .int .i64 0, .int .i64 0, .sl [], .sl [], .sl [], .str ByteArray.empty, .sl [], .bool false, .bool false] := rfl
section
variable (x : Node) (l : List Node)
@[simp] theorem Node.kind_wk : (x.withKids l).kind = x.kind := rfl
@[simp] theorem Node.line_wk : (x.withKids l).line = x.line := rfl
@[simp] theorem Node.n_wk : (x.withKids l).n = x.n := rfl
@[simp] theorem Node.text_wk : (x.withKids l).text = x.text := rfl
@[simp] theorem Node.kids_wk : (x.withKids l).kids = l := rfl
@[simp] theorem Node.rows_wk : (x.withKids l).rows = x.rows := rfl
@[simp] theorem Node.grid_wk : (x.withKids l).grid = x.grid := rfl
end
theorem sizedN (l : List Node) : Sized 10 (l.map Node.pv) := by
  intro p hp
  obtain ⟨x, _, rfl⟩ := List.mem_map.1 hp
  rw [Node.pv_eq]; rfl
theorem sized1 {a b c d e f g h i j : PV} : Sized 10 [PV.agg [a, b, c, d, e, f, g, h, i, j]] := by
  intro p hp
  rw [List.mem_singleton.1 hp]; rfl
theorem sized_app {n : Nat} {l m : List PV} : Sized n (l ++ m) ↔ Sized n l ∧ Sized n m := by
  simp only [Sized, List.mem_append]
  exact ⟨fun h => ⟨fun p hp => h p (.inl hp), fun p hp => h p (.inr hp)⟩, fun h p hp => hp.elim (h.1 p) (h.2 p)⟩
theorem set_same {α : Type} {H : List α} {b : Nat} {x : α} (h : H[b]? = some x) : H.set b x = H := by
  obtain ⟨hb, rfl⟩ := List.getElem?_eq_some_iff.1 h
  exact List.set_getElem_self hb
def NP (H : Heap) : Prop := ∀ fs ∈ H, ∀ f ∈ fs, f.np0 = true
theorem np_nil : NP [] := fun _ h => by simp at h
theorem np_cons {x : List FV} {L : Heap} (hx : ∀ f ∈ x, f.np0 = true) (h : NP L) : NP (x :: L) := fun fs hfs => by
  rcases List.mem_cons.1 hfs with e | e
  · subst e; exact hx
  · exact h fs e
theorem np_app {H L : Heap} (h : NP H) (h' : NP L) : NP (H ++ L) := fun fs hfs => by
  rcases List.mem_append.1 hfs with e | e
  · exact h fs e
  · exact h' fs e
set_option linter.unusedSimpArgs false in
set_option maxRecDepth 20000 in
set_option maxHeartbeats 4000000 in
theorem treeNodes {P : Node → Prop} (hP : Fit P) : ∀ (n : Nat) (a : List Node), SizeOf.sizeOf a < n → (∀ x ∈ a, P x) → a.length ≤ 4611686018427387904 → ∀ (H : Heap) (b : Nat) (inn d : Int) (left : Nat), 0 ≤ d → d ≤ 20 → left ≤ 1073741824 →
    H[b]? = some [.sc (.int .i64 left)] → NP H →
    Con C0 137 [.ptr b 0, .sc (.sl (a.map Node.pv)), .sc (.int .i64 inn), .sc (.int .i64 d)] H (.own ((tidyL inn d left a).1.map Node.pv)) (H.set b [.sc (.int .i64 (tidyL inn d left a).2)]) := by
  intro n
  induction n with
  | zero => intro a h; omega
  | succ n ih =>
    intro a hn hall hla H b inn d left hd0 hd1 hleft hb hp
    have hbl : b < H.length := (List.getElem?_eq_some_iff.1 hb).1
    refine con_trim (C := C0) (fn := Tryz.f137) Tryz.func137 rfl (by decide) mixed (mv := [60, 64, 80, 81, 82, 83, 84, 109, 113, 118]) (vars := [0, 1, 2, 3, 8, 9, 11, 12, 13, 14, 16, 20, 21, 22, 23, 30, 32, 55, 59, 85, 90, 108]) (c := Tryz.f137.body.getD .skip) rfl rfl ?_ ?_
    · intro fs hfs f hf
      rcases List.mem_or_eq_of_mem_set hfs with h | h
      · exact hp fs h f hf
      · subst h; simp at hf; subst hf; rfl
    simp [Tryz.f137]
    refine loopC (fun dd e H' => ∃ (i : Nat) (out : List Node) (k : Nat) (X : Heap) (x11 x12 x13 x14 x16 x23 x30 x32 x55 x59 x85 x90 x108 : FV), dd = a.length - i ∧ i ≤ a.length ∧ H' = H.set b [.sc (.int .i64 k)] ++ X ∧ NP X ∧ k ≤ left ∧ out.length + k ≤ left ∧
        ((tidyL inn d left a).1 = out ++ (tidyL inn d k (a.drop i)).1 ∧ (tidyL inn d left a).2 = (tidyL inn d k (a.drop i)).2) ∧
        e = [(0, FV.ptr b 0), (1, .sc (.sl (a.map Node.pv))), (2, .sc (.int .i64 inn)), (3, .sc (.int .i64 d)), (8, FV.own []), (9, FV.own (out.map Node.pv)), (11, x11), (12, x12), (13, x13), (14, x14), (16, x16), (20, .sc (.sl (a.map Node.pv))), (21, .sc (.int .i64 a.length)), (22, .sc (.int .i64 i)), (23, x23), (30, x30), (32, x32), (55, x55), (59, x59), (85, x85), (90, x90), (108, x108)]) (d := a.length)
        ⟨0, [], left, [], .undef, .undef, .undef, .undef, .undef, .undef, .undef, .undef, .undef, .undef, .undef, .undef, .undef, by omega, by omega, ?_, np_nil, by omega, by simp, by simp, by simp⟩ ?_
    · rw [List.append_nil, set_same hb]
    · rintro dd e H' ⟨i, out, k, X, x11, x12, x13, x14, x16, x23, x30, x32, x55, x59, x85, x90, x108, rfl, hi, rfl, hX, hk, hout, ⟨ho1, ho2⟩, rfl⟩
      have hbs : b < (H.set b [FV.sc (.int .i64 k)]).length := by simpa using hbl
      have hbg : (H.set b [FV.sc (.int .i64 k)])[b]? = some [FV.sc (.int .i64 k)] := by simp [hbl]
      simp
      refine CondC.mk (fun hlt => ?_) (fun hlt => ?_)
      · simp at hlt
        have ea := Node.pv_eq a[i]
        simp [hlt, ea, gl, hs_b hbl, hs_at, hs_at0]
        refine CondC.mk (fun h0 => ?_) (fun h0 => ?_)
        · simp at h0
          simp
          have hdrop : a.drop i = a[i] :: a.drop (i + 1) := List.drop_eq_getElem_cons hlt
          rw [hdrop, tidyL, if_pos h0] at ho1 ho2
          simp at ho1 ho2
          exact ⟨by rw [ho1], by rw [ho2, h0]⟩
        · simp at h0
          simp
          refine CondC.mk (fun h20 => ?_) (fun h20 => ?_)
          · simp at h20
            simp
            have hdrop : a.drop i = a[i] :: a.drop (i + 1) := List.drop_eq_getElem_cons hlt
            rw [hdrop, tidyL, if_neg (by omega), if_pos h20] at ho1 ho2
            exact ⟨a.length - (i + 1), by omega, i + 1, rfl, by omega, out, k, _, rfl, np_app hX (np_cons (by simp) np_nil), hk, hout, ⟨ho1, ho2⟩, rfl, by rw [wrap64 (by omega) (by omega)]; omega⟩
          · simp at h20
            have hm : a[i] ∈ a := List.getElem_mem hlt
            have hPx := hall _ hm
            have own := hP.own _ hPx
            have para := hP.para _ hPx
            have st := treeStands a[i].kind inn
            have fl := treeFull a[i].kind
            have w1 : IntKind.i64.wrap ((k : Int) - 1) = ((k - 1 : Nat) : Int) := by rw [wrap64 (by omega) (by omega)]; omega
            have hrec := fun (G : Heap) (inn d : Int) (hd0 : 0 ≤ d) (hd1 : d ≤ 20) (hG : G[b]? = some [.sc (.int .i64 (k - 1 : Nat))]) hp => ih a[i].kids (by have := Node.kids_lt hm; omega) (hP.kids _ hPx) (hP.len _ hPx) G b inn d (k - 1) hd0 hd1 (by omega) hG hp
            rw [ea] at own para
            generalize hy : ownN a[i] a[i].kind = y at own
            generalize hy3 : ownN a[i] 3 = y3 at para
            rw [Node.pv_eq] at own para
            simp [gl] at own para
            have hset : ∀ m : Int, NP (H.set b [.sc (.int .i64 m)]) := fun m fs hfs f hf => by
              rcases List.mem_or_eq_of_mem_set hfs with h | h
              · exact hp fs h f hf
              · subst h; simp at hf; subst hf; rfl
            have wh3 := treeWhole y3
            rw [Node.pv_eq] at wh3
            simp [gl] at wh3
            have hdrop : a.drop i = a[i] :: a.drop (i + 1) := List.drop_eq_getElem_cons hlt
            rw [hdrop, tidyL, if_neg (by omega), if_neg (by omega)] at ho1 ho2
            have fin : ∀ (o : List Node) (k' : Nat) (X' : Heap), tidyN inn d k a[i] = (o, k') → NP X' → ∀ q, q = (out ++ o).map Node.pv → ∃ d', d' < a.length - i ∧ ∃ i', d' = a.length - i' ∧ i' ≤ a.length ∧ ∃ x x_1 x_2,
                H.set b [FV.sc (PV.int IntKind.i64 (k' : Nat))] ++ X' = H.set b [FV.sc (PV.int IntKind.i64 (x_1 : Nat))] ++ x_2 ∧ NP x_2 ∧ x_1 ≤ left ∧ x.length + x_1 ≤ left ∧
                ((tidyL inn d left a).1 = x ++ (tidyL inn d x_1 (a.drop i')).1 ∧ (tidyL inn d left a).2 = (tidyL inn d x_1 (a.drop i')).2) ∧ q = x.map Node.pv ∧ IntKind.i64.wrap (i + 1) = (i' : Nat) := by
              intro o k' X' he hX' q hq
              have hc := tidyL_count (SizeOf.sizeOf [a[i]] + 1) [a[i]] (by omega) inn d k
              rw [tidyL, if_neg (by omega), if_neg (by omega), tidyL] at hc
              simp [he] at hc ho1 ho2
              exact ⟨a.length - (i + 1), by omega, i + 1, rfl, by omega, out ++ o, k', X', rfl, hX', by omega, by simp; omega, ⟨by simp [ho1], ho2⟩, hq, by rw [wrap64 (by omega) (by omega)]; omega⟩
            have hn' := tidyN_eq inn d k a[i]
            rw [hy, hy3] at hn'
            obtain ⟨t1, hk1⟩ : ∃ t : Bool, (a[i].kind = 1) = (t = true) := ⟨decide (a[i].kind = 1), by simp⟩
            obtain ⟨t2, hk2⟩ : ∃ t : Bool, (a[i].kind = 2) = (t = true) := ⟨decide (a[i].kind = 2), by simp⟩
            have hlm : lenMax ≥ 2147483648 := by unfold lenMax; omega
            have hcr := tidyL_count _ a[i].kids (Nat.lt_succ_self _) inn d (k - 1)
            have hcr2 := tidyL_count _ a[i].kids (Nat.lt_succ_self _) a[i].kind (d + 1) (k - 1)
            by_cases hA : (a[i].kind = 1 ∨ a[i].kind = 2) ∧ standsIn a[i].kind inn = false
            · have hs := hA.2
              rw [if_pos hA] at hn'
              replace hA := hA.1
              rw [hk1, hk2] at hA
              cases t1 <;> cases t2
              · simp at hA
              rotate_right
              · simp at hk1 hk2; omega
              all_goals
                simp [hs_b hbl, hs_set hbl, hs_at, hs_at0, hk1, hk2, w1]
                refine CallQ.mk (Call.pure callable173 (by simp) (by simp) st) ?_
                simp [hs]
                refine CallQ.mk (Call.pure callable174 (by simp) (by simp) para) ?_
                simp [hs_at, hs_at0]
                refine CallQ.mk (Call.pure callable175 (by simp) (by simp) wh3) ?_
                simp
                cases hw : wholeN y3
                · simp [hs_at, hs_at0]
                  refine CallQ.mk (Call.shared callable137 (hrec _ inn d hd0 hd1 (hs_b hbl) ?_)) ?_
                  · exact np_app (hset _) (np_app hX (np_cons (by simp) (np_cons (by simp) np_nil)))
                  simp [hs_set hbl, sizedN]
                  exact ⟨by omega, fin _ _ _ (by rw [hn', hw]) (np_app hX (np_cons (by simp) (np_cons (by simp) np_nil))) _ (by simp)⟩
                · simp [hs_at, hs_at0, sizedN, sized1, -List.cons_append]
                  refine ⟨by omega, CallQ.mk (Call.shared callable137 (hrec _ inn d hd0 hd1 (hs_b hbl) ?_)) ?_⟩
                  · exact np_app (hset _) (np_app hX (np_cons (by simp) (np_cons (by simp) np_nil)))
                  simp [hs_set hbl, sizedN, sized1, sized_app]
                  exact ⟨by omega, fin _ _ _ (by rw [hn', hw]) (np_app hX (np_cons (by simp) (np_cons (by simp) np_nil))) _ (by simp [Node.pv_eq y3, gl])⟩
            · rw [if_neg hA] at hn'
              have hA' : t1 = true ∨ t2 = true → standsIn a[i].kind inn = true := by
                rw [hk1, hk2] at hA
                intro h
                cases hs : standsIn a[i].kind inn
                · exact absurd ⟨h, hs⟩ hA
                · rfl
              have hyk : y.kids = [] := by rw [← hy]; rfl
              have wh := treeWhole y
              rw [Node.pv_eq] at wh
              simp [gl] at wh
              have wh0 := treeWhole (y.withKids [Node.zero])
              rw [Node.pv_eq] at wh0
              simp [gl, Node.zero_pv] at wh0
              have wd1 : IntKind.i64.wrap (d + 1) = d + 1 := wrap64 (by omega) (by omega)
              cases t1 <;> cases t2
              all_goals
                simp at hA'
                simp [hs_b hbl, hs_set hbl, hs_at, hs_at0, hk1, hk2, w1, wd1]
                try
                  refine CallQ.mk (Call.pure callable173 (by simp) (by simp) st) ?_
                  simp [hA', hs_at, hs_at0]
                refine CallQ.mk (Call.pure callable174 (by simp) (by simp) own) ?_
                simp [hs_at, hs_at0]
                refine CallQ.mk (Call.pure callable176 (by simp) (by simp) fl) ?_
                simp
                cases hkd : hasKids a[i].kind
                · simp [hs_at, hs_at0]
                  refine CallQ.mk (Call.pure callable175 (by simp) (by simp) wh) ?_
                  simp
                  cases hw : wholeN y
                  · simp [hs_at, hs_at0, sizedN]
                    exact ⟨by rw [hyk, List.length_nil]; omega, fin _ _ _ (by rw [hn', hkd, hw]; rfl) (np_app hX (np_cons (by simp) (np_cons (by simp) np_nil))) _ (by simp [hyk])⟩
                  · simp [hs_at, hs_at0, sizedN, sized1, sized_app]
                    exact ⟨by omega, fin _ _ _ (by rw [hn', hkd, hw]; rfl) (np_app hX (np_cons (by simp) (np_cons (by simp) np_nil))) _ (by simp [Node.pv_eq y, gl])⟩
                · simp [hs_at, hs_at0, sized1]
                  refine CallQ.mk (Call.pure callable175 (by simp) (by simp) wh0) ?_
                  simp
                  cases hw : wholeN (y.withKids [Node.zero])
                  · simp [hs_at, hs_at0]
                    refine CallQ.mk (Call.shared callable137 (hrec _ inn d hd0 hd1 (hs_b hbl) ?_)) ?_
                    · exact np_app (hset _) (np_app hX (np_cons (by simp) (np_cons (by simp) np_nil)))
                    generalize hr : tidyL inn d (k - 1) a[i].kids = r at *
                    obtain ⟨rl, rk⟩ := r
                    have wh1 := treeWhole (y.withKids rl)
                    rw [Node.pv_eq] at wh1
                    simp [gl] at wh1
                    simp at hcr
                    simp [hs_set hbl, hs_at, hs_at0, hs_put, hs_put0, sizedN]
                    refine CallQ.mk (Call.pure callable175 (by simp) (by simp) wh1) ?_
                    simp
                    cases hw1 : wholeN (y.withKids rl)
                    · simp [hs_at, hs_at0, sizedN]
                      exact ⟨by omega, fin rl rk _ (by rw [hn', hkd, if_pos rfl, hw]; simp [hw1]) (np_app hX (np_cons (by simp) (np_cons (by simp) np_nil))) _ (by simp)⟩
                    · simp [hs_at, hs_at0, sizedN, sized1, sized_app]
                      exact ⟨by omega, fin [y.withKids rl] rk _ (by rw [hn', hkd, if_pos rfl, hw]; simp [hw1]) (np_app hX (np_cons (by simp) (np_cons (by simp) np_nil))) _ (by simp [Node.pv_eq (y.withKids rl), gl])⟩
                  · simp [hs_at, hs_at0, wd1]
                    refine CallQ.mk (Call.shared callable137 (hrec _ a[i].kind (d + 1) (by omega) (by omega) (hs_b hbl) ?_)) ?_
                    · exact np_app (hset _) (np_app hX (np_cons (by simp) (np_cons (by simp) np_nil)))
                    generalize hr : tidyL a[i].kind (d + 1) (k - 1) a[i].kids = r at *
                    obtain ⟨rl, rk⟩ := r
                    have wh1 := treeWhole (y.withKids rl)
                    rw [Node.pv_eq] at wh1
                    simp [gl] at wh1
                    simp at hcr2
                    simp [hs_set hbl, hs_at, hs_at0, hs_put, hs_put0, sizedN]
                    refine CallQ.mk (Call.pure callable175 (by simp) (by simp) wh1) ?_
                    simp
                    cases hw1 : wholeN (y.withKids rl)
                    · simp [hs_at, hs_at0, sizedN]
                      exact ⟨by omega, fin rl rk _ (by rw [hn', hkd, if_pos rfl, hw]; simp [hw1]) (np_app hX (np_cons (by simp) (np_cons (by simp) np_nil))) _ (by simp)⟩
                    · simp [hs_at, hs_at0, sizedN, sized1, sized_app]
                      exact ⟨by omega, fin [y.withKids rl] rk _ (by rw [hn', hkd, if_pos rfl, hw]; simp [hw1]) (np_app hX (np_cons (by simp) (np_cons (by simp) np_nil))) _ (by simp [Node.pv_eq (y.withKids rl), gl])⟩
      · simp at hlt
        simp
        rw [List.drop_eq_nil_of_le hlt, tidyL] at ho1 ho2
        simp at ho1 ho2
        exact ⟨by rw [ho1], by rw [ho2]⟩
end Go.Proofs.YtkjgkhgklkdbjaaGreatDoor.Ev
end
section
namespace Go.Proofs.YtkjgkhgklkdbjaaGreatDoor.Ev
open Go
structure Doc where
  name : ByteArray
  part : ByteArray
  date : ByteArray
  source : ByteArray
  kids : List Node
def Doc.pv (d : Doc) : PV := .agg [.str d.name, .str d.part, .str d.date, .str d.source, .sl (d.kids.map Node.pv)]
def tidyD (d : Doc) : Doc := { d with kids := (tidyL 0 0 20000 d.kids).1 }
set_option linter.unusedSimpArgs false in
set_option maxRecDepth 20000 in
set_option maxHeartbeats 4000000 in
theorem treeTidy {P : Node → Prop} (hP : Fit P) (d : Doc) (hall : ∀ x ∈ d.kids, P x) (hl : d.kids.length ≤ 4611686018427387904) : PCon C0 82 [d.pv.toFV] (tidyD d).pv.toFV := by
  refine penter82 ?_
  simp [Tryz.f82, Doc.pv]
  refine CallQ.mk (Call.shared callable137 (treeNodes hP _ d.kids (Nat.lt_succ_self _) hall hl _ 2 0 0 20000 (by omega) (by omega) (by omega) rfl ?_)) ?_
  · exact np_cons (by simp) (np_cons (by simp) (np_cons (by simp) np_nil))
  simp [tidyD]
theorem treeTidy' {P : Node → Prop} (hP : Fit P) (d : Doc) (hall : ∀ x ∈ d.kids, P x) (hl : d.kids.length ≤ 4611686018427387904) : PCon C0 82 [.agg [.sc (.str d.name), .sc (.str d.part), .sc (.str d.date), .sc (.str d.source), .sc (.sl (d.kids.map Node.pv))]]
    (.agg [.sc (.str d.name), .sc (.str d.part), .sc (.str d.date), .sc (.str d.source), .sc (.sl ((tidyL 0 0 20000 d.kids).1.map Node.pv))]) := by
  have := treeTidy hP d hall hl
  simpa [Doc.pv, tidyD] using this
end Go.Proofs.YtkjgkhgklkdbjaaGreatDoor.Ev
end
section
namespace Go.Proofs.YtkjgkhgklkdbjaaGreatDoor.Ev
open Go
def Wd.freeze (W : Wd) (b n : Nat) : Wd := { W with lim := fun x => if x = b then n else W.lim x }
theorem flat_at {s : Nat} : ∀ {l : List PV} {x y : Nat} {e q : PV}, Sized s l → l[x]? = some e → e.leaves[y]? = some q → (l.flatMap PV.leaves)[x * s + y]? = some q
  | [], x, y, e, q, _, he, _ => by simp at he
  | p :: l, 0, y, e, q, _, he, hq => by
    simp at he; subst he
    rw [List.flatMap_cons, Nat.zero_mul, Nat.zero_add, List.getElem?_append_left (List.getElem?_eq_some_iff.1 hq).1]
    exact hq
  | p :: l, x + 1, y, e, q, hz, he, hq => by
    have hps : p.leaves.length = s := hz p (by simp)
    rw [List.flatMap_cons, List.getElem?_append_right (by rw [hps, Nat.succ_mul]; omega), hps, show (x + 1) * s + y - s = x * s + y by rw [Nat.succ_mul]; omega]
    exact flat_at (fun z hz' => hz z (by simp [hz'])) (by simpa using he) hq
theorem freeze_evo {W : Wd} {B n : Nat} (h0 : W.lim B = 0) (hB : W.o B = none) : Evo0 W (W.freeze B n) (fun _ _ => True) :=
  { cell := fun _ _ _ => rfl
    lim := fun x => by
      simp only [Wd.freeze]
      split
      · rename_i h; rw [h, h0]; exact Nat.zero_le _
      · exact Nat.le_refl _
    shape := fun _ c _ _ h => ⟨c, h, rfl⟩
    hold := fun x q i ho _ => ⟨ho, by
      simp only [Wd.freeze]
      split
      · rename_i h; rw [h, hB] at ho; simp at ho
      · rfl⟩
    beta := fun x i ho hb => ⟨hb, ho⟩
    row := fun i => ⟨Nat.le_refl _, fun _ h => ⟨rfl, h⟩⟩ }
theorem HInv.freeze {C : Ctx} {H : Heap} {W : Wd} {B n : Nat} (h : HInv C H W) (h0 : W.lim B = 0) (hB : W.o B = none) (hlt : B < W.w.heap.size) : HInv C H (W.freeze B n) := by
  have hE0 := freeze_evo (n := n) h0 hB
  refine ⟨fun x gs hgs => ?_, fun g ls hls j q hq => ?_, fun x hx => ?_, fun x i k hx => h.boxes x i k hx, h.gen0, h.kept.same rfl fun _ h => h⟩
  · obtain ⟨m1, m2, c₂, T₂, fz₂, m3, m4, m5, m6⟩ := h.box x gs hgs
    refine ⟨⟨m1.1, m1.2.congr rfl⟩, ?_, c₂, T₂, fz₂, m3, m4, m5, fun i g v hg hv => ⟨(m6 i g v hg hv).1, (m6 i g v hg hv).2.mono0 hE0 (fun _ _ _ => trivial)⟩⟩
    simp only [Wd.freeze]
    split
    · rename_i hh
      have q := m1.1
      have : W.β x = B := hh
      rw [this, hB] at q; simp at q
    · exact m2
  · obtain ⟨m1, m2, v, m3, m4⟩ := h.laid g ls hls j q hq
    exact ⟨m1, Nat.lt_of_lt_of_le m2 (hE0.lim g), v, m3, m4.mono (fun _ _ _ => rfl) hE0.lim⟩
  · obtain ⟨m1, m2⟩ := h.fresh x hx
    refine ⟨?_, m2⟩
    simp only [Wd.freeze]
    rw [if_neg (by intro h; subst h; exact absurd hlt (Nat.not_lt.2 hx))]
    exact m1
theorem HInv.lt {C : Ctx} {H : Heap} {W : Wd} (h : HInv C H W) {b : Nat} {fs : List FV} (hb : H[b]? = some fs) : W.β b < W.w.heap.size := by
  obtain ⟨k1, _⟩ := h.box b fs hb
  rcases Nat.lt_or_ge (W.β b) W.w.heap.size with h' | h'
  · exact h'
  · have := k1.1
    rw [(h.fresh _ h').2] at this; simp at this
theorem forget_none {W : Wd} {n b x k : Nat} (hn : n ≤ b) (h : W.o x = some (.box b, k)) : (W.forget n).o x = none := by
  have : below n (.box b) = false := by simp [below]; omega
  rw [forget_o]
  simp [Wd.only, h, this]
theorem frozen_row {W W₁ : Wd} {B off s cap : Nat} {cs : Array Value} {T : TypeId} {fz : Nat × Nat} {fs : List FV} {b : Nat} {l : List PV} (hs : 0 < s) (hl : Sized s l) (k3 : W.w.heap[B]? = some (.cells cs T fz)) (k4 : fs.length ≤ cs.size) (k6 : ∀ (i : Nat) (f : FV) (v : Value), fs[i]? = some f → cs[i]? = some v → f.isLeaf = true ∧ FRep W (some (.leaf b i)) 0 f v)
    (h8 : ∀ k q, (l.flatMap PV.leaves)[k]? = some q → ∃ f, fs[off + k]? = some f ∧ f.leafPV = some q) (hw : W₁.w = W.w) (hlim : ∀ x, W.lim x ≤ W₁.lim x) (hB : cs.size ≤ W₁.lim B) (hcap : l.length ≤ cap) : Rep W₁.w W₁.lim (.sl l) (.slice (some ⟨B, off, none⟩) l.length cap) := by
  have hcell : ∀ x y, x < l.length → ∀ e q, l[x]? = some e → e.leaves[y]? = some q → ∃ u, W.w.cell? ⟨B, off + (x * s + y), none⟩ = some u ∧ off + (x * s + y) < cs.size ∧ q.isLeaf = true ∧ Rep W.w W.lim q u := by
    intro x y hx e q he hq
    have hk : (l.flatMap PV.leaves)[x * s + y]? = some q := flat_at hl he hq
    obtain ⟨f, hfs, hfq⟩ := h8 _ _ hk
    have hlt : off + (x * s + y) < fs.length := (List.getElem?_eq_some_iff.1 hfs).1
    have hcl : off + (x * s + y) < cs.size := by omega
    obtain ⟨m1, m2⟩ := k6 _ _ cs[off + (x * s + y)] hfs (Array.getElem?_eq_getElem hcl)
    obtain ⟨m3, m4⟩ := leafPV_rep m2 hfq
    exact ⟨cs[off + (x * s + y)], by rw [cell_of_heap k3]; exact Array.getElem?_eq_getElem hcl, hcl, m3, m4⟩
  by_cases hl0 : l = []
  · subst hl0; exact .nil
  refine .sl (fun x y => (W.w.cell? ⟨B, off + (x * s + y), none⟩).getD default) (sz := s) rfl rfl hs (fun x e he => hl e (List.mem_of_getElem? he)) (fun x y e q he hq => ?_) (fun x y e q he hq => ?_) (fun x y e q he hq => ?_) (fun x y e q he hq => ?_) hcap
  all_goals
    obtain ⟨u, q1, q2, q3, q4⟩ := hcell x y (List.getElem?_eq_some_iff.1 he).1 e q he hq
  · exact Nat.lt_of_lt_of_le q2 hB
  · rw [hw, q1]; rfl
  · exact q3
  · simp only [q1, Option.getD_some]
    exact q4.mono (fun _ _ _ => by rw [hw]) hlim
section
variable {C : Ctx} {f : FuncId} {fn : Func} {c : Code} {args : List FV} {H H' : Heap} {mv vars : List Nat} (hf : C.P.funcs[f]? = some fn) (hb : fn.body = some c) (hn : (resTmps fn.results.toList).Nodup) (hmix : C.P.follows .mixedOrders = true) (hk : codeOk mv c = true)
    (l : List PV) (s : Nat) (hs : 0 < s) (hl : Sized s l)
include hf hb hn hmix hk hs hl
theorem con_freezeR (hp : ∀ fs ∈ H', ∀ f ∈ body fs, f.und0 H.length = true)
    (h : wpC C fn.ntmps mv vars c (argsEnv 0 args) H fun x e H₁ => (match x with | .exit _ => False | _ => True) ∧ ∃ (b g : Nat) (cells : List FV), resultOf C e H₁ fn.results.toList = some (.gr b g s l.length) ∧ H.length ≤ b ∧ H₁.take H.length = H' ∧ H₁[b]? = some [.row g cells] ∧ ∀ (k : Nat) (q : PV), (l.flatMap PV.leaves)[k]? = some q → ∃ f : FV, cells[k]? = some f ∧ f.leafPV = some q) : Con C f args H (.sc (.sl l)) H' :=
  fun vs W hlen hargs hH _ => (con_gen2 (G := fun r H₁ => ∃ (b g : Nat) (cells : List FV), r = .gr b g s l.length ∧ H.length ≤ b ∧ H₁.take H.length = H' ∧ H₁[b]? = some [.row g cells] ∧ ∀ (k : Nat) (q : PV), (l.flatMap PV.leaves)[k]? = some q → ∃ f : FV, cells[k]? = some f ∧ f.leafPV = some q) hf hb hn hmix hk (wpC_mono _ _ _ _ _ (fun _ _ _ ⟨h1, b, g, cells, h2, h3⟩ => ⟨h1, _, h2, b, g, cells, rfl, h3⟩) h) vs W hlen hargs hH).mono fun _ _ ⟨v, W', H₁, r, h1, h2, ⟨b, g, cells, hr, hbn, h3, h7, h8⟩, h4, h5, h6⟩ => by
    subst hr
    have hbl := (List.getElem?_eq_some_iff.1 h7).1
    obtain ⟨k1, k2, cs, T, fz, k3, k4, k5, k6⟩ := h5.box b _ h7
    generalize hv : v = v' at h4
    cases h4 with
    | @gr _ _ _ _ _ _ cap A a1 a2 a3 =>
      subst hv
      obtain ⟨q1, q2, q3⟩ := a3 k1.2
      subst q1
      have hlt := h5.lt h7
      have hbx := h5.trim (n := H.length) (h3 ▸ hp)
      rw [h3] at hbx
      have hBo := forget_none hbn q2
      have hE0 := freeze_evo (W := W'.forget H.length) (n := cs.size) (B := W'.β b) k2 hBo
      refine ⟨_, (W'.forget H.length).freeze (W'.β b) cs.size, h1, h2, ?_, hbx.freeze k2 hBo hlt, ?_⟩
      · refine .sc rfl (frozen_row (W := W') (off := 0) hs hl k3 k4 k6 (fun k q hkq => by rw [Nat.zero_add]; exact h8 k q hkq) rfl hE0.lim ?_ a2)
        simp [Wd.freeze]
      · have h6' := h6.forget hH
        refine Evo.of h6'.os h6'.tape h6'.output h6'.size h6'.cell (fun x => Nat.le_trans (h6'.lim x) (hE0.lim x)) h6'.shape (fun _ _ _ _ hk => hk.elim) h6'.beta h6'.row (fun x hxl hxo => ?_)
        obtain ⟨p1, p2, p3⟩ := h6.away x hxl hxo
        refine ⟨p1, ?_, (h6'.away x hxl hxo).2.2⟩
        simp only [Wd.freeze]
        rw [if_neg (by intro h; subst h; rw [q2] at p3; simp at p3)]
        exact p2
end
end Go.Proofs.YtkjgkhgklkdbjaaGreatDoor.Ev
end
section
namespace Go.Proofs.YtkjgkhgklkdbjaaGreatDoor.Ev
open Go
theorem HInv.below {C : Ctx} {H : Heap} {W : Wd} (h : HInv C H W) {w' : World} (hb : RowKit.Below W.w.heap.size W.w w') : Evo W { W with w := w' } (fun _ _ => True) ∧ HInv C H { W with w := w' } := by
  have hlt : ∀ b off, off < W.lim b → b < W.w.heap.size := fun b off ho => by
    rcases Nat.lt_or_ge b W.w.heap.size with h' | h'
    · exact h'
    · rw [(h.fresh b h').1] at ho; omega
  have hE : Evo W { W with w := w' } (fun _ _ => True) := by
    refine Evo.of hb.os hb.tape hb.output hb.size (fun b off ho => ?_) (fun _ => Nat.le_refl _) (fun b c T fz hc => ?_) (fun _ _ _ ho _ => ⟨ho, rfl⟩) (fun _ _ ho hβ => ⟨hβ, ho⟩) (fun _ => ⟨Nat.le_refl _, fun _ h => ⟨rfl, h⟩⟩) (fun b hbl ho => ⟨hb.block b hbl, rfl, ho⟩)
    · simp only [World.cell?]
      rw [hb.block b (hlt b off ho)]
    · have hbl := (Array.getElem?_eq_some_iff.1 hc).1
      exact ⟨c, by show w'.heap[b]? = _; rw [hb.block b hbl]; exact hc, rfl⟩
  refine ⟨hE, fun b fs hfs => ?_, fun g ls hls j q hq => ?_, fun b hbl => h.fresh b (Nat.le_trans hb.size hbl), h.boxes, h.gen0, h.kept.evo hE⟩
  · obtain ⟨h1, h2, c, T, fz, h3, h4, h5, h6⟩ := h.box b fs hfs
    have hbl := (Array.getElem?_eq_some_iff.1 h3).1
    exact ⟨h1, h2, c, T, fz, by show w'.heap[W.β b]? = _; rw [hb.block _ hbl]; exact h3, h4, h5, fun i f v hf hv => ⟨(h6 i f v hf hv).1, (h6 i f v hf hv).2.mono hE (by simp)⟩⟩
  · obtain ⟨m1, m2, v, m3, m4⟩ := h.laid g ls hls j q hq
    exact ⟨m1, m2, v, by rw [hE.cell _ _ m2]; exact m3, m4.mono hE.cell hE.lim⟩
theorem pcon_below {C : Ctx} {f : FuncId} {args : List FV} {p : PV} {v : Value} (hp : p.isLeaf = true) (hrep : ∀ w lim, Rep w lim p v)
    (h : ∀ (vs : List Value) (W : Wd), vs.length = args.length → (∀ (j : Nat) (g : FV) (u : Value), args[j]? = some g → vs[j]? = some u → FRep W none 0 g u) → HInv C [] W → Calls C.P f vs.toArray W.w fun e w' => e = .returned v ∧ RowKit.Below W.w.heap.size W.w w') : PCon C f args (.sc p) :=
  fun vs W h1 h2 h3 _ => (h vs W h1 h2 h3).mono fun _ w' ⟨he, hb⟩ => ⟨v, { W with w := w' }, [], he, rfl, .sc hp (hrep _ _), (h3.below hb).2, (h3.below hb).1.weaken (by simp)⟩
theorem PCon.call1 {C : Ctx} {f : FuncId} {k k' : IntKind} {x y : Int} (h : PCon C f [.sc (.int k x)] (.sc (.int k' y))) {W : Wd} (hH : HInv C [] W) : Calls C.P f #[.int k x] W.w fun e w' => e = .returned (.int k' y) ∧ RowKit.Below W.w.heap.size W.w w' := by
  have h0 : HInv C [] { W with o := fun _ => none } := ⟨fun b fs hb => by simp at hb, hH.laid, fun b hb => ⟨(hH.fresh b hb).1, rfl⟩, fun b i k hb => by simp at hb, hH.gen0, hH.kept.same rfl fun _ _ => rfl⟩
  refine (h [.int k x] { W with o := fun _ => none } rfl (fun j g v hg hv => ?_) h0 (fun b q k hb => by simp at hb)).mono fun e w' ⟨v, W', J, he, hw, hr, _, hE⟩ => ?_
  · match j with
    | 0 => simp at hg hv; subst hg hv; exact .mkInt
    | j + 1 => simp at hg
  · subst he hw
    refine ⟨by rw [hr.int], hE.os, hE.tape, hE.output, hE.size, fun b hb => (hE.away b hb rfl).1⟩
theorem FRep.fn0 {W : Wd} {r : Option Root} {i : Nat} {f : FuncId} {v : Value} (h : FRep W r i (.fn f [] []) v) : v = .func (.func f) #[] #[] := by
  cases h with
  | @fn _ _ _ _ _ fs cs a b c d =>
    have e1 : fs = #[] := Array.eq_empty_of_size_eq_zero a
    have e2 : cs = #[] := Array.eq_empty_of_size_eq_zero b
    rw [e1, e2]
theorem args1 {a : FV} {vs : List Value} {W : Wd} (hl : vs.length = [a].length) (h : ∀ (j : Nat) (g : FV) (u : Value), [a][j]? = some g → vs[j]? = some u → FRep W none 0 g u) : ∃ u, vs = [u] ∧ FRep W none 0 a u := by
  match vs, hl with
  | [u], _ => exact ⟨u, rfl, h 0 a u rfl rfl⟩
theorem args2 {a b : FV} {vs : List Value} {W : Wd} (hl : vs.length = [a, b].length) (h : ∀ (j : Nat) (g : FV) (u : Value), [a, b][j]? = some g → vs[j]? = some u → FRep W none 0 g u) : ∃ u v, vs = [u, v] ∧ FRep W none 0 a u ∧ FRep W none 0 b v := by
  match vs, hl with
  | [u, v], _ => exact ⟨u, v, rfl, h 0 a u rfl rfl, h 1 b v rfl rfl⟩
end Go.Proofs.YtkjgkhgklkdbjaaGreatDoor.Ev
end
section
namespace Go.Proofs.YtkjgkhgklkdbjaaGreatDoor.Ev
open Go
theorem Con.pcon {C : Ctx} {f : FuncId} {args : List FV} {r : FV} {H' : Heap} (h : Con C f args [] r H') : PCon C f args r := fun vs W h1 h2 h3 h4 =>
  (h vs W h1 h2 h3 h4).mono fun _ _ ⟨v, W', a, b, c, d, e⟩ => ⟨v, W', H', a, b, c, d, e⟩
theorem sizedG (l : List Glyph) : Sized 2 (l.map Glyph.pv) := by
  intro p hp
  obtain ⟨x, _, rfl⟩ := List.mem_map.1 hp
  rfl
set_option linter.unusedSimpArgs false in
set_option maxRecDepth 20000 in
set_option maxHeartbeats 4000000 in
theorem cloneG (l : List Glyph) (hl : l.length ≤ lenMax) : PCon C0 69 [.sc (gl l)] (.own (l.map Glyph.pv)) := by
  refine penter69 ?_
  simp [Tryz.f69, gl]
  refine NilQ.mk (fun h => ?_) (fun h b => ?_)
  · simp at h
    simp [sizedG]
    exact ⟨fun _ h => by simp at h, hl⟩
  · simp at h
    subst h
    cases b <;> simp [Sized]
end Go.Proofs.YtkjgkhgklkdbjaaGreatDoor.Ev
end
section
namespace Go.Proofs.YtkjgkhgklkdbjaaGreatDoor.Ev
open Go
abbrev mv38 : List Nat := [25, 26, 43, 59, 60, 8000083]
abbrev vars38 : List Nat := [0, 1, 3, 4, 5, 6, 7, 8, 9, 20, 31, 49, 61, 70, 94, 99, 106, 112, 119, 124, 129, 134, 136, 143, 150]
abbrev mv41 : List Nat := [47, 70, 5000052, 6053052, 2000075, 9000000000000000000000000000000000000000000000000000000000000000000000000000000000000000000098072048987800627512492171328, 9000000000000000000000000000000000000000000000000000000000000000000000000000000000000000000093139938671381303301468069952, 9000000000000000000000000000000000000000000000000000000000000000000000000000000000000000000093043531635726338798482366528, 14000000000000000000000000000000000000000000000000000000000000000000000000000000000000000000000023329313775742927122473024, 14000000000000000000000000000000000000000000000000000000000000000000000000000000000000000000000022427416717412624331710528, 14000000000000000000000000000000000000000000000000000000000000000000000000000000000000000000000022408602227407742214873152]
abbrev vars41 : List Nat := [0, 2, 3, 5, 7, 9, 37, 38, 39, 40, 61, 62, 63, 64, 87]
abbrev mv67 : List Nat := [25, 26, 31, 46, 47, 49, 53, 75]
abbrev vars67 : List Nat := [0, 1, 2, 6, 8, 9, 11, 12, 13, 15, 37, 38, 39, 40, 48, 65]
abbrev mv71 : List Nat := [18, 19, 20, 26, 8000039]
abbrev vars71 : List Nat := [0, 1, 3, 4, 5, 6, 8, 9, 27]
abbrev mv75 : List Nat := [8000063]
abbrev vars75 : List Nat := [0, 1, 3, 5, 13, 22]
abbrev mv80 : List Nat := [37, 51, 75, 84, 91]
abbrev vars80 : List Nat := [0, 1, 2, 3, 4, 5, 7, 9, 11, 12, 14, 30, 31, 32, 33, 44, 45, 46, 47, 58, 59, 60, 61, 68, 69, 70, 71]
abbrev mv81 : List Nat := []
abbrev vars81 : List Nat := [0, 2, 3]
abbrev mv110 : List Nat := [28, 50, 60, 5000032, 6035032, 5000064, 6065064, 4000000000000000000000000000000000000000000000000000000000000000000000000000000000000000000000000000000000000000017571904, 4000000000000000000000000000000000000000000000000000000000000000000000000000000000000000000000000000000000000000017567872, 5000000000000000000000000000000000000000000000000000000000000000000000000000000007257985400367590466857001956851541876800, 8000000000000000000000000000000000000000000000000000000000000000000000000000000000000000000001512725923540966070360481856, 8000000000000000000000000000000000000000000000000000000000000000000000000000000000000000000001435661699846914129563230272, 8000000000000000000000000000000000000000000000000000000000000000000000000000000000000000000001434155339914805309204078656]
abbrev vars110 : List Nat := [0, 1, 3, 4, 11, 13, 29, 30, 32]
abbrev mv124 : List Nat := []
abbrev vars124 : List Nat := [0, 1, 2, 3, 8, 9, 10, 13, 14, 20, 25, 35, 38, 49]
abbrev mv128 : List Nat := [17, 18, 19]
abbrev vars128 : List Nat := [0, 1, 2, 4, 6, 7, 8, 9]
abbrev mv145 : List Nat := []
abbrev vars145 : List Nat := [0, 1, 4, 6, 8, 12, 13, 14, 15, 21]
abbrev mv157 : List Nat := [31, 35, 2000033]
abbrev vars157 : List Nat := [0, 2, 3, 5, 6, 8, 9, 10, 11, 12, 20, 25, 26, 27, 28]
abbrev mv167 : List Nat := [16, 17, 18, 23, 28]
abbrev vars167 : List Nat := [0, 1, 2, 6, 7, 9]
end Go.Proofs.YtkjgkhgklkdbjaaGreatDoor.Ev
end
section
namespace Go.Proofs.YtkjgkhgklkdbjaaGreatDoor.Ev
open Go
theorem sized_gl (l : List Glyph) : Sized 2 (l.map Glyph.pv) := fun p hp => by
  simp only [List.mem_map] at hp; obtain ⟨x, _, rfl⟩ := hp; rfl
theorem cells_gl (l : List Glyph) : (l.map Glyph.pv).flatMap PV.leaves = l.flatMap fun g => [PV.int .i32 g.r, PV.int .u8 g.s] := by
  induction l with
  | nil => rfl
  | cons g l ih => simp only [List.map_cons, List.flatMap_cons, ih]; rfl
def rowG (l : List Glyph) : List FV := ((l.map Glyph.pv).flatMap PV.leaves).map .sc
theorem rowG_len (l : List Glyph) : (rowG l).length = l.length * 2 := by
  unfold rowG; rw [List.length_map, cells_gl]
  induction l with
  | nil => rfl
  | cons g l ih => simp at ih ⊢; omega
theorem rowG_app (a b : List Glyph) : rowG (a ++ b) = rowG a ++ rowG b := by simp [rowG]
set_option linter.unusedSimpArgs false in
set_option maxRecDepth 20000 in
theorem conGrow (n : Nat) (h0 : 0 < n) (hn : n ≤ 1073741824) (H : Heap) :
    Con C0 198 [.emp, .sc (.int .i64 n)] H (.gr H.length 0 2 0) (H ++ [[.row 0 []]]) := by
  refine enter198 ?_
  have w0 : IntKind.i64.wrap 0 = 0 := by decide
  have w1 : IntKind.i64.wrap (n : Int) = n := wrap64 (by omega) (by omega)
  have n0 : ¬ (n : Int) < 0 := by omega
  have n1 : (0 : Int) < n := by omega
  have n2 : (n : Int) ≤ 137438953472 := by omega
  simp [Tryz.f198, w0, w1, n0, n1, h0, n2, lenMax, hn]
def catG (l : List (List Glyph)) : List Glyph := l.flatten
theorem catG_take {l : List (List Glyph)} {i : Nat} (h : i < l.length) : catG (l.take (i + 1)) = catG (l.take i) ++ l[i] := by
  rw [List.take_succ_eq_append_getElem h]; unfold catG; rw [List.flatten_append]; simp
theorem catG_len (l : List (List Glyph)) (i : Nat) : (catG (l.take i)).length ≤ (catG l).length := by
  conv => rhs; rw [← List.take_append_drop i l]
  unfold catG; rw [List.flatten_append, List.length_append]; omega
set_option linter.unusedSimpArgs false in
set_option maxRecDepth 20000 in
set_option maxHeartbeats 8000000 in
theorem conConcat (l : List (List Glyph)) (h0 : 0 < (catG l).length) (hn : (catG l).length ≤ 1073741824) (hl : l.length ≤ 1073741824) :
    Con C0 157 [.sc (.sl (l.map gl))] [] (.sc (.sl ((catG l).map Glyph.pv))) [] := by
  refine con_freezeR (C := C0) (s := 2) (l := (catG l).map Glyph.pv) (fn := Tryz.f157) Tryz.func157 rfl (by decide) mixed (mv := mv157) (vars := vars157) (c := Tryz.f157.body.getD .skip) rfl ?_ ?_ ?_ ?_
  · decide
  · exact sized_gl (catG l)
  · intro fs h; simp at h
  simp [Tryz.f157]
  refine loopC (fun d e H' => ∃ (i : Nat) (x5 x12 x20 : FV), H' = [] ∧ d = l.length - i ∧ i ≤ l.length ∧ e = [(0, .sc (.sl (l.map gl))), (2, .own []), (3, .sc (.int .i64 (catG (l.take i)).length)), (5, x5), (6, .undef), (8, .undef), (9, .sc (.sl (l.map gl))), (10, .sc (.int .i64 l.length)), (11, .sc (.int .i64 i)), (12, x12), (20, x20), (25, .undef), (26, .undef), (27, .undef), (28, .undef)]) (d := l.length) ⟨0, .undef, .undef, .undef, rfl, rfl, Nat.zero_le _, ?_⟩ ?_
  · simp [catG]
  · rintro d e H' ⟨i, x5, x12, x20, rfl, rfl, hi, rfl⟩
    simp
    refine CondC.mk (fun hlt => ?_) (fun hlt => ?_)
    · simp at hlt
      have hw : IntKind.i64.wrap ((i : Int) + 1) = ((i + 1 : Nat) : Int) := by rw [wrap64 (by omega) (by omega)]; omega
      have hq : (l.map gl)[i]? = some (gl l[i]) := by simp [hlt]
      have ht := catG_take hlt
      have hle := catG_len l (i + 1)
      have hl2 : (catG (l.take (i + 1))).length = (catG (l.take i)).length + l[i].length := by rw [ht, List.length_append]
      have w1 : IntKind.i64.wrap (((catG (l.take i)).length : Int) + (l[i].length : Int)) = ((catG (l.take (i + 1))).length : Int) := by rw [wrap64 (by omega) (by omega)]; omega
      have n0 : ¬ ((catG (l.take (i + 1))).length : Int) < 0 := by omega
      simp [hq, gl, w1, n0, hw]
      exact ⟨l.length - (i + 1), by omega, i + 1, rfl, by omega, rfl, by omega⟩
    · simp at hlt
      obtain rfl : i = l.length := by omega
      rw [List.take_length]
      simp
      refine CallQ.mk (Call.shared callable198 (conGrow (catG l).length h0 hn [])) ?_
      simp
      refine loopC (fun d e H' => ∃ (i : Nat) (x8 x28 : FV), H' = [[.row i (rowG (catG (l.take i)))]] ∧ d = l.length - i ∧ i ≤ l.length ∧ e = [(0, .sc (.sl (l.map gl))), (2, .own []), (3, .sc (.int .i64 (catG l).length)), (5, x5), (6, .gr 0 i 2 (catG (l.take i)).length), (8, x8), (9, .sc (.sl (l.map gl))), (10, .sc (.int .i64 l.length)), (11, .sc (.int .i64 l.length)), (12, .sc (.bool false)), (20, x20), (25, .sc (.sl (l.map gl))), (26, .sc (.int .i64 l.length)), (27, .sc (.int .i64 i)), (28, x28)]) (d := l.length) ⟨0, .undef, .undef, rfl, rfl, Nat.zero_le _, ?_⟩ ?_
      · simp [catG]
      · rintro d e H'2 ⟨i, x8, x28, rfl, rfl, hi2, rfl⟩
        simp
        refine CondC.mk (fun hlt2 => ?_) (fun hlt2 => ?_)
        · simp at hlt2
          have hw : IntKind.i64.wrap ((i : Int) + 1) = ((i + 1 : Nat) : Int) := by rw [wrap64 (by omega) (by omega)]; omega
          have hq : (l.map gl)[i]? = some (gl l[i]) := by simp [hlt2]
          have ht := catG_take hlt2
          have hle := catG_len l (i + 1)
          have hl2 : (catG (l.take (i + 1))).length = (catG (l.take i)).length + l[i].length := by rw [ht, List.length_append]
          have ol := rowG_len (catG (l.take i))
          have tk : (rowG (catG (l.take i))).take ((catG (l.take i)).length * 2) = rowG (catG (l.take i)) := List.take_of_length_le (by omega)
          have sl := sized_gl l[i]
          simp [hq, gl, hw, ol, tk, sl, lenMax]
          exact ⟨by omega, l.length - (i + 1), by omega, i + 1, ⟨rfl, by rw [ht, rowG_app]; rfl⟩, rfl, by omega, ⟨rfl, by omega⟩, by omega⟩
        · simp at hlt2
          obtain rfl : i = l.length := by omega
          rw [List.take_length]
          simp
          refine ⟨0, l.length, ⟨rfl, rfl⟩, rowG (catG l), rfl, ?_⟩
          intro k q hq
          refine ⟨.sc q, ?_, rfl⟩
          unfold rowG
          rw [List.getElem?_map]
          simp only [hq, Option.map_some]
theorem PCon.demote {C : Ctx} {f : FuncId} {args : List FV} {l : List PV} (h : PCon C f args (.own l)) : PCon C f args (.sc (.sl l)) :=
  fun vs W a b c d => (h vs W a b c d).mono fun _ _ ⟨v, W', J, h1, h2, h3, h4, h5⟩ => ⟨v, W', J, h1, h2, by cases h3 with | own r _ => exact .sc rfl r, h4, h5⟩
def joinS (a b : List Glyph) : List Glyph := if a = [] then b else if b = [] then a else a ++ ⟨32, 0⟩ :: b
set_option linter.unusedSimpArgs false in
set_option maxRecDepth 20000 in
set_option maxHeartbeats 4000000 in
theorem conJoinS (a b : List Glyph) (hn : a.length + b.length ≤ 536870912) : PCon C0 116 [.sc (gl a), .sc (gl b)] (.sc (gl (joinS a b))) := by
  by_cases ha : a = []
  · subst ha
    refine PCon.demote ?_
    refine penter116 ?_
    simp [Tryz.f116, gl]
    refine CallQ.mk (Call.pure callable69 (by simp) (by simp) (cloneG b (by show b.length ≤ 137438953472; omega))) ?_
    simp [joinS]
  have ha0 : ¬ (a.length : Int) = 0 := by have := List.length_pos_iff.2 ha; omega
  by_cases hb : b = []
  · subst hb
    refine PCon.demote ?_
    refine penter116 ?_
    simp [Tryz.f116, gl, ha]
    refine CallQ.mk (Call.pure callable69 (by simp) (by simp) (cloneG a (by show a.length ≤ 137438953472; omega))) ?_
    simp [joinS, ha]
  refine penter116 ?_
  have hc : catG [a, [⟨32, 0⟩], b] = a ++ ⟨32, 0⟩ :: b := by simp [catG]
  have cc := conConcat [a, [⟨32, 0⟩], b] (by rw [hc]; simp; omega) (by rw [hc]; simp; omega) (by simp)
  rw [hc] at cc
  simp [Tryz.f116, gl, ha, hb]
  refine ⟨sized_gl [⟨32, 0⟩], rfl, fun p hp => ?_, ?_⟩
  · simp at hp; rcases hp with rfl | rfl | rfl <;> rfl
  refine CallQ.mk (Call.pure callable157 (by simp) (by simp) cc.pcon) ?_
  simp [joinS, ha, hb]
end Go.Proofs.YtkjgkhgklkdbjaaGreatDoor.Ev
end
section
namespace Go.Proofs.YtkjgkhgklkdbjaaGreatDoor.Ev
open Go
theorem seq_cutP {C : Ctx} {nt : Nat} {mv vars : List Nat} {a b : Code} {e : Env} {H : Heap} {Q : Ex → Env → Heap → Prop} (P : Env → Heap → Prop) (h : wpC C nt mv vars a e H fun x e' H' => x = .normal ∧ P e' H') (hK : ∀ e' H', P e' H' → wpC C nt mv vars b e' H' Q) : wpC C nt mv vars (.seq a b) e H Q := by
  rw [wpC_seq]
  refine wpC_mono a e H _ _ (fun x e' H' hh => ?_) h
  obtain ⟨rfl, hp⟩ := hh
  exact hK e' H' hp
def validR (r : Int) : Bool := decide (0 ≤ r) && (decide (r ≤ 1114111) && (decide (r < 55296) || decide (57343 < r)))
def controlR (r : Int) : Bool := (decide (0 ≤ r) && decide (r < 32)) || (decide (127 ≤ r) && decide (r ≤ 159)) || decide (r = 8232) || decide (r = 8233)
def safeR (r : Int) : Int := if validR r = true ∧ controlR r = false then r else 65533
def sizeR (r : Int) : Int := if r < 128 then 1 else if r < 2048 then 2 else if r < 65536 then 3 else 4
theorem conValidR (r : Int) : PCon C0 229 [.sc (.int .i32 r)] (.sc (.bool (validR r))) := by
  refine penter229 ?_
  by_cases h1 : 0 ≤ r <;> by_cases h2 : r ≤ 1114111 <;> by_cases h3 : r < 55296 <;> by_cases h4 : 57343 < r <;> simp [Tryz.f229, validR, h1, h2, h3, h4]
theorem conSize (r : Int) : PCon C0 230 [.sc (.int .i32 r)] (.sc (.int .i64 (sizeR r))) := by
  refine penter230 ?_
  by_cases h1 : r < 128 <;> by_cases h2 : r < 2048 <;> by_cases h3 : r < 65536 <;> simp [Tryz.f230, sizeR, h1, h2, h3]
set_option maxHeartbeats 2000000 in
theorem conControl (r : Int) : PCon C0 153 [.sc (.int .i32 r)] (.sc (.bool (controlR r))) := by
  refine penter153 ?_
  by_cases h1 : 0 ≤ r
  · by_cases h2 : r < 32
    · simp [Tryz.f153, controlR, h1, h2]
    · by_cases h3 : 127 ≤ r
      · by_cases h4 : r ≤ 159
        · simp [Tryz.f153, controlR, h1, h2, h3, h4]
        · by_cases h5 : r = 8232
          · subst h5; simp [Tryz.f153, controlR]
          · by_cases h6 : r = 8233
            · subst h6; simp [Tryz.f153, controlR]
            · simp [Tryz.f153, controlR, h1, h2, h3, h4, h5, h6]
      · have h5 : ¬ r = 8232 := by omega
        have h6 : ¬ r = 8233 := by omega
        simp [Tryz.f153, controlR, h1, h2, h3, h5, h6]
  · have h3 : ¬ 127 ≤ r := by omega
    have h5 : ¬ r = 8232 := by omega
    have h6 : ¬ r = 8233 := by omega
    simp [Tryz.f153, controlR, h1, h3, h5, h6]
theorem conSafe (r : Int) : PCon C0 252 [.sc (.int .i32 r)] (.sc (.int .i32 (safeR r))) := by
  refine penter252 ?_
  simp [Tryz.f252]
  refine CallQ.mk (Call.pure callable229 (by simp) (by simp) (conValidR r)) ?_
  cases hv : validR r
  · simp [safeR, hv]
  · simp
    refine CallQ.mk (Call.pure callable153 (by simp) (by simp) (conControl r)) ?_
    cases hc : controlR r <;> simp [safeR, hv, hc]
def andB (a b : Int) : Int := IntKind.u8.wrap (BitVec.ofInt IntKind.u8.bits a &&& BitVec.ofInt IntKind.u8.bits b).toNat
def orR (a b : Int) : Int := IntKind.i32.wrap (BitVec.ofInt IntKind.i32.bits a ||| BitVec.ofInt IntKind.i32.bits b).toNat
def headR (c : Int) : Int × Nat :=
  if andB c 224 = 192 then (IntKind.i32.wrap (andB c 31), 2) else if andB c 240 = 224 then (IntKind.i32.wrap (andB c 15), 3) else if andB c 248 = 240 then (IntKind.i32.wrap (andB c 7), 4) else (0, 0)
theorem bin_and {P : Program} {t : TypeId} {a b : Int} : binOf P .and t (.sc (.int .u8 a)) (.sc (.int .u8 b)) = some (.sc (.int .u8 (andB a b))) := rfl
theorem bin_or {P : Program} {t : TypeId} {a b : Int} : binOf P .or t (.sc (.int .i32 a)) (.sc (.int .i32 b)) = some (.sc (.int .i32 (orR a b))) := rfl
theorem bin_shl6 {P : Program} {t : TypeId} {a : Int} : binOf P .shl t (.sc (.int .i32 a)) (.sc (.int .u64 6)) = some (.sc (.int .i32 (IntKind.i32.wrap (a * 64)))) := rfl
theorem bin_shl4 {P : Program} {t : TypeId} {a : Int} : binOf P .shl t (.sc (.int .i32 a)) (.sc (.int .u64 4)) = some (.sc (.int .i32 (IntKind.i32.wrap (a * 16)))) := rfl
attribute [simp ↓ high] bin_and bin_or bin_shl6 bin_shl4
def stepR (r c : Int) : Int := orR (IntKind.i32.wrap (r * 64)) (IntKind.i32.wrap (andB c 63))
def moreR : Int → List Int → Option Int
  | r, [] => some r
  | r, c :: l => if andB c 192 = 128 then moreR (stepR r c) l else none
def firstR : List Int → Int × Nat
  | [] => (65533, 1)
  | c :: l => if c < 128 then (IntKind.i32.wrap c, 1) else if (headR c).2 = 0 ∨ l.length + 1 < (headR c).2 then (65533, 1) else match moreR (headR c).1 (l.take ((headR c).2 - 1)) with
    | none => (65533, 1)
    | some r => if validR r = true ∧ sizeR r = (headR c).2 then (r, (headR c).2) else (65533, 1)
theorem headR_le (c : Int) : (headR c).2 ≤ 4 := by
  unfold headR
  split
  · simp
  · split
    · simp
    · split <;> simp
theorem firstR_pos (l : List Int) : 1 ≤ (firstR l).2 := by
  unfold firstR
  split
  · simp
  · split
    · simp
    · split
      · simp
      · split
        · simp
        · split
          · rename_i h _ _ _ _
            simp only [not_or] at h
            simp only; omega
          · simp
theorem firstR_le {l : List Int} (h : l ≠ []) : (firstR l).2 ≤ l.length := by
  cases l with
  | nil => exact absurd rfl h
  | cons c l =>
    simp only [firstR, List.length_cons]
    split
    · simp
    · split
      · simp
      · split
        · simp
        · split
          · rename_i h _ _ _ _
            simp only [not_or] at h
            simp only; omega
          · simp
def decR : Nat → List Int → List Int
  | 0, _ => []
  | k + 1, l => if l = [] then [] else (firstR l).1 :: decR k (l.drop (firstR l).2)
def bytesI (l : List Int) : List PV := l.map (PV.int .u8)
def runesI (l : List Int) : List PV := l.map (PV.int .i32)
end Go.Proofs.YtkjgkhgklkdbjaaGreatDoor.Ev
end
section
namespace Go.Proofs.YtkjgkhgklkdbjaaGreatDoor.Ev
open Go
theorem moreR_snoc {r : Int} {l : List Int} {c : Int} : moreR r (l ++ [c]) = (moreR r l).bind fun q => if andB c 192 = 128 then some (stepR q c) else none := by
  induction l generalizing r with
  | nil => simp [moreR]
  | cons x l ih =>
    simp only [List.cons_append, moreR]
    split
    · exact ih
    · rfl
theorem sized_bytes {l : List Int} : sizedB 1 (bytesI l) = true := by simp [sizedB, bytesI, PV.leaves]
set_option linter.unusedSimpArgs false in
set_option maxRecDepth 20000 in
set_option maxHeartbeats 4000000 in
theorem conFirst (l : List Int) (hl : l ≠ []) (hn : l.length ≤ lenMax) : PCon C0 192 [.sc (.sl (bytesI l))] (.tup [.sc (.int .i32 (firstR l).1), .sc (.int .i64 (firstR l).2)]) := by
  have hlm : l.length ≤ 137438953472 := hn
  cases l with
  | nil => exact absurd rfl hl
  | cons c l =>
  refine penter192 ?_
  have hz : sizedB 1 (bytesI (c :: l)) = true := sized_bytes
  have e0 : bytesI (c :: l) = .int .u8 c :: bytesI l := rfl
  have hlen : (bytesI l).length = l.length := by simp [bytesI]
  by_cases h0 : c < 128
  · simp [Tryz.f192, e0, firstR, h0]
  have h1 : (c :: l).length = l.length + 1 := rfl
  have hn0 : (headR c).2 ≤ 4 := headR_le c
  simp [Tryz.f192, e0, h0, -KSeq_normal]
  rw [KSeq_normal]
  simp [-KSeq_normal]
  rw [KSeq_normal]
  refine seq_cutP (fun e' H' => ∃ x12 x17 x24 x31 : FV, H' = [] ∧ e' = [(0, .sc (.sl (bytesI (c :: l)))), (2, .sc (.int .i32 0)), (3, .sc (.int .i64 0)), (4, .sc (.int .i64 (headR c).2)), (5, .sc (.int .i32 (headR c).1)), (6, .sc (.int .u8 c)), (8, .undef), (12, x12), (17, x17), (24, x24), (31, x31), (45, .undef), (48, .undef), (49, .undef), (50, .undef), (51, .undef), (56, .undef), (72, .undef)]) ?_ ?_
  · by_cases a1 : andB c 224 = 192
    · simp [e0, h0, a1, headR]
    · by_cases a2 : andB c 240 = 224
      · simp [e0, h0, a1, a2, headR]
      · by_cases a3 : andB c 248 = 240
        · simp [e0, h0, a1, a2, a3, headR]
        · simp [e0, h0, a1, a2, a3, headR]
  · rintro e' H' ⟨x12, x17, x24, x31, rfl, rfl⟩
    generalize hh : headR c = hd at hn0
    obtain ⟨r0, n⟩ := hd
    simp only at hn0
    by_cases hz0 : n = 0
    · subst hz0
      simp [firstR, h0, hh]
    by_cases hlt : l.length + 1 < n
    · have hlt' : (l.length : Int) + 1 < n := by omega
      simp [firstR, h0, hh, hz0, hlt, hlt', hlen, e0]
    obtain ⟨k, rfl⟩ : ∃ k, n = k + 1 := ⟨n - 1, by omega⟩
    have hlt' : ¬ ((l.length : Int) + 1 < ((k : Int) + 1)) := by omega
    have hkl : (l.take k).length = k := by simp; omega
    have hk3 : ¬ l.length < k := by omega
    have s1 : (0 : Int) ≤ (k : Int) + 1 := by omega
    have s2 : (k : Int) + 1 ≤ (l.length : Int) + 1 := by omega
    have s3 : (1 : Int) ≤ (k : Int) + 1 := by omega
    have s4 : ((k : Int) + 1).toNat = k + 1 := by omega
    have tk : List.take k (bytesI l) = bytesI (l.take k) := by simp [bytesI]
    have tl : (bytesI (l.take k)).length = k := by simp [bytesI]; omega
    have hz1 : sizedB 1 (PV.int IntKind.u8 c :: bytesI l) = true := by rw [← e0]; exact sized_bytes
    have hz2 : ¬ ((k : Int) + 1 = 0) := by omega
    simp [hz2, hlt', hlen, e0, -KSeq_normal]
    simp [hz1, s1, s2, s3, s4, hlen, tk, tl]
    refine loopC (fun d e H' => ∃ (i : Nat) (r : Int) (x8 x51 x56 : FV), H' = [] ∧ d = k - i ∧ i ≤ k ∧ moreR r0 (l.take i) = some r ∧ e = [(0, .sc (.sl (PV.int IntKind.u8 c :: bytesI l))), (2, .sc (.int .i32 0)), (3, .sc (.int .i64 0)), (4, .sc (.int .i64 ((k : Int) + 1))), (5, .sc (.int .i32 r)), (6, .sc (.int .u8 c)), (8, x8), (12, x12), (17, x17), (24, x24), (31, x31), (45, .sc (.bool false)), (48, .sc (.sl (bytesI (l.take k)))), (49, .sc (.int .i64 k)), (50, .sc (.int .i64 i)), (51, x51), (56, x56), (72, .undef)]) (d := k) ⟨0, r0, .undef, .undef, .undef, rfl, rfl, Nat.zero_le _, rfl, ?_⟩ ?_
    · simp
    · rintro d e H' ⟨i, r, x8, x51, x56, rfl, rfl, hik, hmr, rfl⟩
      simp
      refine CondC.mk (fun hlt => ?_) (fun hlt => ?_)
      · simp at hlt
        have hil : i < l.length := by omega
        have ht : (bytesI (l.take k))[i]? = some (.int .u8 l[i]) := by simp [bytesI, List.getElem?_take, hlt, hil]
        have hsn : moreR r0 (l.take (i + 1)) = if andB l[i] 192 = 128 then some (stepR r l[i]) else none := by
          rw [List.take_succ_eq_append_getElem hil, moreR_snoc, hmr]; rfl
        have hw : IntKind.i64.wrap ((i : Int) + 1) = ((i + 1 : Nat) : Int) := by rw [wrap64 (by omega) (by omega)]; omega
        simp [ht]
        by_cases hb : andB l[i] 192 = 128
        · rw [if_pos hb] at hsn
          simp [hb, hw]
          exact ⟨k - (i + 1), by omega, i + 1, rfl, by omega, stepR r l[i], hsn, rfl, by omega⟩
        · rw [if_neg hb] at hsn
          have hno : moreR r0 (l.take k) = none := by
            have e1 : l.take k = l.take (i + 1) ++ (l.take k).drop (i + 1) := by
              have : l.take (i + 1) = (l.take k).take (i + 1) := by rw [List.take_take]; congr 1; omega
              rw [this, List.take_append_drop]
            rw [e1]
            have : ∀ (a b : List Int) (q : Int), moreR q a = none → moreR q (a ++ b) = none := by
              intro a
              induction a with
              | nil => intro b q h; simp [moreR] at h
              | cons x a ih =>
                intro b q h
                simp only [List.cons_append, moreR] at h ⊢
                split
                · rename_i hx; rw [if_pos hx] at h; exact ih b _ h
                · rfl
            exact this _ _ _ hsn
          simp [hb, firstR, h0, hh, hlt', hno, hk3]
      · simp at hlt
        obtain rfl : i = k := by omega
        simp
        refine CallQ.mk (Call.pure callable229 (by simp) (by simp) (conValidR r)) ?_
        by_cases hv : validR r = true
        · simp [hv]
          refine CallQ.mk (Call.pure callable230 (by simp) (by simp) (conSize r)) ?_
          by_cases hs : sizeR r = ((i : Int) + 1)
          · simp [hs, firstR, h0, hh, hlt', hmr, hv, hk3]
          · simp [hs, firstR, h0, hh, hlt', hmr, hv, hk3]
        · simp [hv, firstR, h0, hh, hlt', hmr, hk3]
theorem decR_drop {k : Nat} {l : List Int} (h : l ≠ []) : decR (k + 1) l = (firstR l).1 :: decR k (l.drop (firstR l).2) := by rw [decR, if_neg h]
theorem decR_fuel : ∀ {k j : Nat} {l : List Int}, l.length ≤ k → l.length ≤ j → decR k l = decR j l
  | 0, j, l, h, _ => by
    have : l = [] := List.length_eq_zero_iff.1 (by omega)
    subst this
    cases j <;> simp [decR]
  | k + 1, 0, l, _, h => by
    have : l = [] := List.length_eq_zero_iff.1 (by omega)
    subst this
    simp [decR]
  | k + 1, j + 1, l, h, h' => by
    rw [decR, decR]
    split
    · rfl
    · rename_i hl
      have := firstR_pos l
      have := firstR_le hl
      have : l.length ≠ 0 := fun h => hl (List.length_eq_zero_iff.1 h)
      rw [decR_fuel (k := k) (j := j) (by simp; omega) (by simp; omega)]
theorem decR_len : ∀ {k : Nat} {l : List Int}, (decR k l).length ≤ l.length
  | 0, l => by simp [decR]
  | k + 1, l => by
    rw [decR]
    split
    · simp
    · rename_i hl
      have := firstR_pos l
      have := firstR_le hl
      have := decR_len (k := k) (l := l.drop (firstR l).2)
      simp at this ⊢
      omega
def dec (l : List Int) : List Int := decR l.length l
set_option linter.unusedSimpArgs false in
set_option maxRecDepth 20000 in
set_option maxHeartbeats 4000000 in
theorem conDecode (l : List Int) (hn : l.length ≤ lenMax) : PCon C0 150 [.sc (.sl (bytesI l))] (.own (runesI (dec l))) := by
  have hlm : l.length ≤ 137438953472 := hn
  refine penter150 ?_
  simp [Tryz.f150]
  refine loopC (fun d e H' => ∃ (m out : List Int) (x4 x5 x8 : FV), H' = [] ∧ d = m.length ∧ m.length ≤ l.length ∧ out.length + m.length ≤ l.length ∧ out ++ dec m = dec l ∧ e = [(0, .sc (.sl (bytesI m))), (2, .own []), (3, .own (runesI out)), (4, x4), (5, x5), (8, x8)]) (d := l.length) ⟨l, [], .undef, .undef, .undef, rfl, rfl, Nat.le_refl _, by simp, rfl, ?_⟩ ?_
  · simp [runesI]
  · rintro d e H' ⟨m, out, x4, x5, x8, rfl, rfl, hml, hol, hd, rfl⟩
    simp
    have hbl : (bytesI m).length = m.length := by simp [bytesI]
    refine CondC.mk (fun hlt => ?_) (fun hlt => ?_)
    · simp [hbl] at hlt
      have hm : m ≠ [] := fun h => by rw [h] at hlt; simp at hlt
      have h1 := firstR_pos m
      have h2 := firstR_le hm
      simp
      refine CallQ.mk (Call.pure callable192 (by simp) (by simp) (conFirst m hm (by show m.length ≤ 137438953472; omega))) ?_
      have hz : sizedB 1 (bytesI m) = true := sized_bytes
      have s1 : ((firstR m).2 : Int) ≤ (m.length : Int) := by omega
      have dr : (bytesI m).drop (firstR m).2 = bytesI (m.drop (firstR m).2) := by simp [bytesI]
      have tk : (bytesI m).take m.length = bytesI m := by rw [← hbl, List.take_length]
      have so : Sized 1 (runesI out) := fun p hp => by simp only [runesI, List.mem_map] at hp; obtain ⟨x, _, rfl⟩ := hp; rfl
      have ol : (runesI out).length = out.length := by simp [runesI]
      have sone : Sized 1 [PV.int IntKind.i32 (firstR m).1] := fun p hp => by simp at hp; subst hp; rfl
      simp [hz, s1, dr, hbl, tk, so, ol, sone, lenMax]
      refine ⟨by omega, (m.drop (firstR m).2).length, by simp; omega, m.drop (firstR m).2, rfl, by simp; omega, out ++ [(firstR m).1], by simp; omega, ?_, rfl, by simp [runesI]⟩
      rw [← hd]
      have : dec m = (firstR m).1 :: dec (m.drop (firstR m).2) := by
        unfold dec
        obtain ⟨k, hk⟩ : ∃ k, m.length = k + 1 := ⟨m.length - 1, by omega⟩
        rw [hk, decR_drop hm]
        rw [decR_fuel (j := (m.drop (firstR m).2).length) (by simp; omega) (Nat.le_refl _)]
      rw [this]; simp
    · simp [hbl] at hlt
      subst hlt
      simp [dec, decR] at hd
      simp [hd, dec]
end Go.Proofs.YtkjgkhgklkdbjaaGreatDoor.Ev
end
section
namespace Go.Proofs.YtkjgkhgklkdbjaaGreatDoor.Ev
open Go
structure Tok where
  kind : Int
  r : Int
  deriving DecidableEq
def Tok.pv (t : Tok) : PV := .agg [.int .i64 t.kind, .int .i32 t.r]
structure Dg where
  kind : Int
  line : Int
  col : Int
  deriving DecidableEq
def Dg.pv (t : Dg) : PV := .agg [.int .i64 t.kind, .int .i64 t.line, .int .i64 t.col]
def digitE (c : Int) : Int × Bool := if 48 ≤ c ∧ c ≤ 57 then (IntKind.i32.wrap (IntKind.u8.wrap (c - 48)), true) else if 65 ≤ c ∧ c ≤ 70 then (IntKind.i32.wrap (IntKind.i32.wrap (IntKind.u8.wrap (c - 65)) + 10), true) else (0, false)
theorem conDigit (c : Int) : PCon C0 251 [.sc (.int .u8 c)] (.tup [.sc (.int .i32 (digitE c).1), .sc (.bool (digitE c).2)]) := by
  refine penter251 ?_
  by_cases h1 : 48 ≤ c
  · by_cases h2 : c ≤ 57
    · simp [Tryz.f251, digitE, h1, h2]
    · by_cases h3 : 65 ≤ c
      · by_cases h4 : c ≤ 70 <;> simp [Tryz.f251, digitE, h1, h2, h3, h4]
      · simp [Tryz.f251, digitE, h1, h2, h3]
  · have h3 : ¬ 65 ≤ c := by omega
    simp [Tryz.f251, digitE, h1, h3]
def hexE : Int → List Int → Option Int
  | r, [] => some r
  | r, c :: l => if (digitE c).2 = true then hexE (orR (IntKind.i32.wrap (r * 16)) (digitE c).1) l else none
theorem hexE_snoc {r : Int} {l : List Int} {c : Int} : hexE r (l ++ [c]) = (hexE r l).bind fun q => if (digitE c).2 = true then some (orR (IntKind.i32.wrap (q * 16)) (digitE c).1) else none := by
  induction l generalizing r with
  | nil => simp [hexE]
  | cons x l ih =>
    simp only [List.cons_append, hexE]
    split
    · exact ih
    · rfl
theorem hexE_none {a b : List Int} {q : Int} (h : hexE q a = none) : hexE q (a ++ b) = none := by
  induction a generalizing q with
  | nil => simp [hexE] at h
  | cons x a ih =>
    simp only [List.cons_append, hexE] at h ⊢
    split
    · rename_i hx; rw [if_pos hx] at h; exact ih h
    · rfl
def bI (s : ByteArray) : List Int := s.data.toList.map fun b => (b.toNat : Int)
def nameR (s : ByteArray) : Int × Bool := match look namesT s with
  | some r => (r, true)
  | none => if (bI s).length < 5 ∨ 7 < (bI s).length ∨ (bI s)[0]? ≠ some 117 then (0, false) else match hexE 0 ((bI s).drop 1) with
    | none => (0, false)
    | some r => if safeR r = r then (r, true) else (0, false)
def fontR (s : ByteArray) : Int × Bool := ((look fontsT s).getD 0, (look fontsT s).isSome)
theorem conFont (s : ByteArray) (hs : s.size ≤ 9223372036854775807) : PCon C0 233 [.sc (.str s)] (.tup [.sc (.int .i32 (fontR s).1), .sc (.bool (fontR s).2)]) := by
  refine penter233 ?_
  simp [Tryz.f233, tabs, hs, fontR]
theorem bI_len (s : ByteArray) : (bI s).length = s.size := by simp [bI]
theorem bI_get {s : ByteArray} {i : Nat} (h : i < s.size) : ∃ b : UInt8, s.data[i]? = some b ∧ (bI s)[i]? = some (b.toNat : Int) := by
  have : i < s.data.size := h
  have e : s.data[i]? = some s.data[i] := Array.getElem?_eq_getElem this
  refine ⟨s.data[i], e, ?_⟩
  rw [bI, List.getElem?_map, Array.getElem?_toList, e]
  rfl
set_option linter.unusedSimpArgs false in
set_option maxRecDepth 20000 in
set_option maxHeartbeats 4000000 in
theorem conName (s : ByteArray) (hs : s.size ≤ 1099511627776) : PCon C0 232 [.sc (.str s)] (.tup [.sc (.int .i32 (nameR s).1), .sc (.bool (nameR s).2)]) := by
  have hs' : s.size ≤ 9223372036854775807 := by omega
  refine penter232 ?_
  cases hl : look namesT s with
  | some r => simp [Tryz.f232, tabs, hs', hl, nameR]
  | none =>
    have hb := bI_len s
    by_cases h1 : s.size < 5
    · have h1' : (s.size : Int) < 5 := by omega
      simp [Tryz.f232, tabs, hs', hl, nameR, h1, h1', hb]
    have h1' : ¬ ((s.size : Int) < 5) := by omega
    by_cases h2 : 7 < s.size
    · have h2' : (7 : Int) < s.size := by omega
      simp [Tryz.f232, tabs, hs', hl, nameR, h1, h1', h2, h2', hb]
    have h2' : ¬ ((7 : Int) < s.size) := by omega
    obtain ⟨b0, g0, g0'⟩ := bI_get (s := s) (i := 0) (by omega)
    by_cases h3 : (b0.toNat : Int) = 117
    rotate_left
    · simp [Tryz.f232, tabs, hs', hl, nameR, h1, h1', h2, h2', hb, g0, g0', h3]
    simp [Tryz.f232, tabs, hs', hl, h1', h2', g0, h3]
    refine loopC (fun d e H' => ∃ (i : Nat) (r : Int) (x8 x9 x34 x45 : FV), H' = [] ∧ d = s.size - i ∧ 1 ≤ i ∧ i ≤ s.size ∧ hexE 0 (((bI s).drop 1).take (i - 1)) = some r ∧ e = [(0, .sc (.str s)), (2, .sc (.int .i32 0)), (3, .sc (.bool false)), (4, .sc (.int .i32 0)), (5, .sc (.bool false)), (6, .sc (.int .i32 r)), (7, .sc (.int .i64 i)), (8, x8), (9, x9), (16, .sc (.bool false)), (30, .sc (.bool false)), (34, x34), (45, x45), (53, .undef)]) (d := s.size - 1) ⟨1, 0, .undef, .undef, .undef, .undef, rfl, rfl, Nat.le_refl _, by omega, rfl, ?_⟩ ?_
    · simp
    · rintro d e H' ⟨i, r, x8, x9, x34, x45, rfl, rfl, hi1, hi, hr, rfl⟩
      simp
      refine CondC.mk (fun hlt => ?_) (fun hlt => ?_)
      · simp at hlt
        obtain ⟨bi, gi, gi'⟩ := bI_get (s := s) (i := i) hlt
        have hsn : hexE 0 (((bI s).drop 1).take (i + 1 - 1)) = if (digitE bi.toNat).2 = true then some (orR (IntKind.i32.wrap (r * 16)) (digitE bi.toNat).1) else none := by
          obtain ⟨j, rfl⟩ : ∃ j, i = j + 1 := ⟨i - 1, by omega⟩
          simp only [Nat.add_sub_cancel] at hr ⊢
          have hj : j < ((bI s).drop 1).length := by simp; omega
          have ej : ((bI s).drop 1)[j] = (bi.toNat : Int) := by
            have : ((bI s).drop 1)[j]? = some (bi.toNat : Int) := by rw [List.getElem?_drop, Nat.add_comm]; exact gi'
            rw [List.getElem?_eq_getElem hj] at this
            exact Option.some.inj this
          rw [List.take_succ_eq_append_getElem hj, hexE_snoc, hr, ej]; rfl
        have hw : IntKind.i64.wrap ((i : Int) + 1) = ((i + 1 : Nat) : Int) := by rw [wrap64 (by omega) (by omega)]; omega
        simp [gi]
        refine CallQ.mk (Call.pure callable251 (by simp) (by simp) (conDigit _)) ?_
        by_cases hd : (digitE bi.toNat).2 = true
        · rw [if_pos hd] at hsn
          simp [hd, hw]
          exact ⟨s.size - (i + 1), by omega, i + 1, rfl, by omega, by omega, _, by simpa using hsn, rfl, by omega⟩
        · rw [if_neg hd] at hsn
          have hno : hexE 0 ((bI s).drop 1) = none := by
            rw [← List.take_append_drop (i + 1 - 1) ((bI s).drop 1)]
            exact hexE_none hsn
          simp at hd
          simp only [List.drop_one] at hno
          simp [hd, nameR, hl, hb, h1, h2, g0', h3, hno]
      · simp at hlt
        obtain rfl : i = s.size := by omega
        have hr' : hexE 0 ((bI s).drop 1) = some r := by
          rw [← hr, List.take_of_length_le (by simp; omega)]
        simp
        refine CallQ.mk (Call.pure callable252 (by simp) (by simp) (conSafe r)) ?_
        simp only [List.drop_one] at hr'
        by_cases hsf : safeR r = r
        · simp [hsf, nameR, hl, hb, h1, h2, g0', h3, hr']
        · simp [hsf, nameR, hl, hb, h1, h2, g0', h3, hr']
def rdC (l : List Int) (p : Nat) (out : List Tok) (bad : List Dg) : List FV := [.sc (.sl (runesI l)), .sc (.int .i64 p), .own (out.map Tok.pv), .own (bad.map Dg.pv)]
theorem sized_tok (l : List Tok) : Sized 2 (l.map Tok.pv) := fun p hp => by
  simp only [List.mem_map] at hp; obtain ⟨x, _, rfl⟩ := hp; rfl
theorem sized_dg (l : List Dg) : Sized 3 (l.map Dg.pv) := fun p hp => by
  simp only [List.mem_map] at hp; obtain ⟨x, _, rfl⟩ := hp; rfl
theorem hset_b {H : Heap} {b : Nat} (h : b < H.length) {x : List FV} : (H.set b x)[b]? = some x := List.getElem?_set_self h
theorem conSay {l : List Int} {p : Nat} {out : List Tok} {bad : List Dg} (k x : Int) (ho : out.length < lenMax) (H : Heap) (b : Nat) (hb : H[b]? = some (rdC l p out bad)) :
    Con C0 151 [.ptr b 0, .sc (.int .i64 k), .sc (.int .i32 x)] H (.tup []) (H.set b (rdC l p (out ++ [⟨k, x⟩]) bad)) := by
  have hlm : out.length < 137438953472 := ho
  have hlt := (List.getElem?_eq_some_iff.1 hb).1
  refine enter151 ?_
  have so := sized_tok out
  have s1 : Sized 2 [PV.agg [PV.int .i64 k, PV.int .i32 x]] := sized_tok [⟨k, x⟩]
  have hb' := hb
  simp only [rdC] at hb'
  simp [Tryz.f151, hb', rdC, so, s1, lenMax, hset_b hlt]
  exact ⟨by omega, rfl⟩
theorem conTell {l : List Int} {p : Nat} {out : List Tok} {bad : List Dg} (k x : Int) (ho : bad.length < lenMax) (H : Heap) (b : Nat) (hb : H[b]? = some (rdC l p out bad)) :
    Con C0 154 [.ptr b 0, .sc (.int .i64 k), .sc (.int .i64 x)] H (.tup []) (H.set b (rdC l p out (bad ++ [⟨k, 0, IntKind.i64.wrap (x + 1)⟩]))) := by
  have hlm : bad.length < 137438953472 := ho
  have hlt := (List.getElem?_eq_some_iff.1 hb).1
  refine enter154 ?_
  have so := sized_dg bad
  have s1 : Sized 3 [PV.agg [PV.int .i64 k, PV.int .i64 0, PV.int .i64 (IntKind.i64.wrap (x + 1))]] := sized_dg [⟨k, 0, IntKind.i64.wrap (x + 1)⟩]
  have hb' := hb
  simp only [rdC] at hb'
  simp [Tryz.f154, hb', rdC, so, s1, lenMax, hset_b hlt]
  exact ⟨by omega, rfl⟩
def idxE (l : List Int) (x : Int) : Int := if l.findIdx (fun y => decide (x = y)) < l.length then ((l.findIdx (fun y => decide (x = y)) : Nat) : Int) else -1
theorem conIndexR (l : List Int) (x : Int) (hl : l.length ≤ lenMax) : PCon C0 250 [.sc (.sl (runesI l)), .sc (.int .i32 x)] (.sc (.int .i64 (idxE l x))) := by
  have hlm : l.length ≤ 137438953472 := hl
  refine penter250 ?_
  have hrl : (runesI l).length = l.length := by simp [runesI]
  simp [Tryz.f250, hrl]
  refine loopC (fun d e H' => ∃ (i : Nat) (x5 x9 x16 : FV), H' = [] ∧ d = l.length - i ∧ i ≤ l.length ∧ (∀ j (hj : j < l.length), j < i → ¬ x = l[j]) ∧ e = [(0, .sc (.sl (runesI l))), (1, .sc (.int .i32 x)), (4, .sc (.int .i64 0)), (5, x5), (7, .sc (.int .i64 l.length)), (8, .sc (.int .i64 i)), (9, x9), (16, x16)]) (d := l.length) ⟨0, .undef, .undef, .undef, rfl, rfl, Nat.zero_le _, fun j _ h => by omega, ?_⟩ ?_
  · simp
  · rintro d e H' ⟨i, x5, x9, x16, rfl, rfl, hi, hno, rfl⟩
    simp
    refine CondC.mk (fun hlt => ?_) (fun hlt => ?_)
    · simp at hlt
      have ht : (runesI l)[i]? = some (.int .i32 l[i]) := by simp [runesI, hlt]
      have hw : IntKind.i64.wrap ((i : Int) + 1) = ((i + 1 : Nat) : Int) := by rw [wrap64 (by omega) (by omega)]; omega
      simp [ht]
      by_cases hx : x = l[i]
      · have hf : l.findIdx (fun y => decide (x = y)) = i := by
          refine (List.findIdx_eq hlt).2 ⟨by simpa using hx, fun j hj => ?_⟩
          simpa using hno j (by omega) hj
        have hfi : idxE l x = i := by unfold idxE; rw [hf, if_pos hlt]
        simp [hx, hfi]
        rw [← hx]; exact hfi.symm
      · simp [hx, hw]
        exact ⟨l.length - (i + 1), by omega, i + 1, rfl, by omega, fun j h1 h2 => by
          by_cases hj : j = i
          · subst hj; exact hx
          · exact hno j h1 (by omega), by omega⟩
    · simp at hlt
      have hf : ¬ l.findIdx (fun y => decide (x = y)) < l.length := fun h => by
        have := List.findIdx_getElem (w := h)
        simp at this
        exact hno _ h (by omega) this
      simp [idxE, hf]
end Go.Proofs.YtkjgkhgklkdbjaaGreatDoor.Ev
end
section
namespace Go.Proofs.YtkjgkhgklkdbjaaGreatDoor.Ev
open Go
theorem set_sameX {H : Heap} {b : Nat} {x : List FV} (h : H[b]? = some x) : H.set b x = H := by
  have hlt := (List.getElem?_eq_some_iff.1 h).1
  have he := (List.getElem?_eq_some_iff.1 h).2
  rw [← he, List.set_getElem_self]
theorem runesOf_I (l : List Int) : runesOf (runesI l) = some l := by
  induction l with
  | nil => rfl
  | cons x l ih => simp only [runesI, List.map_cons, runesOf] at ih ⊢; rw [ih]; rfl
theorem runesI_take (l : List Int) (n : Nat) : (runesI l).take n = runesI (l.take n) := by simp [runesI]
theorem runesI_drop (l : List Int) (n : Nat) : (runesI l).drop n = runesI (l.drop n) := by simp [runesI]
theorem runesI_len (l : List Int) : (runesI l).length = l.length := by simp [runesI]
theorem runesI_cons (x : Int) (l : List Int) : runesI (x :: l) = .int .i32 x :: runesI l := rfl
theorem runesI_nil : runesI [] = [] := rfl
theorem sized_runes (l : List Int) : sizedB 1 (runesI l) = true := by simp [sizedB, runesI, PV.leaves]
def nameE (l : List Int) (p : Nat) (one : Bool) : ByteArray × Bool × Nat :=
  match l.drop p with
  | [] => (⟨#[]⟩, false, p)
  | c :: m => if c = 91 then (if idxE (c :: m) 93 < 0 then (⟨#[]⟩, false, p) else (runesBytes (((c :: m).take (idxE (c :: m) 93).toNat).drop 1), true, p + ((idxE (c :: m) 93).toNat + 1)))
    else if c = 40 then (if l.length < p + 3 then (⟨#[]⟩, false, p + 1) else (runesBytes ((l.take (p + 3)).drop (p + 1)), true, p + 3))
    else if one = true then (runesBytes ((l.take (p + 1)).drop p), true, p + 1) else (⟨#[]⟩, false, p)
theorem idxE_lt (l : List Int) (x : Int) : idxE l x < l.length := by
  unfold idxE; split <;> omega
theorem idxE_pos {c x : Int} {m : List Int} (h : c ≠ x) (h0 : ¬ idxE (c :: m) x < 0) : 1 ≤ idxE (c :: m) x := by
  unfold idxE at h0 ⊢
  split at h0
  · rename_i hl
    rw [if_pos hl]
    have : ¬ (c :: m).findIdx (fun y => decide (x = y)) = 0 := by
      rw [List.findIdx_cons]
      simp [Ne.symm h]
    omega
  · simp at h0
theorem nameE_le {l : List Int} {p : Nat} {one : Bool} (hp : p ≤ l.length) : p ≤ (nameE l p one).2.2 ∧ (nameE l p one).2.2 ≤ l.length := by
  unfold nameE
  split
  · exact ⟨Nat.le_refl _, hp⟩
  · rename_i c m hd
    have hlen : l.length = p + (m.length + 1) := by
      have := congrArg List.length hd
      simp at this; omega
    split
    · split
      · exact ⟨Nat.le_refl _, hp⟩
      · have := idxE_lt (c :: m) 93
        simp at this
        simp only; omega
    · split
      · split <;> simp only <;> omega
      · split <;> simp only <;> omega
set_option linter.unusedSimpArgs false in
set_option maxRecDepth 20000 in
set_option maxHeartbeats 4000000 in
theorem conNm {l : List Int} {p : Nat} {out : List Tok} {bad : List Dg} (one : Bool) (hl : l.length ≤ 1073741824) (hp : p ≤ l.length) (H : Heap) (b : Nat) (hb : H[b]? = some (rdC l p out bad)) :
    Con C0 231 [.ptr b 0, .sc (.bool one)] H (.tup [.sc (.str (nameE l p one).1), .sc (.bool (nameE l p one).2.1)]) (H.set b (rdC l (nameE l p one).2.2 out bad)) := by
  have hlt := (List.getElem?_eq_some_iff.1 hb).1
  have hb' := hb
  simp only [rdC] at hb'
  have hz := sized_runes l
  have hrl := runesI_len l
  have p0 : (0 : Int) ≤ (p : Int) := by omega
  have p1 : (p : Int) ≤ (l.length : Int) := by omega
  have hsame : H.set b [.sc (.sl (runesI l)), .sc (.int .i64 p), .own (out.map Tok.pv), .own (bad.map Dg.pv)] = H := set_sameX hb'
  have tkl : (runesI l).take l.length = runesI l := by rw [← hrl, List.take_length]
  refine enter231 ?_
  cases hd : l.drop p with
  | nil => simp [Tryz.f231, hb', hz, hrl, p0, p1, runesI_drop, tkl, hd, nameE, rdC, hsame, runesI_nil]
  | cons c m =>
    have hml : l.length = p + (m.length + 1) := by
      have := congrArg List.length hd
      simp at this; omega
    have n0 : ¬ ((m.length : Int) + 1 = 0) := by omega
    have hrm := runesI_len m
    by_cases h91 : c = 91
    · subst h91
      have hc : (runesI m).length + 1 = m.length + 1 := by rw [hrm]
      have ci := conIndexR (91 :: m) 93 (by simp only [List.length_cons, lenMax]; omega)
      simp [Tryz.f231, hb', hz, hrl, p0, p1, runesI_drop, tkl, hd, runesI_cons, hrm, n0]
      refine CallQ.mk (Call.pure callable250 (by simp) (by simp) ci) ?_
      by_cases hneg : idxE (91 :: m) 93 < 0
      · simp [hneg, nameE, hd, rdC, hsame]
      · have i1 : 1 ≤ idxE (91 :: m) 93 := idxE_pos (by decide) hneg
        have i2 := idxE_lt (91 :: m) 93
        simp only [List.length_cons] at i2
        obtain ⟨i, hi⟩ : ∃ i : Nat, idxE (91 :: m) 93 = i := ⟨(idxE (91 :: m) 93).toNat, by omega⟩
        rw [hi] at i1 i2 hneg ⊢
        have w1 : IntKind.i64.wrap ((i : Int) + 1) = (i : Int) + 1 := wrap64 (by omega) (by omega)
        have w2 : IntKind.i64.wrap ((p : Int) + ((i : Int) + 1)) = ((p + (i + 1) : Nat) : Int) := by rw [wrap64 (by omega) (by omega)]; omega
        have i3 : (i : Int) ≤ (m.length : Int) + 1 := by omega
        have i0 : (0 : Int) ≤ (i : Int) := by omega
        obtain ⟨j, rfl⟩ : ∃ j, i = j + 1 := ⟨i - 1, by omega⟩
        have hz1 : sizedB 1 (PV.int .i32 91 :: runesI m) = true := sized_runes (91 :: m)
        have i4 : ¬ ((j : Int) + 1 < 0) := by omega
        have i5 : (j : Int) + 1 ≤ (m.length : Int) + 1 := by omega
        have i6 : (j : Int) ≤ (m.length : Int) := by omega
        have w1' : IntKind.i64.wrap ((j : Int) + 1 + 1) = (j : Int) + 1 + 1 := by simpa using w1
        have w2' : IntKind.i64.wrap ((p : Int) + ((j : Int) + 1 + 1)) = ((p + (j + 1 + 1) : Nat) : Int) := by simpa using w2
        have tt : ((j : Int) + 1).toNat = j + 1 := by omega
        have i7 : (0 : Int) ≤ (j : Int) + 1 := by omega
        have i8 : (1 : Int) ≤ (j : Int) + 1 := by omega
        have i9 : (0 : Int) ≤ (j : Int) := by omega
        simp [hneg, hb', w1', w2', hset_b hlt, hz1, hrm, i0, i1, i3, i4, i5, i6, i7, i8, i9, tt, runesI_take, runesOf_I, nameE, hd, hi, rdC]
        done
    · by_cases h40 : c = 40
      · subst h40
        have w1 : IntKind.i64.wrap ((p : Int) + 1) = ((p + 1 : Nat) : Int) := by rw [wrap64 (by omega) (by omega)]; omega
        have w1' : IntKind.i64.wrap ((p : Int) + 1) = (p : Int) + 1 := by rw [wrap64 (by omega) (by omega)]
        have wr2 : IntKind.i64.wrap 2 = 2 := by decide
        have w2' : IntKind.i64.wrap ((p : Int) + 1 + 2) = ((p + 3 : Nat) : Int) := by rw [wrap64 (by omega) (by omega)]; omega
        have e1 : [FV.sc (.sl (runesI l)), .sc (.int .i64 (((p + 1 : Nat)) : Int)), .own (out.map Tok.pv), .own (bad.map Dg.pv)] = rdC l (p + 1) out bad := rfl
        have q0 : (0 : Int) ≤ (p : Int) + 1 := by omega
        have q2 : (p : Int) + 1 ≤ (p : Int) + 3 := by omega
        have t1 : ((p : Int) + 1).toNat = p + 1 := by omega
        have t3 : ((p : Int) + 3).toNat = p + 3 := by omega
        by_cases hlong : l.length < p + 3
        · have q3 : (l.length : Int) < (p : Int) + 3 := by omega
          cases one <;> simp [wr2, Tryz.f231, hb', hz, hrl, p0, p1, runesI_drop, tkl, hd, runesI_cons, hrm, n0, w1', w2', hset_b hlt, hlong, q3, nameE, rdC]
        · have q3 : ¬ (l.length : Int) < (p : Int) + 3 := by omega
          have q4 : (p : Int) + 3 ≤ (l.length : Int) := by omega
          have q5 : (0 : Int) ≤ (p : Int) + 3 := by omega
          cases one <;> simp [wr2, Tryz.f231, hb', hz, hrl, p0, p1, runesI_drop, tkl, hd, runesI_cons, hrm, n0, w1', w2', hset_b hlt, hlong, q3, q4, q5, q0, q2, t1, t3, runesI_take, runesOf_I, nameE, rdC]
      · have w1' : IntKind.i64.wrap ((p : Int) + 1) = (p : Int) + 1 := by rw [wrap64 (by omega) (by omega)]
        have q3 : ¬ (l.length : Int) < (p : Int) + 1 := by omega
        have q4 : (p : Int) + 1 ≤ (l.length : Int) := by omega
        have q0 : (0 : Int) ≤ (p : Int) + 1 := by omega
        have q2 : (p : Int) ≤ (p : Int) + 1 := by omega
        have t1 : ((p : Int) + 1).toNat = p + 1 := by omega
        cases one
        · simp [Tryz.f231, hb', hz, hrl, p0, p1, runesI_drop, tkl, hd, runesI_cons, hrm, n0, h91, h40, nameE, rdC, hsame]
        · simp [Tryz.f231, hb', hz, hrl, p0, p1, runesI_drop, tkl, hd, runesI_cons, hrm, n0, h91, h40, w1', q3, q4, q0, q2, t1, runesI_take, runesOf_I, hset_b hlt, nameE, rdC]
end Go.Proofs.YtkjgkhgklkdbjaaGreatDoor.Ev
end
section
namespace Go.Proofs.YtkjgkhgklkdbjaaGreatDoor.Ev
open Go
structure Rd where
  on : Bool
  p : Nat
  out : List Tok
  bad : List Dg
def namedE (l : List Int) (p : Nat) (out : List Tok) (bad : List Dg) (font : Bool) (fr : Int) : Rd :=
  if (nameE l p font).2.1 = true then
    (if (if font = true then fontR (nameE l p font).1 else nameR (nameE l p font).1).2 = true then
      ⟨true, (nameE l p font).2.2, out ++ [⟨if font = true then 3 else 1, (if font = true then fontR (nameE l p font).1 else nameR (nameE l p font).1).1⟩], bad⟩
    else ⟨true, (nameE l p font).2.2, out, bad ++ [⟨2, 0, IntKind.i64.wrap (fr + 1)⟩]⟩)
  else ⟨false, (nameE l p font).2.2, out, bad ++ [⟨1, 0, IntKind.i64.wrap (fr + 1)⟩]⟩
theorem nameE_size (l : List Int) (p : Nat) (one : Bool) : (nameE l p one).1.size ≤ 4 * l.length := by
  unfold nameE
  have hz : (⟨#[]⟩ : ByteArray).size = 0 := rfl
  split
  · simp [hz]
  · rename_i c m hd
    have hlen : l.length = p + (m.length + 1) := by
      have := congrArg List.length hd
      simp at this; omega
    have key : ∀ (x : List Int), x.length ≤ l.length → (runesBytes x).size ≤ 4 * l.length := fun x hx => by
      have := runesBytes_size_le x; omega
    repeat' split
    all_goals first
      | (rw [show (⟨#[]⟩ : ByteArray).size = 0 from rfl]; exact Nat.zero_le _)
      | (refine key _ ?_; simp only [List.length_drop, List.length_take, List.length_cons]; omega)
set_option maxRecDepth 20000 in
set_option maxHeartbeats 4000000 in
theorem conNamed {l : List Int} {p : Nat} {out : List Tok} {bad : List Dg} (font : Bool) (fr : Int) (hl : l.length ≤ 1073741824) (hp : p ≤ l.length) (ho : out.length < lenMax) (hd : bad.length < lenMax) (H : Heap) (b : Nat) (hb : H[b]? = some (rdC l p out bad)) :
    Con C0 193 [.ptr b 0, .sc (.bool font), .sc (.int .i64 fr)] H (.sc (.bool (namedE l p out bad font fr).on)) (H.set b (rdC l (namedE l p out bad font fr).p (namedE l p out bad font fr).out (namedE l p out bad font fr).bad)) := by
  have hlt := (List.getElem?_eq_some_iff.1 hb).1
  have hsz := nameE_size l p font
  refine enter193 ?_
  simp [Tryz.f193]
  refine CallQ.mk (Call.shared callable231 (conNm font hl hp H b hb)) ?_
  generalize hne : nameE l p font = ne at hsz ⊢
  obtain ⟨s, ok, q⟩ := ne
  simp only at hsz ⊢
  cases ok
  · simp
    refine CallQ.mk (Call.shared callable154 (conTell 1 fr hd _ b (hset_b hlt))) ?_
    simp [namedE, hne]
  · cases font
    · simp
      refine CallQ.mk (Call.pure callable232 (by simp) (by simp) (conName s (by omega))) ?_
      cases hx : (nameR s).2
      · simp
        refine CallQ.mk (Call.shared callable154 (conTell 2 fr hd _ b (hset_b hlt))) ?_
        simp [namedE, hne, hx]
      · simp
        refine CallQ.mk (Call.shared callable151 (conSay 1 _ ho _ b (hset_b hlt))) ?_
        simp [namedE, hne, hx]
    · simp
      refine CallQ.mk (Call.pure callable233 (by simp) (by simp) (conFont s (by omega))) ?_
      cases hx : (fontR s).2
      · simp
        refine CallQ.mk (Call.shared callable154 (conTell 2 fr hd _ b (hset_b hlt))) ?_
        simp [namedE, hne, hx]
      · simp
        refine CallQ.mk (Call.shared callable151 (conSay 3 _ ho _ b (hset_b hlt))) ?_
        simp [namedE, hne, hx]
def escE (l : List Int) (p : Nat) (out : List Tok) (bad : List Dg) (fr : Int) : Rd :=
  match l[p]? with
  | none => ⟨false, p, out, bad ++ [⟨1, 0, IntKind.i64.wrap (fr + 1)⟩]⟩
  | some c =>
    if c = 92 ∨ c = 101 then ⟨true, p + 1, out ++ [⟨1, 92⟩], bad⟩
    else if c = 45 ∨ c = 46 then ⟨true, p + 1, out ++ [⟨1, c⟩], bad⟩
    else if c = 39 then ⟨true, p + 1, out ++ [⟨1, 180⟩], bad⟩
    else if c = 96 then ⟨true, p + 1, out ++ [⟨1, 96⟩], bad⟩
    else if c = 32 ∨ c = 126 ∨ c = 48 then ⟨true, p + 1, out ++ [⟨1, 160⟩], bad⟩
    else if c = 38 ∨ c = 37 ∨ c = 47 ∨ c = 44 ∨ c = 58 then ⟨true, p + 1, out, bad⟩
    else if c = 34 then ⟨false, p + 1, out, bad⟩
    else if c = 40 ∨ c = 91 then namedE l p out bad false fr
    else if c = 102 then namedE l (p + 1) out bad true fr
    else ⟨true, p + 1, out, bad ++ [⟨1, 0, IntKind.i64.wrap (fr + 1)⟩]⟩
set_option maxRecDepth 20000 in
set_option maxHeartbeats 4000000 in
theorem conEsc {l : List Int} {p : Nat} {out : List Tok} {bad : List Dg} (fr : Int) (hl : l.length ≤ 1073741824) (hp : p ≤ l.length) (ho : out.length < lenMax) (hd : bad.length < lenMax) (H : Heap) (b : Nat) (hb : H[b]? = some (rdC l p out bad)) :
    Con C0 152 [.ptr b 0, .sc (.int .i64 fr)] H (.sc (.bool (escE l p out bad fr).on)) (H.set b (rdC l (escE l p out bad fr).p (escE l p out bad fr).out (escE l p out bad fr).bad)) := by
  have hlt := (List.getElem?_eq_some_iff.1 hb).1
  have hb' := hb
  simp only [rdC] at hb'
  have hz := sized_runes l
  have hrl := runesI_len l
  refine enter152 ?_
  cases hc : l[p]? with
  | none =>
    have hpl : p = l.length := by
      have := List.getElem?_eq_none_iff.1 hc; omega
    subst hpl
    simp [Tryz.f152, hb', hrl]
    refine CallQ.mk (Call.shared callable154 (conTell 1 fr hd _ b hb)) ?_
    simp [escE, hc]
  | some c =>
    have hpl : p < l.length := (List.getElem?_eq_some_iff.1 hc).1
    have hne : ¬ (p : Int) = (l.length : Int) := by omega
    have hne' : ¬ p = l.length := by omega
    have hrc : (runesI l)[p]? = some (.int .i32 c) := by simp [runesI, hc]
    have w1 : IntKind.i64.wrap ((p : Int) + 1) = ((p + 1 : Nat) : Int) := by rw [wrap64 (by omega) (by omega)]; omega
    have e1 : [FV.sc (.sl (runesI l)), .sc (.int .i64 (((p + 1 : Nat)) : Int)), .own (out.map Tok.pv), .own (bad.map Dg.pv)] = rdC l (p + 1) out bad := rfl
    have w2 : IntKind.i64.wrap ((p : Int) + 1 - 1) = (p : Int) := by rw [wrap64 (by omega) (by omega)]; omega
    have w2' : IntKind.i64.wrap (p : Int) = (p : Int) := wrap64 (by omega) (by omega)
    have hsame : H.set b [.sc (.sl (runesI l)), .sc (.int .i64 p), .own (out.map Tok.pv), .own (bad.map Dg.pv)] = H := set_sameX hb'
    by_cases h92 : c = 92
    · subst h92
      simp [Tryz.f152, hb', hrl, hne, hne', hrc, w1]
      refine CallQ.mk (Call.shared callable151 (conSay (l := l) (p := p + 1) (out := out) (bad := bad) 1 92 ho _ b (by rw [hset_b hlt]; rfl))) ?_
      simp [escE, hc]
    by_cases h101 : c = 101
    · subst h101
      simp [Tryz.f152, hb', hrl, hne, hne', hrc, w1]
      refine CallQ.mk (Call.shared callable151 (conSay (l := l) (p := p + 1) (out := out) (bad := bad) 1 92 ho _ b (by rw [hset_b hlt]; rfl))) ?_
      simp [escE, hc]
    by_cases h45 : c = 45
    · subst h45
      simp [Tryz.f152, hb', hrl, hne, hne', hrc, w1]
      refine CallQ.mk (Call.shared callable151 (conSay (l := l) (p := p + 1) (out := out) (bad := bad) 1 45 ho _ b (by rw [hset_b hlt]; rfl))) ?_
      simp [escE, hc]
    by_cases h46 : c = 46
    · subst h46
      simp [Tryz.f152, hb', hrl, hne, hne', hrc, w1]
      refine CallQ.mk (Call.shared callable151 (conSay (l := l) (p := p + 1) (out := out) (bad := bad) 1 46 ho _ b (by rw [hset_b hlt]; rfl))) ?_
      simp [escE, hc]
    by_cases h39 : c = 39
    · subst h39
      simp [Tryz.f152, hb', hrl, hne, hne', hrc, w1]
      refine CallQ.mk (Call.shared callable151 (conSay (l := l) (p := p + 1) (out := out) (bad := bad) 1 180 ho _ b (by rw [hset_b hlt]; rfl))) ?_
      simp [escE, hc]
    by_cases h96 : c = 96
    · subst h96
      simp [Tryz.f152, hb', hrl, hne, hne', hrc, w1]
      refine CallQ.mk (Call.shared callable151 (conSay (l := l) (p := p + 1) (out := out) (bad := bad) 1 96 ho _ b (by rw [hset_b hlt]; rfl))) ?_
      simp [escE, hc]
    by_cases h32 : c = 32
    · subst h32
      simp [Tryz.f152, hb', hrl, hne, hne', hrc, w1]
      refine CallQ.mk (Call.shared callable151 (conSay (l := l) (p := p + 1) (out := out) (bad := bad) 1 160 ho _ b (by rw [hset_b hlt]; rfl))) ?_
      simp [escE, hc]
    by_cases h126 : c = 126
    · subst h126
      simp [Tryz.f152, hb', hrl, hne, hne', hrc, w1]
      refine CallQ.mk (Call.shared callable151 (conSay (l := l) (p := p + 1) (out := out) (bad := bad) 1 160 ho _ b (by rw [hset_b hlt]; rfl))) ?_
      simp [escE, hc]
    by_cases h48 : c = 48
    · subst h48
      simp [Tryz.f152, hb', hrl, hne, hne', hrc, w1]
      refine CallQ.mk (Call.shared callable151 (conSay (l := l) (p := p + 1) (out := out) (bad := bad) 1 160 ho _ b (by rw [hset_b hlt]; rfl))) ?_
      simp [escE, hc]
    by_cases h38 : c = 38
    · subst h38
      simp [Tryz.f152, hb', hrl, hne, hne', hrc, w1, escE, hc, rdC]
    by_cases h37 : c = 37
    · subst h37
      simp [Tryz.f152, hb', hrl, hne, hne', hrc, w1, escE, hc, rdC]
    by_cases h47 : c = 47
    · subst h47
      simp [Tryz.f152, hb', hrl, hne, hne', hrc, w1, escE, hc, rdC]
    by_cases h44 : c = 44
    · subst h44
      simp [Tryz.f152, hb', hrl, hne, hne', hrc, w1, escE, hc, rdC]
    by_cases h58 : c = 58
    · subst h58
      simp [Tryz.f152, hb', hrl, hne, hne', hrc, w1, escE, hc, rdC]
    by_cases h34 : c = 34
    · subst h34
      simp [Tryz.f152, hb', hrl, hne, hne', hrc, w1, escE, hc, rdC]
    by_cases h40 : c = 40
    · subst h40
      simp [Tryz.f152, hb', hrl, hne, hne', hrc, w1, w2, w2', hset_b hlt, hsame]
      refine CallQ.mk (Call.shared callable193 (conNamed false fr hl hp ho hd _ b hb)) ?_
      simp [escE, hc]
    by_cases h91 : c = 91
    · subst h91
      simp [Tryz.f152, hb', hrl, hne, hne', hrc, w1, w2, w2', hset_b hlt, hsame]
      refine CallQ.mk (Call.shared callable193 (conNamed false fr hl hp ho hd _ b hb)) ?_
      simp [escE, hc]
    by_cases h102 : c = 102
    · subst h102
      simp [Tryz.f152, hb', hrl, hne, hne', hrc, w1]
      refine CallQ.mk (Call.shared callable193 (conNamed (l := l) (p := p + 1) (out := out) (bad := bad) true fr hl hpl ho hd _ b (by rw [hset_b hlt]; rfl))) ?_
      simp [escE, hc]
    simp [Tryz.f152, hb', hrl, hne, hne', hrc, w1, h92, h101, h45, h46, h39, h96, h32, h126, h48, h38, h37, h47, h44, h58, h34, h40, h91, h102]
    refine CallQ.mk (Call.shared callable154 (conTell (l := l) (p := p + 1) (out := out) (bad := bad) 1 fr hd _ b (by rw [hset_b hlt]; rfl))) ?_
    simp [escE, hc, h92, h101, h45, h46, h39, h96, h32, h126, h48, h38, h37, h47, h44, h58, h34, h40, h91, h102]
end Go.Proofs.YtkjgkhgklkdbjaaGreatDoor.Ev
end
section
namespace Go.Proofs.YtkjgkhgklkdbjaaGreatDoor.Ev
open Go
def stepE (l : List Int) (p : Nat) (out : List Tok) (bad : List Dg) (c : Int) : Rd :=
  if c = 32 ∨ c = 9 then ⟨true, p + 1, out ++ [⟨2, 0⟩], bad⟩
  else if c = 92 then escE l (p + 1) out bad p
  else if controlR c = true then ⟨true, p + 1, out ++ [⟨1, 65533⟩], bad ++ [⟨3, 0, IntKind.i64.wrap ((p : Int) + 1)⟩]⟩
  else ⟨true, p + 1, out ++ [⟨1, c⟩], bad⟩
def scanF : Nat → List Int → Nat → List Tok → List Dg → List Tok × List Dg
  | 0, _, _, out, bad => (out, bad)
  | n + 1, l, p, out, bad => match l[p]? with
    | none => (out, bad)
    | some c => if (stepE l p out bad c).on = true then scanF n l (stepE l p out bad c).p (stepE l p out bad c).out (stepE l p out bad c).bad else ((stepE l p out bad c).out, (stepE l p out bad c).bad)
def scanL (l : List Int) : List Tok × List Dg := scanF (l.length + 1) l 0 [] []
theorem namedE_ok {l : List Int} {p : Nat} {out : List Tok} {bad : List Dg} (font : Bool) (fr : Int) (hp : p ≤ l.length) :
    p ≤ (namedE l p out bad font fr).p ∧ (namedE l p out bad font fr).p ≤ l.length ∧ (namedE l p out bad font fr).out.length ≤ out.length + 1 ∧ (namedE l p out bad font fr).bad.length ≤ bad.length + 1 := by
  have h := nameE_le (one := font) hp
  unfold namedE
  repeat' split
  all_goals (simp only [List.length_append, List.length_singleton]; omega)
theorem escE_ok {l : List Int} {p : Nat} {out : List Tok} {bad : List Dg} (fr : Int) (hp : p ≤ l.length) :
    p ≤ (escE l p out bad fr).p ∧ (escE l p out bad fr).p ≤ l.length ∧ (escE l p out bad fr).out.length ≤ out.length + 1 ∧ (escE l p out bad fr).bad.length ≤ bad.length + 1 := by
  unfold escE
  cases hc : l[p]? with
  | none => simp; omega
  | some c =>
    have hpl : p < l.length := (List.getElem?_eq_some_iff.1 hc).1
    have n1 := namedE_ok (out := out) (bad := bad) false fr hp
    have n2 := namedE_ok (out := out) (bad := bad) true fr (p := p + 1) hpl
    simp only
    repeat' split
    all_goals first
      | exact n1
      | exact ⟨by omega, n2.2⟩
      | (simp only [List.length_append, List.length_singleton]; omega)
theorem stepE_ok {l : List Int} {p : Nat} {out : List Tok} {bad : List Dg} (c : Int) (hp : p < l.length) :
    p < (stepE l p out bad c).p ∧ (stepE l p out bad c).p ≤ l.length ∧ (stepE l p out bad c).out.length ≤ out.length + 1 ∧ (stepE l p out bad c).bad.length ≤ bad.length + 1 := by
  have e := escE_ok (out := out) (bad := bad) p (p := p + 1) hp
  unfold stepE
  repeat' split
  all_goals first
    | exact ⟨by omega, e.2⟩
    | (simp only [List.length_append, List.length_singleton]; omega)
theorem scanF_fuel {l : List Int} : ∀ {n m p : Nat} {out : List Tok} {bad : List Dg}, l.length < p + n → l.length < p + m → scanF n l p out bad = scanF m l p out bad := by
  intro n
  induction n with
  | zero =>
    intro m p out bad h1 h2
    have : l[p]? = none := List.getElem?_eq_none_iff.2 (by omega)
    cases m with
    | zero => rfl
    | succ m => simp [scanF, this]
  | succ n ih =>
    intro m p out bad h1 h2
    cases hc : l[p]? with
    | none => cases m <;> simp [scanF, hc]
    | some c =>
      have hpl : p < l.length := (List.getElem?_eq_some_iff.1 hc).1
      have h := stepE_ok (out := out) (bad := bad) c hpl
      cases m with
      | zero => omega
      | succ m =>
        simp only [scanF, hc]
        split
        · exact ih (by omega) (by omega)
        · rfl
set_option maxRecDepth 20000 in
set_option maxHeartbeats 4000000 in
theorem conScan (s : ByteArray) (hs : s.size ≤ 1073741824) :
    PCon C0 111 [.sc (.str s)] (.tup [.sc (.sl ((scanL (dec (bI s))).1.map Tok.pv)), .sc (.sl ((scanL (dec (bI s))).2.map Dg.pv))]) := by
  have eb : bytesPV s = bytesI (bI s) := by simp [bytesPV, bytesI, bI]
  have hbl := bI_len s
  have hdl : (dec (bI s)).length ≤ s.size := by rw [← hbl]; exact decR_len
  generalize hl : dec (bI s) = l at hdl ⊢
  refine penter111 ?_
  simp [Tryz.f111]
  rw [eb]
  refine CallQ.mk (Call.pure callable150 (by simp) (by simp) (conDecode (bI s) (by rw [hbl]; show s.size ≤ 137438953472; omega))) ?_
  rw [hl]
  simp
  refine loopC (fun d e H' => ∃ (p : Nat) (out : List Tok) (bad : List Dg) (x5 x6 x21 x43 x48 x51 x59 : FV), H' = [rdC l p out bad] ∧ d = l.length - p ∧ p ≤ l.length ∧ out.length ≤ p ∧ bad.length ≤ p ∧ scanF (l.length + 1 - p) l p out bad = scanL l ∧ e = [(0, .sc (.str s)), (2, .own []), (3, .own []), (4, .ptr 0 0), (5, x5), (6, x6), (21, x21), (43, x43), (48, x48), (51, x51), (59, x59)]) (d := l.length) ⟨0, [], [], .undef, .undef, .undef, .undef, .undef, .undef, .undef, rfl, rfl, Nat.zero_le _, Nat.le_refl _, Nat.le_refl _, rfl, ?_⟩ ?_
  · simp
  · rintro d e H' ⟨p, out, bad, x5, x6, x21, x43, x48, x51, x59, rfl, rfl, hp, ho, hb, hsc, rfl⟩
    have hrl := runesI_len l
    have hz := sized_runes l
    simp [rdC]
    refine CondC.mk (fun hlt => ?_) (fun hlt => ?_)
    · simp [hrl] at hlt
      have hrc : (runesI l)[p]? = some (.int .i32 l[p]) := by simp [runesI, hlt]
      have w1 : IntKind.i64.wrap ((p : Int) + 1) = ((p + 1 : Nat) : Int) := by rw [wrap64 (by omega) (by omega)]; omega
      have st := stepE_ok (out := out) (bad := bad) l[p] hlt
      have hnext : scanL l = if (stepE l p out bad l[p]).on = true then scanF (l.length + 1 - (stepE l p out bad l[p]).p) l (stepE l p out bad l[p]).p (stepE l p out bad l[p]).out (stepE l p out bad l[p]).bad else ((stepE l p out bad l[p]).out, (stepE l p out bad l[p]).bad) := by
        rw [← hsc]
        have hq : l[p]? = some l[p] := by simp [hlt]
        rw [show l.length + 1 - p = (l.length - p) + 1 from by omega, scanF, hq]
        simp only
        split
        · exact scanF_fuel (by omega) (by omega)
        · rfl
      generalize l[p] = c at hrc st hnext
      have lm : out.length < lenMax ∧ bad.length < lenMax := ⟨by show out.length < 137438953472; omega, by show bad.length < 137438953472; omega⟩
      by_cases h32 : c = 32
      · have hs : stepE l p out bad c = ⟨true, p + 1, out ++ [⟨2, 0⟩], bad⟩ := by simp [stepE, h32]
        rw [hs] at hnext st
        simp [hrl, hrc, w1, h32]
        refine CallQ.mk (Call.shared callable151 (conSay (l := l) (p := p + 1) (out := out) (bad := bad) 2 0 lm.1 _ 0 rfl)) ?_
        simp
        exact ⟨l.length - (p + 1), by omega, p + 1, _, _, rfl, rfl, hlt, Nat.le_trans st.2.2.1 (by omega), Nat.le_trans st.2.2.2 (by omega), (hnext.trans (if_pos rfl)).symm⟩
      by_cases h9 : c = 9
      · have hs : stepE l p out bad c = ⟨true, p + 1, out ++ [⟨2, 0⟩], bad⟩ := by simp [stepE, h9]
        rw [hs] at hnext st
        simp [hrl, hrc, w1, h9]
        refine CallQ.mk (Call.shared callable151 (conSay (l := l) (p := p + 1) (out := out) (bad := bad) 2 0 lm.1 _ 0 rfl)) ?_
        simp
        exact ⟨l.length - (p + 1), by omega, p + 1, _, _, rfl, rfl, hlt, Nat.le_trans st.2.2.1 (by omega), Nat.le_trans st.2.2.2 (by omega), (hnext.trans (if_pos rfl)).symm⟩
      by_cases h92 : c = 92
      · have hs : stepE l p out bad c = escE l (p + 1) out bad p := by simp [stepE, h92]
        rw [hs] at hnext st
        simp [hrl, hrc, w1, h92]
        refine CallQ.mk (Call.shared callable152 (conEsc (l := l) (p := p + 1) (out := out) (bad := bad) p (by omega) (by omega) lm.1 lm.2 _ 0 rfl)) ?_
        cases hon : (escE l (p + 1) out bad p).on
        · rw [if_neg (by rw [hon]; decide)] at hnext
          simp [hon, rdC, hnext]
        · rw [if_pos hon] at hnext
          simp [hon]
          exact ⟨l.length - (escE l (p + 1) out bad p).p, by omega, _, _, _, rfl, rfl, st.2.1, Nat.le_trans st.2.2.1 (by omega), Nat.le_trans st.2.2.2 (by omega), hnext.symm⟩
      simp [hrl, hrc, w1, h32, h9, h92]
      refine CallQ.mk (Call.pure callable153 (by simp) (by simp) (conControl c)) ?_
      cases hct : controlR c
      · have hs : stepE l p out bad c = ⟨true, p + 1, out ++ [⟨1, c⟩], bad⟩ := by simp [stepE, h32, h9, h92, hct]
        rw [hs] at hnext st
        simp
        refine CallQ.mk (Call.shared callable151 (conSay (l := l) (p := p + 1) (out := out) (bad := bad) 1 c lm.1 _ 0 rfl)) ?_
        simp
        exact ⟨l.length - (p + 1), by omega, p + 1, _, _, rfl, rfl, hlt, Nat.le_trans st.2.2.1 (by omega), Nat.le_trans st.2.2.2 (by omega), (hnext.trans (if_pos rfl)).symm⟩
      · have hs : stepE l p out bad c = ⟨true, p + 1, out ++ [⟨1, 65533⟩], bad ++ [⟨3, 0, IntKind.i64.wrap ((p : Int) + 1)⟩]⟩ := by simp [stepE, h32, h9, h92, hct]
        rw [hs] at hnext st
        simp
        refine CallQ.mk (Call.shared callable154 (conTell (l := l) (p := p + 1) (out := out) (bad := bad) 3 p lm.2 _ 0 rfl)) ?_
        simp
        refine CallQ.mk (Call.shared callable151 (conSay (l := l) (p := p + 1) (out := out) (bad := bad ++ [⟨3, 0, IntKind.i64.wrap ((p : Int) + 1)⟩]) 1 65533 lm.1 _ 0 rfl)) ?_
        simp
        exact ⟨l.length - (p + 1), by omega, p + 1, _, _, rfl, rfl, hlt, Nat.le_trans st.2.2.1 (by omega), Nat.le_trans st.2.2.2 (by omega), (hnext.trans (if_pos rfl)).symm⟩
    · simp [hrl] at hlt
      obtain rfl : p = l.length := by omega
      have hq : l[l.length]? = none := by simp
      rw [show l.length + 1 - l.length = 0 + 1 from by omega, scanF, hq] at hsc
      simp only at hsc
      simp [← hsc]
end Go.Proofs.YtkjgkhgklkdbjaaGreatDoor.Ev
end
section
namespace Go.Proofs.YtkjgkhgklkdbjaaGreatDoor.Ev
open Go
structure Face where
  now : Int
  was : Int
def Face.cells (f : Face) : List FV := [.sc (.int .u8 f.now), .sc (.int .u8 f.was)]
def turnF (f : Face) (n : Int) : Face := if n = 4 then ⟨f.was, f.now⟩ else if n = 0 ∨ n = 1 ∨ n = 2 ∨ n = 3 then ⟨n, f.now⟩ else f
set_option maxRecDepth 20000 in
theorem conTurn (f : Face) (n : Int) : PCon C0 155 [.agg f.cells, .sc (.int .i32 n)] (.agg (turnF f n).cells) := by
  refine penter155 ?_
  have w0 : IntKind.u8.wrap 0 = 0 := by decide
  have w1 : IntKind.u8.wrap 1 = 1 := by decide
  have w2 : IntKind.u8.wrap 2 = 2 := by decide
  have w3 : IntKind.u8.wrap 3 = 3 := by decide
  by_cases h4 : n = 4
  · simp [Tryz.f155, Face.cells, turnF, h4]
  by_cases h0 : n = 0
  · simp [Tryz.f155, Face.cells, turnF, h0, w0]
  by_cases h1 : n = 1
  · simp [Tryz.f155, Face.cells, turnF, h1, w1]
  by_cases h2 : n = 2
  · simp [Tryz.f155, Face.cells, turnF, h2, w2]
  by_cases h3 : n = 3
  · simp [Tryz.f155, Face.cells, turnF, h3, w3]
  simp [Tryz.f155, Face.cells, turnF, h0, h1, h2, h3, h4]
def setE : List Glyph × Face → Tok → List Glyph × Face := fun s t =>
  if t.kind = 1 then (s.1 ++ [⟨t.r, s.2.now⟩], s.2) else if t.kind = 2 then (s.1 ++ [⟨32, 0⟩], s.2) else if t.kind = 3 then (s.1, turnF s.2 t.r) else s
def setL (f : Face) (l : List Tok) : List Glyph × Face := l.foldl setE ([], f)
theorem setL_take {f : Face} {l : List Tok} {i : Nat} (h : i < l.length) : setL f (l.take (i + 1)) = setE (setL f (l.take i)) l[i] := by
  rw [List.take_succ_eq_append_getElem h, setL, List.foldl_append]; rfl
theorem setL_len (f : Face) (l : List Tok) : (setL f l).1.length ≤ l.length := by
  have : ∀ (l : List Tok) (s : List Glyph × Face), (l.foldl setE s).1.length ≤ s.1.length + l.length := by
    intro l
    induction l with
    | nil => intro s; simp
    | cons g l ih =>
      intro s
      have h1 := ih (setE s g)
      have h2 : (setE s g).1.length ≤ s.1.length + 1 := by
        unfold setE; split
        · simp
        · split
          · simp
          · split <;> simp
      rw [List.foldl_cons, List.length_cons]; omega
  have := this l ([], f)
  simpa [setL] using this
set_option maxRecDepth 20000 in
set_option maxHeartbeats 4000000 in
theorem conSet (f : Face) (l : List Tok) (hl : l.length ≤ 1073741824) : PCon C0 112 [.agg f.cells, .sc (.sl (l.map Tok.pv))] (.tup [.own ((setL f l).1.map Glyph.pv), .agg (setL f l).2.cells]) := by
  refine penter112 ?_
  simp [Tryz.f112, Face.cells]
  have e0 : (setL f (l.take 0)) = ([], f) := rfl
  refine loopC (fun d e H' => ∃ (i : Nat) (J : Heap) (x4 x8 x12 x16 x17 x27 x33 : FV) (ra rb : FV), H' = (setL f (l.take i)).2.cells :: [ra, rb] :: J ∧ d = l.length - i ∧ i ≤ l.length ∧ e = [(0, .agg f.cells), (1, .sc (.sl (l.map Tok.pv))), (2, .ptr 0 0), (4, x4), (5, .ptr 1 0), (6, .own ((setL f (l.take i)).1.map Glyph.pv)), (8, x8), (9, .sc (.sl (l.map Tok.pv))), (10, .sc (.int .i64 l.length)), (11, .sc (.int .i64 i)), (12, x12), (16, x16), (17, x17), (27, x27), (33, x33)]) (d := l.length) ⟨0, [], .own [], .undef, .undef, .undef, .undef, .undef, .undef, _, _, (by rw [e0]; rfl), rfl, Nat.zero_le _, ?_⟩ ?_
  · simp [setL, Face.cells]
    done
  · rintro d e H' ⟨i, J, x4, x8, x12, x16, x17, x27, x33, ra, rb, rfl, rfl, hi, rfl⟩
    simp
    refine CondC.mk (fun hlt => ?_) (fun hlt => ?_)
    · simp at hlt
      have hlen := setL_len f (l.take i)
      have ht := setL_take (f := f) hlt
      have hq : (l.map Tok.pv)[i]? = some (l[i]).pv := by simp [hlt]
      generalize hS : setL f (l.take i) = Q at *
      obtain ⟨out, fc⟩ := Q
      have hw : IntKind.i64.wrap ((i : Int) + 1) = ((i + 1 : Nat) : Int) := by rw [wrap64 (by omega) (by omega)]; omega
      have ho : out.length ≤ 1073741824 := by simp only [List.length_take] at hlen; omega
      have so : Sized 2 (out.map Glyph.pv) := fun p hp => by simp only [List.mem_map] at hp; obtain ⟨x, _, rfl⟩ := hp; rfl
      have s1 : ∀ a b : Int, Sized 2 [PV.agg [PV.int .i32 a, PV.int .u8 b]] := fun a b p hp => by simp at hp; subst hp; rfl
      generalize l[i] = t at hq ht
      have fin : ∀ (o' : List Glyph) (n' w' : Int) (q : List PV), setE (out, fc) t = (o', ⟨n', w'⟩) → q = o'.map Glyph.pv → ∃ d', d' < l.length - i ∧ ∃ k, (n' = (setL f (List.take k l)).snd.now ∧ w' = (setL f (List.take k l)).snd.was) ∧ d' = l.length - k ∧ k ≤ l.length ∧
          q = List.map Glyph.pv (setL f (List.take k l)).fst ∧ (i : Int) + 1 = (k : Nat) := by
        intro o' n' w' q h1 h2
        refine ⟨l.length - (i + 1), by omega, i + 1, ?_, rfl, by omega, ?_, by omega⟩
        · rw [ht, h1]; exact ⟨rfl, rfl⟩
        · rw [ht, h1, h2]
      by_cases h1 : t.kind = 1
      · simp [hq, Tok.pv, Face.cells, h1, so, s1, lenMax, hw]
        exact ⟨by omega, fin (out ++ [⟨t.r, fc.now⟩]) fc.now fc.was _ (by simp [setE, h1]) (by simp [Glyph.pv])⟩
      by_cases h2 : t.kind = 2
      · simp [hq, Tok.pv, Face.cells, h2, so, s1, lenMax, hw]
        exact ⟨by omega, fin (out ++ [⟨32, 0⟩]) fc.now fc.was _ (by simp [setE, h2]) (by simp [Glyph.pv])⟩
      by_cases h3 : t.kind = 3
      · simp [hq, Tok.pv, Face.cells, h3, hw]
        refine CallQ.mk (Call.pure callable155 (by simp) (by simp [Face.cells]) (conTurn fc t.r)) ?_
        simp [Face.cells, hw]
        exact fin out _ _ _ (by simp [setE, h3]) rfl
      simp [hq, Tok.pv, Face.cells, h1, h2, h3, hw]
      exact fin out fc.now fc.was _ (by simp [setE, h1, h2, h3]) rfl
    · simp at hlt
      simp [Face.cells, List.take_of_length_le hlt]
def lineG (f : Face) (s : ByteArray) : List Glyph := (setL f (scanL (dec (bI s))).1).1
def lineF (f : Face) (s : ByteArray) : Face := (setL f (scanL (dec (bI s))).1).2
def lineD (s : ByteArray) : List Dg := (scanL (dec (bI s))).2
theorem scanF_len {l : List Int} : ∀ {n p : Nat} {out : List Tok} {bad : List Dg}, p ≤ l.length → out.length ≤ p → bad.length ≤ p → (scanF n l p out bad).1.length ≤ l.length ∧ (scanF n l p out bad).2.length ≤ l.length := by
  intro n
  induction n with
  | zero => intro p out bad h h1 h2; simp only [scanF]; omega
  | succ n ih =>
    intro p out bad h h1 h2
    rw [scanF]
    cases hc : l[p]? with
    | none => simp only; omega
    | some c =>
      have hpl : p < l.length := (List.getElem?_eq_some_iff.1 hc).1
      have st := stepE_ok (out := out) (bad := bad) c hpl
      simp only
      split
      · exact ih st.2.1 (by omega) (by omega)
      · simp only; omega
theorem scan_len (s : ByteArray) : (scanL (dec (bI s))).1.length ≤ s.size ∧ (scanL (dec (bI s))).2.length ≤ s.size := by
  have h := scanF_len (l := dec (bI s)) (n := (dec (bI s)).length + 1) (p := 0) (out := []) (bad := []) (Nat.zero_le _) (Nat.le_refl _) (Nat.le_refl _)
  have hdl : (dec (bI s)).length ≤ s.size := by rw [← bI_len s]; exact decR_len
  exact ⟨Nat.le_trans h.1 hdl, Nat.le_trans h.2 hdl⟩
theorem line_len (f : Face) (s : ByteArray) : (lineG f s).length ≤ s.size := Nat.le_trans (setL_len _ _) (scan_len s).1
set_option maxRecDepth 20000 in
set_option maxHeartbeats 4000000 in
theorem conLine (f : Face) (s : ByteArray) (hs : s.size ≤ 1073741824) : PCon C0 55 [.agg f.cells, .sc (.str s)] (.tup [.sc (gl (lineG f s)), .agg (lineF f s).cells, .sc (.sl ((lineD s).map Dg.pv))]) := by
  have hl := (scan_len s).1
  refine penter55 ?_
  simp [Tryz.f55, Face.cells]
  refine CallQ.mk (Call.pure callable111 (by simp) (by simp) (conScan s hs)) ?_
  simp
  refine CallQ.mk (Call.pure callable112 (by simp [Face.cells]) (by simp [Face.cells]) (conSet f _ (by omega))) ?_
  simp
  simp [Face.cells, lineG, lineF, lineD, gl]
def ofG (s : ByteArray) (n : Int) : List Glyph := (dec (bI s)).map fun r => ⟨r, n⟩
def ofE (n : Int) (l : List Int) : List PV := l.map fun r => .agg [.int .i32 r, .int .u8 n]
theorem ofE_sized (n : Int) (l : List Int) : Sized 2 (ofE n l) := fun p hp => by simp only [ofE, List.mem_map] at hp; obtain ⟨x, _, rfl⟩ := hp; rfl
theorem ofE_len (n : Int) (l : List Int) : (ofE n l).length = l.length := by simp [ofE]
theorem ofG_pv (s : ByteArray) (n : Int) : (ofG s n).map Glyph.pv = ofE n (dec (bI s)) := by simp [ofG, ofE, Glyph.pv]
set_option maxRecDepth 20000 in
set_option maxHeartbeats 4000000 in
theorem conOf (s : ByteArray) (n : Int) (hs : s.size ≤ 1073741824) : PCon C0 126 [.sc (.str s), .sc (.int .u8 n)] (.own ((ofG s n).map Glyph.pv)) := by
  have eb : bytesPV s = bytesI (bI s) := by simp [bytesPV, bytesI, bI]
  have hbl := bI_len s
  have hdl : (dec (bI s)).length ≤ s.size := by rw [← hbl]; exact decR_len
  rw [ofG_pv]
  generalize hl : dec (bI s) = l at hdl ⊢
  refine penter126 ?_
  simp [Tryz.f126]
  rw [eb]
  refine CallQ.mk (Call.pure callable150 (by simp) (by simp) (conDecode (bI s) (by rw [hbl]; show s.size ≤ 137438953472; omega))) ?_
  rw [hl]
  have hrl := runesI_len l
  simp [hrl]
  refine loopC (fun d e H' => ∃ (i : Nat) (x4 x7 x13 : FV), d = l.length - i ∧ i ≤ l.length ∧ e = [(0, .sc (.str s)), (1, .sc (.int .u8 n)), (4, x4), (5, .own (ofE n (l.take i))), (7, x7), (10, .own (runesI l)), (11, .sc (.int .i64 l.length)), (12, .sc (.int .i64 i)), (13, x13)]) (d := l.length) ⟨0, .own [], .undef, .undef, rfl, Nat.zero_le _, ?_⟩ ?_
  · simp [ofE]
  · rintro d e H' ⟨i, x4, x7, x13, rfl, hi, rfl⟩
    simp
    refine CondC.mk (fun hlt => ?_) (fun hlt => ?_)
    · simp at hlt
      have hw : IntKind.i64.wrap ((i : Int) + 1) = ((i + 1 : Nat) : Int) := by rw [wrap64 (by omega) (by omega)]; omega
      have hq : (runesI l)[i]? = some (.int .i32 l[i]) := by simp [runesI, hlt]
      have so := ofE_sized n (l.take i)
      have ol := ofE_len n (l.take i)
      have hadd : ofE n (l.take i) ++ [PV.agg [PV.int .i32 l[i], PV.int .u8 n]] = ofE n (l.take (i + 1)) := by
        rw [List.take_succ_eq_append_getElem hlt]; unfold ofE; rw [List.map_append]; rfl
      have s1 : ∀ a b : Int, Sized 2 [PV.agg [PV.int .i32 a, PV.int .u8 b]] := fun a b p hp => by simp at hp; subst hp; rfl
      simp [hq, hw, s1, lenMax, so, ol, hadd]
      exact ⟨by omega, l.length - (i + 1), by omega, i + 1, rfl, by omega, rfl, by omega⟩
    · simp at hlt
      simp [List.take_of_length_le hlt]
end Go.Proofs.YtkjgkhgklkdbjaaGreatDoor.Ev
end
section
namespace Go.Proofs.YtkjgkhgklkdbjaaGreatDoor.Ev
open Go
def Glyph.blank (g : Glyph) : Bool := decide (g.r = 32)
def ink (l : List Glyph) : List Glyph := l.filter fun g => !g.blank
def idxB : List Glyph → Nat
  | [] => 0
  | g :: l => if g.blank = true then 0 else idxB l + 1
def idxOf (l : List Glyph) : Int := if idxB l < l.length then (idxB l : Int) else -1
theorem ink_len (l : List Glyph) : (ink l).length ≤ l.length := List.length_filter_le _ _
end Go.Proofs.YtkjgkhgklkdbjaaGreatDoor.Ev
end
section
namespace Go.Proofs.YtkjgkhgklkdbjaaGreatDoor.Ev
open Go
def Asc (n : Int) : Prop := 0 ≤ n ∧ n < 128
theorem wrapAny {k : IntKind} {n : Int} (h : Asc n) : k.wrap n = n := by
  obtain ⟨h0, h1⟩ := h
  cases k <;> simp [IntKind.wrap, IntKind.signed, IntKind.bits] <;> omega
set_option linter.unusedSimpArgs false in
set_option maxRecDepth 20000 in
set_option maxHeartbeats 4000000 in
theorem valid1 (n : Int) (h : Asc n) : PCon C0 83 [.sc (.int .i32 n)] (.sc (.bool true)) := by
  refine penter83 ?_
  obtain ⟨h0, h1⟩ := h
  have h2 : n < 1114112 := by omega
  have h3 : n < 55296 := by omega
  simp [Tryz.f83, h0, h2, h3]
set_option linter.unusedSimpArgs false in
set_option maxRecDepth 20000 in
set_option maxHeartbeats 4000000 in
theorem one1 (n : Int) (h : Asc n) : PCon C0 42 [.sc (.int .i32 n)] (.own [.int .u8 n]) := by
  refine penter42 ?_
  have v := valid1 n h
  simp [Tryz.f42, wrapAny h]
  refine CallQ.mk (Call.pure callable83 (by simp) (by simp) v) ?_
  have h1 : n < 128 := h.2
  simp [h1, wrapAny h, Sized]
end Go.Proofs.YtkjgkhgklkdbjaaGreatDoor.Ev
end
section
namespace Go.Proofs.YtkjgkhgklkdbjaaGreatDoor.Ev
open Go
section
variable {C : Ctx} {f : FuncId} {fn : Func} {c : Code} {args : List FV} {H : Heap} {mv vars : List Nat} {t n : Nat} {ty : TypeId} (hf : C.P.funcs[f]? = some fn) (hb : fn.body = some c) (hrs : fn.results.toList = [.cell t ty]) (ha : aggOf C.P ty = some true) (hn : szOf C.P ty = some n)
  (hmix : C.P.follows .mixedOrders = true) (hk : codeOk mv c = true)
include hf hb hrs ha hn hmix hk
theorem con_genO {G : List FV → Heap → Prop} (h : wpC C fn.ntmps mv vars c (argsEnv 0 args) H fun x e H₁ => (match x with | .exit _ => False | _ => True) ∧ ∃ b, e.get t = .ptr b 0 ∧ (H₁.getD b []).length = n ∧ G (H₁.getD b []) (H₁.set b ((H₁.getD b []).map demote)))
    (vs : List Value) (W : Wd) (hlen : vs.length = args.length) (hargs : ∀ (j : Nat) (g : FV) (v : Value), args[j]? = some g → vs[j]? = some v → FRep W none 0 g v) (hH : HInv C H W) :
    Calls C.P f vs.toArray W.w fun x w' => ∃ v W' H₂ cells, x = .returned v ∧ W'.w = w' ∧ G cells H₂ ∧ FRep W' (some .res) 0 (.oagg cells) v ∧ HInv C H₂ W' ∧ Evo W W' (fun _ _ => False) := by
  refine calls_of_wp hf hb ?_
  have hi : Inv C fn.ntmps (argsEnv 0 args) H { tmps := vs.toArray ++ Array.replicate (fn.ntmps - vs.toArray.size) undef, defers := [] } W := by
    refine ⟨hH, fun t => ?_, by simp; omega, rfl⟩
    rw [argsEnv_get]
    simp only [Nat.zero_le, if_true, Nat.sub_zero]
    cases hg : args[t]? with
    | none => exact .undef
    | some g =>
      have hlt : t < vs.length := by
        rw [hlen]
        rcases Nat.lt_or_ge t args.length with h' | h'
        · exact h'
        · simp [List.getElem?_eq_none h'] at hg
      have hv := List.getElem?_eq_getElem hlt
      have : (vs.toArray ++ Array.replicate (fn.ntmps - vs.toArray.size) undef).getD t undef = vs[t] := by
        simp [Array.getElem?_append, hlt]
      rw [this]
      exact (hargs t g _ hg hv).weaken rfl
  refine wp_mono (wpC_sound hmix c hk _ _ _ _ _ h hi) ?_
  rintro x a' w' ⟨y, e', H₁, W', rfl, rfl, ⟨hy, b, hbt, hl, hG⟩, hi', hE⟩
  have hi2 : Inv C a'.tmps.size e' H₁ a' W' := ⟨hi'.heap, hi'.env, Nat.le_refl _, hi'.defers⟩
  have hr := hi'.env t
  rw [hbt] at hr
  have htl : t < a'.tmps.size := by
    rcases Nat.lt_or_ge t a'.tmps.size with h' | h'
    · exact h'
    · rw [Array.getD_eq_getD_getElem?, Array.getElem?_eq_none h'] at hr
      have hr' : FRep W' (some (.tmp t)) 0 (.ptr b 0) undef := hr
      cases hr'
  obtain ⟨W₂, v, h1, h2, h3, h4⟩ := step_loadmvAgg hi2 htl (x := .tmp t) (b := b) (off := 0) (by simp [rd, hbt]) ha hn (by rw [hl]; omega)
  have hv : (results fn a'.tmps).run C.P W'.w = .ok v W'.w := by
    have h5 : (resSem a'.tmps (.cell t ty)).run C.P W'.w = .ok v W'.w := by
      have hev : a'.eval (.tmp t) = a'.tmps.getD t undef := rfl
      rw [hev] at h2
      simp only [resSem]
      generalize a'.tmps.getD t undef = u at h2 hr
      cases hr with
      | ptr =>
        simp only [asAddr, Sem.run_bind, Sem.run_pure, Result.andThen_ok]
        simpa [Instr.loadAt, Instr.sureAddr] using h2
    have h6 : (fn.results.mapM (resSem a'.tmps)).run C.P W'.w = .ok #[v] W'.w := by
      rw [Array.mapM_eq_mapM_toList, Sem.run_map, hrs]
      simp only [List.mapM_cons, List.mapM_nil, Sem.run_bind, h5, Result.andThen_ok, Sem.run_pure]
    rw [results_eq]
    simp only [Sem.run_bind, h6, Result.andThen_ok]
    rfl
  have hdrop : ((H₁.getD b []).drop 0).take n = H₁.getD b [] := by rw [List.drop_zero, ← hl, List.take_length]
  have hspl : splice (H₁.getD b []) 0 ((H₁.getD b []).map demote) = (H₁.getD b []).map demote := by
    unfold splice; simp
  rw [hdrop, hspl] at h3
  have hst := h3.env t
  rw [tmps_put (dst := some t) htl (Nat.le_refl _), get_put, if_pos rfl, if_pos rfl] at hst
  have hE2 : Evo W₂ (W₂.out [.tmp t]) (fun q _ => q.heap = true) := Evo.of rfl rfl rfl (Nat.le_refl _) (fun _ _ _ => rfl) (fun _ => Nat.le_refl _) (fun _ c _ _ h => ⟨c, h, rfl⟩) (fun b q i hb hq => ⟨by
      simp only [Wd.out, hb]
      cases q <;> simp_all [Root.heap], rfl⟩) (fun b i hb hβ => ⟨hβ, by simp only [Wd.out, hb]⟩) (fun i => ⟨Nat.le_refl _, fun _ h => ⟨rfl, by simp only [Wd.out, h]⟩⟩) (fun b _ hb => ⟨rfl, rfl, by simp only [Wd.out, hb]⟩)
  have hH' : HInv C (H₁.set b ((H₁.getD b []).map demote)) (W₂.out [.tmp t]) := h3.heap.evo hE2.toEvo0 (fun _ _ _ _ => rfl) rfl rfl rfl (fun b hb => by simp only [Wd.out, (h3.heap.fresh b hb).2]) (fun b i k hb => by
    simp only [Wd.out] at hb
    split at hb
    · split at hb <;> simp at hb
    · exact h3.heap.boxes b i k hb) (fun b hb => by simp only [Wd.out, hb])
  have hrep : FRep (W₂.out [.tmp t]) (some .res) 0 (.oagg (H₁.getD b [])) v := hst.carry (A := W₂) (B := W₂.out [.tmp t]) (r := .tmp t) (r' := .res) (fun _ _ _ => rfl) (fun _ => Nat.le_refl _) (fun _ c _ _ h => ⟨c, h, rfl⟩) (fun b i hb => ⟨by simp [Wd.out, hb, resIdx], rfl⟩) (fun b i hb hβ => ⟨hβ, by simp only [Wd.out, hb]⟩) (fun i => ⟨Nat.le_refl _, fun _ h => ⟨rfl, by simp only [Wd.out, h]⟩⟩) (.inr rfl)
  have hfin : ∃ v' W'' H₂ cells, Ending.returned v = .returned v' ∧ W''.w = W'.w ∧ G cells H₂ ∧ FRep W'' (some .res) 0 (.oagg cells) v' ∧ HInv C H₂ W'' ∧ Evo W W'' (fun _ _ => False) :=
    ⟨v, W₂.out [.tmp t], _, _, rfl, h1, hG, hrep, hH', (hE.trans0 h4).trans0 (hE2.weaken (by simp))⟩
  cases y with
  | exit i => exact hy.elim
  | normal => exact ⟨hi'.defers, v, hv, hfin⟩
  | ret => exact ⟨hi'.defers, v, hv, hfin⟩
end
theorem pcon_cellO {C : Ctx} {f : FuncId} {fn : Func} {c : Code} {args cells : List FV} {mv vars : List Nat} {t n : Nat} {ty : TypeId} (hf : C.P.funcs[f]? = some fn) (hb : fn.body = some c) (hrs : fn.results.toList = [.cell t ty]) (ha : aggOf C.P ty = some true) (hn : szOf C.P ty = some n)
    (hmix : C.P.follows .mixedOrders = true) (hk : codeOk mv c = true) (h : wpC C fn.ntmps mv vars c (argsEnv 0 args) [] fun x e H₁ => (match x with | .exit _ => False | _ => True) ∧ ∃ b, e.get t = .ptr b 0 ∧ (H₁.getD b []).length = n ∧ H₁.getD b [] = cells) : PCon C f args (.oagg cells) :=
  fun vs W hlen hargs hH _ => (con_genO (G := fun l _ => l = cells) hf hb hrs ha hn hmix hk h vs W hlen hargs hH).mono fun _ _ ⟨v, W', H₂, l, h1, h2, h3, h4, h5, h6⟩ => ⟨v, W', H₂, h1, h2, h3 ▸ h4, h5, h6⟩
end Go.Proofs.YtkjgkhgklkdbjaaGreatDoor.Ev
end
section
namespace Go.Proofs.YtkjgkhgklkdbjaaGreatDoor.Ev
open Go
theorem ink_append (l m : List Glyph) : ink (l ++ m) = ink l ++ ink m := List.filter_append _ _
namespace Node
mutual
def cnt : Node → Nat
  | mk _ _ _ _ kids _ _ => 1 + cntL kids
def cntL : List Node → Nat
  | [] => 0
  | x :: l => x.cnt + cntL l
end
theorem cnt_eq (x : Node) : x.cnt = 1 + cntL x.kids := by cases x; rw [cnt]; rfl
theorem kids_size {x : Node} {l : List Node} {n : Nat} (hn : SizeOf.sizeOf (x :: l) < n + 1) : SizeOf.sizeOf x.kids < n ∧ SizeOf.sizeOf l < n := by
  cases x; simp at hn ⊢; omega
end Node
end Go.Proofs.YtkjgkhgklkdbjaaGreatDoor.Ev
end
section
namespace Go.Proofs.YtkjgkhgklkdbjaaGreatDoor.Ev
open Go
theorem long_mem {l : List Node} {x : Node} (hx : x ∈ l) : x.long ≤ sumBy Node.long l := by
  induction l with
  | nil => cases hx
  | cons y l ih =>
    rw [sumBy]
    rcases List.mem_cons.1 hx with rfl | h
    · omega
    · have := ih h; omega
end Go.Proofs.YtkjgkhgklkdbjaaGreatDoor.Ev
end
section
namespace Go.Proofs.YtkjgkhgklkdbjaaGreatDoor.Ev
open Go
structure Block where
  kind : Int
  line : Int
  inn : Int
  gap : Bool
  room : Int
  tag : List Glyph
  text : List Glyph
  rows : List (List Glyph)
  grid : Tbl
end Go.Proofs.YtkjgkhgklkdbjaaGreatDoor.Ev
end
section
namespace Go.Proofs.YtkjgkhgklkdbjaaGreatDoor.Ev
open Go
set_option linter.unusedSimpArgs false in
set_option maxRecDepth 20000 in
set_option maxHeartbeats 4000000 in
theorem refInked (out l : List Glyph) (hl : out.length + l.length ≤ 1073741824) : PConH C0 43 [.own (out.map Glyph.pv), .sc (gl l)] (.own ((out ++ ink l).map Glyph.pv)) := by
  refine henter43 ?_
  simp [Tryz.f43, gl]
  refine loopC (fun d e H' => ∃ (i : Nat) (x9 x17 : FV), H' = [] ∧ d = l.length - i ∧ i ≤ l.length ∧ e = [(0, .own ((out ++ ink (l.take i)).map Glyph.pv)), (1, .sc (.sl (l.map Glyph.pv))), (4, .own []), (5, .sc (.int .i64 i)), (9, x9), (17, x17)]) (d := l.length) ⟨0, .undef, .undef, rfl, rfl, Nat.zero_le _, by simp [ink]⟩ ?_
  rintro d e H' ⟨i, x9, x17, rfl, rfl, hi, rfl⟩
  simp
  refine CondC.mk (fun hlt => ?_) (fun hlt => ?_)
  · simp at hlt
    have hlt' : (i : Int) < (l.length : Int) := by omega
    have hw : IntKind.i64.wrap ((i : Int) + 1) = ((i + 1 : Nat) : Int) := by rw [wrap64 (by omega) (by omega)]; omega
    have ht : ink (l.take (i + 1)) = ink (l.take i) ++ (if l[i].blank = true then [] else [l[i]]) := by
      rw [List.take_succ_eq_append_getElem hlt, ink_append]
      congr 1
      by_cases hb : l[i].blank = true
      · simp [ink, hb]
      · simp [ink, hb]
    have hil : (ink (l.take i)).length ≤ i := by
      have := List.length_filter_le (fun g : Glyph => !g.blank) (l.take i)
      rw [List.length_take] at this
      unfold ink; omega
    have so : Sized 2 ((out ++ ink (l.take i)).map Glyph.pv) := sizedG _
    have s1 := sizedG [l[i]]
    simp only [List.map_cons, List.map_nil] at s1
    have hgp : (l[i]).pv = .agg [.int .i32 l[i].r, .int .u8 l[i].s] := rfl
    rw [hgp] at s1
    have hm : out.length + (ink (l.take i)).length ≤ 137438953471 := by omega
    simp only [List.map_append] at so
    generalize ink (l.take i) = S at *
    by_cases hb : l[i].r = 32
    · have hbb : l[i].blank = true := by simp [Glyph.blank, hb]
      rw [if_pos hbb, List.append_nil] at ht
      simp [hlt, hlt', hgp, hb, hw]
      exact ⟨l.length - (i + 1), by omega, i + 1, rfl, by omega, by rw [ht], by omega⟩
    · have hbb : ¬ l[i].blank = true := by simp [Glyph.blank, hb]
      rw [if_neg hbb] at ht
      simp [hlt, hlt', hgp, hb, hw, so, s1, lenMax]
      exact ⟨hm, l.length - (i + 1), by omega, i + 1, rfl, by omega, by rw [ht]; simp [hgp], by omega⟩
  · simp at hlt
    obtain rfl : i = l.length := by omega
    simp
def ltr (l : List TRow) : List Glyph := l.flatMap fun r => r.cells.flatMap ink
namespace Node
mutual
def lvs : Node → List Glyph
  | mk _ _ _ text kids rows grid => ink text ++ rows.flatMap ink ++ ltr grid.rows ++ lvsL kids
def lvsL : List Node → List Glyph
  | [] => []
  | x :: l => x.lvs ++ lvsL l
end
theorem lvs_eq (x : Node) : x.lvs = ink x.text ++ x.rows.flatMap ink ++ ltr x.grid.rows ++ lvsL x.kids := by cases x; rw [lvs]; rfl
theorem lvsL_eq (l : List Node) : lvsL l = l.flatMap lvs := by
  induction l with
  | nil => rw [lvsL]; rfl
  | cons x l ih => rw [lvsL, ih]; rfl
end Node
theorem flat_take {α β : Type} (f : α → List β) {l : List α} {i : Nat} (h : i < l.length) : (l.take (i + 1)).flatMap f = (l.take i).flatMap f ++ f l[i] := by
  rw [List.take_succ_eq_append_getElem h, List.flatMap_append]; simp
theorem flat_lenG {α β : Type} (f : α → List β) (g : α → Nat) : ∀ (l : List α), (∀ x ∈ l, (f x).length ≤ g x) → (l.flatMap f).length ≤ sumBy g l
  | [], _ => by simp [sumBy]
  | x :: l, h => by
    have h1 := flat_lenG f g l fun y hy => h y (by simp [hy])
    have h2 := h x (by simp)
    rw [List.flatMap_cons, List.length_append, sumBy]; omega
theorem sumLen' {α : Type} (f : α → Nat) (h : ∀ x, 1 ≤ f x) (l : List α) : l.length ≤ sumBy f l := by
  induction l with
  | nil => simp [sumBy]
  | cons x l ih => rw [sumBy, List.length_cons]; have := h x; omega
theorem rowInk_len (l : List (List Glyph)) : (l.flatMap ink).length ≤ rowsLong l := flat_lenG _ _ _ fun r _ => by have := ink_len r; omega
theorem cellInk_len (l : List (List Glyph)) : (l.flatMap ink).length ≤ sumBy List.length l := flat_lenG _ _ _ fun r _ => ink_len r
theorem ltr_len (l : List TRow) : (ltr l).length ≤ sumBy trowLong l := flat_lenG _ _ _ fun r _ => by have := cellInk_len r.cells; unfold trowLong; omega
theorem lvs_len : ∀ (n : Nat) (l : List Node), SizeOf.sizeOf l < n → (Node.lvsL l).length ≤ sumBy Node.long l := by
  intro n
  induction n with
  | zero => intro l h; omega
  | succ n ih =>
    intro l hn
    cases l with
    | nil => rw [Node.lvsL]; simp
    | cons x l =>
      obtain ⟨h1, h2⟩ := Node.kids_size hn
      have := ih _ h1; have := ih _ h2; have := ink_len x.text; have := rowInk_len x.rows; have := ltr_len x.grid.rows
      rw [Node.lvsL, Node.lvs_eq, sumBy, Node.long_eq]
      simp only [List.length_append]; omega
set_option linter.unusedSimpArgs false in
set_option maxRecDepth 20000 in
set_option maxHeartbeats 8000000 in
theorem refLeaves : ∀ (n : Nat) (a : List Node), SizeOf.sizeOf a < n → sumBy Node.long a ≤ 1073741824 → PCon C0 16 [.sc (.sl (a.map Node.pv))] (.own ((Node.lvsL a).map Glyph.pv)) := by
  intro n
  induction n with
  | zero => intro a h; omega
  | succ n ih =>
    intro a hn hsz
    have hla := len_le_long a
    have sg : ∀ l : List Glyph, Sized 2 (l.map Glyph.pv) := sizedG
    refine penter16 ?_
    simp [Tryz.f16]
    refine loopC (fun d e H => ∃ (i : Nat) (x5 x6 x7 x8 x12 x29 x50 x66 : FV), H = [] ∧ d = a.length - i ∧ i ≤ a.length ∧
      e = [(0, .sc (.sl (a.map Node.pv))), (2, .own []), (3, .own (((a.take i).flatMap Node.lvs).map Glyph.pv)), (4, .sc (.int .i64 i)), (5, x5), (6, x6), (7, x7), (8, x8), (12, x12), (29, x29), (50, x50), (66, x66)]) (d := a.length)
      ⟨0, .undef, .undef, .undef, .undef, .undef, .undef, .undef, .undef, rfl, rfl, Nat.zero_le _, rfl⟩ ?_
    rintro d e H ⟨i, x5, x6, x7, x8, x12, x29, x50, x66, rfl, rfl, hi, rfl⟩
    simp
    refine CondC.mk (fun hlt => ?_) (fun hlt => ?_)
    · simp at hlt
      have hlt' : (i : Int) < (a.length : Int) := by omega
      have ea := Node.pv_eq a[i]
      have ht := flat_take Node.lvs hlt
      rw [Node.lvs_eq] at ht
      have hll := sumBy_mem Node.long hlt
      have hel := Node.long_eq a[i]
      have hsl : ((a.take i).flatMap Node.lvs).length ≤ sumBy Node.long (a.take i) := by
        have := lvs_len _ (a.take i) (Nat.lt_succ_self _)
        rwa [Node.lvsL_eq] at this
      have hk := ih a[i].kids (by have := Node.kids_lt (List.getElem_mem hlt); omega) (by omega)
      have hkl := lvs_len _ a[i].kids (Nat.lt_succ_self _)
      have htl := ink_len a[i].text
      have hrl := rowInk_len a[i].rows
      have hgl := ltr_len a[i].grid.rows
      have hw : IntKind.i64.wrap ((i : Int) + 1) = ((i + 1 : Nat) : Int) := by rw [wrap64 (by omega) (by omega)]; omega
      generalize (a.take i).flatMap Node.lvs = S at *
      have c1 := refInked S a[i].text (by omega)
      simp only [gl] at c1
      have hn3 : a[i].rows.length ≤ rowsLong a[i].rows := sumLen' _ (fun r => by omega) _
      have hn4 : a[i].grid.rows.length ≤ sumBy trowLong a[i].grid.rows := sumLen' _ (fun r => by unfold trowLong; omega) _
      simp [hlt, hlt', ea, gl]
      refine CallH.mk callable43 (by simp) (by simp) c1 ?_
      simp
      refine loopC (fun d e H => ∃ (k : Nat) (x29 : FV), H = [] ∧ d = a[i].rows.length - k ∧ k ≤ a[i].rows.length ∧
        e = [(0, .sc (.sl (a.map Node.pv))), (2, .own []), (3, .own ((S ++ ink a[i].text ++ (a[i].rows.take k).flatMap ink).map Glyph.pv)), (4, .sc (.int .i64 i)), (5, .sc (.int .i64 k)), (6, x6), (7, x7), (8, x8), (12, .sc (.bool true)), (29, x29), (50, x50), (66, x66)]) (d := a[i].rows.length)
        ⟨0, x29, rfl, rfl, Nat.zero_le _, by simp⟩ ?_
      rintro d e H ⟨k, x29, rfl, rfl, hk', rfl⟩
      simp [hlt, hlt', ea, gl]
      refine CondC.mk (fun hlk => ?_) (fun hlk => ?_)
      · simp at hlk
        have hlk' : (k : Int) < (a[i].rows.length : Int) := by omega
        have ht2 := flat_take ink hlk
        have hr2 := rowInk_len (a[i].rows.take k)
        have hr3 := sumBy_mem (fun r : List Glyph => 1 + r.length) hlk
        change rowsLong _ + _ ≤ rowsLong _ at hr3
        have hwk : IntKind.i64.wrap ((k : Int) + 1) = ((k + 1 : Nat) : Int) := by rw [wrap64 (by omega) (by omega)]; omega
        generalize (a[i].rows.take k).flatMap ink = R at *
        have c2 := refInked (S ++ ink a[i].text ++ R) a[i].rows[k] (by simp only [List.length_append]; omega)
        simp [gl] at c2
        simp [hlt, hlt', hlk, hlk', ea, gl]
        refine CallH.mk callable43 (by simp) (by simp) c2 ?_
        simp [hwk]
        exact ⟨a[i].rows.length - (k + 1), by omega, k + 1, rfl, by omega, by rw [ht2]; simp, by omega⟩
      · simp at hlk
        obtain rfl : k = a[i].rows.length := by omega
        simp
        generalize hP : S ++ (ink a[i].text ++ a[i].rows.flatMap ink) = P
        have hPe : S.map Glyph.pv ++ ((ink a[i].text).map Glyph.pv ++ (a[i].rows.flatMap ink).map Glyph.pv) = P.map Glyph.pv := by rw [← hP]; simp
        have hPl : P.length ≤ S.length + a[i].text.length + rowsLong a[i].rows := by rw [← hP]; simp only [List.length_append]; omega
        refine loopC (fun d e H => ∃ (k : Nat) (x7 x8 x50 x66 : FV), H = [] ∧ d = a[i].grid.rows.length - k ∧ k ≤ a[i].grid.rows.length ∧
          e = [(0, .sc (.sl (a.map Node.pv))), (2, .own []), (3, .own ((P ++ ltr (a[i].grid.rows.take k)).map Glyph.pv)), (4, .sc (.int .i64 i)), (5, .sc (.int .i64 a[i].rows.length)), (6, .sc (.int .i64 k)), (7, x7), (8, x8), (12, .sc (.bool true)), (29, .sc (.bool false)), (50, x50), (66, x66)]) (d := a[i].grid.rows.length)
          ⟨0, x7, x8, x50, x66, rfl, rfl, Nat.zero_le _, by rw [hPe]; simp [ltr]⟩ ?_
        rintro d e H ⟨k, x7, x8, x50, x66, rfl, rfl, hk', rfl⟩
        simp [hlt, hlt', ea, gl]
        refine CondC.mk (fun hlk => ?_) (fun hlk => ?_)
        · simp at hlk
          have hlk' : (k : Int) < (a[i].grid.rows.length : Int) := by omega
          have ht2 : ltr (a[i].grid.rows.take (k + 1)) = ltr (a[i].grid.rows.take k) ++ a[i].grid.rows[k].cells.flatMap ink := flat_take (fun r : TRow => r.cells.flatMap ink) hlk
          have hr2 := ltr_len (a[i].grid.rows.take k)
          have hr3 := sumBy_mem trowLong hlk
          have hr4 : trowLong a[i].grid.rows[k] = 1 + a[i].grid.rows[k].cells.length + sumBy List.length a[i].grid.rows[k].cells := rfl
          have hwk : IntKind.i64.wrap ((k : Int) + 1) = ((k + 1 : Nat) : Int) := by rw [wrap64 (by omega) (by omega)]; omega
          generalize ltr (a[i].grid.rows.take k) = R at *
          simp [hlt, hlt', hlk, hlk', ea, gl, TRow.pv]
          refine loopC (fun d e H => ∃ (j : Nat) (x66 : FV), H = [] ∧ d = a[i].grid.rows[k].cells.length - j ∧ j ≤ a[i].grid.rows[k].cells.length ∧
            e = [(0, .sc (.sl (a.map Node.pv))), (2, .own []), (3, .own ((P ++ R ++ (a[i].grid.rows[k].cells.take j).flatMap ink).map Glyph.pv)), (4, .sc (.int .i64 i)), (5, .sc (.int .i64 a[i].rows.length)), (6, .sc (.int .i64 k)), (7, .sc (.sl (a[i].grid.rows[k].cells.map gl))), (8, .sc (.int .i64 j)), (12, .sc (.bool true)), (29, .sc (.bool false)), (50, .sc (.bool true)), (66, x66)]) (d := a[i].grid.rows[k].cells.length)
            ⟨0, x66, rfl, rfl, Nat.zero_le _, by simp [gl]⟩ ?_
          rintro d e H ⟨j, x66, rfl, rfl, hj', rfl⟩
          simp
          refine CondC.mk (fun hlj => ?_) (fun hlj => ?_)
          · simp at hlj
            have hlj' : (j : Int) < (a[i].grid.rows[k].cells.length : Int) := by omega
            have ht3 := flat_take ink hlj
            have hr5 := cellInk_len (a[i].grid.rows[k].cells.take j)
            have hr6 := sumBy_mem List.length hlj
            have hwj : IntKind.i64.wrap ((j : Int) + 1) = ((j + 1 : Nat) : Int) := by rw [wrap64 (by omega) (by omega)]; omega
            generalize (a[i].grid.rows[k].cells.take j).flatMap ink = U at *
            have c2 := refInked (P ++ R ++ U) a[i].grid.rows[k].cells[j] (by simp only [List.length_append]; omega)
            simp [gl] at c2
            simp [hlj, hlj', gl]
            refine CallH.mk callable43 (by simp) (by simp) c2 ?_
            simp [hwj]
            exact ⟨a[i].grid.rows[k].cells.length - (j + 1), by omega, j + 1, rfl, by omega, by rw [ht3]; simp, by omega⟩
          · simp at hlj
            obtain rfl : j = a[i].grid.rows[k].cells.length := by omega
            simp [hwk]
            exact ⟨a[i].grid.rows.length - (k + 1), by omega, k + 1, rfl, by omega, by rw [ht2]; simp, by omega⟩
        · simp at hlk
          obtain rfl : k = a[i].grid.rows.length := by omega
          simp [hlt, hlt', ea, gl]
          refine CallQ.mk (Call.pure callable16 (by simp) (by simp) hk) ?_
          have s3 := sg (P ++ ltr a[i].grid.rows)
          have s4 := sg (Node.lvsL a[i].kids)
          simp only [List.map_append] at s3
          simp [s3, s4, hw, lenMax]
          refine ⟨by omega, a.length - (i + 1), by omega, i + 1, rfl, by omega, ?_, by omega⟩
          rw [ht, ← hP]; simp
    · simp at hlt
      obtain rfl : i = a.length := by omega
      simp [Node.lvsL_eq]
end Go.Proofs.YtkjgkhgklkdbjaaGreatDoor.Ev
end
