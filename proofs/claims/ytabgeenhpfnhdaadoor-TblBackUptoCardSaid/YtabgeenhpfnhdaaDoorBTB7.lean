/- Of what the law TblBack needs: part 7. -/
import Derived.Lib.DecodeN
import Derived.Test.YtabgeenhpfnhdaaDoorBTB4
import Derived.Test.YtabgeenhpfnhdaaDoorBTB6
set_option linter.unusedSimpArgs false
set_option linter.unusedVariables false
section
namespace Go.Proofs.YtabgeenhpfnhdaaDoor.Ev
open Go
def firstPV : List PV := (List.range 256).map fun c => .int .u8 (Go.Lib.firstT c : Nat)
def acceptPV : List PV := (List.range 32).map fun j => .int .u8 ((if j % 2 = 0 then Go.Lib.accLo (j / 2) else Go.Lib.accHi (j / 2) : Nat) : Int)
noncomputable def C0 : Ctx := { P := Tryd.prog, laid := fun g => if g = 0 then some [.int .i32 32, .int .u8 0] else if g = 2 then some firstPV else if g = 3 then some acceptPV else if g = 4 then some [.mp 4] else if g = 5 then some [.mp 5] else none, keep := fun w => GL w, mapT := 151, maps := tabs, mapsOk := GL.mapsOk }
theorem C0_mapT : C0.mapT = 151 := rfl
theorem C0_maps : C0.maps = tabs := rfl
theorem laid4 : C0.laid 4 = some [.mp 4] := rfl
theorem laid5 : C0.laid 5 = some [.mp 5] := rfl
theorem laidFirst : C0.laid 2 = some firstPV := rfl
theorem laidAccept : C0.laid 3 = some acceptPV := rfl
theorem C0_P : C0.P = Tryd.prog := rfl
theorem laid0 : C0.laid 0 = some [.int .i32 32, .int .u8 0] := rfl
theorem mixed : C0.P.follows .mixedOrders = true := by kernel_rfl
theorem sz3 : szOf Tryd.prog 3 = some 1 := by kernel_rfl
theorem zero3 : zeroOf Tryd.prog 3 = some (.int .i64 0) := by kernel_rfl
theorem bytes3 : bytesOf Tryd.prog 3 = some 8 := by kernel_rfl
theorem sz4 : szOf Tryd.prog 4 = some 1 := by kernel_rfl
theorem zero4 : zeroOf Tryd.prog 4 = some (.bool false) := by kernel_rfl
theorem bytes4 : bytesOf Tryd.prog 4 = some 1 := by kernel_rfl
theorem sz5 : szOf Tryd.prog 5 = some 1 := by kernel_rfl
theorem zero5 : zeroOf Tryd.prog 5 = some (.int .u8 0) := by kernel_rfl
theorem bytes5 : bytesOf Tryd.prog 5 = some 1 := by kernel_rfl
theorem sz9 : szOf Tryd.prog 9 = some 1 := by kernel_rfl
theorem zero9 : zeroOf Tryd.prog 9 = some (.string ByteArray.empty) := by kernel_rfl
theorem bytes9 : bytesOf Tryd.prog 9 = some 16 := by kernel_rfl
theorem sz20 : szOf Tryd.prog 20 = some 1 := by kernel_rfl
theorem zero20 : zeroOf Tryd.prog 20 = some (.nilIface) := by kernel_rfl
theorem bytes20 : bytesOf Tryd.prog 20 = some 16 := by kernel_rfl
theorem sz21 : szOf Tryd.prog 21 = some 1 := by kernel_rfl
theorem zero21 : zeroOf Tryd.prog 21 = some (.int .i32 0) := by kernel_rfl
theorem bytes21 : bytesOf Tryd.prog 21 = some 4 := by kernel_rfl
theorem sz28 : szOf Tryd.prog 28 = some 1 := by kernel_rfl
theorem zero28 : zeroOf Tryd.prog 28 = some (.slice none 0 0) := by kernel_rfl
theorem bytes28 : bytesOf Tryd.prog 28 = some 24 := by kernel_rfl
theorem sz32 : szOf Tryd.prog 32 = some 1 := by kernel_rfl
theorem zero32 : zeroOf Tryd.prog 32 = some (.int .u16 0) := by kernel_rfl
theorem bytes32 : bytesOf Tryd.prog 32 = some 2 := by kernel_rfl
theorem sz34 : szOf Tryd.prog 34 = some 1 := by kernel_rfl
theorem zero34 : zeroOf Tryd.prog 34 = some (.slice none 0 0) := by kernel_rfl
theorem bytes34 : bytesOf Tryd.prog 34 = some 24 := by kernel_rfl
theorem sz36 : szOf Tryd.prog 36 = some 4 := by kernel_rfl
theorem zero36 : zeroOf Tryd.prog 36 = some (.agg #[.string ByteArray.empty, .slice none 0 0, .bool false, .bool false]) := by kernel_rfl
theorem bytes36 : bytesOf Tryd.prog 36 = some 48 := by kernel_rfl
theorem sz37 : szOf Tryd.prog 37 = some 1 := by kernel_rfl
theorem zero37 : zeroOf Tryd.prog 37 = some (.slice none 0 0) := by kernel_rfl
theorem bytes37 : bytesOf Tryd.prog 37 = some 24 := by kernel_rfl
theorem sz41 : szOf Tryd.prog 41 = some 3 := by kernel_rfl
theorem zero41 : zeroOf Tryd.prog 41 = some (.agg #[.int .i64 0, .int .i64 0, .int .i64 0]) := by kernel_rfl
theorem bytes41 : bytesOf Tryd.prog 41 = some 24 := by kernel_rfl
theorem tags41 : tagsOf Tryd.prog 41 = some [.int, .int, .int] := by kernel_rfl
theorem sz45 : szOf Tryd.prog 45 = some 1 := by kernel_rfl
theorem zero45 : zeroOf Tryd.prog 45 = some (.slice none 0 0) := by kernel_rfl
theorem bytes45 : bytesOf Tryd.prog 45 = some 24 := by kernel_rfl
theorem sz46 : szOf Tryd.prog 46 = some 1 := by kernel_rfl
theorem zero46 : zeroOf Tryd.prog 46 = some (.slice none 0 0) := by kernel_rfl
theorem bytes46 : bytesOf Tryd.prog 46 = some 24 := by kernel_rfl
theorem sz47 : szOf Tryd.prog 47 = some 1 := by kernel_rfl
theorem zero47 : zeroOf Tryd.prog 47 = some (.slice none 0 0) := by kernel_rfl
theorem bytes47 : bytesOf Tryd.prog 47 = some 24 := by kernel_rfl
theorem sz49 : szOf Tryd.prog 49 = some 10 := by kernel_rfl
theorem zero49 : zeroOf Tryd.prog 49 = some (.agg #[.int .i64 0, .int .i64 0, .int .i64 0, .slice none 0 0, .slice none 0 0, .slice none 0 0, .string ByteArray.empty, .slice none 0 0, .bool false, .bool false]) := by kernel_rfl
theorem bytes49 : bytesOf Tryd.prog 49 = some 144 := by kernel_rfl
theorem sz54 : szOf Tryd.prog 54 = some 2 := by kernel_rfl
theorem zero54 : zeroOf Tryd.prog 54 = some (.agg #[.int .i32 0, .int .u8 0]) := by kernel_rfl
theorem bytes54 : bytesOf Tryd.prog 54 = some 8 := by kernel_rfl
theorem tags54 : tagsOf Tryd.prog 54 = some [.int, .int] := by kernel_rfl
theorem sz56 : szOf Tryd.prog 56 = some 2 := by kernel_rfl
theorem zero56 : zeroOf Tryd.prog 56 = some (.agg #[.bool false, .slice none 0 0]) := by kernel_rfl
theorem bytes56 : bytesOf Tryd.prog 56 = some 32 := by kernel_rfl
theorem sz59 : szOf Tryd.prog 59 = some 1 := by kernel_rfl
theorem zero59 : zeroOf Tryd.prog 59 = some (.slice none 0 0) := by kernel_rfl
theorem bytes59 : bytesOf Tryd.prog 59 = some 24 := by kernel_rfl
theorem sz63 : szOf Tryd.prog 63 = some 1 := by kernel_rfl
theorem zero63 : zeroOf Tryd.prog 63 = some (.pointer none) := by kernel_rfl
theorem bytes63 : bytesOf Tryd.prog 63 = some 8 := by kernel_rfl
theorem sz65 : szOf Tryd.prog 65 = some 8 := by kernel_rfl
theorem zero65 : zeroOf Tryd.prog 65 = some (.agg #[.slice none 0 0, .int .i64 0, .int .i64 0, .string ByteArray.empty, .slice none 0 0, .bool false, .bool false, .slice none 0 0]) := by kernel_rfl
theorem bytes65 : bytesOf Tryd.prog 65 = some 112 := by kernel_rfl
theorem sz73 : szOf Tryd.prog 73 = some 1 := by kernel_rfl
theorem zero73 : zeroOf Tryd.prog 73 = some (.nilFunc) := by kernel_rfl
theorem bytes73 : bytesOf Tryd.prog 73 = some 8 := by kernel_rfl
theorem sz82 : szOf Tryd.prog 82 = some 1 := by kernel_rfl
theorem zero82 : zeroOf Tryd.prog 82 = some (.nilFunc) := by kernel_rfl
theorem bytes82 : bytesOf Tryd.prog 82 = some 8 := by kernel_rfl
theorem sz85 : szOf Tryd.prog 85 = some 1 := by kernel_rfl
theorem zero85 : zeroOf Tryd.prog 85 = some (.pointer none) := by kernel_rfl
theorem bytes85 : bytesOf Tryd.prog 85 = some 8 := by kernel_rfl
theorem sz87 : szOf Tryd.prog 87 = some 2 := by kernel_rfl
theorem zero87 : zeroOf Tryd.prog 87 = some (.agg #[.pointer none, .slice none 0 0]) := by kernel_rfl
theorem bytes87 : bytesOf Tryd.prog 87 = some 32 := by kernel_rfl
theorem sz90 : szOf Tryd.prog 90 = some 1 := by kernel_rfl
theorem zero90 : zeroOf Tryd.prog 90 = some (.nilIface) := by kernel_rfl
theorem bytes90 : bytesOf Tryd.prog 90 = some 16 := by kernel_rfl
theorem sz94 : szOf Tryd.prog 94 = some 1 := by kernel_rfl
theorem zero94 : zeroOf Tryd.prog 94 = some (.slice none 0 0) := by kernel_rfl
theorem bytes94 : bytesOf Tryd.prog 94 = some 24 := by kernel_rfl
theorem sz96 : szOf Tryd.prog 96 = some 1 := by kernel_rfl
theorem zero96 : zeroOf Tryd.prog 96 = some (.slice none 0 0) := by kernel_rfl
theorem bytes96 : bytesOf Tryd.prog 96 = some 24 := by kernel_rfl
theorem sz98 : szOf Tryd.prog 98 = some 2 := by kernel_rfl
theorem zero98 : zeroOf Tryd.prog 98 = some (.agg #[.int .i64 0, .int .i64 0]) := by kernel_rfl
theorem bytes98 : bytesOf Tryd.prog 98 = some 16 := by kernel_rfl
theorem tags98 : tagsOf Tryd.prog 98 = some [.int, .int] := by kernel_rfl
theorem sz102 : szOf Tryd.prog 102 = some 2 := by kernel_rfl
theorem zero102 : zeroOf Tryd.prog 102 = some (.agg #[.int .u8 0, .int .u8 0]) := by kernel_rfl
theorem bytes102 : bytesOf Tryd.prog 102 = some 2 := by kernel_rfl
theorem tags102 : tagsOf Tryd.prog 102 = some [.int, .int] := by kernel_rfl
theorem sz113 : szOf Tryd.prog 113 = some 1 := by kernel_rfl
theorem zero113 : zeroOf Tryd.prog 113 = some (.pointer none) := by kernel_rfl
theorem bytes113 : bytesOf Tryd.prog 113 = some 8 := by kernel_rfl
theorem sz116 : szOf Tryd.prog 116 = some 1 := by kernel_rfl
theorem zero116 : zeroOf Tryd.prog 116 = some (.slice none 0 0) := by kernel_rfl
theorem bytes116 : bytesOf Tryd.prog 116 = some 24 := by kernel_rfl
theorem sz128 : szOf Tryd.prog 128 = some 1 := by kernel_rfl
theorem zero128 : zeroOf Tryd.prog 128 = some (.pointer none) := by kernel_rfl
theorem bytes128 : bytesOf Tryd.prog 128 = some 8 := by kernel_rfl
theorem sz131 : szOf Tryd.prog 131 = some 4 := by kernel_rfl
theorem zero131 : zeroOf Tryd.prog 131 = some (.agg #[.slice none 0 0, .int .i64 0, .slice none 0 0, .slice none 0 0]) := by kernel_rfl
theorem bytes131 : bytesOf Tryd.prog 131 = some 80 := by kernel_rfl
theorem sz135 : szOf Tryd.prog 135 = some 2 := by kernel_rfl
theorem zero135 : zeroOf Tryd.prog 135 = some (.agg #[.int .i64 0, .int .i32 0]) := by kernel_rfl
theorem bytes135 : bytesOf Tryd.prog 135 = some 16 := by kernel_rfl
theorem tags135 : tagsOf Tryd.prog 135 = some [.int, .int] := by kernel_rfl
theorem sz140 : szOf Tryd.prog 140 = some 2 := by kernel_rfl
theorem zero140 : zeroOf Tryd.prog 140 = some (.agg #[.int .u8 0, .int .u8 0]) := by kernel_rfl
theorem bytes140 : bytesOf Tryd.prog 140 = some 2 := by kernel_rfl
theorem tags140 : tagsOf Tryd.prog 140 = some [.int, .int] := by kernel_rfl
theorem sz141 : szOf Tryd.prog 141 = some 32 := by kernel_rfl
theorem zero141 : zeroOf Tryd.prog 141 = some (.agg #[.int .u8 0, .int .u8 0, .int .u8 0, .int .u8 0, .int .u8 0, .int .u8 0, .int .u8 0, .int .u8 0, .int .u8 0, .int .u8 0, .int .u8 0, .int .u8 0, .int .u8 0, .int .u8 0, .int .u8 0, .int .u8 0, .int .u8 0, .int .u8 0, .int .u8 0, .int .u8 0, .int .u8 0, .int .u8 0, .int .u8 0, .int .u8 0, .int .u8 0, .int .u8 0, .int .u8 0, .int .u8 0, .int .u8 0, .int .u8 0, .int .u8 0, .int .u8 0]) := by kernel_rfl
theorem bytes141 : bytesOf Tryd.prog 141 = some 32 := by kernel_rfl
theorem sz142 : szOf Tryd.prog 142 = some 1 := by kernel_rfl
theorem zero142 : zeroOf Tryd.prog 142 = some (.int .u32 0) := by kernel_rfl
theorem bytes142 : bytesOf Tryd.prog 142 = some 4 := by kernel_rfl
theorem sz148 : szOf Tryd.prog 148 = some 1 := by kernel_rfl
theorem zero148 : zeroOf Tryd.prog 148 = some (.nilFunc) := by kernel_rfl
theorem bytes148 : bytesOf Tryd.prog 148 = some 8 := by kernel_rfl
theorem sz151 : szOf Tryd.prog 151 = some 1 := by kernel_rfl
theorem zero151 : zeroOf Tryd.prog 151 = some (.map none) := by kernel_rfl
theorem bytes151 : bytesOf Tryd.prog 151 = some 8 := by kernel_rfl
attribute [simp] C0_P C0_mapT C0_maps laid4 laid5 laid0 sz3 zero3 bytes3 sz4 zero4 bytes4 sz5 zero5 bytes5 sz9 zero9 bytes9 sz20 zero20 bytes20 sz21 zero21 bytes21 sz28 zero28 bytes28 sz32 zero32 bytes32 sz34 zero34 bytes34 sz36 zero36 bytes36 sz37 zero37 bytes37 sz41 zero41 bytes41 tags41 sz45 zero45 bytes45 sz46 zero46 bytes46 sz47 zero47 bytes47 sz49 zero49 bytes49 sz54 zero54 bytes54 tags54 sz56 zero56 bytes56 sz59 zero59 bytes59 sz63 zero63 bytes63 sz65 zero65 bytes65 sz73 zero73 bytes73 sz82 zero82 bytes82 sz85 zero85 bytes85 sz87 zero87 bytes87 sz90 zero90 bytes90 sz94 zero94 bytes94 sz96 zero96 bytes96 sz98 zero98 bytes98 tags98 sz102 zero102 bytes102 tags102 sz113 zero113 bytes113 sz116 zero116 bytes116 sz128 zero128 bytes128 sz131 zero131 bytes131 sz135 zero135 bytes135 tags135 sz140 zero140 bytes140 tags140 sz141 zero141 bytes141 sz142 zero142 bytes142 sz148 zero148 bytes148 sz151 zero151 bytes151 Tryd.underlying0 Tryd.underlying3 Tryd.underlying4 Tryd.underlying5 Tryd.underlying9 Tryd.underlying20 Tryd.underlying21 Tryd.underlying23 Tryd.underlying25 Tryd.underlying28 Tryd.underlying32 Tryd.underlying34 Tryd.underlying36 Tryd.underlying37 Tryd.underlying38 Tryd.underlying41 Tryd.underlying45 Tryd.underlying46 Tryd.underlying47 Tryd.underlying49 Tryd.underlying54 Tryd.underlying56 Tryd.underlying59 Tryd.underlying63 Tryd.underlying65 Tryd.underlying73 Tryd.underlying78 Tryd.underlying82 Tryd.underlying85 Tryd.underlying87 Tryd.underlying90 Tryd.underlying91 Tryd.underlying94 Tryd.underlying96 Tryd.underlying98 Tryd.underlying102 Tryd.underlying103 Tryd.underlying106 Tryd.underlying113 Tryd.underlying116 Tryd.underlying117 Tryd.underlying119 Tryd.underlying125 Tryd.underlying128 Tryd.underlying131 Tryd.underlying135 Tryd.underlying138 Tryd.underlying140 Tryd.underlying141 Tryd.underlying142 Tryd.underlying143 Tryd.underlying148 Tryd.underlying149 Tryd.underlying151
theorem penter6 {args : List FV} {r : FV} (h : wpC C0 34 [20, 21] [0, 1, 2, 3, 4, 14] (Tryd.f6.body.getD .skip) (argsEnv 0 args) [] fun x e H₁ => (match x with | .exit _ => False | _ => True) ∧ resultOf C0 e H₁ Tryd.f6.results.toList = some r ∧ True) : PCon C0 6 args r :=
  pcon_of (C := C0) (fn := Tryd.f6) Tryd.func6 rfl (by decide) mixed (by kernel_rfl) h
theorem penter7 {args : List FV} {r : FV} (h : wpC C0 25 [7, 8] [0, 1, 2, 3] (Tryd.f7.body.getD .skip) (argsEnv 0 args) [] fun x e H₁ => (match x with | .exit _ => False | _ => True) ∧ resultOf C0 e H₁ Tryd.f7.results.toList = some r ∧ True) : PCon C0 7 args r :=
  pcon_of (C := C0) (fn := Tryd.f7) Tryd.func7 rfl (by decide) mixed rfl h
theorem callable7 : callable C0.P 7 = true := by kernel_rfl
theorem penter8 {args : List FV} {r : FV} (h : wpC C0 33 [14, 15, 31, 32] [0, 2, 3, 4, 5, 6, 7, 8, 10, 17, 19, 20, 21, 22, 25, 26, 28] (Tryd.f8.body.getD .skip) (argsEnv 0 args) [] fun x e H₁ => (match x with | .exit _ => False | _ => True) ∧ resultOf C0 e H₁ Tryd.f8.results.toList = some r ∧ True) : PCon C0 8 args r :=
  pcon_of (C := C0) (fn := Tryd.f8) Tryd.func8 rfl (by decide) mixed rfl h
theorem callable8 : callable C0.P 8 = true := by kernel_rfl
theorem penter10 {args : List FV} {r : FV} (h : wpC C0 38 [30, 37] [0, 2, 3, 4, 5, 7, 8, 11, 12, 13, 14, 24, 29] (Tryd.f10.body.getD .skip) (argsEnv 0 args) [] fun x e H₁ => (match x with | .exit _ => False | _ => True) ∧ resultOf C0 e H₁ Tryd.f10.results.toList = some r ∧ True) : PCon C0 10 args r :=
  pcon_of (C := C0) (fn := Tryd.f10) Tryd.func10 rfl (by decide) mixed rfl h
theorem callable10 : callable C0.P 10 = true := by kernel_rfl
theorem penter13 {args : List FV} {r : FV} (h : wpC C0 5 [] [0, 2] (Tryd.f13.body.getD .skip) (argsEnv 0 args) [] fun x e H₁ => (match x with | .exit _ => False | _ => True) ∧ resultOf C0 e H₁ Tryd.f13.results.toList = some r ∧ True) : PCon C0 13 args r :=
  pcon_of (C := C0) (fn := Tryd.f13) Tryd.func13 rfl (by decide) mixed rfl h
theorem callable13 : callable C0.P 13 = true := by kernel_rfl
theorem penter16 {args : List FV} {r : FV} (h : wpC C0 43 [8000000000000000000000000000000000000000000000000000000000000000000000000000000000000000000000000000085480603931384750144, 8000000000000000000000000000000000000000000000000000000000000000000000000000000000000000000000000000085462871007851978816] [0, 1, 4, 5, 6, 24] (Tryd.f16.body.getD .skip) (argsEnv 0 args) [] fun x e H₁ => (match x with | .exit _ => False | _ => True) ∧ resultOf C0 e H₁ Tryd.f16.results.toList = some r ∧ True) : PCon C0 16 args r :=
  pcon_of (C := C0) (fn := Tryd.f16) Tryd.func16 rfl (by decide) mixed (by kernel_rfl) h
theorem callable16 : callable C0.P 16 = true := by kernel_rfl
theorem penter18 {args : List FV} {r : FV} (h : wpC C0 101 [100] [0, 2, 3, 4, 5, 6, 7, 8, 12, 46, 69, 90] (Tryd.f18.body.getD .skip) (argsEnv 0 args) [] fun x e H₁ => (match x with | .exit _ => False | _ => True) ∧ resultOf C0 e H₁ Tryd.f18.results.toList = some r ∧ True) : PCon C0 18 args r :=
  pcon_of (C := C0) (fn := Tryd.f18) Tryd.func18 rfl (by decide) mixed (by kernel_rfl) h
theorem callable18 : callable C0.P 18 = true := by kernel_rfl
theorem penter19 {args : List FV} {r : FV} (h : wpC C0 78 [] [0, 1, 2, 3, 4, 5, 6, 11, 22, 37, 77] (Tryd.f19.body.getD .skip) (argsEnv 0 args) [] fun x e H₁ => (match x with | .exit _ => False | _ => True) ∧ resultOf C0 e H₁ Tryd.f19.results.toList = some r ∧ True) : PCon C0 19 args r :=
  pcon_of (C := C0) (fn := Tryd.f19) Tryd.func19 rfl (by decide) mixed rfl h
theorem callable19 : callable C0.P 19 = true := by kernel_rfl
theorem penter20 {args : List FV} {r : FV} (h : wpC C0 67 [14, 20, 23, 40, 50, 60, 66] [0, 1, 2, 3, 5, 6, 8, 11, 17, 32, 33, 34, 35, 39, 44, 45, 46, 47] (Tryd.f20.body.getD .skip) (argsEnv 0 args) [] fun x e H₁ => (match x with | .exit _ => False | _ => True) ∧ resultOf C0 e H₁ Tryd.f20.results.toList = some r ∧ True) : PCon C0 20 args r :=
  pcon_of (C := C0) (fn := Tryd.f20) Tryd.func20 rfl (by decide) mixed rfl h
theorem callable20 : callable C0.P 20 = true := by kernel_rfl
theorem penter21 {args : List FV} {r : FV} (h : wpC C0 70 [] [0, 1, 2, 3, 4, 5, 33, 38, 69] (Tryd.f21.body.getD .skip) (argsEnv 0 args) [] fun x e H₁ => (match x with | .exit _ => False | _ => True) ∧ resultOf C0 e H₁ Tryd.f21.results.toList = some r ∧ True) : PCon C0 21 args r :=
  pcon_of (C := C0) (fn := Tryd.f21) Tryd.func21 rfl (by decide) mixed (by kernel_rfl) h
theorem callable21 : callable C0.P 21 = true := by kernel_rfl
theorem penter22 {args : List FV} {r : FV} (h : wpC C0 104 [92, 98] [0, 1, 2, 3, 4, 5, 6, 7, 8, 9, 14, 26, 36, 51, 69, 80] (Tryd.f22.body.getD .skip) (argsEnv 0 args) [] fun x e H₁ => (match x with | .exit _ => False | _ => True) ∧ resultOf C0 e H₁ Tryd.f22.results.toList = some r ∧ True) : PCon C0 22 args r :=
  pcon_of (C := C0) (fn := Tryd.f22) Tryd.func22 rfl (by decide) mixed rfl h
theorem callable22 : callable C0.P 22 = true := by kernel_rfl
theorem callable23 : callable C0.P 23 = true := by kernel_rfl
theorem penter24 {args : List FV} {r : FV} (h : wpC C0 5 [] [0, 2] (Tryd.f24.body.getD .skip) (argsEnv 0 args) [] fun x e H₁ => (match x with | .exit _ => False | _ => True) ∧ resultOf C0 e H₁ Tryd.f24.results.toList = some r ∧ True) : PCon C0 24 args r :=
  pcon_of (C := C0) (fn := Tryd.f24) Tryd.func24 rfl (by decide) mixed rfl h
theorem callable24 : callable C0.P 24 = true := by kernel_rfl
theorem callable27 : callable C0.P 27 = true := by kernel_rfl
theorem callable28 : callable C0.P 28 = true := by kernel_rfl
theorem callable29 : callable C0.P 29 = true := by kernel_rfl
theorem enter30 {args : List FV} {H H' : Heap} {r : FV} (h : wpC C0 49 [29, 30, 31] [0, 2, 3, 4, 20, 33] (Tryd.f30.body.getD .skip) (argsEnv 0 args) H fun x e H₁ => (match x with | .exit _ => False | _ => True) ∧ resultOf C0 e H₁ Tryd.f30.results.toList = some r ∧ H₁ = H') : Con C0 30 args H r H' :=
  con_of (C := C0) (fn := Tryd.f30) Tryd.func30 rfl (by decide) mixed rfl h
theorem callable30 : callable C0.P 30 = true := by kernel_rfl
theorem enter31 {args : List FV} {H H' : Heap} {r : FV} (h : wpC C0 84 [42, 43] [0, 2, 3, 4, 5, 19, 45, 54, 64, 75, 81] (Tryd.f31.body.getD .skip) (argsEnv 0 args) H fun x e H₁ => (match x with | .exit _ => False | _ => True) ∧ resultOf C0 e H₁ Tryd.f31.results.toList = some r ∧ H₁ = H') : Con C0 31 args H r H' :=
  con_of (C := C0) (fn := Tryd.f31) Tryd.func31 rfl (by decide) mixed (by kernel_rfl) h
theorem callable31 : callable C0.P 31 = true := by kernel_rfl
theorem callable32 : callable C0.P 32 = true := by kernel_rfl
theorem penter33 {args : List FV} {r : FV} (h : wpC C0 76 [63, 69] [0, 1, 2, 3, 4, 6, 7, 8, 9, 19, 31, 32, 33, 34, 48, 55] (Tryd.f33.body.getD .skip) (argsEnv 0 args) [] fun x e H₁ => (match x with | .exit _ => False | _ => True) ∧ resultOf C0 e H₁ Tryd.f33.results.toList = some r ∧ True) : PCon C0 33 args r :=
  pcon_of (C := C0) (fn := Tryd.f33) Tryd.func33 rfl (by decide) mixed rfl h
theorem callable33 : callable C0.P 33 = true := by kernel_rfl
theorem penter34 {args : List FV} {r : FV} (h : wpC C0 13 [] [0, 2] (Tryd.f34.body.getD .skip) (argsEnv 0 args) [] fun x e H₁ => (match x with | .exit _ => False | _ => True) ∧ resultOf C0 e H₁ Tryd.f34.results.toList = some r ∧ True) : PCon C0 34 args r :=
  pcon_of (C := C0) (fn := Tryd.f34) Tryd.func34 rfl (by decide) mixed rfl h
theorem callable34 : callable C0.P 34 = true := by kernel_rfl
theorem callable36 : callable C0.P 36 = true := by kernel_rfl
theorem penter37 {args : List FV} {r : FV} (h : wpC C0 59 [38, 58] [0, 1, 4, 5, 7, 8, 9, 10, 11, 12, 37, 55] (Tryd.f37.body.getD .skip) (argsEnv 0 args) [] fun x e H₁ => (match x with | .exit _ => False | _ => True) ∧ resultOf C0 e H₁ Tryd.f37.results.toList = some r ∧ True) : PCon C0 37 args r :=
  pcon_of (C := C0) (fn := Tryd.f37) Tryd.func37 rfl (by decide) mixed rfl h
theorem callable37 : callable C0.P 37 = true := by kernel_rfl
theorem penter38 {args : List FV} {r : FV} (h : wpC C0 27 [] [0, 1, 4, 5, 10, 14, 26] (Tryd.f38.body.getD .skip) (argsEnv 0 args) [] fun x e H₁ => (match x with | .exit _ => False | _ => True) ∧ resultOf C0 e H₁ Tryd.f38.results.toList = some r ∧ True) : PCon C0 38 args r :=
  pcon_of (C := C0) (fn := Tryd.f38) Tryd.func38 rfl (by decide) mixed (by kernel_rfl) h
theorem callable38 : callable C0.P 38 = true := by kernel_rfl
theorem penter39 {args : List FV} {r : FV} (h : wpC C0 44 [19, 39, 43] [0, 2, 3, 4, 10, 18, 38] (Tryd.f39.body.getD .skip) (argsEnv 0 args) [] fun x e H₁ => (match x with | .exit _ => False | _ => True) ∧ resultOf C0 e H₁ Tryd.f39.results.toList = some r ∧ True) : PCon C0 39 args r :=
  pcon_of (C := C0) (fn := Tryd.f39) Tryd.func39 rfl (by decide) mixed rfl h
theorem callable39 : callable C0.P 39 = true := by kernel_rfl
theorem callable41 : callable C0.P 41 = true := by kernel_rfl
theorem penter42 {args : List FV} {r : FV} (h : wpC C0 9 [] [0, 2] (Tryd.f42.body.getD .skip) (argsEnv 0 args) [] fun x e H₁ => (match x with | .exit _ => False | _ => True) ∧ resultOf C0 e H₁ Tryd.f42.results.toList = some r ∧ True) : PCon C0 42 args r :=
  pcon_of (C := C0) (fn := Tryd.f42) Tryd.func42 rfl (by decide) mixed rfl h
theorem callable46 : callable C0.P 46 = true := by kernel_rfl
theorem enter47 {args : List FV} {H H' : Heap} {r : FV} (h : wpC C0 23 [10] [0, 1, 2] (Tryd.f47.body.getD .skip) (argsEnv 0 args) H fun x e H₁ => (match x with | .exit _ => False | _ => True) ∧ resultOf C0 e H₁ Tryd.f47.results.toList = some r ∧ H₁ = H') : Con C0 47 args H r H' :=
  con_of (C := C0) (fn := Tryd.f47) Tryd.func47 rfl (by decide) mixed (by kernel_rfl) h
theorem callable47 : callable C0.P 47 = true := by kernel_rfl
theorem callable48 : callable C0.P 48 = true := by kernel_rfl
theorem callable49 : callable C0.P 49 = true := by kernel_rfl
theorem callable50 : callable C0.P 50 = true := by kernel_rfl
theorem penter51 {args : List FV} {r : FV} (h : wpC C0 6 [5] [0, 2, 4] (Tryd.f51.body.getD .skip) (argsEnv 0 args) [] fun x e H₁ => (match x with | .exit _ => False | _ => True) ∧ resultOf C0 e H₁ Tryd.f51.results.toList = some r ∧ True) : PCon C0 51 args r :=
  pcon_of (C := C0) (fn := Tryd.f51) Tryd.func51 rfl (by decide) mixed rfl h
theorem penter52 {args : List FV} {r : FV} (h : wpC C0 9 [] [0, 1, 4] (Tryd.f52.body.getD .skip) (argsEnv 0 args) [] fun x e H₁ => (match x with | .exit _ => False | _ => True) ∧ resultOf C0 e H₁ Tryd.f52.results.toList = some r ∧ True) : PCon C0 52 args r :=
  pcon_of (C := C0) (fn := Tryd.f52) Tryd.func52 rfl (by decide) mixed rfl h
theorem callable52 : callable C0.P 52 = true := by kernel_rfl
theorem penter53 {args : List FV} {r : FV} (h : wpC C0 34 [24, 28, 33] [0, 2, 3, 4, 6, 7, 8, 9, 10, 17, 23] (Tryd.f53.body.getD .skip) (argsEnv 0 args) [] fun x e H₁ => (match x with | .exit _ => False | _ => True) ∧ resultOf C0 e H₁ Tryd.f53.results.toList = some r ∧ True) : PCon C0 53 args r :=
  pcon_of (C := C0) (fn := Tryd.f53) Tryd.func53 rfl (by decide) mixed rfl h
theorem callable53 : callable C0.P 53 = true := by kernel_rfl
theorem penter54 {args : List FV} {r : FV} (h : wpC C0 26 [] [0, 1, 4, 5, 10, 14, 25] (Tryd.f54.body.getD .skip) (argsEnv 0 args) [] fun x e H₁ => (match x with | .exit _ => False | _ => True) ∧ resultOf C0 e H₁ Tryd.f54.results.toList = some r ∧ True) : PCon C0 54 args r :=
  pcon_of (C := C0) (fn := Tryd.f54) Tryd.func54 rfl (by decide) mixed (by kernel_rfl) h
theorem callable54 : callable C0.P 54 = true := by kernel_rfl
theorem callable58 : callable C0.P 58 = true := by kernel_rfl
theorem penter59 {args : List FV} {r : FV} (h : wpC C0 22 [] [0, 2, 3, 16] (Tryd.f59.body.getD .skip) (argsEnv 0 args) [] fun x e H₁ => (match x with | .exit _ => False | _ => True) ∧ resultOf C0 e H₁ Tryd.f59.results.toList = some r ∧ True) : PCon C0 59 args r :=
  pcon_of (C := C0) (fn := Tryd.f59) Tryd.func59 rfl (by decide) mixed rfl h
theorem callable59 : callable C0.P 59 = true := by kernel_rfl
theorem penter65 {args : List FV} {r : FV} (h : wpC C0 24 [13, 14, 19, 20, 21, 23] [0, 1, 2, 4, 5, 6, 7, 8, 9] (Tryd.f65.body.getD .skip) (argsEnv 0 args) [] fun x e H₁ => (match x with | .exit _ => False | _ => True) ∧ resultOf C0 e H₁ Tryd.f65.results.toList = some r ∧ True) : PCon C0 65 args r :=
  pcon_of (C := C0) (fn := Tryd.f65) Tryd.func65 rfl (by decide) mixed (by kernel_rfl) h
theorem callable65 : callable C0.P 65 = true := by kernel_rfl
theorem callable66 : callable C0.P 66 = true := by kernel_rfl
theorem penter67 {args : List FV} {r : FV} (h : wpC C0 23 [] [0, 1, 4, 5, 11] (Tryd.f67.body.getD .skip) (argsEnv 0 args) [] fun x e H₁ => (match x with | .exit _ => False | _ => True) ∧ resultOf C0 e H₁ Tryd.f67.results.toList = some r ∧ True) : PCon C0 67 args r :=
  pcon_of (C := C0) (fn := Tryd.f67) Tryd.func67 rfl (by decide) mixed rfl h
theorem callable67 : callable C0.P 67 = true := by kernel_rfl
theorem penter73 {args : List FV} {r : FV} (h : wpC C0 187 [177, 178, 179, 182] [0, 1, 4, 5, 6, 7, 8, 9, 10, 11, 12, 13, 14, 15, 16, 26, 33, 43, 51, 64, 98, 108, 124, 139, 143, 156, 160, 171, 175, 176, 177, 181, 183] (Tryd.f73.body.getD .skip) (argsEnv 0 args) [] fun x e H₁ => (match x with | .exit _ => False | _ => True) ∧ resultOf C0 e H₁ Tryd.f73.results.toList = some r ∧ True) : PCon C0 73 args r :=
  pcon_of (C := C0) (fn := Tryd.f73) Tryd.func73 rfl (by decide) mixed (by kernel_rfl) h
theorem callable73 : callable C0.P 73 = true := by kernel_rfl
theorem penter80 {args : List FV} {r : FV} (h : wpC C0 74 [] [0, 2, 3, 4, 5, 6, 21, 43, 48, 51, 59] (Tryd.f80.body.getD .skip) (argsEnv 0 args) [] fun x e H₁ => (match x with | .exit _ => False | _ => True) ∧ resultOf C0 e H₁ Tryd.f80.results.toList = some r ∧ True) : PCon C0 80 args r :=
  pcon_of (C := C0) (fn := Tryd.f80) Tryd.func80 rfl (by decide) mixed (by kernel_rfl) h
theorem callable80 : callable C0.P 80 = true := by kernel_rfl
theorem penter81 {args : List FV} {r : FV} (h : wpC C0 42 [19, 29, 40] [0, 1, 2, 4, 5, 6, 8, 9, 10, 11, 12, 16, 17, 27, 33] (Tryd.f81.body.getD .skip) (argsEnv 0 args) [] fun x e H₁ => (match x with | .exit _ => False | _ => True) ∧ resultOf C0 e H₁ Tryd.f81.results.toList = some r ∧ True) : PCon C0 81 args r :=
  pcon_of (C := C0) (fn := Tryd.f81) Tryd.func81 rfl (by decide) mixed (by kernel_rfl) h
theorem callable81 : callable C0.P 81 = true := by kernel_rfl
theorem penter83 {args : List FV} {r : FV} (h : wpC C0 8 [] [0, 2, 4] (Tryd.f83.body.getD .skip) (argsEnv 0 args) [] fun x e H₁ => (match x with | .exit _ => False | _ => True) ∧ resultOf C0 e H₁ Tryd.f83.results.toList = some r ∧ True) : PCon C0 83 args r :=
  pcon_of (C := C0) (fn := Tryd.f83) Tryd.func83 rfl (by decide) mixed rfl h
theorem callable83 : callable C0.P 83 = true := by kernel_rfl
theorem callable84 : callable C0.P 84 = true := by kernel_rfl
theorem callable87 : callable C0.P 87 = true := by kernel_rfl
theorem penter93 {args : List FV} {r : FV} (h : wpC C0 22 [12, 13, 14, 21] [0, 2, 3, 4, 5, 8] (Tryd.f93.body.getD .skip) (argsEnv 0 args) [] fun x e H₁ => (match x with | .exit _ => False | _ => True) ∧ resultOf C0 e H₁ Tryd.f93.results.toList = some r ∧ True) : PCon C0 93 args r :=
  pcon_of (C := C0) (fn := Tryd.f93) Tryd.func93 rfl (by decide) mixed rfl h
theorem callable93 : callable C0.P 93 = true := by kernel_rfl
theorem enter94 {args : List FV} {H H' : Heap} {r : FV} (h : wpC C0 18 [10] [0, 1, 2] (Tryd.f94.body.getD .skip) (argsEnv 0 args) H fun x e H₁ => (match x with | .exit _ => False | _ => True) ∧ resultOf C0 e H₁ Tryd.f94.results.toList = some r ∧ H₁ = H') : Con C0 94 args H r H' :=
  con_of (C := C0) (fn := Tryd.f94) Tryd.func94 rfl (by decide) mixed rfl h
theorem callable94 : callable C0.P 94 = true := by kernel_rfl
theorem enter95 {args : List FV} {H H' : Heap} {r : FV} (h : wpC C0 92 [] [0, 1, 4, 5, 15, 36, 40, 45, 51, 55, 60, 66, 72, 74, 87] (Tryd.f95.body.getD .skip) (argsEnv 0 args) H fun x e H₁ => (match x with | .exit _ => False | _ => True) ∧ resultOf C0 e H₁ Tryd.f95.results.toList = some r ∧ H₁ = H') : Con C0 95 args H r H' :=
  con_of (C := C0) (fn := Tryd.f95) Tryd.func95 rfl (by decide) mixed (by kernel_rfl) h
theorem callable95 : callable C0.P 95 = true := by kernel_rfl
theorem penter96 {args : List FV} {r : FV} (h : wpC C0 21 [] [0, 2, 3, 16] (Tryd.f96.body.getD .skip) (argsEnv 0 args) [] fun x e H₁ => (match x with | .exit _ => False | _ => True) ∧ resultOf C0 e H₁ Tryd.f96.results.toList = some r ∧ True) : PCon C0 96 args r :=
  pcon_of (C := C0) (fn := Tryd.f96) Tryd.func96 rfl (by decide) mixed rfl h
theorem callable96 : callable C0.P 96 = true := by kernel_rfl
theorem enter97 {args : List FV} {H H' : Heap} {r : FV} (h : wpC C0 19 [10] [0, 1, 2] (Tryd.f97.body.getD .skip) (argsEnv 0 args) H fun x e H₁ => (match x with | .exit _ => False | _ => True) ∧ resultOf C0 e H₁ Tryd.f97.results.toList = some r ∧ H₁ = H') : Con C0 97 args H r H' :=
  con_of (C := C0) (fn := Tryd.f97) Tryd.func97 rfl (by decide) mixed rfl h
theorem callable97 : callable C0.P 97 = true := by kernel_rfl
theorem penter98 {args : List FV} {r : FV} (h : wpC C0 25 [] [0, 1, 2, 4, 5, 6, 8, 11] (Tryd.f98.body.getD .skip) (argsEnv 0 args) [] fun x e H₁ => (match x with | .exit _ => False | _ => True) ∧ resultOf C0 e H₁ Tryd.f98.results.toList = some r ∧ True) : PCon C0 98 args r :=
  pcon_of (C := C0) (fn := Tryd.f98) Tryd.func98 rfl (by decide) mixed rfl h
theorem callable98 : callable C0.P 98 = true := by kernel_rfl
theorem enter99 {args : List FV} {H H' : Heap} {r : FV} (h : wpC C0 27 [26, 4000022] [0, 1, 4, 6, 16] (Tryd.f99.body.getD .skip) (argsEnv 0 args) H fun x e H₁ => (match x with | .exit _ => False | _ => True) ∧ resultOf C0 e H₁ Tryd.f99.results.toList = some r ∧ H₁ = H') : Con C0 99 args H r H' :=
  con_of (C := C0) (fn := Tryd.f99) Tryd.func99 rfl (by decide) mixed rfl h
theorem callable99 : callable C0.P 99 = true := by kernel_rfl
theorem penter102 {args : List FV} {r : FV} (h : wpC C0 75 [73, 74] [0, 2, 3, 4, 5, 6, 8, 12, 17, 24, 31, 45, 48, 49, 50, 51, 56, 72] (Tryd.f102.body.getD .skip) (argsEnv 0 args) [] fun x e H₁ => (match x with | .exit _ => False | _ => True) ∧ resultOf C0 e H₁ Tryd.f102.results.toList = some r ∧ True) : PCon C0 102 args r :=
  pcon_of (C := C0) (fn := Tryd.f102) Tryd.func102 rfl (by decide) mixed rfl h
theorem callable102 : callable C0.P 102 = true := by kernel_rfl
theorem enter103 {args : List FV} {H H' : Heap} {r : FV} (h : wpC C0 39 [17, 18, 29, 30] [0, 1, 2, 6, 7, 8, 9, 10, 11, 12, 20, 24, 31] (Tryd.f103.body.getD .skip) (argsEnv 0 args) H fun x e H₁ => (match x with | .exit _ => False | _ => True) ∧ resultOf C0 e H₁ Tryd.f103.results.toList = some r ∧ H₁ = H') : Con C0 103 args H r H' :=
  con_of (C := C0) (fn := Tryd.f103) Tryd.func103 rfl (by decide) mixed rfl h
theorem callable103 : callable C0.P 103 = true := by kernel_rfl
theorem penter104 {args : List FV} {r : FV} (h : wpC C0 17 [] [0, 2] (Tryd.f104.body.getD .skip) (argsEnv 0 args) [] fun x e H₁ => (match x with | .exit _ => False | _ => True) ∧ resultOf C0 e H₁ Tryd.f104.results.toList = some r ∧ True) : PCon C0 104 args r :=
  pcon_of (C := C0) (fn := Tryd.f104) Tryd.func104 rfl (by decide) mixed rfl h
theorem callable104 : callable C0.P 104 = true := by kernel_rfl
theorem penter105 {args : List FV} {r : FV} (h : wpC C0 12 [] [0, 2, 3, 6, 9] (Tryd.f105.body.getD .skip) (argsEnv 0 args) [] fun x e H₁ => (match x with | .exit _ => False | _ => True) ∧ resultOf C0 e H₁ Tryd.f105.results.toList = some r ∧ True) : PCon C0 105 args r :=
  pcon_of (C := C0) (fn := Tryd.f105) Tryd.func105 rfl (by decide) mixed rfl h
theorem callable105 : callable C0.P 105 = true := by kernel_rfl
theorem enter106 {args : List FV} {H H' : Heap} {r : FV} (h : wpC C0 104 [103] [0, 1, 4, 5, 6, 7, 8, 9, 19, 23, 28, 36, 78] (Tryd.f106.body.getD .skip) (argsEnv 0 args) H fun x e H₁ => (match x with | .exit _ => False | _ => True) ∧ resultOf C0 e H₁ Tryd.f106.results.toList = some r ∧ H₁ = H') : Con C0 106 args H r H' :=
  con_of (C := C0) (fn := Tryd.f106) Tryd.func106 rfl (by decide) mixed (by kernel_rfl) h
theorem callable106 : callable C0.P 106 = true := by kernel_rfl
theorem penter107 {args : List FV} {r : FV} (h : wpC C0 55 [14, 15, 17, 42, 43, 54] [0, 2, 3, 4, 5, 6, 7, 8, 9, 16, 30, 34, 45, 53] (Tryd.f107.body.getD .skip) (argsEnv 0 args) [] fun x e H₁ => (match x with | .exit _ => False | _ => True) ∧ resultOf C0 e H₁ Tryd.f107.results.toList = some r ∧ True) : PCon C0 107 args r :=
  pcon_of (C := C0) (fn := Tryd.f107) Tryd.func107 rfl (by decide) mixed rfl h
theorem callable107 : callable C0.P 107 = true := by kernel_rfl
theorem penter108 {args : List FV} {r : FV} (h : wpC C0 14 [10, 11, 12, 13] [0, 2, 3, 4, 5] (Tryd.f108.body.getD .skip) (argsEnv 0 args) [] fun x e H₁ => (match x with | .exit _ => False | _ => True) ∧ resultOf C0 e H₁ Tryd.f108.results.toList = some r ∧ True) : PCon C0 108 args r :=
  pcon_of (C := C0) (fn := Tryd.f108) Tryd.func108 rfl (by decide) mixed rfl h
theorem callable108 : callable C0.P 108 = true := by kernel_rfl
theorem penter109 {args : List FV} {r : FV} (h : wpC C0 19 [17] [0, 1, 4, 5, 7, 8, 9, 16] (Tryd.f109.body.getD .skip) (argsEnv 0 args) [] fun x e H₁ => (match x with | .exit _ => False | _ => True) ∧ resultOf C0 e H₁ Tryd.f109.results.toList = some r ∧ True) : PCon C0 109 args r :=
  pcon_of (C := C0) (fn := Tryd.f109) Tryd.func109 rfl (by decide) mixed rfl h
theorem callable109 : callable C0.P 109 = true := by kernel_rfl
theorem penter110 {args : List FV} {r : FV} (h : wpC C0 25 [] [0, 2, 3, 4, 14] (Tryd.f110.body.getD .skip) (argsEnv 0 args) [] fun x e H₁ => (match x with | .exit _ => False | _ => True) ∧ resultOf C0 e H₁ Tryd.f110.results.toList = some r ∧ True) : PCon C0 110 args r :=
  pcon_of (C := C0) (fn := Tryd.f110) Tryd.func110 rfl (by decide) mixed rfl h
theorem callable110 : callable C0.P 110 = true := by kernel_rfl
theorem penter111 {args : List FV} {r : FV} (h : wpC C0 11 [10] [0, 2, 9] (Tryd.f111.body.getD .skip) (argsEnv 0 args) [] fun x e H₁ => (match x with | .exit _ => False | _ => True) ∧ resultOf C0 e H₁ Tryd.f111.results.toList = some r ∧ True) : PCon C0 111 args r :=
  pcon_of (C := C0) (fn := Tryd.f111) Tryd.func111 rfl (by decide) mixed rfl h
theorem callable111 : callable C0.P 111 = true := by kernel_rfl
end Go.Proofs.YtabgeenhpfnhdaaDoor.Ev
end
section
namespace Go.Proofs.YtabgeenhpfnhdaaDoor.Ev
open Go
section
variable {C : Ctx} {nt : Nat} {mv vars : List Nat} {call : Nat → FuncId → List FV → Heap → FV → Heap → Prop} {ops : Array Oper}
def KSeq (C : Ctx) (nt : Nat) (mv vars : List Nat) (b : Code) (Q : Ex → Env → Heap → Prop) : Ex → Env → Heap → Prop := fun x e H => match x with
  | .normal => wpC C nt mv vars b e H Q
  | x => Q x e H
def KBlock (id : Nat) (Q : Ex → Env → Heap → Prop) : Ex → Env → Heap → Prop := fun x e H => match x with
  | .exit i => if i = id then Q .normal e H else Q (.exit i) e H
  | x => Q x e H
def KEnd (vars : List Nat) (Q : Ex → Env → Heap → Prop) : Env → Heap → Prop := fun e H => Q .normal (keep vars e) H
def KRest (C : Ctx) (nt : Nat) (mv : List Nat) (call : Nat → FuncId → List FV → Heap → FV → Heap → Prop) (ops : Array Oper) (l : List Oper) (K : Env → Heap → Prop) : Env → Heap → Prop := fun e H => wpOps C nt mv call ops l e H K
def CondC (C : Ctx) (nt : Nat) (mv vars : List Nat) (t : Bool) (a b : Code) (e : Env) (H : Heap) (Q : Ex → Env → Heap → Prop) : Prop := Cond t (wpC C nt mv vars a e H Q) (wpC C nt mv vars b e H Q)
def LoopC (C : Ctx) (nt : Nat) (mv vars : List Nat) (c : Code) (e : Env) (H : Heap) (Q : Ex → Env → Heap → Prop) : Prop := Loop (wpC C nt mv vars c) e H Q
theorem KSeq_normal {b : Code} {Q : Ex → Env → Heap → Prop} {e : Env} {H : Heap} : KSeq C nt mv vars b Q .normal e H = wpC C nt mv vars b e H Q := rfl
theorem KSeq_exit {b : Code} {Q : Ex → Env → Heap → Prop} {e : Env} {H : Heap} {i : Nat} : KSeq C nt mv vars b Q (.exit i) e H = Q (.exit i) e H := rfl
theorem KSeq_ret {b : Code} {Q : Ex → Env → Heap → Prop} {e : Env} {H : Heap} : KSeq C nt mv vars b Q .ret e H = Q .ret e H := rfl
theorem KBlock_normal {id : Nat} {Q : Ex → Env → Heap → Prop} {e : Env} {H : Heap} : KBlock id Q .normal e H = Q .normal e H := rfl
theorem KBlock_ret {id : Nat} {Q : Ex → Env → Heap → Prop} {e : Env} {H : Heap} : KBlock id Q .ret e H = Q .ret e H := rfl
theorem KBlock_exit {id i : Nat} {Q : Ex → Env → Heap → Prop} {e : Env} {H : Heap} : KBlock id Q (.exit i) e H = if i = id then Q .normal e H else Q (.exit i) e H := rfl
theorem KEnd_apply {Q : Ex → Env → Heap → Prop} {e : Env} {H : Heap} : KEnd vars Q e H = Q .normal (keep vars e) H := rfl
theorem KRest_apply {l : List Oper} {K : Env → Heap → Prop} {e : Env} {H : Heap} : KRest C nt mv call ops l K e H = wpOps C nt mv call ops l e H K := rfl
theorem KCall_apply {e : Env} {dst : Option Nat} {K : Env → Heap → Prop} {r : FV} {H : Heap} : KCall e dst K r H = K (e.put dst r.home) H := rfl
theorem CondC_true {a b : Code} {e : Env} {H : Heap} {Q : Ex → Env → Heap → Prop} : CondC C nt mv vars true a b e H Q = wpC C nt mv vars a e H Q := by simp [CondC, Cond]
theorem CondC_false {a b : Code} {e : Env} {H : Heap} {Q : Ex → Env → Heap → Prop} : CondC C nt mv vars false a b e H Q = wpC C nt mv vars b e H Q := by simp [CondC, Cond]
theorem CondC.mk {t : Bool} {a b : Code} {e : Env} {H : Heap} {Q : Ex → Env → Heap → Prop} (h1 : t = true → wpC C nt mv vars a e H Q) (h2 : t = false → wpC C nt mv vars b e H Q) : CondC C nt mv vars t a b e H Q := ⟨h1, h2⟩
theorem NilQ.mk {l : List PV} {sg : Bool} {e : Env} {dst : Option Nat} {H : Heap} {K : Env → Heap → Prop} (h1 : l ≠ [] → K (e.put dst (.sc (.bool sg))) H) (h2 : l = [] → ∀ b, K (e.put dst (.sc (.bool b))) H) : NilQ l sg e dst H K := ⟨h1, h2⟩
section
variable {e : Env} {H : Heap} {Q : Ex → Env → Heap → Prop} {K : Env → Heap → Prop}
theorem wpC_skip : wpC C nt mv vars .skip e H Q = Q .normal e H := rfl
theorem wpC_label {l : Nat} : wpC C nt mv vars (.label l) e H Q = Q .normal e H := rfl
theorem wpC_exit {i : Nat} : wpC C nt mv vars (.exit i) e H Q = Q (.exit i) e H := rfl
theorem wpC_ret : wpC C nt mv vars .ret e H Q = Q .ret e H := rfl
theorem wpC_seq {a b : Code} : wpC C nt mv vars (.seq a b) e H Q = wpC C nt mv vars a e H (KSeq C nt mv vars b Q) := rfl
theorem wpC_block {id : Nat} {a : Code} : wpC C nt mv vars (.block id a) e H Q = wpC C nt mv vars a e H (KBlock id Q) := rfl
theorem wpC_scope {a : Code} : wpC C nt mv vars (.scope a) e H Q = wpC C nt mv vars a e H Q := rfl
theorem wpC_loop {a : Code} : wpC C nt mv vars (.loop a) e H Q = LoopC C nt mv vars a e H Q := rfl
theorem wpC_cond {c : Operand} {a b : Code} : wpC C nt mv vars (.cond c a b) e H Q = match rd C e c with
    | some (.sc (.bool t)) => CondC C nt mv vars t a b e H Q
    | _ => False := rfl
theorem wpC_region {id : Nat} {ops : Array Oper} : wpC C nt mv vars (.region id ops false) e H Q = wpOps C nt mv (fun _ => Call C) ops ops.toList e H (KEnd vars Q) := rfl
theorem wpC_regionD {id : Nat} {ops : Array Oper} : wpC C nt mv vars (.region id ops true) e H Q = (barred mv id = false ∧ DrawC C nt mv ops e H (KEnd vars Q) (ordersOf mv id)) := rfl
theorem DrawC_nil : DrawC C nt mv ops e H K [] = wpOps C nt mv (CallP C) ops ops.toList e H K := rfl
theorem DrawC.mk2 {l : List Nat} {R : List (List Nat)} (ρ : Det) (h : ∀ r ∈ l :: R, wpOps C nt mv (CallD C (det ρ)) ops (opersOf ops r) e H K) : DrawC C nt mv ops e H K (l :: R) := ⟨ρ, h⟩
def det0 (ρ : FuncId → List FV → FV) : Rho := det ⟨ρ, fun _ _ _ => (.undef, [])⟩
theorem DrawC.mk {l : List Nat} {R : List (List Nat)} (ρ : FuncId → List FV → FV) (h : ∀ r ∈ l :: R, wpOps C nt mv (CallD C (det0 ρ)) ops (opersOf ops r) e H K) : DrawC C nt mv ops e H K (l :: R) := ⟨⟨ρ, fun _ _ _ => (.undef, [])⟩, h⟩
theorem wpOps_nil : wpOps C nt mv call ops [] e H K = K e H := rfl
def WantC (C : Ctx) (nt : Nat) (mv : List Nat) (call : Nat → FuncId → List FV → Heap → FV → Heap → Prop) (ops : Array Oper) (o : Oper) (l : List Oper) (e : Env) (H : Heap) (K : Env → Heap → Prop) : Option Bool → Prop
  | some true => wpOp C nt mv call o e H (KRest C nt mv call ops l K)
  | some false => KRest C nt mv call ops l K (e.put o.dst (.tup [])) H
  | none => False
theorem WantC_true {o : Oper} {l : List Oper} : WantC C nt mv call ops o l e H K (some true) = wpOp C nt mv call o e H (KRest C nt mv call ops l K) := rfl
theorem WantC_false {o : Oper} {l : List Oper} : WantC C nt mv call ops o l e H K (some false) = KRest C nt mv call ops l K (e.put o.dst (.tup [])) H := rfl
theorem WantC_none {o : Oper} {l : List Oper} : WantC C nt mv call ops o l e H K none = False := rfl
theorem wpOps_cons {o : Oper} {l : List Oper} : wpOps C nt mv call ops (o :: l) e H K = WantC C nt mv call ops o l e H K (wanted nt ops e o) := by
  unfold wpOps WantC
  rcases wanted nt ops e o with _ | t
  · rfl
  · cases t <;> rfl
end
end
attribute [simp] handed HandQ DrawC_nil ordersOf decOrd opersOf WantC_true WantC_false WantC_none isClear boxed rowed rowOf body rowCells MoveQ ZerosQ zeroed stripO demote0 located callMode pended pendSlots PendQ setBody barred bytesConv strOf bytesFrom byteOf wpC_skip wpC_label wpC_exit wpC_ret wpC_seq wpC_block wpC_scope wpC_loop wpC_cond wpC_region wpC_regionD wpOps_nil wpOps_cons KSeq_normal KSeq_exit KSeq_ret KBlock_normal KBlock_ret KBlock_exit KEnd_apply KRest_apply KCall_apply CondC_true CondC_false
  argsEnv dstOk wanted wpOp give rd FV.ofConst FV.ofValue Env.put keep Env.get FV.home FV.homeE empd nilArg mvOf valOp demote demote1 FV.asRow FV.asList Value.cells rdAll rdParts rdo resultOf resAll resOf strip
  nilRow isAppend binOf intBin strBin unOf convOf lenOf foldMin foldMax minFrom maxFrom sliceOf loOf hiOf partOf fieldOf aggOf buildOf fillOf fieldPlaces FV.cells FV.ofValues FV.toPV FV.leafPV allPV PV.toFV PV.leaves
  FV.isLeaf PV.isLeaf FV.noPtr FV.np0 FV.np1 splice eqAll
theorem CallQ.mk {call : FuncId → List FV → Heap → FV → Heap → Prop} {f : FuncId} {args : List FV} {H H' : Heap} {r : FV} {K : FV → Heap → Prop} (h : call f args H r H') (hK : K r H') : CallQ call f args H K := ⟨r, H', h, hK⟩
theorem Call.pure {C : Ctx} {f : FuncId} {args : List FV} {H : Heap} {r : FV} (hc : callable C.P f = true) (ha : args.all FV.noPtr = true) (hr : r.noPtr = true) (h : PCon C f args r) : Call C f args H r H :=
  ⟨hc, .inl ⟨rfl, ha, hr, h⟩⟩
theorem CallP.pure {C : Ctx} {f : FuncId} {args : List FV} {H : Heap} {r : FV} (hc : callable C.P f = true) (ha : args.all FV.noPtr = true) (hr : r.noPtr = true) (h : PCon C f args r) : CallP C 0 f args H r H := by
  simp only [CallP, if_true]
  exact ⟨hc, rfl, ha, hr, h⟩
theorem CallD.pure {C : Ctx} {ρ : Rho} {f : FuncId} {args : List FV} {H : Heap} {r : FV} (hc : callable C.P f = true) (ha : args.all FV.noPtr = true) (hr : r.noPtr = true) (h : PCon C f args r) (hρ : ρ.p f args r) : CallD C ρ 0 f args H r H := by
  simp only [CallD, if_true]
  exact ⟨⟨hc, rfl, ha, hr, h⟩, hρ⟩
theorem CallP.shared {C : Ctx} {f : FuncId} {args : List FV} {H : Heap} {r : FV} {H' : Heap} (hc : callable C.P f = true) (h : Con C f args H r H') : CallP C 1 f args H r H' := by
  show (if (1 : Nat) = 0 then _ else if (1 : Nat) = 2 then _ else _)
  rw [if_neg (by decide), if_neg (by decide)]
  exact ⟨hc, .inr h⟩
theorem CallD.shared {C : Ctx} {ρ : Rho} {f : FuncId} {args : List FV} {H : Heap} {r : FV} {H' : Heap} (hc : callable C.P f = true) (h : Con C f args H r H') (hρ : ρ.q f args H r H') : CallD C ρ 1 f args H r H' := by
  show (if (1 : Nat) = 0 then _ else if (1 : Nat) = 2 then _ else _)
  rw [if_neg (by decide), if_neg (by decide)]
  exact ⟨⟨hc, .inr h⟩, hρ⟩
theorem Call.shared {C : Ctx} {f : FuncId} {args : List FV} {H : Heap} {r : FV} {H' : Heap} (hc : callable C.P f = true) (h : Con C f args H r H') : Call C f args H r H' := ⟨hc, .inr h⟩
theorem loop_of {step : Env → Heap → (Ex → Env → Heap → Prop) → Prop} {Q : Ex → Env → Heap → Prop} (hm : ∀ e H Q Q', (∀ x e H, Q x e H → Q' x e H) → step e H Q → step e H Q') (I : Nat → Env → Heap → Prop)
    (round : ∀ d e H, I d e H → step e H fun x e' H' => match x with | .normal => ∃ d' < d, I d' e' H' | x => Q x e' H') : ∀ d e H, I d e H → Loop step e H Q := by
  have key : ∀ n d e H, d ≤ n → I d e H → iterP step (n + 1) e H Q := by
    intro n
    induction n with
    | zero =>
      intro d e H hd hI
      refine hm _ _ _ _ (fun x e' H' h => ?_) (round d e H hI)
      cases x with
      | normal => obtain ⟨d', h1, _⟩ := h; omega
      | exit i => exact h
      | ret => exact h
    | succ n ih =>
      intro d e H hd hI
      refine hm _ _ _ _ (fun x e' H' h => ?_) (round d e H hI)
      cases x with
      | normal => obtain ⟨d', h1, h2⟩ := h; exact ih d' e' H' (by omega) h2
      | exit i => exact h
      | ret => exact h
  exact fun d e H h => ⟨d + 1, key d d e H (Nat.le_refl _) h⟩
theorem wpOp_mono' {C : Ctx} {nt : Nat} {mv : List Nat} {call : Nat → FuncId → List FV → Heap → FV → Heap → Prop} {o : Oper} {e : Env} {H : Heap} {K K' : Env → Heap → Prop} (hh : ∀ e H, K e H → K' e H) (h : wpOp C nt mv call o e H K) : wpOp C nt mv call o e H K' := by
  unfold wpOp at h ⊢
  refine ⟨h.1, ?_⟩
  have h := h.2
  split at h
  · split at h
    · exact hh _ _ h
    · exact h.elim
  · split at h
    · rename_i hm
      rw [if_pos hm]
      split at h
      · exact hh _ _ h
      · exact h.elim
    · rename_i hm
      rw [if_neg hm]
      split at h
      · exact hh _ _ h
      · exact h.elim
  · split at h
    · rename_i hm
      rw [if_pos hm]
      split at h
      · split at h
        · exact hh _ _ h
        · exact h.elim
      · exact h.elim
    · rename_i hm
      rw [if_neg hm]
      split at h
      · exact hh _ _ h
      · exact h.elim
  · split at h
    · rename_i hm
      rw [if_pos hm]
      split at h
      · split at h
        · exact hh _ _ h
        · exact h.elim
      · split at h
        · exact ⟨h.1, hh _ _ h.2⟩
        · exact h.elim
      · split at h
        · obtain ⟨h1, h⟩ := h
          refine ⟨h1, ?_⟩
          split at h
          · exact hh _ _ h
          · exact h.elim
        · exact h.elim
      · exact h.elim
    · rename_i hm
      rw [if_neg hm]
      split at h
      · exact hh _ _ h
      · exact h.elim
  · split at h
    · split at h
      · exact hh _ _ h
      · exact h.elim
    · exact h.elim
  · split at h
    · split at h
      · exact ⟨h.1, hh _ _ h.2⟩
      · exact h.elim
    · exact h.elim
  · split at h
    · split at h
      · exact ⟨h.1, h.2.1, h.2.2.1, hh _ _ h.2.2.2⟩
      · exact h.elim
    · split at h
      · exact ⟨h.1, h.2.1, h.2.2.1, h.2.2.2.1, hh _ _ h.2.2.2.2⟩
      · exact h.elim
    · obtain ⟨h0, h⟩ := h
      refine ⟨h0, ?_⟩
      split at h
      · split at h
        · split at h
          · exact ⟨h.1, h.2.1, h.2.2.1, h.2.2.2.1, hh _ _ h.2.2.2.2⟩
          · exact h.elim
        · exact ⟨h.1, h.2.1, h.2.2.1, h.2.2.2.1, hh _ _ h.2.2.2.2⟩
        · exact h.elim
      · exact h.elim
    · exact h.elim
  · split at h
    · rename_i hm
      rw [if_pos hm]
      split at h
      · split at h
        · split at h
          · obtain ⟨h1, h2, h3, h4, h5, h⟩ := h
            exact ⟨h1, h2, h3, h4, h5, hh _ _ h⟩
          · exact h.elim
        · exact h.elim
      · exact h.elim
    rename_i hm
    rw [if_neg hm]
    split at h
    · split at h
      · obtain ⟨h1, h2, h3, h4, h⟩ := h
        refine ⟨h1, h2, h3, h4, ?_⟩
        split at h
        · exact ⟨h.1, hh _ _ h.2⟩
        · exact h.elim
      · exact h.elim
    · exact h.elim
  · split at h
    · rename_i hm
      rw [if_pos hm]
      split at h
      · exact hh _ _ h
      · exact hh _ _ h
      · exact hh _ _ h
      · exact hh _ _ h
      · split at h
        · exact ⟨fun hl => hh _ _ (h.1 hl), fun hl b => hh _ _ (h.2 hl b)⟩
        · exact h.elim
      · split at h
        · exact ⟨fun hl => hh _ _ (h.1 hl), fun hl b => hh _ _ (h.2 hl b)⟩
        · exact h.elim
      · exact h.elim
    · rename_i hm
      rw [if_neg hm]
      split at h
      · exact hh _ _ h
      · exact h.elim
  · split at h
    · exact hh _ _ h
    · split at h
      · exact hh _ _ h
      · exact h.elim
  · split at h
    · split at h
      · rename_i hm
        rw [if_pos hm]
        unfold HandQ at h ⊢
        split at h
        · split at h
          · obtain ⟨r, h1, h2, h3, h4, hK⟩ := h
            exact ⟨r, h1, h2, h3, h4, hh _ _ hK⟩
          · exact h.elim
        · exact h.elim
      rename_i hm
      rw [if_neg hm]
      split at h
      · obtain ⟨r, H', hc, hK⟩ := h
        exact ⟨r, H', hc, hh _ _ hK⟩
      · exact h.elim
    · split at h
      · rename_i hm
        rw [if_pos hm]
        unfold PendQ at h ⊢
        split at h
        · split at h
          · split at h
            · split at h
              · obtain ⟨h1, h2, h3, h4, h5, h6, h7, h⟩ := h
                exact ⟨h1, h2, h3, h4, h5, h6, h7, fun k o => hh _ _ (h k o)⟩
              · exact h.elim
            · exact h.elim
          · exact h.elim
        · exact h.elim
      rename_i hp0
      rw [if_neg hp0]
      split at h
      · rename_i hm
        rw [if_pos hm]
        unfold ZerosQ at h ⊢
        split at h
        · split at h
          · split at h
            · obtain ⟨h1, h2, h3, h4, h5, h6, h⟩ := h
              exact ⟨h1, h2, h3, h4, h5, h6, hh _ _ h⟩
            · exact h.elim
          · exact h.elim
        · exact h.elim
      rename_i hz0
      rw [if_neg hz0]
      split at h
      · rename_i hm
        rw [if_pos hm]
        split at h
        · split at h
          · split at h
            · split at h
              · obtain ⟨hr, h⟩ := h
                refine ⟨hr, ?_⟩
                split at h
                · obtain ⟨h1, h2, h3, h4, h5, h6, h7, h8, h9, h⟩ := h
                  exact ⟨h1, h2, h3, h4, h5, h6, h7, h8, h9, hh _ _ h⟩
                · exact h.elim
              · split at h
                · rename_i hrw
                  rw [if_pos hrw]
                  obtain ⟨h1, h2, h3, h4, h5, h6, h7, h8, h⟩ := h
                  exact ⟨h1, h2, h3, h4, h5, h6, h7, h8, hh _ _ h⟩
                rename_i hrw
                rw [if_neg hrw]
                split at h
                · rename_i hbx
                  rw [if_pos hbx]
                  obtain ⟨h1, h2, h3, h4, h5, h6, h7, h8, h⟩ := h
                  exact ⟨h1, h2, h3, h4, h5, h6, h7, h8, hh _ _ h⟩
                · rename_i hbx
                  rw [if_neg hbx]
                  obtain ⟨h1, h2, h3, h4, h5, h6, h7, h⟩ := h
                  exact ⟨h1, h2, h3, h4, h5, h6, h7, hh _ _ h⟩
              · obtain ⟨h1, h2, h3, h4, h⟩ := h
                refine ⟨h1, h2, h3, h4, ?_⟩
                unfold MoveQ at h ⊢
                split at h
                · split at h
                  · obtain ⟨p1, p2, p3, p4, p5, h⟩ := h
                    refine ⟨p1, p2, p3, p4, p5, ?_⟩
                    split at h
                    · exact ⟨h.1, h.2.1, hh _ _ h.2.2⟩
                    · split at h
                      · obtain ⟨p1, p2, p3, p4, p5, h⟩ := h
                        exact ⟨p1, p2, p3, p4, p5, hh _ _ h⟩
                      · exact h.elim
                    · exact h.elim
                  · exact h.elim
                · exact h.elim
              · exact h.elim
            · exact h.elim
          · exact h.elim
        · exact h.elim
      · rename_i hm
        rw [if_neg hm]
        split at h
        · rename_i hc
          rw [if_pos hc]
          split at h
          · split at h
            · split at h
              · obtain ⟨h1, h2, h3, h⟩ := h
                exact ⟨h1, h2, h3, hh _ _ h⟩
              · exact h.elim
            · exact hh _ _ h
            · exact h.elim
          · exact h.elim
        · rename_i hc
          rw [if_neg hc]
          split at h
          · exact hh _ _ h
          · exact h.elim
    · exact h.elim
  · split at h
    · exact hh _ _ h
    · exact h.elim
theorem wpOps_mono' {C : Ctx} {nt : Nat} {mv : List Nat} {call : Nat → FuncId → List FV → Heap → FV → Heap → Prop} {ops : Array Oper} {K K' : Env → Heap → Prop} (hh : ∀ e H, K e H → K' e H) : ∀ {l : List Oper} {e : Env} {H : Heap}, wpOps C nt mv call ops l e H K → wpOps C nt mv call ops l e H K'
  | [], e, H, h => hh e H h
  | o :: l, e, H, h => by
    unfold wpOps at h ⊢
    split at h
    · exact wpOp_mono' (fun e H h => wpOps_mono' hh h) h
    · exact wpOps_mono' hh h
    · exact h.elim
theorem iterP_mono {step : Env → Heap → (Ex → Env → Heap → Prop) → Prop} (hm : ∀ e H Q Q', (∀ x e H, Q x e H → Q' x e H) → step e H Q → step e H Q') {Q Q' : Ex → Env → Heap → Prop} (hh : ∀ x e H, Q x e H → Q' x e H) : ∀ {k : Nat} {e : Env} {H : Heap}, iterP step k e H Q → iterP step k e H Q'
  | 0, _, _, h => h
  | k + 1, e, H, h => by
    unfold iterP at h ⊢
    refine hm _ _ _ _ (fun x e' H' h => ?_) h
    cases x with
    | normal => exact iterP_mono hm hh h
    | exit i => exact hh _ _ _ h
    | ret => exact hh _ _ _ h
theorem wpC_mono {C : Ctx} {nt : Nat} {mv vars : List Nat} : ∀ (c : Code) (e : Env) (H : Heap) (Q Q' : Ex → Env → Heap → Prop), (∀ x e H, Q x e H → Q' x e H) → wpC C nt mv vars c e H Q → wpC C nt mv vars c e H Q' := by
  intro c
  induction c with
  | skip => exact fun e H Q Q' hh h => hh _ _ _ h
  | label l => exact fun e H Q Q' hh h => hh _ _ _ h
  | exit id => exact fun e H Q Q' hh h => hh _ _ _ h
  | ret => exact fun e H Q Q' hh h => hh _ _ _ h
  | region id ops draw =>
    intro e H Q Q' hh h
    cases draw with
    | false => exact wpOps_mono' (fun e H h => hh _ _ _ h) (l := ops.toList) h
    | true =>
      refine ⟨h.1, ?_⟩
      have h := h.2
      revert h
      cases ordersOf mv id with
      | nil => exact fun h => wpOps_mono' (fun e H h => hh _ _ _ h) h
      | cons l R => exact fun ⟨ρ, h⟩ => ⟨ρ, fun r hr => wpOps_mono' (fun e H h => hh _ _ _ h) (h r hr)⟩
  | seq a b iha ihb =>
    intro e H Q Q' hh h
    refine iha _ _ _ _ (fun x e H h => ?_) h
    cases x with
    | normal => exact ihb _ _ _ _ hh h
    | exit i => exact hh _ _ _ h
    | ret => exact hh _ _ _ h
  | cond c a b iha ihb =>
    intro e H Q Q' hh h
    unfold wpC at h ⊢
    split at h
    · exact ⟨fun ht => iha _ _ _ _ hh (h.1 ht), fun ht => ihb _ _ _ _ hh (h.2 ht)⟩
    · exact h.elim
  | block id c ih =>
    intro e H Q Q' hh h
    refine ih _ _ _ _ (fun x e H h => ?_) h
    cases x with
    | normal => exact hh _ _ _ h
    | ret => exact hh _ _ _ h
    | exit i =>
      simp only at h ⊢
      split
      · rename_i hi; rw [if_pos hi] at h; exact hh _ _ _ h
      · rename_i hi; rw [if_neg hi] at h; exact hh _ _ _ h
  | loop c ih =>
    intro e H Q Q' hh h
    obtain ⟨k, hk⟩ := h
    exact ⟨k, iterP_mono ih hh hk⟩
  | scope c ih => exact fun e H Q Q' hh h => ih _ _ _ _ hh h
  | rangeFunc => exact fun e H Q Q' _ h => h.elim
  | goto => exact fun e H Q Q' _ h => h.elim
  | refuse => exact fun e H Q Q' _ h => h.elim
def KLoop (I : Nat → Env → Heap → Prop) (d : Nat) (Q : Ex → Env → Heap → Prop) : Ex → Env → Heap → Prop := fun x e H => match x with
  | .normal => ∃ d', d' < d ∧ I d' e H
  | x => Q x e H
theorem KLoop_normal {I : Nat → Env → Heap → Prop} {d : Nat} {Q : Ex → Env → Heap → Prop} {e : Env} {H : Heap} : KLoop I d Q .normal e H = ∃ d', d' < d ∧ I d' e H := rfl
theorem KLoop_exit {I : Nat → Env → Heap → Prop} {d : Nat} {Q : Ex → Env → Heap → Prop} {e : Env} {H : Heap} {i : Nat} : KLoop I d Q (.exit i) e H = Q (.exit i) e H := rfl
theorem KLoop_ret {I : Nat → Env → Heap → Prop} {d : Nat} {Q : Ex → Env → Heap → Prop} {e : Env} {H : Heap} : KLoop I d Q .ret e H = Q .ret e H := rfl
attribute [simp] KLoop_normal KLoop_exit KLoop_ret
theorem loopC {C : Ctx} {nt : Nat} {mv vars : List Nat} {c : Code} {Q : Ex → Env → Heap → Prop} (I : Nat → Env → Heap → Prop) {d : Nat} {e : Env} {H : Heap} (h0 : I d e H)
    (round : ∀ d e H, I d e H → wpC C nt mv vars c e H (KLoop I d Q)) : LoopC C nt mv vars c e H Q :=
  loop_of (wpC_mono c) I (fun d e H h => wpC_mono c _ _ _ _ (fun x e H h => by cases x <;> exact h) (round d e H h)) d e H h0
end Go.Proofs.YtabgeenhpfnhdaaDoor.Ev
end
section
namespace Go.Proofs.YtabgeenhpfnhdaaDoor.Ev
open Go
theorem heap_at {H L : List (List FV)} {k : Nat} : (H ++ L)[H.length + k]? = L[k]? := by
  rw [List.getElem?_append_right (by omega)]; congr 1; omega
theorem heap_at0 {H L : List (List FV)} : (H ++ L)[H.length]? = L[0]? := heap_at (k := 0)
theorem heap_set {H L : List (List FV)} {k : Nat} {x : List FV} : (H ++ L).set (H.length + k) x = H ++ L.set k x := by
  have := List.set_append_right (s := H) (t := L) (H.length + k) x (by omega)
  rw [this]; congr 2; omega
theorem heap_set0 {H L : List (List FV)} {x : List FV} : (H ++ L).set H.length x = H ++ L.set 0 x := heap_set (k := 0)
attribute [simp] heap_at heap_at0 heap_set heap_set0 List.append_assoc
theorem wrap64 {n : Int} (h0 : -9223372036854775808 ≤ n) (h1 : n ≤ 9223372036854775807) : IntKind.i64.wrap n = n := by
  simp only [IntKind.wrap, IntKind.signed, IntKind.bits]
  simp
  omega
structure Glyph where
  r : Int
  s : Int
  deriving DecidableEq
def Glyph.pv (g : Glyph) : PV := .agg [.int .i32 g.r, .int .u8 g.s]
def gl (l : List Glyph) : PV := .sl (l.map Glyph.pv)
def sumBy {α : Type} (f : α → Nat) : List α → Nat
  | [] => 0
  | x :: l => f x + sumBy f l
theorem sumBy_append {α : Type} (f : α → Nat) (l m : List α) : sumBy f (l ++ m) = sumBy f l + sumBy f m := by
  induction l with
  | nil => simp [sumBy]
  | cons x l ih => rw [List.cons_append, sumBy, sumBy, ih]; omega
theorem sumBy_take {α : Type} (f : α → Nat) {l : List α} {i : Nat} (h : i < l.length) : sumBy f (l.take (i + 1)) = sumBy f (l.take i) + f l[i] := by
  rw [List.take_succ_eq_append_getElem h, sumBy_append]; simp [sumBy]
theorem sumBy_take_le {α : Type} (f : α → Nat) (l : List α) (i : Nat) : sumBy f (l.take i) ≤ sumBy f l := by
  conv => rhs; rw [← List.take_append_drop i l, sumBy_append]
  congr 1; omega
theorem map_at {α : Type} {f : α → PV} {l : List α} {i : Nat} (h : i < l.length) : (l.map f)[i]? = some (f l[i]) := by
  simp [h]
end Go.Proofs.YtabgeenhpfnhdaaDoor.Ev
end
section
namespace Go.Proofs.YtabgeenhpfnhdaaDoor.Ev
open Go
theorem take_succ_eq {α : Type} {a b : List α} {i : Nat} (ha : i < a.length) (hb : i < b.length) : a.take (i + 1) = b.take (i + 1) ↔ a.take i = b.take i ∧ a[i] = b[i] := by
  rw [List.take_succ_eq_append_getElem ha, List.take_succ_eq_append_getElem hb]
  constructor
  · intro h
    obtain ⟨h1, h2⟩ := List.append_inj h (by simp; omega)
    exact ⟨h1, by simpa using h2⟩
  · rintro ⟨h1, h2⟩; rw [h1, h2]
end Go.Proofs.YtabgeenhpfnhdaaDoor.Ev
end
section
namespace Go.Proofs.YtabgeenhpfnhdaaDoor.Ev
open Go
theorem wrapInc {i : Nat} (h : i < 4611686018427387904) : IntKind.i64.wrap ((i : Int) + 1) = ((i + 1 : Nat) : Int) := by
  rw [wrap64 (by omega) (by omega)]; omega
set_option maxRecDepth 20000 in
theorem refSame (a b : List Glyph) (ha : a.length ≤ 4611686018427387904) : PCon C0 54 [.sc (gl a), .sc (gl b)] (.sc (.bool (decide (a = b)))) := by
  refine penter54 ?_
  simp [Tryd.f54, gl]
  refine CondC.mk (fun h => ?_) (fun h => ?_)
  · simp at h
    simp
    intro hab; subst hab; exact h rfl
  · simp at h
    simp
    refine loopC (fun d e H => ∃ i x14 x25, d = a.length - i ∧ i ≤ a.length ∧ a.take i = b.take i ∧ e = [(0, FV.sc (PV.sl (List.map Glyph.pv a))), (1, FV.sc (PV.sl (List.map Glyph.pv b))), (4, FV.sc (PV.bool false)),
      (5, FV.sc (.int .i64 (i : Nat))), (10, FV.sc (PV.bool !decide ((a.length : Int) = b.length))), (14, x14), (25, x25)]) (d := a.length) ⟨0, .undef, .undef, ?_⟩ ?_
    · simp [h]
    · rintro d e H ⟨i, x14, x25, rfl, hi, heq, rfl⟩
      simp
      refine CondC.mk (fun hlt => ?_) (fun hlt => ?_)
      · simp at hlt
        have hib : i < b.length := by omega
        simp [hlt, hib, Glyph.pv]
        refine CondC.mk (fun hne => ?_) (fun hne => ?_)
        · simp at hne
          simp
          intro hab; subst hab
          simp at hne
        · simp at hne
          simp [wrapInc (i := i) (by omega)]
          refine ⟨a.length - (i + 1), by omega, i + 1, rfl, by omega, (take_succ_eq hlt hib).2 ⟨heq, ?_⟩, by simp⟩
          cases hx : a[i]; cases hy : b[i]; simp_all
      · simp at hlt
        simp
        rw [List.take_of_length_le hlt, List.take_of_length_le (by omega)] at heq
        exact heq
set_option maxRecDepth 20000 in
theorem refSameRows (a b : List (List Glyph)) (ha : a.length ≤ 4611686018427387904) (hs : ∀ x ∈ a, x.length ≤ 4611686018427387904) : PCon C0 38 [.sc (.sl (a.map gl)), .sc (.sl (b.map gl))] (.sc (.bool (decide (a = b)))) := by
  refine penter38 ?_
  simp [Tryd.f38]
  refine CondC.mk (fun h => ?_) (fun h => ?_)
  · simp at h
    simp
    intro hab; subst hab; exact h rfl
  · simp at h
    simp
    refine loopC (fun d e H => ∃ i x14 x26, d = a.length - i ∧ i ≤ a.length ∧ a.take i = b.take i ∧ e = [(0, FV.sc (PV.sl (List.map gl a))), (1, FV.sc (PV.sl (List.map gl b))), (4, FV.sc (PV.bool false)),
      (5, FV.sc (.int .i64 (i : Nat))), (10, FV.sc (PV.bool !decide ((a.length : Int) = b.length))), (14, x14), (26, x26)]) (d := a.length) ⟨0, .undef, .undef, ?_⟩ ?_
    · simp [h]
    · rintro d e H ⟨i, x14, x26, rfl, hi, heq, rfl⟩
      simp
      refine CondC.mk (fun hlt => ?_) (fun hlt => ?_)
      · simp at hlt
        have hib : i < b.length := by omega
        simp [hlt, hib]
        refine CallQ.mk (CallP.pure callable54 (by simp) (by simp) (refSame a[i] b[i] (hs _ (List.getElem_mem hlt)))) ?_
        simp
        refine CondC.mk (fun hne => ?_) (fun hne => ?_)
        · simp at hne
          simp
          intro hab; subst hab
          simp at hne
        · simp at hne
          simp [wrapInc (i := i) (by omega)]
          exact ⟨a.length - (i + 1), by omega, i + 1, rfl, by omega, (take_succ_eq hlt hib).2 ⟨heq, hne⟩, by simp⟩
      · simp at hlt
        simp
        rw [List.take_of_length_le hlt, List.take_of_length_le (by omega)] at heq
        exact heq
end Go.Proofs.YtabgeenhpfnhdaaDoor.Ev
end
section
namespace Go.Proofs.YtabgeenhpfnhdaaDoor.Ev
open Go
structure TRow where
  rule : Bool
  cells : List (List Glyph)
deriving DecidableEq
def TRow.pv (x : TRow) : PV := .agg [.bool x.rule, .sl (x.cells.map gl)]
def TRow.ok (x : TRow) : Prop := x.cells.length ≤ 4611686018427387904 ∧ ∀ c ∈ x.cells, c.length ≤ 4611686018427387904
end Go.Proofs.YtabgeenhpfnhdaaDoor.Ev
end
section
namespace Go.Proofs.YtabgeenhpfnhdaaDoor.Ev
open Go
structure Tbl where
  cols : ByteArray
  rows : List TRow
  box : Bool
  all : Bool
deriving DecidableEq
def Tbl.cells (t : Tbl) : List PV := [.str t.cols, .sl (t.rows.map TRow.pv), .bool t.box, .bool t.all]
def Tbl.pv (t : Tbl) : PV := .agg [.str t.cols, .sl (t.rows.map TRow.pv), .bool t.box, .bool t.all]
def Tbl.ok (t : Tbl) : Prop := t.rows.length ≤ 4611686018427387904 ∧ ∀ c ∈ t.rows, c.ok
set_option maxRecDepth 20000 in
theorem refTableSame (a b : Tbl) (ha : a.ok) : PCon C0 21 [a.pv.toFV, b.pv.toFV] (.sc (.bool (decide (a = b)))) := by
  refine penter21 ?_
  by_cases h1 : a.cols = b.cols
  · cases h2 : a.box == b.box
    · have hn : a ≠ b := by intro h; subst h; simp at h2
      simp [Tryd.f21, Tbl.pv, h1, h2, hn]
    · cases h3 : a.all == b.all
      · have hn : a ≠ b := by intro h; subst h; simp at h3
        simp [Tryd.f21, Tbl.pv, h1, h2, h3, hn]
      · by_cases h4 : (a.rows.length : Int) = b.rows.length
        · simp [Tryd.f21, Tbl.pv, h1, h2, h3, h4]
          refine loopC (fun d e H => ∃ i x0 x1 x33 x38 x69, d = a.rows.length - i ∧ i ≤ a.rows.length ∧ a.rows.take i = b.rows.take i ∧
            H = [[FV.sc (PV.str b.cols), FV.sc (PV.sl (List.map TRow.pv a.rows)), FV.sc (PV.bool a.box), FV.sc (PV.bool a.all)], [FV.sc (PV.str b.cols), FV.sc (PV.sl (List.map TRow.pv b.rows)), FV.sc (PV.bool b.box), FV.sc (PV.bool b.all)]] ∧
            e = [(0, x0), (1, x1), (2, FV.ptr 0 0), (3, FV.ptr 1 0), (4, FV.sc (PV.bool false)), (5, FV.sc (.int .i64 (i : Nat))), (33, x33), (38, x38), (69, x69)]) (d := a.rows.length) ⟨0, _, _, _, _, _, rfl, by omega, rfl, rfl, rfl⟩ ?_
          rintro d e H ⟨i, x0, x1, x33, x38, x69, rfl, hi, heq, rfl, rfl⟩
          simp
          refine CondC.mk (fun hlt => ?_) (fun hlt => ?_)
          · simp at hlt
            have hib : i < b.rows.length := by omega
            cases hr : a.rows[i].rule == b.rows[i].rule
            · have hn : a ≠ b := by intro h; subst h; simp at hr
              simp [hlt, hib, TRow.pv, hr, hn]
            · simp [hlt, hib, TRow.pv, hr]
              have hok := ha.2 _ (List.getElem_mem hlt)
              refine CallQ.mk (CallP.pure callable38 (by simp) (by simp) (refSameRows a.rows[i].cells b.rows[i].cells hok.1 hok.2)) ?_
              simp
              refine CondC.mk (fun hne => ?_) (fun hne => ?_)
              · have hn : a ≠ b := by intro h; subst h; simp at hne
                simp [hn]
              · simp at hne
                simp [wrapInc (i := i) (by have := ha.1; omega)]
                refine ⟨a.rows.length - (i + 1), by omega, i + 1, rfl, by omega, (take_succ_eq hlt hib).2 ⟨heq, ?_⟩, by simp⟩
                cases hx : a.rows[i]; cases hy : b.rows[i]; simp_all
          · simp at hlt
            simp
            rw [List.take_of_length_le hlt, List.take_of_length_le (by omega)] at heq
            cases a; cases b; simp_all
        · have hn : a ≠ b := by intro h; subst h; simp at h4
          simp [Tryd.f21, Tbl.pv, h1, h2, h3, h4, hn]
  · have hn : a ≠ b := by intro h; subst h; simp at h1
    simp [Tryd.f21, Tbl.pv, h1, hn]
end Go.Proofs.YtabgeenhpfnhdaaDoor.Ev
end
section
namespace Go.Proofs.YtabgeenhpfnhdaaDoor.Ev
open Go
inductive Node where
  | mk (kind line n : Int) (text : List Glyph) (kids : List Node) (rows : List (List Glyph)) (grid : Tbl)
namespace Node
def kind : Node → Int | mk k _ _ _ _ _ _ => k
def line : Node → Int | mk _ k _ _ _ _ _ => k
def n : Node → Int | mk _ _ k _ _ _ _ => k
def text : Node → List Glyph | mk _ _ _ k _ _ _ => k
def kids : Node → List Node | mk _ _ _ _ k _ _ => k
def rows : Node → List (List Glyph) | mk _ _ _ _ _ k _ => k
def grid : Node → Tbl | mk _ _ _ _ _ _ k => k
@[simp] theorem kind_mk {k l m : Int} {t : List Glyph} {c : List Node} {r : List (List Glyph)} {g : Tbl} : (mk k l m t c r g).kind = k := rfl
@[simp] theorem line_mk {k l m : Int} {t : List Glyph} {c : List Node} {r : List (List Glyph)} {g : Tbl} : (mk k l m t c r g).line = l := rfl
@[simp] theorem n_mk {k l m : Int} {t : List Glyph} {c : List Node} {r : List (List Glyph)} {g : Tbl} : (mk k l m t c r g).n = m := rfl
@[simp] theorem text_mk {k l m : Int} {t : List Glyph} {c : List Node} {r : List (List Glyph)} {g : Tbl} : (mk k l m t c r g).text = t := rfl
@[simp] theorem kids_mk {k l m : Int} {t : List Glyph} {c : List Node} {r : List (List Glyph)} {g : Tbl} : (mk k l m t c r g).kids = c := rfl
@[simp] theorem rows_mk {k l m : Int} {t : List Glyph} {c : List Node} {r : List (List Glyph)} {g : Tbl} : (mk k l m t c r g).rows = r := rfl
@[simp] theorem grid_mk {k l m : Int} {t : List Glyph} {c : List Node} {r : List (List Glyph)} {g : Tbl} : (mk k l m t c r g).grid = g := rfl
mutual
def pv : Node → PV
  | mk kind line n text kids rows grid => .agg [.int .i64 kind, .int .i64 line, .int .i64 n, gl text, .sl (pvs kids), .sl (rows.map gl), .str grid.cols, .sl (grid.rows.map TRow.pv), .bool grid.box, .bool grid.all]
def pvs : List Node → List PV
  | [] => []
  | x :: l => x.pv :: pvs l
end
theorem pvs_eq (l : List Node) : pvs l = l.map pv := by
  induction l with
  | nil => rw [pvs]; rfl
  | cons x l ih => rw [pvs, ih]; rfl
theorem pv_eq (x : Node) : x.pv = .agg [.int .i64 x.kind, .int .i64 x.line, .int .i64 x.n, gl x.text, .sl (x.kids.map pv), .sl (x.rows.map gl), .str x.grid.cols, .sl (x.grid.rows.map TRow.pv), .bool x.grid.box, .bool x.grid.all] := by
  cases x; rw [pv, pvs_eq]; rfl
inductive Ok : Node → Prop
  | mk {kind line n : Int} {text : List Glyph} {kids : List Node} {rows : List (List Glyph)} {grid : Tbl}
    (ht : text.length ≤ 4611686018427387904) (hk : kids.length ≤ 4611686018427387904) (hks : ∀ x ∈ kids, Ok x) (hr : rows.length ≤ 4611686018427387904) (hrs : ∀ x ∈ rows, x.length ≤ 4611686018427387904) (hg : grid.ok) : Ok (.mk kind line n text kids rows grid)
end Node
end Go.Proofs.YtabgeenhpfnhdaaDoor.Ev
end
section
namespace Go.Proofs.YtabgeenhpfnhdaaDoor.Ev
open Go
theorem Node.Ok.all {x : Node} (h : x.Ok) : x.text.length ≤ 4611686018427387904 ∧ x.kids.length ≤ 4611686018427387904 ∧ (∀ y ∈ x.kids, y.Ok) ∧ x.rows.length ≤ 4611686018427387904 ∧ (∀ y ∈ x.rows, y.length ≤ 4611686018427387904) ∧ x.grid.ok := by
  cases h; exact ⟨by assumption, by assumption, by assumption, by assumption, by assumption, by assumption⟩
theorem Node.kids_lt {x : Node} {l : List Node} (h : x ∈ l) : SizeOf.sizeOf x.kids < SizeOf.sizeOf l := by
  have h1 := List.sizeOf_lt_of_mem h
  have h2 : SizeOf.sizeOf x.kids < SizeOf.sizeOf x := by cases x; simp only [kids_mk, mk.sizeOf_spec]; omega
  omega
end Go.Proofs.YtabgeenhpfnhdaaDoor.Ev
end
section
namespace Go.Proofs.YtabgeenhpfnhdaaDoor.Ev
open Go
theorem wrapL {k : IntKind} {a b : Int} : k.wrap (k.wrap a + b) = k.wrap (a + b) := by
  cases k <;> simp [IntKind.wrap, IntKind.signed, IntKind.bits] <;> (try split) <;> (try split) <;> omega
theorem wrapR {k : IntKind} {a b : Int} : k.wrap (a + k.wrap b) = k.wrap (a + b) := by rw [Int.add_comm, wrapL, Int.add_comm]
end Go.Proofs.YtabgeenhpfnhdaaDoor.Ev
end
section
namespace Go.Proofs.YtabgeenhpfnhdaaDoor.Ev
open Go
def rowsLong (l : List (List Glyph)) : Nat := sumBy (fun r => 1 + r.length) l
def trowLong (r : TRow) : Nat := 1 + r.cells.length + sumBy List.length r.cells
namespace Node
mutual
def long : Node → Nat
  | mk _ _ _ text kids rows grid => 3 + text.length + grid.cols.size + longs kids + rowsLong rows + sumBy trowLong grid.rows
def longs : List Node → Nat
  | [] => 0
  | x :: l => x.long + longs l
end
theorem longs_eq (l : List Node) : longs l = sumBy long l := by
  induction l with
  | nil => rw [longs]; rfl
  | cons x l ih => rw [longs, ih]; rfl
theorem long_eq (x : Node) : x.long = 3 + x.text.length + x.grid.cols.size + sumBy long x.kids + rowsLong x.rows + sumBy trowLong x.grid.rows := by cases x; rw [long, longs_eq]; rfl
end Node
set_option maxRecDepth 20000 in
set_option maxHeartbeats 4000000 in
theorem refLong : ∀ (n : Nat) (a : List Node), SizeOf.sizeOf a < n → (∀ x ∈ a, x.Ok) → a.length ≤ 4611686018427387904 → PCon C0 18 [.sc (.sl (a.map Node.pv))] (.sc (.int .i64 (IntKind.i64.wrap (sumBy Node.long a : Nat)))) := by
  intro n
  induction n with
  | zero => intro a h; omega
  | succ n ih =>
    intro a hn hok hla
    refine penter18 ?_
    simp [Tryd.f18]
    refine loopC (fun d e H => ∃ i x2 x5 x6 x7 x8 x12 x46 x69 x90, d = a.length - i ∧ i ≤ a.length ∧
      e = [(0, FV.sc (PV.sl (List.map Node.pv a))), (2, x2), (3, FV.sc (.int .i64 (IntKind.i64.wrap (sumBy Node.long (a.take i) : Nat)))), (4, FV.sc (.int .i64 (i : Nat))), (5, x5), (6, x6), (7, x7), (8, x8), (12, x12), (46, x46), (69, x69), (90, x90)]) (d := a.length) ⟨0, _, _, _, _, _, _, _, _, _, rfl, by omega, rfl⟩ ?_
    rintro d e H ⟨i, x2, x5, x6, x7, x8, x12, x46, x69, x90, rfl, hi, rfl⟩
    simp
    refine CondC.mk (fun hlt => ?_) (fun hlt => ?_)
    · simp at hlt
      have ea := Node.pv_eq a[i]
      have hx := (hok _ (List.getElem_mem hlt)).all
      have ht := sumBy_take Node.long hlt
      rw [Node.long_eq a[i]] at ht
      have hk := ih a[i].kids (by have := Node.kids_lt (List.getElem_mem hlt); omega) hx.2.2.1 hx.2.1
      simp [hlt, ea, gl]
      refine CallQ.mk (CallP.pure callable18 (by simp) (by simp) hk) ?_
      generalize hS : sumBy Node.long (List.take i a) = S at *
      generalize hK : sumBy Node.long a[i].kids = K at *
      simp [wrapL, wrapR]
      obtain ⟨B, hB⟩ : ∃ B : Nat, B = S + 3 + a[i].text.length + a[i].grid.cols.size + K := ⟨_, rfl⟩
      have hB' : (S : Int) + 3 + a[i].text.length + a[i].grid.cols.size + K = B := by omega
      rw [hB']
      refine loopC (fun d e H => ∃ k x2 x6 x7 x8 x12 x46 x69 x90, d = a[i].rows.length - k ∧ k ≤ a[i].rows.length ∧
        e = [(0, FV.sc (PV.sl (List.map Node.pv a))), (2, x2), (3, FV.sc (.int .i64 (IntKind.i64.wrap (B + rowsLong (a[i].rows.take k) : Nat)))), (4, FV.sc (.int .i64 (i : Nat))), (5, FV.sc (.int .i64 (k : Nat))), (6, x6), (7, x7), (8, x8), (12, x12), (46, x46), (69, x69), (90, x90)]) (d := a[i].rows.length) ⟨0, x2, x6, x7, x8, .sc (.bool true), x46, x69, x90, rfl, by omega, by simp [rowsLong, sumBy]⟩ ?_
      rintro d e H ⟨k, x2, x6, x7, x8, x12, x46, x69, x90, rfl, hk', rfl⟩
      simp [hlt, ea, gl]
      refine CondC.mk (fun hlk => ?_) (fun hlk => ?_)
      · simp at hlk
        have hr' := sumBy_take (fun r : List Glyph => 1 + r.length) hlk
        have hrl := hx.2.2.2.1
        change rowsLong _ = rowsLong _ + _ at hr'
        generalize hR : rowsLong (List.take k a[i].rows) = R at *
        simp [hlt, ea, gl, hlk, wrapL, wrapR, wrapInc (i := k) (by omega)]
        refine ⟨a[i].rows.length - (k + 1), by omega, k + 1, rfl, by omega, ?_, by omega⟩
        congr 1; omega
      · simp at hlk
        simp [List.take_of_length_le hlk]
        clear hk' hlk
        have hgl := hx.2.2.2.2.2
        obtain ⟨D, hD⟩ : ∃ D : Nat, D = B + rowsLong a[i].rows := ⟨_, rfl⟩
        have hD' : (B : Int) + (rowsLong a[i].rows : Nat) = D := by omega
        rw [hD']
        refine loopC (fun d e H => ∃ k x2 x5 x7 x8 x12 x46 x69 x90, d = a[i].grid.rows.length - k ∧ k ≤ a[i].grid.rows.length ∧
          e = [(0, FV.sc (PV.sl (List.map Node.pv a))), (2, x2), (3, FV.sc (.int .i64 (IntKind.i64.wrap (D + sumBy trowLong (a[i].grid.rows.take k) : Nat)))), (4, FV.sc (.int .i64 (i : Nat))), (5, x5), (6, FV.sc (.int .i64 (k : Nat))), (7, x7), (8, x8), (12, x12), (46, x46), (69, x69), (90, x90)]) (d := a[i].grid.rows.length) ⟨0, x2, .sc (.int .i64 k), x7, x8, x12, .sc (.bool (decide (k < a[i].rows.length))), x69, x90, rfl, by omega, by simp [sumBy]⟩ ?_
        rintro d e H ⟨k, x2, x5, x7, x8, x12, x46, x69, x90, rfl, hk', rfl⟩
        simp [hlt, ea, gl]
        refine CondC.mk (fun hlk => ?_) (fun hlk => ?_)
        · simp at hlk
          have hr' := sumBy_take trowLong hlk
          have hc := hgl.2 _ (List.getElem_mem hlk)
          generalize hR : sumBy trowLong (List.take k a[i].grid.rows) = R at *
          simp only [trowLong] at hr'
          simp [hlt, ea, gl, hlk, TRow.pv, wrapL, wrapR]
          obtain ⟨M, hM⟩ : ∃ M : Nat, M = D + R + 1 + a[i].grid.rows[k].cells.length := ⟨_, rfl⟩
          have hM' : (D : Int) + R + 1 + a[i].grid.rows[k].cells.length = M := by omega
          rw [hM']
          refine loopC (fun d e H => ∃ j x2 x5 x12 x46 x69 x90, d = a[i].grid.rows[k].cells.length - j ∧ j ≤ a[i].grid.rows[k].cells.length ∧
            e = [(0, FV.sc (PV.sl (List.map Node.pv a))), (2, x2), (3, FV.sc (.int .i64 (IntKind.i64.wrap (M + sumBy List.length (a[i].grid.rows[k].cells.take j) : Nat)))), (4, FV.sc (.int .i64 (i : Nat))), (5, x5), (6, FV.sc (.int .i64 (k : Nat))), (7, FV.sc (PV.sl (List.map gl a[i].grid.rows[k].cells))), (8, FV.sc (.int .i64 (j : Nat))), (12, x12), (46, x46), (69, x69), (90, x90)]) (d := a[i].grid.rows[k].cells.length) ⟨0, x2, x5, x12, x46, .sc (.bool true), x90, rfl, by omega, by simp [sumBy]⟩ ?_
          rintro d e H ⟨j, x2, x5, x12, x46, x69, x90, rfl, hj', rfl⟩
          simp
          refine CondC.mk (fun hlj => ?_) (fun hlj => ?_)
          · simp at hlj
            have hs' := sumBy_take List.length hlj
            generalize hT : sumBy List.length (List.take j a[i].grid.rows[k].cells) = T at *
            simp [gl, hlj, wrapL, wrapR, wrapInc (i := j) (by have := hc.1; omega)]
            refine ⟨a[i].grid.rows[k].cells.length - (j + 1), by omega, j + 1, rfl, by omega, ?_, by omega⟩
            congr 1; omega
          · simp at hlj
            simp [List.take_of_length_le hlj, wrapInc (i := k) (by have := hgl.1; omega)]
            refine ⟨a[i].grid.rows.length - (k + 1), by omega, k + 1, rfl, by omega, ?_, by omega⟩
            congr 1; omega
        · simp at hlk
          simp [List.take_of_length_le hlk, wrapInc (i := i) (by omega)]
          refine ⟨a.length - (i + 1), by omega, i + 1, rfl, by omega, ?_, by omega⟩
          congr 1; omega
    · simp at hlt
      simp [List.take_of_length_le hlt]
end Go.Proofs.YtabgeenhpfnhdaaDoor.Ev
end
section
namespace Go.Proofs.YtabgeenhpfnhdaaDoor.Ev
open Go
def sqStep (s : List Glyph × Bool) (g : Glyph) : List Glyph × Bool :=
  if g.r = 32 then (s.1, true) else ((if s.2 = true ∧ s.1 ≠ [] then s.1 ++ [⟨32, 0⟩] else s.1) ++ [g], false)
def sqAll (l : List Glyph) : List Glyph × Bool := l.foldl sqStep ([], false)
def squeeze (l : List Glyph) : List Glyph := (sqAll l).1
theorem sqAll_take {l : List Glyph} {i : Nat} (h : i < l.length) : sqAll (l.take (i + 1)) = sqStep (sqAll (l.take i)) l[i] := by
  rw [List.take_succ_eq_append_getElem h, sqAll, List.foldl_append]; rfl
theorem sqAll_len (l : List Glyph) : (sqAll l).1.length ≤ 2 * l.length := by
  have : ∀ (l : List Glyph) (s : List Glyph × Bool), (l.foldl sqStep s).1.length ≤ s.1.length + 2 * l.length := by
    intro l
    induction l with
    | nil => intro s; simp
    | cons g l ih =>
      intro s
      have h1 := ih (sqStep s g)
      have h2 : (sqStep s g).1.length ≤ s.1.length + 2 := by
        unfold sqStep; split
        · simp
        · split <;> simp
      rw [List.foldl_cons, List.length_cons]; omega
  have := this l ([], false)
  simpa [sqAll] using this
set_option maxRecDepth 20000 in
set_option maxHeartbeats 4000000 in
theorem treeSqueeze (l : List Glyph) (hl : l.length ≤ 1073741824) : PCon C0 53 [.sc (gl l)] (.own ((squeeze l).map Glyph.pv)) := by
  refine penter53 ?_
  simp [Tryd.f53, gl]
  refine loopC (fun d e H => ∃ i x2 x6 x10 x17 x23, d = l.length - i ∧ i ≤ l.length ∧
    e = [(0, FV.sc (PV.sl (List.map Glyph.pv l))), (2, x2), (3, FV.own ((sqAll (l.take i)).1.map Glyph.pv)), (4, FV.sc (PV.bool (sqAll (l.take i)).2)), (6, x6), (7, FV.sc (PV.sl (List.map Glyph.pv l))), (8, FV.sc (PV.int IntKind.i64 l.length)),
      (9, FV.sc (PV.int IntKind.i64 (i : Nat))), (10, x10), (17, x17), (23, x23)]) (d := l.length) ⟨0, .own [], .undef, .undef, .undef, .undef, rfl, by omega, by simp [sqAll]⟩ ?_
  rintro d e H ⟨i, x2, x6, x10, x17, x23, rfl, hi, rfl⟩
  simp
  refine CondC.mk (fun hlt => ?_) (fun hlt => ?_)
  · simp at hlt
    have hlen := sqAll_len (l.take i)
    have ht := sqAll_take hlt
    generalize hS : sqAll (l.take i) = S at *
    obtain ⟨out, wants⟩ := S
    simp [hlt, Glyph.pv]
    have hout : out.length ≤ 2147483648 := by
      simp only [List.length_take] at hlen; omega
    have fin : ∀ (o : List Glyph) (w : Bool) (q : List PV), sqStep (out, wants) l[i] = (o, w) → q = o.map Glyph.pv → ∃ d', d' < l.length - i ∧ ∃ k, d' = l.length - k ∧ k ≤ l.length ∧
        q = List.map Glyph.pv (sqAll (List.take k l)).fst ∧ (sqAll (List.take k l)).snd = w ∧ (i : Int) + 1 = (k : Nat) := by
      intro o w q ho hq
      refine ⟨l.length - (i + 1), by omega, i + 1, rfl, by omega, ?_, ?_, by omega⟩
      · rw [ht, ho, hq]
      · rw [ht, ho]
    refine CondC.mk (fun h32 => ?_) (fun h32 => ?_)
    · simp at h32
      simp [wrapInc (i := i) (by omega)]
      exact fin out true _ (by simp [sqStep, h32]) rfl
    · simp at h32
      cases wants
      · simp [wrapInc (i := i) (by omega), Sized]
        refine ⟨fun g _ => rfl, by unfold lenMax; omega, fin (out ++ [l[i]]) false _ (by simp [sqStep, h32]) (by simp [Glyph.pv])⟩
      · by_cases ho : out = []
        · subst ho
          simp [wrapInc (i := i) (by omega), Sized]
          exact ⟨by unfold lenMax; omega, fin [l[i]] false _ (by simp [sqStep, h32]) (by simp [Glyph.pv])⟩
        · have hp : 0 < out.length := List.length_pos_iff.2 ho
          simp [wrapInc (i := i) (by omega), Sized, hp]
          refine ⟨fun g _ => rfl, by unfold lenMax; omega, ?_, by unfold lenMax; omega, fin (out ++ [⟨32, 0⟩] ++ [l[i]]) false _ (by simp [sqStep, h32, ho]) (by simp [Glyph.pv])⟩
          rintro p (⟨g, _, rfl⟩ | rfl) <;> rfl
  · simp at hlt
    simp [List.take_of_length_le hlt, squeeze]
end Go.Proofs.YtabgeenhpfnhdaaDoor.Ev
end
section
namespace Go.Proofs.YtabgeenhpfnhdaaDoor.Ev
open Go
def isSide (b : UInt8) : Bool := b == 108 || b == 99 || b == 114
def mendCols (c : ByteArray) : ByteArray := ⟨(if (c.data.toList.filter isSide).take 20 = [] then [108] else (c.data.toList.filter isSide).take 20).toArray⟩
def mendRow (n : Nat) (r : TRow) : TRow := ⟨r.rule, if r.rule = true then [] else (List.range n).map fun k => if k < r.cells.length then squeeze (r.cells.getD k []) else []⟩
def mendT (t : Tbl) : Tbl := ⟨mendCols t.cols, t.rows.map (mendRow (mendCols t.cols).size), t.box, t.all && t.box⟩
end Go.Proofs.YtabgeenhpfnhdaaDoor.Ev
end
section
namespace Go.Proofs.YtabgeenhpfnhdaaDoor.Ev
open Go
def below (n : Nat) : Root → Bool
  | .box i => decide (i < n)
  | _ => true
theorem only_some {W : Wd} {p : Root → Bool} {b : Nat} {q : Root} {k : Nat} (h : W.o b = some (q, k)) (hp : p q = true) : (W.only p).o b = some (q, k) := by
  simp [Wd.only, h, hp]
theorem only_of {W : Wd} {p : Root → Bool} {b : Nat} {q : Root} {k : Nat} (h : (W.only p).o b = some (q, k)) : W.o b = some (q, k) := by
  simp only [Wd.only] at h
  split at h
  · rename_i q' k' hq
    split at h
    · rw [hq]; exact h
    · simp at h
  · simp at h
def FV.und0 (n : Nat) : FV → Bool
  | .sc _ | .own _ | .emp | .ea _ | .nilp => true
  | .ptr b _ | .bs b _ _ | .gr b _ _ _ | .gp b _ _ => decide (b < n)
  | .fn _ [] [] => true
  | _ => false
def FV.und1 (n : Nat) : FV → Bool
  | .agg l => l.all (FV.und0 n)
  | .fn _ a b => a.all (FV.und0 n) && b.all (FV.und0 n)
  | .sc _ | .own _ | .emp | .ea _ | .nilp => true
  | .ptr b _ | .bs b _ _ | .gr b _ _ _ | .gp b _ _ => decide (b < n)
  | _ => false
def FV.under (n : Nat) : FV → Bool
  | .tup l => l.all (FV.und1 n)
  | .oagg l => l.all (FV.und0 n)
  | .agg l => l.all (FV.und0 n)
  | .fn _ a b => a.all (FV.und0 n) && b.all (FV.und0 n)
  | .sc _ | .own _ | .emp | .ea _ | .nilp => true
  | .ptr b _ | .bs b _ _ | .gr b _ _ _ | .gp b _ _ => decide (b < n)
  | _ => false
theorem FV.und_np {n : Nat} {f : FV} (h : f.np0 = true) : f.und0 n = true := by
  cases f with
  | fn f a b => cases a <;> cases b <;> simp_all [FV.np0, FV.und0]
  | _ => simp_all [FV.np0, FV.und0]
section
variable {A B : Wd} {r r' : Root} {n : Nat} (hc : ∀ b off, off < A.lim b → B.w.cell? ⟨b, off, none⟩ = A.w.cell? ⟨b, off, none⟩) (hl : ∀ b, A.lim b ≤ B.lim b)
    (hs : ∀ (b : Nat) (c : Array Value) (T : TypeId) (fz : Nat × Nat), A.w.heap[b]? = some (Obj.cells c T fz) → ∃ c' : Array Value, B.w.heap[b]? = some (Obj.cells c' T fz) ∧ c'.size = c.size)
    (hb : ∀ b i, i < n → A.o b = some (.box i, 0) → A.β i = b → B.β i = b ∧ B.o b = some (.box i, 0))
    (hw : ∀ i, i < n → A.gen i ≤ B.gen i ∧ (B.gen i = A.gen i → A.o (A.β i) = some (.box i, 1) → B.β i = A.β i ∧ B.o (A.β i) = some (.box i, 1)))
include hc hl hs hb hw
theorem FRep.und0 {q : Option Root} (hh : q = some r → ∀ b i, A.o b = some (r, i) → B.o b = some (r', i) ∧ B.lim b = A.lim b) {i : Nat} {f : FV} {v : Value} (h : FRep A q i f v) (hq : q = none ∨ q = some r) (hn : f.und0 n = true) : FRep B (q.map fun _ => r') i f v := by
  by_cases h0 : f.np0 = true
  · exact h.np0 hc hl hs hh hq h0
  cases h with
  | ptr h1 =>
    obtain ⟨q1, q2⟩ := hb _ _ (by simpa [FV.und0] using hn) h1 rfl
    rw [← q1]
    exact .ptr (by rw [q1]; exact q2)
  | bs h1 h2 =>
    obtain ⟨q1, q2⟩ := hb _ _ (by simpa [FV.und0] using hn) h1 rfl
    rw [← q1]
    exact .bs (by rw [q1]; exact q2) h2
  | @gr _ _ b g z n' cap A' hg hnn hcc =>
    obtain ⟨h1, h2⟩ := hw b (by simpa [FV.und0] using hn)
    refine .gr (Nat.le_trans hg h1) hnn fun hB => ?_
    have hA := Nat.le_antisymm (hB ▸ h1) hg
    obtain ⟨q1, q2, c, T, fz, q3, q4⟩ := hcc hA
    obtain ⟨h3, h4⟩ := h2 (hB.trans hA.symm) q2
    obtain ⟨c', hc', hsz⟩ := hs _ _ _ _ q3
    exact ⟨by rw [h3]; exact q1, by rw [h3]; exact h4, c', T, fz, by rw [h3]; exact hc', by rw [hsz]; exact q4⟩
  | @gp _ _ b g off A' hg hcc =>
    obtain ⟨h1, h2⟩ := hw b (by simpa [FV.und0] using hn)
    refine .gp (Nat.le_trans hg h1) fun hB => ?_
    have hA := Nat.le_antisymm (hB ▸ h1) hg
    obtain ⟨q1, q2⟩ := hcc hA
    obtain ⟨h3, h4⟩ := h2 (hB.trans hA.symm) q2
    exact ⟨by rw [h3]; exact q1, by rw [h3]; exact h4⟩
  | nilp => exact .nilp
  | sc => simp [FV.np0] at h0
  | own => simp [FV.np0] at h0
  | emp => simp [FV.np0] at h0
  | ea => simp [FV.np0] at h0
  | @fn _ _ f first cap fs cs a b c d => cases first <;> cases cap <;> simp_all [FV.np0, FV.und0]
  | undef => simp [FV.und0] at hn
  | ext => simp [FV.und0] at hn
  | exr => simp [FV.und0] at hn
  | exq => simp [FV.und0] at hn
  | agg => simp [FV.und0] at hn
  | tup => simp [FV.und0] at hn
  | oagg => simp [FV.und0] at hn
theorem FRep.und1 {q : Option Root} (hh : q = some r → ∀ b i, A.o b = some (r, i) → B.o b = some (r', i) ∧ B.lim b = A.lim b) {i : Nat} {f : FV} {v : Value} (h : FRep A q i f v) (hq : q = none ∨ q = some r) (hn : f.und1 n = true) : FRep B (q.map fun _ => r') i f v := by
  by_cases h0 : f.und0 n = true
  · exact h.und0 hc hl hs hb hw hh hq h0
  cases h with
  | agg a b =>
    refine .agg a fun j g u hg hu => ?_
    have := List.all_eq_true.1 hn g (List.mem_of_getElem? hg)
    exact (b j g u hg hu).und0 (r := r) (r' := r') hc hl hs hb hw (by simp) (.inl rfl) this
  | @fn _ _ f first cap fs cs a b c d =>
    simp only [FV.und1, Bool.and_eq_true] at hn
    refine .fn a b (fun j g u hg hu => ?_) (fun j g u hg hu => ?_)
    · exact (c j g u hg hu).und0 (r := r) (r' := r') hc hl hs hb hw (by simp) (.inl rfl) (List.all_eq_true.1 hn.1 g (List.mem_of_getElem? hg))
    · exact (d j g u hg hu).und0 (r := r) (r' := r') hc hl hs hb hw (by simp) (.inl rfl) (List.all_eq_true.1 hn.2 g (List.mem_of_getElem? hg))
  | _ => simp_all [FV.und1, FV.und0]
theorem FRep.under {q : Option Root} (hh : q = some r → ∀ b i, A.o b = some (r, i) → B.o b = some (r', i) ∧ B.lim b = A.lim b) {i : Nat} {f : FV} {v : Value} (h : FRep A q i f v) (hq : q = none ∨ q = some r) (hn : f.under n = true) : FRep B (q.map fun _ => r') i f v := by
  by_cases h0 : f.und1 n = true
  · exact h.und1 hc hl hs hb hw hh hq h0
  cases h with
  | tup a b =>
    refine .tup a fun j g u hg hu => ?_
    have := List.all_eq_true.1 hn g (List.mem_of_getElem? hg)
    exact (b j g u hg hu).und1 hc hl hs hb hw hh hq this
  | oagg a b =>
    refine .oagg a fun j g u hg hu => ?_
    have := List.all_eq_true.1 hn g (List.mem_of_getElem? hg)
    exact (b j g u hg hu).und0 hc hl hs hb hw hh hq this
  | _ => simp_all [FV.under, FV.und1]
end
theorem GenOk.congr {A B : Wd} {b : Nat} {fs : List FV} (hg : B.gen b = A.gen b) (h : GenOk A b fs) : GenOk B b fs := by
  rcases kind_cases fs with ⟨_, _, k⟩ | ⟨g, l, rfl⟩
  · exact k _ _
  · exact hg.trans h
def Wd.forget (W : Wd) (n : Nat) : Wd := { W.only (below n) with gen := fun b => if b < n then W.gen b else 0 }
theorem forget_o {W : Wd} {n b : Nat} : (W.forget n).o b = (W.only (below n)).o b := rfl
theorem HInv.trim {C : Ctx} {H : Heap} {W : Wd} {n : Nat} (h : HInv C H W) (hp : ∀ fs ∈ H.take n, ∀ f ∈ body fs, f.und0 n = true) : HInv C (H.take n) (W.forget n) := by
  refine ⟨fun b fs hfs => ?_, h.laid, fun b hb => ⟨(h.fresh b hb).1, ?_⟩, fun b i k hb => ?_, fun b hb => ?_, h.kept.same rfl fun b hb => only_none fun q k hq => by rw [hb] at hq; simp at hq⟩
  · have hm := List.mem_of_getElem? hfs
    have hbn : b < n := by
      have := (List.getElem?_eq_some_iff.1 hfs).1
      simp at this; omega
    have hfs' : H[b]? = some fs := by
      rw [List.getElem?_take, if_pos hbn] at hfs
      exact hfs
    obtain ⟨h1, h2, c, T, fz, h3, h4, h5, h6⟩ := h.box b fs hfs'
    refine ⟨⟨only_some h1.1 (by simp [below, hbn]), h1.2.congr (by simp [Wd.forget, hbn])⟩, h2, c, T, fz, h3, h4, h5, fun i f v hf hv => ⟨(h6 i f v hf hv).1, ?_⟩⟩
    exact (h6 i f v hf hv).2.und0 (A := W) (r := .leaf b i) (r' := .leaf b i) (n := n) (B := W.forget n) (fun _ _ _ => rfl) (fun _ => Nat.le_refl _) (fun _ c _ _ h => ⟨c, h, rfl⟩) (fun b' i' hi hb' hβ => ⟨hβ, only_some hb' (by simp [below, hi])⟩) (fun i' hi => ⟨by simp [Wd.forget, hi], fun _ ho => ⟨rfl, only_some ho (by simp [below, hi])⟩⟩) (fun _ b' i' hb' => ⟨only_some hb' rfl, rfl⟩) (.inr rfl) (hp fs hm f (List.mem_of_getElem? hf))
  · exact only_none fun q k hq => by rw [(h.fresh b hb).2] at hq; simp at hq
  · have h1 := only_of hb
    have h2 : below n (.box i) = true := by
      rw [forget_o] at hb
      simp only [Wd.only, h1] at hb
      split at hb
      · assumption
      · simp at hb
    have h3 := h.boxes b i k h1
    simp [below] at h2
    simp; omega
  · simp only [Wd.forget]
    split
    · exact h.gen0 b (by simp at hb; omega)
    · rfl
theorem Evo.forget {C : Ctx} {H : Heap} {W W' : Wd} (hH : HInv C H W) (h : Evo W W' (fun _ _ => False)) : Evo W (W'.forget H.length) (fun _ _ => False) := by
  refine Evo.of h.os h.tape h.output h.size h.cell h.lim h.shape (fun _ _ _ _ hk => hk.elim) (fun b i hbi hβ => ?_) (fun i => ?_) (fun b hlt hbo => ?_)
  · obtain ⟨q1, q2⟩ := h.beta b i hbi hβ
    exact ⟨q1, only_some q2 (by simp [below]; exact hH.boxes b i 0 hbi)⟩
  · obtain ⟨q1, q2⟩ := h.row i
    by_cases hi : i < H.length
    · have hg : (W'.forget H.length).gen i = W'.gen i := by simp [Wd.forget, hi]
      rw [hg]
      refine ⟨q1, fun hq ho => ?_⟩
      obtain ⟨q3, q4⟩ := q2 hq ho
      exact ⟨q3, only_some q4 (by simp [below, hi])⟩
    · refine ⟨by rw [hH.gen0 i (by omega)]; exact Nat.zero_le _, fun _ ho => absurd (hH.boxes _ i 1 ho) hi⟩
  · obtain ⟨q1, q2, q3⟩ := h.away b hlt hbo
    exact ⟨q1, q2, only_none fun q k hq => by rw [q3] at hq; simp at hq⟩
section
variable {C : Ctx} {f : FuncId} {fn : Func} {c : Code} {args : List FV} {H H' : Heap} {r : FV} {mv vars : List Nat} (hf : C.P.funcs[f]? = some fn) (hb : fn.body = some c) (hn : (resTmps fn.results.toList).Nodup) (hmix : C.P.follows .mixedOrders = true) (hk : codeOk mv c = true)
include hf hb hn hmix hk
theorem con_trimU (hr : r.under H.length = true) (hp : ∀ fs ∈ H', ∀ f ∈ body fs, f.und0 H.length = true)
    (h : wpC C fn.ntmps mv vars c (argsEnv 0 args) H fun x e H₁ => (match x with | .exit _ => False | _ => True) ∧ resultOf C e H₁ fn.results.toList = some r ∧ H₁.take H.length = H') : Con C f args H r H' :=
  fun vs W hl hargs hH _ => (con_gen (G := fun H₁ => H₁.take H.length = H') hf hb hn hmix hk h vs W hl hargs hH).mono fun _ _ ⟨v, W', H₁, h1, h2, h3, h4, h5, h6⟩ => by
    refine ⟨v, W'.forget H.length, h1, h2, ?_, h3 ▸ h5.trim (h3 ▸ hp), h6.forget hH⟩
    exact h4.under (A := W') (B := W'.forget H.length) (r := .res) (r' := .res) (n := H.length) (fun _ _ _ => rfl) (fun _ => Nat.le_refl _) (fun _ c _ _ h => ⟨c, h, rfl⟩) (fun b' i' hi hb' hβ => ⟨hβ, only_some hb' (by simp [below, hi])⟩) (fun i' hi => ⟨by simp [Wd.forget, hi], fun _ ho => ⟨rfl, only_some ho (by simp [below, hi])⟩⟩) (fun _ b' i' hb' => ⟨only_some hb' rfl, rfl⟩) (.inr rfl) hr
end
theorem heap_old {H L : List (List FV)} {b : Nat} (h : b < H.length) : (H ++ L)[b]? = H[b]? := List.getElem?_append_left h
theorem heap_old_set {H L : List (List FV)} {b : Nat} {x : List FV} (h : b < H.length) : (H ++ L).set b x = H.set b x ++ L := List.set_append_left b x h
theorem heap_old_take_set {H L : List (List FV)} {b : Nat} {x : List FV} : (H.set b x ++ L).take H.length = H.set b x := by
  have : H.length = (H.set b x).length := by simp
  rw [this]; simp only [List.take_left']
end Go.Proofs.YtabgeenhpfnhdaaDoor.Ev
end
section
namespace Go.Proofs.YtabgeenhpfnhdaaDoor.Ev
open Go
def Node.withKids (x : Node) (l : List Node) : Node := .mk x.kind x.line x.n x.text l x.rows x.grid
end Go.Proofs.YtabgeenhpfnhdaaDoor.Ev
end
section
namespace Go.Proofs.YtabgeenhpfnhdaaDoor.Ev
open Go
section
variable {H L : Heap} {b k : Nat} {v w : List FV}
theorem hs_b (h : b < H.length) : (H.set b v ++ L)[b]? = some v := by rw [List.getElem?_append_left (by simpa using h)]; simp [h]
theorem hs_set (h : b < H.length) : (H.set b v ++ L).set b w = H.set b w ++ L := by rw [List.set_append_left _ _ (by simpa using h)]; simp
theorem hs_at : (H.set b v ++ L)[H.length + k]? = L[k]? := by
  have := heap_at (H := H.set b v) (L := L) (k := k)
  simpa only [List.length_set] using this
theorem hs_at0 : (H.set b v ++ L)[H.length]? = L[0]? := hs_at (k := 0)
theorem hs_put : (H.set b v ++ L).set (H.length + k) w = H.set b v ++ L.set k w := by
  have := heap_set (H := H.set b v) (L := L) (k := k) (x := w)
  simpa only [List.length_set] using this
theorem hs_put0 : (H.set b v ++ L).set H.length w = H.set b v ++ L.set 0 w := hs_put (k := 0)
end
section
variable (x : Node) (l : List Node)
@[simp] theorem Node.kind_wk : (x.withKids l).kind = x.kind := rfl
@[simp] theorem Node.line_wk : (x.withKids l).line = x.line := rfl
@[simp] theorem Node.n_wk : (x.withKids l).n = x.n := rfl
@[simp] theorem Node.text_wk : (x.withKids l).text = x.text := rfl
@[simp] theorem Node.kids_wk : (x.withKids l).kids = l := rfl
@[simp] theorem Node.rows_wk : (x.withKids l).rows = x.rows := rfl
@[simp] theorem Node.grid_wk : (x.withKids l).grid = x.grid := rfl
end
theorem sized1 {a b c d e f g h i j : PV} : Sized 10 [PV.agg [a, b, c, d, e, f, g, h, i, j]] := by
  intro p hp
  rw [List.mem_singleton.1 hp]; rfl
theorem set_same {α : Type} {H : List α} {b : Nat} {x : α} (h : H[b]? = some x) : H.set b x = H := by
  obtain ⟨hb, rfl⟩ := List.getElem?_eq_some_iff.1 h
  exact List.set_getElem_self hb
end Go.Proofs.YtabgeenhpfnhdaaDoor.Ev
end
section
namespace Go.Proofs.YtabgeenhpfnhdaaDoor.Ev
open Go
def Wd.freeze (W : Wd) (b n : Nat) : Wd := { W with lim := fun x => if x = b then n else W.lim x }
theorem flat_at {s : Nat} : ∀ {l : List PV} {x y : Nat} {e q : PV}, Sized s l → l[x]? = some e → e.leaves[y]? = some q → (l.flatMap PV.leaves)[x * s + y]? = some q
  | [], x, y, e, q, _, he, _ => by simp at he
  | p :: l, 0, y, e, q, _, he, hq => by
    simp at he; subst he
    rw [List.flatMap_cons, Nat.zero_mul, Nat.zero_add, List.getElem?_append_left (List.getElem?_eq_some_iff.1 hq).1]
    exact hq
  | p :: l, x + 1, y, e, q, hz, he, hq => by
    have hps : p.leaves.length = s := hz p (by simp)
    rw [List.flatMap_cons, List.getElem?_append_right (by rw [hps, Nat.succ_mul]; omega), hps, show (x + 1) * s + y - s = x * s + y by rw [Nat.succ_mul]; omega]
    exact flat_at (fun z hz' => hz z (by simp [hz'])) (by simpa using he) hq
theorem freeze_evo {W : Wd} {B n : Nat} (h0 : W.lim B = 0) (hB : W.o B = none) : Evo0 W (W.freeze B n) (fun _ _ => True) :=
  { cell := fun _ _ _ => rfl
    lim := fun x => by
      simp only [Wd.freeze]
      split
      · rename_i h; rw [h, h0]; exact Nat.zero_le _
      · exact Nat.le_refl _
    shape := fun _ c _ _ h => ⟨c, h, rfl⟩
    hold := fun x q i ho _ => ⟨ho, by
      simp only [Wd.freeze]
      split
      · rename_i h; rw [h, hB] at ho; simp at ho
      · rfl⟩
    beta := fun x i ho hb => ⟨hb, ho⟩
    row := fun i => ⟨Nat.le_refl _, fun _ h => ⟨rfl, h⟩⟩ }
theorem HInv.freeze {C : Ctx} {H : Heap} {W : Wd} {B n : Nat} (h : HInv C H W) (h0 : W.lim B = 0) (hB : W.o B = none) (hlt : B < W.w.heap.size) : HInv C H (W.freeze B n) := by
  have hE0 := freeze_evo (n := n) h0 hB
  refine ⟨fun x gs hgs => ?_, fun g ls hls j q hq => ?_, fun x hx => ?_, fun x i k hx => h.boxes x i k hx, h.gen0, h.kept.same rfl fun _ h => h⟩
  · obtain ⟨m1, m2, c₂, T₂, fz₂, m3, m4, m5, m6⟩ := h.box x gs hgs
    refine ⟨⟨m1.1, m1.2.congr rfl⟩, ?_, c₂, T₂, fz₂, m3, m4, m5, fun i g v hg hv => ⟨(m6 i g v hg hv).1, (m6 i g v hg hv).2.mono0 hE0 (fun _ _ _ => trivial)⟩⟩
    simp only [Wd.freeze]
    split
    · rename_i hh
      have q := m1.1
      have : W.β x = B := hh
      rw [this, hB] at q; simp at q
    · exact m2
  · obtain ⟨m1, m2, v, m3, m4⟩ := h.laid g ls hls j q hq
    exact ⟨m1, Nat.lt_of_lt_of_le m2 (hE0.lim g), v, m3, m4.mono (fun _ _ _ => rfl) hE0.lim⟩
  · obtain ⟨m1, m2⟩ := h.fresh x hx
    refine ⟨?_, m2⟩
    simp only [Wd.freeze]
    rw [if_neg (by intro h; subst h; exact absurd hlt (Nat.not_lt.2 hx))]
    exact m1
theorem HInv.lt {C : Ctx} {H : Heap} {W : Wd} (h : HInv C H W) {b : Nat} {fs : List FV} (hb : H[b]? = some fs) : W.β b < W.w.heap.size := by
  obtain ⟨k1, _⟩ := h.box b fs hb
  rcases Nat.lt_or_ge (W.β b) W.w.heap.size with h' | h'
  · exact h'
  · have := k1.1
    rw [(h.fresh _ h').2] at this; simp at this
theorem forget_none {W : Wd} {n b x k : Nat} (hn : n ≤ b) (h : W.o x = some (.box b, k)) : (W.forget n).o x = none := by
  have : below n (.box b) = false := by simp [below]; omega
  rw [forget_o]
  simp [Wd.only, h, this]
theorem frozen_row {W W₁ : Wd} {B off s cap : Nat} {cs : Array Value} {T : TypeId} {fz : Nat × Nat} {fs : List FV} {b : Nat} {l : List PV} (hs : 0 < s) (hl : Sized s l) (k3 : W.w.heap[B]? = some (.cells cs T fz)) (k4 : fs.length ≤ cs.size) (k6 : ∀ (i : Nat) (f : FV) (v : Value), fs[i]? = some f → cs[i]? = some v → f.isLeaf = true ∧ FRep W (some (.leaf b i)) 0 f v)
    (h8 : ∀ k q, (l.flatMap PV.leaves)[k]? = some q → ∃ f, fs[off + k]? = some f ∧ f.leafPV = some q) (hw : W₁.w = W.w) (hlim : ∀ x, W.lim x ≤ W₁.lim x) (hB : cs.size ≤ W₁.lim B) (hcap : l.length ≤ cap) : Rep W₁.w W₁.lim (.sl l) (.slice (some ⟨B, off, none⟩) l.length cap) := by
  have hcell : ∀ x y, x < l.length → ∀ e q, l[x]? = some e → e.leaves[y]? = some q → ∃ u, W.w.cell? ⟨B, off + (x * s + y), none⟩ = some u ∧ off + (x * s + y) < cs.size ∧ q.isLeaf = true ∧ Rep W.w W.lim q u := by
    intro x y hx e q he hq
    have hk : (l.flatMap PV.leaves)[x * s + y]? = some q := flat_at hl he hq
    obtain ⟨f, hfs, hfq⟩ := h8 _ _ hk
    have hlt : off + (x * s + y) < fs.length := (List.getElem?_eq_some_iff.1 hfs).1
    have hcl : off + (x * s + y) < cs.size := by omega
    obtain ⟨m1, m2⟩ := k6 _ _ cs[off + (x * s + y)] hfs (Array.getElem?_eq_getElem hcl)
    obtain ⟨m3, m4⟩ := leafPV_rep m2 hfq
    exact ⟨cs[off + (x * s + y)], by rw [cell_of_heap k3]; exact Array.getElem?_eq_getElem hcl, hcl, m3, m4⟩
  by_cases hl0 : l = []
  · subst hl0; exact .nil
  refine .sl (fun x y => (W.w.cell? ⟨B, off + (x * s + y), none⟩).getD default) (sz := s) rfl rfl hs (fun x e he => hl e (List.mem_of_getElem? he)) (fun x y e q he hq => ?_) (fun x y e q he hq => ?_) (fun x y e q he hq => ?_) (fun x y e q he hq => ?_) hcap
  all_goals
    obtain ⟨u, q1, q2, q3, q4⟩ := hcell x y (List.getElem?_eq_some_iff.1 he).1 e q he hq
  · exact Nat.lt_of_lt_of_le q2 hB
  · rw [hw, q1]; rfl
  · exact q3
  · simp only [q1, Option.getD_some]
    exact q4.mono (fun _ _ _ => by rw [hw]) hlim
section
variable {C : Ctx} {f : FuncId} {fn : Func} {c : Code} {args : List FV} {H H' : Heap} {mv vars : List Nat} (hf : C.P.funcs[f]? = some fn) (hb : fn.body = some c) (hn : (resTmps fn.results.toList).Nodup) (hmix : C.P.follows .mixedOrders = true) (hk : codeOk mv c = true)
    (l : List PV) (s : Nat) (hs : 0 < s) (hl : Sized s l)
include hf hb hn hmix hk hs hl
theorem con_freezeR (hp : ∀ fs ∈ H', ∀ f ∈ body fs, f.und0 H.length = true)
    (h : wpC C fn.ntmps mv vars c (argsEnv 0 args) H fun x e H₁ => (match x with | .exit _ => False | _ => True) ∧ ∃ (b g : Nat) (cells : List FV), resultOf C e H₁ fn.results.toList = some (.gr b g s l.length) ∧ H.length ≤ b ∧ H₁.take H.length = H' ∧ H₁[b]? = some [.row g cells] ∧ ∀ (k : Nat) (q : PV), (l.flatMap PV.leaves)[k]? = some q → ∃ f : FV, cells[k]? = some f ∧ f.leafPV = some q) : Con C f args H (.sc (.sl l)) H' :=
  fun vs W hlen hargs hH _ => (con_gen2 (G := fun r H₁ => ∃ (b g : Nat) (cells : List FV), r = .gr b g s l.length ∧ H.length ≤ b ∧ H₁.take H.length = H' ∧ H₁[b]? = some [.row g cells] ∧ ∀ (k : Nat) (q : PV), (l.flatMap PV.leaves)[k]? = some q → ∃ f : FV, cells[k]? = some f ∧ f.leafPV = some q) hf hb hn hmix hk (wpC_mono _ _ _ _ _ (fun _ _ _ ⟨h1, b, g, cells, h2, h3⟩ => ⟨h1, _, h2, b, g, cells, rfl, h3⟩) h) vs W hlen hargs hH).mono fun _ _ ⟨v, W', H₁, r, h1, h2, ⟨b, g, cells, hr, hbn, h3, h7, h8⟩, h4, h5, h6⟩ => by
    subst hr
    have hbl := (List.getElem?_eq_some_iff.1 h7).1
    obtain ⟨k1, k2, cs, T, fz, k3, k4, k5, k6⟩ := h5.box b _ h7
    generalize hv : v = v' at h4
    cases h4 with
    | @gr _ _ _ _ _ _ cap A a1 a2 a3 =>
      subst hv
      obtain ⟨q1, q2, q3⟩ := a3 k1.2
      subst q1
      have hlt := h5.lt h7
      have hbx := h5.trim (n := H.length) (h3 ▸ hp)
      rw [h3] at hbx
      have hBo := forget_none hbn q2
      have hE0 := freeze_evo (W := W'.forget H.length) (n := cs.size) (B := W'.β b) k2 hBo
      refine ⟨_, (W'.forget H.length).freeze (W'.β b) cs.size, h1, h2, ?_, hbx.freeze k2 hBo hlt, ?_⟩
      · refine .sc rfl (frozen_row (W := W') (off := 0) hs hl k3 k4 k6 (fun k q hkq => by rw [Nat.zero_add]; exact h8 k q hkq) rfl hE0.lim ?_ a2)
        simp [Wd.freeze]
      · have h6' := h6.forget hH
        refine Evo.of h6'.os h6'.tape h6'.output h6'.size h6'.cell (fun x => Nat.le_trans (h6'.lim x) (hE0.lim x)) h6'.shape (fun _ _ _ _ hk => hk.elim) h6'.beta h6'.row (fun x hxl hxo => ?_)
        obtain ⟨p1, p2, p3⟩ := h6.away x hxl hxo
        refine ⟨p1, ?_, (h6'.away x hxl hxo).2.2⟩
        simp only [Wd.freeze]
        rw [if_neg (by intro h; subst h; rw [q2] at p3; simp at p3)]
        exact p2
end
end Go.Proofs.YtabgeenhpfnhdaaDoor.Ev
end
section
namespace Go.Proofs.YtabgeenhpfnhdaaDoor.Ev
open Go
theorem HInv.below {C : Ctx} {H : Heap} {W : Wd} (h : HInv C H W) {w' : World} (hb : RowKit.Below W.w.heap.size W.w w') : Evo W { W with w := w' } (fun _ _ => True) ∧ HInv C H { W with w := w' } := by
  have hlt : ∀ b off, off < W.lim b → b < W.w.heap.size := fun b off ho => by
    rcases Nat.lt_or_ge b W.w.heap.size with h' | h'
    · exact h'
    · rw [(h.fresh b h').1] at ho; omega
  have hE : Evo W { W with w := w' } (fun _ _ => True) := by
    refine Evo.of hb.os hb.tape hb.output hb.size (fun b off ho => ?_) (fun _ => Nat.le_refl _) (fun b c T fz hc => ?_) (fun _ _ _ ho _ => ⟨ho, rfl⟩) (fun _ _ ho hβ => ⟨hβ, ho⟩) (fun _ => ⟨Nat.le_refl _, fun _ h => ⟨rfl, h⟩⟩) (fun b hbl ho => ⟨hb.block b hbl, rfl, ho⟩)
    · simp only [World.cell?]
      rw [hb.block b (hlt b off ho)]
    · have hbl := (Array.getElem?_eq_some_iff.1 hc).1
      exact ⟨c, by show w'.heap[b]? = _; rw [hb.block b hbl]; exact hc, rfl⟩
  refine ⟨hE, fun b fs hfs => ?_, fun g ls hls j q hq => ?_, fun b hbl => h.fresh b (Nat.le_trans hb.size hbl), h.boxes, h.gen0, h.kept.evo hE⟩
  · obtain ⟨h1, h2, c, T, fz, h3, h4, h5, h6⟩ := h.box b fs hfs
    have hbl := (Array.getElem?_eq_some_iff.1 h3).1
    exact ⟨h1, h2, c, T, fz, by show w'.heap[W.β b]? = _; rw [hb.block _ hbl]; exact h3, h4, h5, fun i f v hf hv => ⟨(h6 i f v hf hv).1, (h6 i f v hf hv).2.mono hE (by simp)⟩⟩
  · obtain ⟨m1, m2, v, m3, m4⟩ := h.laid g ls hls j q hq
    exact ⟨m1, m2, v, by rw [hE.cell _ _ m2]; exact m3, m4.mono hE.cell hE.lim⟩
theorem pcon_below {C : Ctx} {f : FuncId} {args : List FV} {p : PV} {v : Value} (hp : p.isLeaf = true) (hrep : ∀ w lim, Rep w lim p v)
    (h : ∀ (vs : List Value) (W : Wd), vs.length = args.length → (∀ (j : Nat) (g : FV) (u : Value), args[j]? = some g → vs[j]? = some u → FRep W none 0 g u) → HInv C [] W → Calls C.P f vs.toArray W.w fun e w' => e = .returned v ∧ RowKit.Below W.w.heap.size W.w w') : PCon C f args (.sc p) :=
  fun vs W h1 h2 h3 _ => (h vs W h1 h2 h3).mono fun _ w' ⟨he, hb⟩ => ⟨v, { W with w := w' }, [], he, rfl, .sc hp (hrep _ _), (h3.below hb).2, (h3.below hb).1.weaken (by simp)⟩
theorem PCon.call1 {C : Ctx} {f : FuncId} {k k' : IntKind} {x y : Int} (h : PCon C f [.sc (.int k x)] (.sc (.int k' y))) {W : Wd} (hH : HInv C [] W) : Calls C.P f #[.int k x] W.w fun e w' => e = .returned (.int k' y) ∧ RowKit.Below W.w.heap.size W.w w' := by
  have h0 : HInv C [] { W with o := fun _ => none } := ⟨fun b fs hb => by simp at hb, hH.laid, fun b hb => ⟨(hH.fresh b hb).1, rfl⟩, fun b i k hb => by simp at hb, hH.gen0, hH.kept.same rfl fun _ _ => rfl⟩
  refine (h [.int k x] { W with o := fun _ => none } rfl (fun j g v hg hv => ?_) h0 (fun b q k hb => by simp at hb)).mono fun e w' ⟨v, W', J, he, hw, hr, _, hE⟩ => ?_
  · match j with
    | 0 => simp at hg hv; subst hg hv; exact .mkInt
    | j + 1 => simp at hg
  · subst he hw
    refine ⟨by rw [hr.int], hE.os, hE.tape, hE.output, hE.size, fun b hb => (hE.away b hb rfl).1⟩
theorem FRep.fn0 {W : Wd} {r : Option Root} {i : Nat} {f : FuncId} {v : Value} (h : FRep W r i (.fn f [] []) v) : v = .func (.func f) #[] #[] := by
  cases h with
  | @fn _ _ _ _ _ fs cs a b c d =>
    have e1 : fs = #[] := Array.eq_empty_of_size_eq_zero a
    have e2 : cs = #[] := Array.eq_empty_of_size_eq_zero b
    rw [e1, e2]
theorem args1 {a : FV} {vs : List Value} {W : Wd} (hl : vs.length = [a].length) (h : ∀ (j : Nat) (g : FV) (u : Value), [a][j]? = some g → vs[j]? = some u → FRep W none 0 g u) : ∃ u, vs = [u] ∧ FRep W none 0 a u := by
  match vs, hl with
  | [u], _ => exact ⟨u, rfl, h 0 a u rfl rfl⟩
theorem args2 {a b : FV} {vs : List Value} {W : Wd} (hl : vs.length = [a, b].length) (h : ∀ (j : Nat) (g : FV) (u : Value), [a, b][j]? = some g → vs[j]? = some u → FRep W none 0 g u) : ∃ u v, vs = [u, v] ∧ FRep W none 0 a u ∧ FRep W none 0 b v := by
  match vs, hl with
  | [u, v], _ => exact ⟨u, v, rfl, h 0 a u rfl rfl, h 1 b v rfl rfl⟩
end Go.Proofs.YtabgeenhpfnhdaaDoor.Ev
end
section
namespace Go.Proofs.YtabgeenhpfnhdaaDoor.Ev
open Go
theorem Con.pcon {C : Ctx} {f : FuncId} {args : List FV} {r : FV} {H' : Heap} (h : Con C f args [] r H') : PCon C f args r := fun vs W h1 h2 h3 h4 =>
  (h vs W h1 h2 h3 h4).mono fun _ _ ⟨v, W', a, b, c, d, e⟩ => ⟨v, W', H', a, b, c, d, e⟩
theorem sizedG (l : List Glyph) : Sized 2 (l.map Glyph.pv) := by
  intro p hp
  obtain ⟨x, _, rfl⟩ := List.mem_map.1 hp
  rfl
set_option linter.unusedSimpArgs false in
set_option maxRecDepth 20000 in
set_option maxHeartbeats 4000000 in
theorem cloneG (l : List Glyph) (hl : l.length ≤ lenMax) : PCon C0 83 [.sc (gl l)] (.own (l.map Glyph.pv)) := by
  refine penter83 ?_
  simp [Tryd.f83, gl]
  refine NilQ.mk (fun h => ?_) (fun h b => ?_)
  · simp at h
    simp [sizedG]
    exact ⟨fun _ h => by simp at h, hl⟩
  · simp at h
    subst h
    cases b <;> simp [Sized]
end Go.Proofs.YtabgeenhpfnhdaaDoor.Ev
end
section
namespace Go.Proofs.YtabgeenhpfnhdaaDoor.Ev
open Go
abbrev mv32 : List Nat := [29, 55, 76, 77, 79, 103, 8000062, 13000000000000000000000000000000000000000000000000000000000000000000000000000000000000000000000000359723203064972803055680, 13000000000000000000000000000000000000000000000000000000000000000000000000000000000000000000000000359723201099115822854272]
abbrev vars32 : List Nat := [0, 2, 3, 4, 5, 6, 7, 19, 20, 46, 53, 68, 94]
abbrev mv48 : List Nat := [16, 17, 18, 29, 46]
abbrev vars48 : List Nat := [0, 1, 2, 6, 7, 9, 11, 19, 20, 21, 22]
abbrev vars49 : List Nat := [0, 1, 4, 5, 6, 23, 41]
abbrev mv84 : List Nat := [31, 35, 2000033]
abbrev vars84 : List Nat := [0, 2, 3, 5, 6, 8, 9, 10, 11, 12, 20, 25, 26, 27, 28]
end Go.Proofs.YtabgeenhpfnhdaaDoor.Ev
end
section
namespace Go.Proofs.YtabgeenhpfnhdaaDoor.Ev
open Go
theorem sized_gl (l : List Glyph) : Sized 2 (l.map Glyph.pv) := fun p hp => by
  simp only [List.mem_map] at hp; obtain ⟨x, _, rfl⟩ := hp; rfl
theorem cells_gl (l : List Glyph) : (l.map Glyph.pv).flatMap PV.leaves = l.flatMap fun g => [PV.int .i32 g.r, PV.int .u8 g.s] := by
  induction l with
  | nil => rfl
  | cons g l ih => simp only [List.map_cons, List.flatMap_cons, ih]; rfl
def rowG (l : List Glyph) : List FV := ((l.map Glyph.pv).flatMap PV.leaves).map .sc
theorem rowG_len (l : List Glyph) : (rowG l).length = l.length * 2 := by
  unfold rowG; rw [List.length_map, cells_gl]
  induction l with
  | nil => rfl
  | cons g l ih => simp at ih ⊢; omega
theorem rowG_app (a b : List Glyph) : rowG (a ++ b) = rowG a ++ rowG b := by simp [rowG]
set_option linter.unusedSimpArgs false in
set_option maxRecDepth 20000 in
theorem conGrow (n : Nat) (h0 : 0 < n) (hn : n ≤ 1073741824) (H : Heap) :
    Con C0 99 [.emp, .sc (.int .i64 n)] H (.gr H.length 0 2 0) (H ++ [[.row 0 []]]) := by
  refine enter99 ?_
  have w0 : IntKind.i64.wrap 0 = 0 := by decide
  have w1 : IntKind.i64.wrap (n : Int) = n := wrap64 (by omega) (by omega)
  have n0 : ¬ (n : Int) < 0 := by omega
  have n1 : (0 : Int) < n := by omega
  have n2 : (n : Int) ≤ 137438953472 := by omega
  simp [Tryd.f99, w0, w1, n0, n1, h0, n2, lenMax, hn]
def catG (l : List (List Glyph)) : List Glyph := l.flatten
theorem catG_take {l : List (List Glyph)} {i : Nat} (h : i < l.length) : catG (l.take (i + 1)) = catG (l.take i) ++ l[i] := by
  rw [List.take_succ_eq_append_getElem h]; unfold catG; rw [List.flatten_append]; simp
theorem catG_len (l : List (List Glyph)) (i : Nat) : (catG (l.take i)).length ≤ (catG l).length := by
  conv => rhs; rw [← List.take_append_drop i l]
  unfold catG; rw [List.flatten_append, List.length_append]; omega
set_option linter.unusedSimpArgs false in
set_option maxRecDepth 20000 in
set_option maxHeartbeats 8000000 in
theorem conConcat (l : List (List Glyph)) (h0 : 0 < (catG l).length) (hn : (catG l).length ≤ 1073741824) (hl : l.length ≤ 1073741824) :
    Con C0 84 [.sc (.sl (l.map gl))] [] (.sc (.sl ((catG l).map Glyph.pv))) [] := by
  refine con_freezeR (C := C0) (s := 2) (l := (catG l).map Glyph.pv) (fn := Tryd.f84) Tryd.func84 rfl (by decide) mixed (mv := mv84) (vars := vars84) (c := Tryd.f84.body.getD .skip) rfl ?_ ?_ ?_ ?_
  · decide
  · exact sized_gl (catG l)
  · intro fs h; simp at h
  simp [Tryd.f84]
  refine loopC (fun d e H' => ∃ (i : Nat) (x5 x12 x20 : FV), H' = [] ∧ d = l.length - i ∧ i ≤ l.length ∧ e = [(0, .sc (.sl (l.map gl))), (2, .own []), (3, .sc (.int .i64 (catG (l.take i)).length)), (5, x5), (6, .undef), (8, .undef), (9, .sc (.sl (l.map gl))), (10, .sc (.int .i64 l.length)), (11, .sc (.int .i64 i)), (12, x12), (20, x20), (25, .undef), (26, .undef), (27, .undef), (28, .undef)]) (d := l.length) ⟨0, .undef, .undef, .undef, rfl, rfl, Nat.zero_le _, ?_⟩ ?_
  · simp [catG]
  · rintro d e H' ⟨i, x5, x12, x20, rfl, rfl, hi, rfl⟩
    simp
    refine CondC.mk (fun hlt => ?_) (fun hlt => ?_)
    · simp at hlt
      have hw : IntKind.i64.wrap ((i : Int) + 1) = ((i + 1 : Nat) : Int) := by rw [wrap64 (by omega) (by omega)]; omega
      have hq : (l.map gl)[i]? = some (gl l[i]) := by simp [hlt]
      have ht := catG_take hlt
      have hle := catG_len l (i + 1)
      have hl2 : (catG (l.take (i + 1))).length = (catG (l.take i)).length + l[i].length := by rw [ht, List.length_append]
      have w1 : IntKind.i64.wrap (((catG (l.take i)).length : Int) + (l[i].length : Int)) = ((catG (l.take (i + 1))).length : Int) := by rw [wrap64 (by omega) (by omega)]; omega
      have n0 : ¬ ((catG (l.take (i + 1))).length : Int) < 0 := by omega
      simp [hq, gl, w1, n0, hw]
      exact ⟨l.length - (i + 1), by omega, i + 1, rfl, by omega, rfl, by omega⟩
    · simp at hlt
      obtain rfl : i = l.length := by omega
      rw [List.take_length]
      simp
      refine CallQ.mk (Call.shared callable99 (conGrow (catG l).length h0 hn [])) ?_
      simp
      refine loopC (fun d e H' => ∃ (i : Nat) (x8 x28 : FV), H' = [[.row i (rowG (catG (l.take i)))]] ∧ d = l.length - i ∧ i ≤ l.length ∧ e = [(0, .sc (.sl (l.map gl))), (2, .own []), (3, .sc (.int .i64 (catG l).length)), (5, x5), (6, .gr 0 i 2 (catG (l.take i)).length), (8, x8), (9, .sc (.sl (l.map gl))), (10, .sc (.int .i64 l.length)), (11, .sc (.int .i64 l.length)), (12, .sc (.bool false)), (20, x20), (25, .sc (.sl (l.map gl))), (26, .sc (.int .i64 l.length)), (27, .sc (.int .i64 i)), (28, x28)]) (d := l.length) ⟨0, .undef, .undef, rfl, rfl, Nat.zero_le _, ?_⟩ ?_
      · simp [catG]
      · rintro d e H'2 ⟨i, x8, x28, rfl, rfl, hi2, rfl⟩
        simp
        refine CondC.mk (fun hlt2 => ?_) (fun hlt2 => ?_)
        · simp at hlt2
          have hw : IntKind.i64.wrap ((i : Int) + 1) = ((i + 1 : Nat) : Int) := by rw [wrap64 (by omega) (by omega)]; omega
          have hq : (l.map gl)[i]? = some (gl l[i]) := by simp [hlt2]
          have ht := catG_take hlt2
          have hle := catG_len l (i + 1)
          have hl2 : (catG (l.take (i + 1))).length = (catG (l.take i)).length + l[i].length := by rw [ht, List.length_append]
          have ol := rowG_len (catG (l.take i))
          have tk : (rowG (catG (l.take i))).take ((catG (l.take i)).length * 2) = rowG (catG (l.take i)) := List.take_of_length_le (by omega)
          have sl := sized_gl l[i]
          simp [hq, gl, hw, ol, tk, sl, lenMax]
          exact ⟨by omega, l.length - (i + 1), by omega, i + 1, ⟨rfl, by rw [ht, rowG_app]; rfl⟩, rfl, by omega, ⟨rfl, by omega⟩, by omega⟩
        · simp at hlt2
          obtain rfl : i = l.length := by omega
          rw [List.take_length]
          simp
          refine ⟨0, l.length, ⟨rfl, rfl⟩, rowG (catG l), rfl, ?_⟩
          intro k q hq
          refine ⟨.sc q, ?_, rfl⟩
          unfold rowG
          rw [List.getElem?_map]
          simp only [hq, Option.map_some]
theorem PCon.demote {C : Ctx} {f : FuncId} {args : List FV} {l : List PV} (h : PCon C f args (.own l)) : PCon C f args (.sc (.sl l)) :=
  fun vs W a b c d => (h vs W a b c d).mono fun _ _ ⟨v, W', J, h1, h2, h3, h4, h5⟩ => ⟨v, W', J, h1, h2, by cases h3 with | own r _ => exact .sc rfl r, h4, h5⟩
def joinS (a b : List Glyph) : List Glyph := if a = [] then b else if b = [] then a else a ++ ⟨32, 0⟩ :: b
theorem joinS_len (a b : List Glyph) : (joinS a b).length ≤ a.length + b.length + 1 := by
  unfold joinS
  split
  · subst_vars; simp
  · split
    · subst_vars; simp
    · simp; omega
set_option linter.unusedSimpArgs false in
set_option maxRecDepth 20000 in
set_option maxHeartbeats 4000000 in
theorem conJoinS (a b : List Glyph) (hn : a.length + b.length ≤ 536870912) : PCon C0 67 [.sc (gl a), .sc (gl b)] (.sc (gl (joinS a b))) := by
  by_cases ha : a = []
  · subst ha
    refine PCon.demote ?_
    refine penter67 ?_
    simp [Tryd.f67, gl]
    refine CallQ.mk (Call.pure callable83 (by simp) (by simp) (cloneG b (by show b.length ≤ 137438953472; omega))) ?_
    simp [joinS]
  have ha0 : ¬ (a.length : Int) = 0 := by have := List.length_pos_iff.2 ha; omega
  by_cases hb : b = []
  · subst hb
    refine PCon.demote ?_
    refine penter67 ?_
    simp [Tryd.f67, gl, ha]
    refine CallQ.mk (Call.pure callable83 (by simp) (by simp) (cloneG a (by show a.length ≤ 137438953472; omega))) ?_
    simp [joinS, ha]
  refine penter67 ?_
  have hc : catG [a, [⟨32, 0⟩], b] = a ++ ⟨32, 0⟩ :: b := by simp [catG]
  have cc := conConcat [a, [⟨32, 0⟩], b] (by rw [hc]; simp; omega) (by rw [hc]; simp; omega) (by simp)
  rw [hc] at cc
  simp [Tryd.f67, gl, ha, hb]
  refine ⟨sized_gl [⟨32, 0⟩], rfl, fun p hp => ?_, ?_⟩
  · simp at hp; rcases hp with rfl | rfl | rfl <;> rfl
  refine CallQ.mk (Call.pure callable84 (by simp) (by simp) cc.pcon) ?_
  simp [joinS, ha, hb]
end Go.Proofs.YtabgeenhpfnhdaaDoor.Ev
end
section
namespace Go.Proofs.YtabgeenhpfnhdaaDoor.Ev
open Go
theorem seq_cutP {C : Ctx} {nt : Nat} {mv vars : List Nat} {a b : Code} {e : Env} {H : Heap} {Q : Ex → Env → Heap → Prop} (P : Env → Heap → Prop) (h : wpC C nt mv vars a e H fun x e' H' => x = .normal ∧ P e' H') (hK : ∀ e' H', P e' H' → wpC C nt mv vars b e' H' Q) : wpC C nt mv vars (.seq a b) e H Q := by
  rw [wpC_seq]
  refine wpC_mono a e H _ _ (fun x e' H' hh => ?_) h
  obtain ⟨rfl, hp⟩ := hh
  exact hK e' H' hp
def validR (r : Int) : Bool := decide (0 ≤ r) && (decide (r ≤ 1114111) && (decide (r < 55296) || decide (57343 < r)))
def controlR (r : Int) : Bool := (decide (0 ≤ r) && decide (r < 32)) || (decide (127 ≤ r) && decide (r ≤ 159)) || decide (r = 8232) || decide (r = 8233)
def safeR (r : Int) : Int := if validR r = true ∧ controlR r = false then r else 65533
def sizeR (r : Int) : Int := if r < 128 then 1 else if r < 2048 then 2 else if r < 65536 then 3 else 4
theorem conValidR (r : Int) : PCon C0 104 [.sc (.int .i32 r)] (.sc (.bool (validR r))) := by
  refine penter104 ?_
  by_cases h1 : 0 ≤ r <;> by_cases h2 : r ≤ 1114111 <;> by_cases h3 : r < 55296 <;> by_cases h4 : 57343 < r <;> simp [Tryd.f104, validR, h1, h2, h3, h4]
theorem conSize (r : Int) : PCon C0 105 [.sc (.int .i32 r)] (.sc (.int .i64 (sizeR r))) := by
  refine penter105 ?_
  by_cases h1 : r < 128 <;> by_cases h2 : r < 2048 <;> by_cases h3 : r < 65536 <;> simp [Tryd.f105, sizeR, h1, h2, h3]
set_option maxHeartbeats 2000000 in
theorem conControl (r : Int) : PCon C0 96 [.sc (.int .i32 r)] (.sc (.bool (controlR r))) := by
  refine penter96 ?_
  by_cases h1 : 0 ≤ r
  · by_cases h2 : r < 32
    · simp [Tryd.f96, controlR, h1, h2]
    · by_cases h3 : 127 ≤ r
      · by_cases h4 : r ≤ 159
        · simp [Tryd.f96, controlR, h1, h2, h3, h4]
        · by_cases h5 : r = 8232
          · subst h5; simp [Tryd.f96, controlR]
          · by_cases h6 : r = 8233
            · subst h6; simp [Tryd.f96, controlR]
            · simp [Tryd.f96, controlR, h1, h2, h3, h4, h5, h6]
      · have h5 : ¬ r = 8232 := by omega
        have h6 : ¬ r = 8233 := by omega
        simp [Tryd.f96, controlR, h1, h2, h3, h5, h6]
  · have h3 : ¬ 127 ≤ r := by omega
    have h5 : ¬ r = 8232 := by omega
    have h6 : ¬ r = 8233 := by omega
    simp [Tryd.f96, controlR, h1, h3, h5, h6]
theorem conSafe (r : Int) : PCon C0 111 [.sc (.int .i32 r)] (.sc (.int .i32 (safeR r))) := by
  refine penter111 ?_
  simp [Tryd.f111]
  refine CallQ.mk (Call.pure callable104 (by simp) (by simp) (conValidR r)) ?_
  cases hv : validR r
  · simp [safeR, hv]
  · simp
    refine CallQ.mk (Call.pure callable96 (by simp) (by simp) (conControl r)) ?_
    cases hc : controlR r <;> simp [safeR, hv, hc]
def andB (a b : Int) : Int := IntKind.u8.wrap (BitVec.ofInt IntKind.u8.bits a &&& BitVec.ofInt IntKind.u8.bits b).toNat
def orR (a b : Int) : Int := IntKind.i32.wrap (BitVec.ofInt IntKind.i32.bits a ||| BitVec.ofInt IntKind.i32.bits b).toNat
def headR (c : Int) : Int × Nat :=
  if andB c 224 = 192 then (IntKind.i32.wrap (andB c 31), 2) else if andB c 240 = 224 then (IntKind.i32.wrap (andB c 15), 3) else if andB c 248 = 240 then (IntKind.i32.wrap (andB c 7), 4) else (0, 0)
theorem bin_and {P : Program} {t : TypeId} {a b : Int} : binOf P .and t (.sc (.int .u8 a)) (.sc (.int .u8 b)) = some (.sc (.int .u8 (andB a b))) := rfl
theorem bin_or {P : Program} {t : TypeId} {a b : Int} : binOf P .or t (.sc (.int .i32 a)) (.sc (.int .i32 b)) = some (.sc (.int .i32 (orR a b))) := rfl
theorem bin_shl6 {P : Program} {t : TypeId} {a : Int} : binOf P .shl t (.sc (.int .i32 a)) (.sc (.int .u64 6)) = some (.sc (.int .i32 (IntKind.i32.wrap (a * 64)))) := rfl
theorem bin_shl4 {P : Program} {t : TypeId} {a : Int} : binOf P .shl t (.sc (.int .i32 a)) (.sc (.int .u64 4)) = some (.sc (.int .i32 (IntKind.i32.wrap (a * 16)))) := rfl
attribute [simp ↓ high] bin_and bin_or bin_shl6 bin_shl4
def stepR (r c : Int) : Int := orR (IntKind.i32.wrap (r * 64)) (IntKind.i32.wrap (andB c 63))
def moreR : Int → List Int → Option Int
  | r, [] => some r
  | r, c :: l => if andB c 192 = 128 then moreR (stepR r c) l else none
def firstR : List Int → Int × Nat
  | [] => (65533, 1)
  | c :: l => if c < 128 then (IntKind.i32.wrap c, 1) else if (headR c).2 = 0 ∨ l.length + 1 < (headR c).2 then (65533, 1) else match moreR (headR c).1 (l.take ((headR c).2 - 1)) with
    | none => (65533, 1)
    | some r => if validR r = true ∧ sizeR r = (headR c).2 then (r, (headR c).2) else (65533, 1)
theorem headR_le (c : Int) : (headR c).2 ≤ 4 := by
  unfold headR
  split
  · simp
  · split
    · simp
    · split <;> simp
theorem firstR_pos (l : List Int) : 1 ≤ (firstR l).2 := by
  unfold firstR
  split
  · simp
  · split
    · simp
    · split
      · simp
      · split
        · simp
        · split
          · rename_i h _ _ _ _
            simp only [not_or] at h
            simp only; omega
          · simp
theorem firstR_le {l : List Int} (h : l ≠ []) : (firstR l).2 ≤ l.length := by
  cases l with
  | nil => exact absurd rfl h
  | cons c l =>
    simp only [firstR, List.length_cons]
    split
    · simp
    · split
      · simp
      · split
        · simp
        · split
          · rename_i h _ _ _ _
            simp only [not_or] at h
            simp only; omega
          · simp
def decR : Nat → List Int → List Int
  | 0, _ => []
  | k + 1, l => if l = [] then [] else (firstR l).1 :: decR k (l.drop (firstR l).2)
def bytesI (l : List Int) : List PV := l.map (PV.int .u8)
def runesI (l : List Int) : List PV := l.map (PV.int .i32)
end Go.Proofs.YtabgeenhpfnhdaaDoor.Ev
end
section
namespace Go.Proofs.YtabgeenhpfnhdaaDoor.Ev
open Go
theorem moreR_snoc {r : Int} {l : List Int} {c : Int} : moreR r (l ++ [c]) = (moreR r l).bind fun q => if andB c 192 = 128 then some (stepR q c) else none := by
  induction l generalizing r with
  | nil => simp [moreR]
  | cons x l ih =>
    simp only [List.cons_append, moreR]
    split
    · exact ih
    · rfl
theorem sized_bytes {l : List Int} : sizedB 1 (bytesI l) = true := by simp [sizedB, bytesI, PV.leaves]
set_option linter.unusedSimpArgs false in
set_option maxRecDepth 20000 in
set_option maxHeartbeats 4000000 in
theorem conFirst (l : List Int) (hl : l ≠ []) (hn : l.length ≤ lenMax) : PCon C0 102 [.sc (.sl (bytesI l))] (.tup [.sc (.int .i32 (firstR l).1), .sc (.int .i64 (firstR l).2)]) := by
  have hlm : l.length ≤ 137438953472 := hn
  cases l with
  | nil => exact absurd rfl hl
  | cons c l =>
  refine penter102 ?_
  have hz : sizedB 1 (bytesI (c :: l)) = true := sized_bytes
  have e0 : bytesI (c :: l) = .int .u8 c :: bytesI l := rfl
  have hlen : (bytesI l).length = l.length := by simp [bytesI]
  by_cases h0 : c < 128
  · simp [Tryd.f102, e0, firstR, h0]
  have h1 : (c :: l).length = l.length + 1 := rfl
  have hn0 : (headR c).2 ≤ 4 := headR_le c
  simp [Tryd.f102, e0, h0, -KSeq_normal]
  rw [KSeq_normal]
  simp [-KSeq_normal]
  rw [KSeq_normal]
  refine seq_cutP (fun e' H' => ∃ x12 x17 x24 x31 : FV, H' = [] ∧ e' = [(0, .sc (.sl (bytesI (c :: l)))), (2, .sc (.int .i32 0)), (3, .sc (.int .i64 0)), (4, .sc (.int .i64 (headR c).2)), (5, .sc (.int .i32 (headR c).1)), (6, .sc (.int .u8 c)), (8, .undef), (12, x12), (17, x17), (24, x24), (31, x31), (45, .undef), (48, .undef), (49, .undef), (50, .undef), (51, .undef), (56, .undef), (72, .undef)]) ?_ ?_
  · by_cases a1 : andB c 224 = 192
    · simp [e0, h0, a1, headR]
    · by_cases a2 : andB c 240 = 224
      · simp [e0, h0, a1, a2, headR]
      · by_cases a3 : andB c 248 = 240
        · simp [e0, h0, a1, a2, a3, headR]
        · simp [e0, h0, a1, a2, a3, headR]
  · rintro e' H' ⟨x12, x17, x24, x31, rfl, rfl⟩
    generalize hh : headR c = hd at hn0
    obtain ⟨r0, n⟩ := hd
    simp only at hn0
    by_cases hz0 : n = 0
    · subst hz0
      simp [firstR, h0, hh]
    by_cases hlt : l.length + 1 < n
    · have hlt' : (l.length : Int) + 1 < n := by omega
      simp [firstR, h0, hh, hz0, hlt, hlt', hlen, e0]
    obtain ⟨k, rfl⟩ : ∃ k, n = k + 1 := ⟨n - 1, by omega⟩
    have hlt' : ¬ ((l.length : Int) + 1 < ((k : Int) + 1)) := by omega
    have hkl : (l.take k).length = k := by simp; omega
    have hk3 : ¬ l.length < k := by omega
    have s1 : (0 : Int) ≤ (k : Int) + 1 := by omega
    have s2 : (k : Int) + 1 ≤ (l.length : Int) + 1 := by omega
    have s3 : (1 : Int) ≤ (k : Int) + 1 := by omega
    have s4 : ((k : Int) + 1).toNat = k + 1 := by omega
    have tk : List.take k (bytesI l) = bytesI (l.take k) := by simp [bytesI]
    have tl : (bytesI (l.take k)).length = k := by simp [bytesI]; omega
    have hz1 : sizedB 1 (PV.int IntKind.u8 c :: bytesI l) = true := by rw [← e0]; exact sized_bytes
    have hz2 : ¬ ((k : Int) + 1 = 0) := by omega
    simp [hz2, hlt', hlen, e0, -KSeq_normal]
    simp [hz1, s1, s2, s3, s4, hlen, tk, tl]
    refine loopC (fun d e H' => ∃ (i : Nat) (r : Int) (x8 x51 x56 : FV), H' = [] ∧ d = k - i ∧ i ≤ k ∧ moreR r0 (l.take i) = some r ∧ e = [(0, .sc (.sl (PV.int IntKind.u8 c :: bytesI l))), (2, .sc (.int .i32 0)), (3, .sc (.int .i64 0)), (4, .sc (.int .i64 ((k : Int) + 1))), (5, .sc (.int .i32 r)), (6, .sc (.int .u8 c)), (8, x8), (12, x12), (17, x17), (24, x24), (31, x31), (45, .sc (.bool false)), (48, .sc (.sl (bytesI (l.take k)))), (49, .sc (.int .i64 k)), (50, .sc (.int .i64 i)), (51, x51), (56, x56), (72, .undef)]) (d := k) ⟨0, r0, .undef, .undef, .undef, rfl, rfl, Nat.zero_le _, rfl, ?_⟩ ?_
    · simp
    · rintro d e H' ⟨i, r, x8, x51, x56, rfl, rfl, hik, hmr, rfl⟩
      simp
      refine CondC.mk (fun hlt => ?_) (fun hlt => ?_)
      · simp at hlt
        have hil : i < l.length := by omega
        have ht : (bytesI (l.take k))[i]? = some (.int .u8 l[i]) := by simp [bytesI, List.getElem?_take, hlt, hil]
        have hsn : moreR r0 (l.take (i + 1)) = if andB l[i] 192 = 128 then some (stepR r l[i]) else none := by
          rw [List.take_succ_eq_append_getElem hil, moreR_snoc, hmr]; rfl
        have hw : IntKind.i64.wrap ((i : Int) + 1) = ((i + 1 : Nat) : Int) := by rw [wrap64 (by omega) (by omega)]; omega
        simp [ht]
        by_cases hb : andB l[i] 192 = 128
        · rw [if_pos hb] at hsn
          simp [hb, hw]
          exact ⟨k - (i + 1), by omega, i + 1, rfl, by omega, stepR r l[i], hsn, rfl, by omega⟩
        · rw [if_neg hb] at hsn
          have hno : moreR r0 (l.take k) = none := by
            have e1 : l.take k = l.take (i + 1) ++ (l.take k).drop (i + 1) := by
              have : l.take (i + 1) = (l.take k).take (i + 1) := by rw [List.take_take]; congr 1; omega
              rw [this, List.take_append_drop]
            rw [e1]
            have : ∀ (a b : List Int) (q : Int), moreR q a = none → moreR q (a ++ b) = none := by
              intro a
              induction a with
              | nil => intro b q h; simp [moreR] at h
              | cons x a ih =>
                intro b q h
                simp only [List.cons_append, moreR] at h ⊢
                split
                · rename_i hx; rw [if_pos hx] at h; exact ih b _ h
                · rfl
            exact this _ _ _ hsn
          simp [hb, firstR, h0, hh, hlt', hno, hk3]
      · simp at hlt
        obtain rfl : i = k := by omega
        simp
        refine CallQ.mk (Call.pure callable104 (by simp) (by simp) (conValidR r)) ?_
        by_cases hv : validR r = true
        · simp [hv]
          refine CallQ.mk (Call.pure callable105 (by simp) (by simp) (conSize r)) ?_
          by_cases hs : sizeR r = ((i : Int) + 1)
          · simp [hs, firstR, h0, hh, hlt', hmr, hv, hk3]
          · simp [hs, firstR, h0, hh, hlt', hmr, hv, hk3]
        · simp [hv, firstR, h0, hh, hlt', hmr, hk3]
theorem decR_drop {k : Nat} {l : List Int} (h : l ≠ []) : decR (k + 1) l = (firstR l).1 :: decR k (l.drop (firstR l).2) := by rw [decR, if_neg h]
theorem decR_fuel : ∀ {k j : Nat} {l : List Int}, l.length ≤ k → l.length ≤ j → decR k l = decR j l
  | 0, j, l, h, _ => by
    have : l = [] := List.length_eq_zero_iff.1 (by omega)
    subst this
    cases j <;> simp [decR]
  | k + 1, 0, l, _, h => by
    have : l = [] := List.length_eq_zero_iff.1 (by omega)
    subst this
    simp [decR]
  | k + 1, j + 1, l, h, h' => by
    rw [decR, decR]
    split
    · rfl
    · rename_i hl
      have := firstR_pos l
      have := firstR_le hl
      have : l.length ≠ 0 := fun h => hl (List.length_eq_zero_iff.1 h)
      rw [decR_fuel (k := k) (j := j) (by simp; omega) (by simp; omega)]
theorem decR_len : ∀ {k : Nat} {l : List Int}, (decR k l).length ≤ l.length
  | 0, l => by simp [decR]
  | k + 1, l => by
    rw [decR]
    split
    · simp
    · rename_i hl
      have := firstR_pos l
      have := firstR_le hl
      have := decR_len (k := k) (l := l.drop (firstR l).2)
      simp at this ⊢
      omega
def dec (l : List Int) : List Int := decR l.length l
set_option linter.unusedSimpArgs false in
set_option maxRecDepth 20000 in
set_option maxHeartbeats 4000000 in
theorem conDecode (l : List Int) (hn : l.length ≤ lenMax) : PCon C0 93 [.sc (.sl (bytesI l))] (.own (runesI (dec l))) := by
  have hlm : l.length ≤ 137438953472 := hn
  refine penter93 ?_
  simp [Tryd.f93]
  refine loopC (fun d e H' => ∃ (m out : List Int) (x4 x5 x8 : FV), H' = [] ∧ d = m.length ∧ m.length ≤ l.length ∧ out.length + m.length ≤ l.length ∧ out ++ dec m = dec l ∧ e = [(0, .sc (.sl (bytesI m))), (2, .own []), (3, .own (runesI out)), (4, x4), (5, x5), (8, x8)]) (d := l.length) ⟨l, [], .undef, .undef, .undef, rfl, rfl, Nat.le_refl _, by simp, rfl, ?_⟩ ?_
  · simp [runesI]
  · rintro d e H' ⟨m, out, x4, x5, x8, rfl, rfl, hml, hol, hd, rfl⟩
    simp
    have hbl : (bytesI m).length = m.length := by simp [bytesI]
    refine CondC.mk (fun hlt => ?_) (fun hlt => ?_)
    · simp [hbl] at hlt
      have hm : m ≠ [] := fun h => by rw [h] at hlt; simp at hlt
      have h1 := firstR_pos m
      have h2 := firstR_le hm
      simp
      refine CallQ.mk (Call.pure callable102 (by simp) (by simp) (conFirst m hm (by show m.length ≤ 137438953472; omega))) ?_
      have hz : sizedB 1 (bytesI m) = true := sized_bytes
      have s1 : ((firstR m).2 : Int) ≤ (m.length : Int) := by omega
      have dr : (bytesI m).drop (firstR m).2 = bytesI (m.drop (firstR m).2) := by simp [bytesI]
      have tk : (bytesI m).take m.length = bytesI m := by rw [← hbl, List.take_length]
      have so : Sized 1 (runesI out) := fun p hp => by simp only [runesI, List.mem_map] at hp; obtain ⟨x, _, rfl⟩ := hp; rfl
      have ol : (runesI out).length = out.length := by simp [runesI]
      have sone : Sized 1 [PV.int IntKind.i32 (firstR m).1] := fun p hp => by simp at hp; subst hp; rfl
      simp [hz, s1, dr, hbl, tk, so, ol, sone, lenMax]
      refine ⟨by omega, (m.drop (firstR m).2).length, by simp; omega, m.drop (firstR m).2, rfl, by simp; omega, out ++ [(firstR m).1], by simp; omega, ?_, rfl, by simp [runesI]⟩
      rw [← hd]
      have : dec m = (firstR m).1 :: dec (m.drop (firstR m).2) := by
        unfold dec
        obtain ⟨k, hk⟩ : ∃ k, m.length = k + 1 := ⟨m.length - 1, by omega⟩
        rw [hk, decR_drop hm]
        rw [decR_fuel (j := (m.drop (firstR m).2).length) (by simp; omega) (Nat.le_refl _)]
      rw [this]; simp
    · simp [hbl] at hlt
      subst hlt
      simp [dec, decR] at hd
      simp [hd, dec]
end Go.Proofs.YtabgeenhpfnhdaaDoor.Ev
end
section
namespace Go.Proofs.YtabgeenhpfnhdaaDoor.Ev
open Go
structure Tok where
  kind : Int
  r : Int
  deriving DecidableEq
def Tok.pv (t : Tok) : PV := .agg [.int .i64 t.kind, .int .i32 t.r]
structure Dg where
  kind : Int
  line : Int
  col : Int
  deriving DecidableEq
def Dg.pv (t : Dg) : PV := .agg [.int .i64 t.kind, .int .i64 t.line, .int .i64 t.col]
def digitE (c : Int) : Int × Bool := if 48 ≤ c ∧ c ≤ 57 then (IntKind.i32.wrap (IntKind.u8.wrap (c - 48)), true) else if 65 ≤ c ∧ c ≤ 70 then (IntKind.i32.wrap (IntKind.i32.wrap (IntKind.u8.wrap (c - 65)) + 10), true) else (0, false)
theorem conDigit (c : Int) : PCon C0 110 [.sc (.int .u8 c)] (.tup [.sc (.int .i32 (digitE c).1), .sc (.bool (digitE c).2)]) := by
  refine penter110 ?_
  by_cases h1 : 48 ≤ c
  · by_cases h2 : c ≤ 57
    · simp [Tryd.f110, digitE, h1, h2]
    · by_cases h3 : 65 ≤ c
      · by_cases h4 : c ≤ 70 <;> simp [Tryd.f110, digitE, h1, h2, h3, h4]
      · simp [Tryd.f110, digitE, h1, h2, h3]
  · have h3 : ¬ 65 ≤ c := by omega
    simp [Tryd.f110, digitE, h1, h3]
def hexE : Int → List Int → Option Int
  | r, [] => some r
  | r, c :: l => if (digitE c).2 = true then hexE (orR (IntKind.i32.wrap (r * 16)) (digitE c).1) l else none
theorem hexE_snoc {r : Int} {l : List Int} {c : Int} : hexE r (l ++ [c]) = (hexE r l).bind fun q => if (digitE c).2 = true then some (orR (IntKind.i32.wrap (q * 16)) (digitE c).1) else none := by
  induction l generalizing r with
  | nil => simp [hexE]
  | cons x l ih =>
    simp only [List.cons_append, hexE]
    split
    · exact ih
    · rfl
theorem hexE_none {a b : List Int} {q : Int} (h : hexE q a = none) : hexE q (a ++ b) = none := by
  induction a generalizing q with
  | nil => simp [hexE] at h
  | cons x a ih =>
    simp only [List.cons_append, hexE] at h ⊢
    split
    · rename_i hx; rw [if_pos hx] at h; exact ih h
    · rfl
def bI (s : ByteArray) : List Int := s.data.toList.map fun b => (b.toNat : Int)
def nameR (s : ByteArray) : Int × Bool := match look namesT s with
  | some r => (r, true)
  | none => if (bI s).length < 5 ∨ 7 < (bI s).length ∨ (bI s)[0]? ≠ some 117 then (0, false) else match hexE 0 ((bI s).drop 1) with
    | none => (0, false)
    | some r => if safeR r = r then (r, true) else (0, false)
def fontR (s : ByteArray) : Int × Bool := ((look fontsT s).getD 0, (look fontsT s).isSome)
theorem conFont (s : ByteArray) (hs : s.size ≤ 9223372036854775807) : PCon C0 108 [.sc (.str s)] (.tup [.sc (.int .i32 (fontR s).1), .sc (.bool (fontR s).2)]) := by
  refine penter108 ?_
  simp [Tryd.f108, tabs, hs, fontR]
theorem bI_len (s : ByteArray) : (bI s).length = s.size := by simp [bI]
theorem bI_get {s : ByteArray} {i : Nat} (h : i < s.size) : ∃ b : UInt8, s.data[i]? = some b ∧ (bI s)[i]? = some (b.toNat : Int) := by
  have : i < s.data.size := h
  have e : s.data[i]? = some s.data[i] := Array.getElem?_eq_getElem this
  refine ⟨s.data[i], e, ?_⟩
  rw [bI, List.getElem?_map, Array.getElem?_toList, e]
  rfl
set_option linter.unusedSimpArgs false in
set_option maxRecDepth 20000 in
set_option maxHeartbeats 4000000 in
theorem conName (s : ByteArray) (hs : s.size ≤ 1099511627776) : PCon C0 107 [.sc (.str s)] (.tup [.sc (.int .i32 (nameR s).1), .sc (.bool (nameR s).2)]) := by
  have hs' : s.size ≤ 9223372036854775807 := by omega
  refine penter107 ?_
  cases hl : look namesT s with
  | some r => simp [Tryd.f107, tabs, hs', hl, nameR]
  | none =>
    have hb := bI_len s
    by_cases h1 : s.size < 5
    · have h1' : (s.size : Int) < 5 := by omega
      simp [Tryd.f107, tabs, hs', hl, nameR, h1, h1', hb]
    have h1' : ¬ ((s.size : Int) < 5) := by omega
    by_cases h2 : 7 < s.size
    · have h2' : (7 : Int) < s.size := by omega
      simp [Tryd.f107, tabs, hs', hl, nameR, h1, h1', h2, h2', hb]
    have h2' : ¬ ((7 : Int) < s.size) := by omega
    obtain ⟨b0, g0, g0'⟩ := bI_get (s := s) (i := 0) (by omega)
    by_cases h3 : (b0.toNat : Int) = 117
    rotate_left
    · simp [Tryd.f107, tabs, hs', hl, nameR, h1, h1', h2, h2', hb, g0, g0', h3]
    simp [Tryd.f107, tabs, hs', hl, h1', h2', g0, h3]
    refine loopC (fun d e H' => ∃ (i : Nat) (r : Int) (x8 x9 x34 x45 : FV), H' = [] ∧ d = s.size - i ∧ 1 ≤ i ∧ i ≤ s.size ∧ hexE 0 (((bI s).drop 1).take (i - 1)) = some r ∧ e = [(0, .sc (.str s)), (2, .sc (.int .i32 0)), (3, .sc (.bool false)), (4, .sc (.int .i32 0)), (5, .sc (.bool false)), (6, .sc (.int .i32 r)), (7, .sc (.int .i64 i)), (8, x8), (9, x9), (16, .sc (.bool false)), (30, .sc (.bool false)), (34, x34), (45, x45), (53, .undef)]) (d := s.size - 1) ⟨1, 0, .undef, .undef, .undef, .undef, rfl, rfl, Nat.le_refl _, by omega, rfl, ?_⟩ ?_
    · simp
    · rintro d e H' ⟨i, r, x8, x9, x34, x45, rfl, rfl, hi1, hi, hr, rfl⟩
      simp
      refine CondC.mk (fun hlt => ?_) (fun hlt => ?_)
      · simp at hlt
        obtain ⟨bi, gi, gi'⟩ := bI_get (s := s) (i := i) hlt
        have hsn : hexE 0 (((bI s).drop 1).take (i + 1 - 1)) = if (digitE bi.toNat).2 = true then some (orR (IntKind.i32.wrap (r * 16)) (digitE bi.toNat).1) else none := by
          obtain ⟨j, rfl⟩ : ∃ j, i = j + 1 := ⟨i - 1, by omega⟩
          simp only [Nat.add_sub_cancel] at hr ⊢
          have hj : j < ((bI s).drop 1).length := by simp; omega
          have ej : ((bI s).drop 1)[j] = (bi.toNat : Int) := by
            have : ((bI s).drop 1)[j]? = some (bi.toNat : Int) := by rw [List.getElem?_drop, Nat.add_comm]; exact gi'
            rw [List.getElem?_eq_getElem hj] at this
            exact Option.some.inj this
          rw [List.take_succ_eq_append_getElem hj, hexE_snoc, hr, ej]; rfl
        have hw : IntKind.i64.wrap ((i : Int) + 1) = ((i + 1 : Nat) : Int) := by rw [wrap64 (by omega) (by omega)]; omega
        simp [gi]
        refine CallQ.mk (Call.pure callable110 (by simp) (by simp) (conDigit _)) ?_
        by_cases hd : (digitE bi.toNat).2 = true
        · rw [if_pos hd] at hsn
          simp [hd, hw]
          exact ⟨s.size - (i + 1), by omega, i + 1, rfl, by omega, by omega, _, by simpa using hsn, rfl, by omega⟩
        · rw [if_neg hd] at hsn
          have hno : hexE 0 ((bI s).drop 1) = none := by
            rw [← List.take_append_drop (i + 1 - 1) ((bI s).drop 1)]
            exact hexE_none hsn
          simp at hd
          simp only [List.drop_one] at hno
          simp [hd, nameR, hl, hb, h1, h2, g0', h3, hno]
      · simp at hlt
        obtain rfl : i = s.size := by omega
        have hr' : hexE 0 ((bI s).drop 1) = some r := by
          rw [← hr, List.take_of_length_le (by simp; omega)]
        simp
        refine CallQ.mk (Call.pure callable111 (by simp) (by simp) (conSafe r)) ?_
        simp only [List.drop_one] at hr'
        by_cases hsf : safeR r = r
        · simp [hsf, nameR, hl, hb, h1, h2, g0', h3, hr']
        · simp [hsf, nameR, hl, hb, h1, h2, g0', h3, hr']
def rdC (l : List Int) (p : Nat) (out : List Tok) (bad : List Dg) : List FV := [.sc (.sl (runesI l)), .sc (.int .i64 p), .own (out.map Tok.pv), .own (bad.map Dg.pv)]
theorem sized_tok (l : List Tok) : Sized 2 (l.map Tok.pv) := fun p hp => by
  simp only [List.mem_map] at hp; obtain ⟨x, _, rfl⟩ := hp; rfl
theorem sized_dg (l : List Dg) : Sized 3 (l.map Dg.pv) := fun p hp => by
  simp only [List.mem_map] at hp; obtain ⟨x, _, rfl⟩ := hp; rfl
theorem hset_b {H : Heap} {b : Nat} (h : b < H.length) {x : List FV} : (H.set b x)[b]? = some x := List.getElem?_set_self h
theorem conSay {l : List Int} {p : Nat} {out : List Tok} {bad : List Dg} (k x : Int) (ho : out.length < lenMax) (H : Heap) (b : Nat) (hb : H[b]? = some (rdC l p out bad)) :
    Con C0 94 [.ptr b 0, .sc (.int .i64 k), .sc (.int .i32 x)] H (.tup []) (H.set b (rdC l p (out ++ [⟨k, x⟩]) bad)) := by
  have hlm : out.length < 137438953472 := ho
  have hlt := (List.getElem?_eq_some_iff.1 hb).1
  refine enter94 ?_
  have so := sized_tok out
  have s1 : Sized 2 [PV.agg [PV.int .i64 k, PV.int .i32 x]] := sized_tok [⟨k, x⟩]
  have hb' := hb
  simp only [rdC] at hb'
  simp [Tryd.f94, hb', rdC, so, s1, lenMax, hset_b hlt]
  exact ⟨by omega, rfl⟩
theorem conTell {l : List Int} {p : Nat} {out : List Tok} {bad : List Dg} (k x : Int) (ho : bad.length < lenMax) (H : Heap) (b : Nat) (hb : H[b]? = some (rdC l p out bad)) :
    Con C0 97 [.ptr b 0, .sc (.int .i64 k), .sc (.int .i64 x)] H (.tup []) (H.set b (rdC l p out (bad ++ [⟨k, 0, IntKind.i64.wrap (x + 1)⟩]))) := by
  have hlm : bad.length < 137438953472 := ho
  have hlt := (List.getElem?_eq_some_iff.1 hb).1
  refine enter97 ?_
  have so := sized_dg bad
  have s1 : Sized 3 [PV.agg [PV.int .i64 k, PV.int .i64 0, PV.int .i64 (IntKind.i64.wrap (x + 1))]] := sized_dg [⟨k, 0, IntKind.i64.wrap (x + 1)⟩]
  have hb' := hb
  simp only [rdC] at hb'
  simp [Tryd.f97, hb', rdC, so, s1, lenMax, hset_b hlt]
  exact ⟨by omega, rfl⟩
def idxE (l : List Int) (x : Int) : Int := if l.findIdx (fun y => decide (x = y)) < l.length then ((l.findIdx (fun y => decide (x = y)) : Nat) : Int) else -1
theorem conIndexR (l : List Int) (x : Int) (hl : l.length ≤ lenMax) : PCon C0 109 [.sc (.sl (runesI l)), .sc (.int .i32 x)] (.sc (.int .i64 (idxE l x))) := by
  have hlm : l.length ≤ 137438953472 := hl
  refine penter109 ?_
  have hrl : (runesI l).length = l.length := by simp [runesI]
  simp [Tryd.f109, hrl]
  refine loopC (fun d e H' => ∃ (i : Nat) (x5 x9 x16 : FV), H' = [] ∧ d = l.length - i ∧ i ≤ l.length ∧ (∀ j (hj : j < l.length), j < i → ¬ x = l[j]) ∧ e = [(0, .sc (.sl (runesI l))), (1, .sc (.int .i32 x)), (4, .sc (.int .i64 0)), (5, x5), (7, .sc (.int .i64 l.length)), (8, .sc (.int .i64 i)), (9, x9), (16, x16)]) (d := l.length) ⟨0, .undef, .undef, .undef, rfl, rfl, Nat.zero_le _, fun j _ h => by omega, ?_⟩ ?_
  · simp
  · rintro d e H' ⟨i, x5, x9, x16, rfl, rfl, hi, hno, rfl⟩
    simp
    refine CondC.mk (fun hlt => ?_) (fun hlt => ?_)
    · simp at hlt
      have ht : (runesI l)[i]? = some (.int .i32 l[i]) := by simp [runesI, hlt]
      have hw : IntKind.i64.wrap ((i : Int) + 1) = ((i + 1 : Nat) : Int) := by rw [wrap64 (by omega) (by omega)]; omega
      simp [ht]
      by_cases hx : x = l[i]
      · have hf : l.findIdx (fun y => decide (x = y)) = i := by
          refine (List.findIdx_eq hlt).2 ⟨by simpa using hx, fun j hj => ?_⟩
          simpa using hno j (by omega) hj
        have hfi : idxE l x = i := by unfold idxE; rw [hf, if_pos hlt]
        simp [hx, hfi]
        rw [← hx]; exact hfi.symm
      · simp [hx, hw]
        exact ⟨l.length - (i + 1), by omega, i + 1, rfl, by omega, fun j h1 h2 => by
          by_cases hj : j = i
          · subst hj; exact hx
          · exact hno j h1 (by omega), by omega⟩
    · simp at hlt
      have hf : ¬ l.findIdx (fun y => decide (x = y)) < l.length := fun h => by
        have := List.findIdx_getElem (w := h)
        simp at this
        exact hno _ h (by omega) this
      simp [idxE, hf]
end Go.Proofs.YtabgeenhpfnhdaaDoor.Ev
end
section
namespace Go.Proofs.YtabgeenhpfnhdaaDoor.Ev
open Go
theorem set_sameX {H : Heap} {b : Nat} {x : List FV} (h : H[b]? = some x) : H.set b x = H := by
  have hlt := (List.getElem?_eq_some_iff.1 h).1
  have he := (List.getElem?_eq_some_iff.1 h).2
  rw [← he, List.set_getElem_self]
theorem runesOf_I (l : List Int) : runesOf (runesI l) = some l := by
  induction l with
  | nil => rfl
  | cons x l ih => simp only [runesI, List.map_cons, runesOf] at ih ⊢; rw [ih]; rfl
theorem runesI_take (l : List Int) (n : Nat) : (runesI l).take n = runesI (l.take n) := by simp [runesI]
theorem runesI_drop (l : List Int) (n : Nat) : (runesI l).drop n = runesI (l.drop n) := by simp [runesI]
theorem runesI_len (l : List Int) : (runesI l).length = l.length := by simp [runesI]
theorem runesI_cons (x : Int) (l : List Int) : runesI (x :: l) = .int .i32 x :: runesI l := rfl
theorem runesI_nil : runesI [] = [] := rfl
theorem sized_runes (l : List Int) : sizedB 1 (runesI l) = true := by simp [sizedB, runesI, PV.leaves]
def nameE (l : List Int) (p : Nat) (one : Bool) : ByteArray × Bool × Nat :=
  match l.drop p with
  | [] => (⟨#[]⟩, false, p)
  | c :: m => if c = 91 then (if idxE (c :: m) 93 < 0 then (⟨#[]⟩, false, p) else (runesBytes (((c :: m).take (idxE (c :: m) 93).toNat).drop 1), true, p + ((idxE (c :: m) 93).toNat + 1)))
    else if c = 40 then (if l.length < p + 3 then (⟨#[]⟩, false, p + 1) else (runesBytes ((l.take (p + 3)).drop (p + 1)), true, p + 3))
    else if one = true then (runesBytes ((l.take (p + 1)).drop p), true, p + 1) else (⟨#[]⟩, false, p)
theorem idxE_lt (l : List Int) (x : Int) : idxE l x < l.length := by
  unfold idxE; split <;> omega
theorem idxE_pos {c x : Int} {m : List Int} (h : c ≠ x) (h0 : ¬ idxE (c :: m) x < 0) : 1 ≤ idxE (c :: m) x := by
  unfold idxE at h0 ⊢
  split at h0
  · rename_i hl
    rw [if_pos hl]
    have : ¬ (c :: m).findIdx (fun y => decide (x = y)) = 0 := by
      rw [List.findIdx_cons]
      simp [Ne.symm h]
    omega
  · simp at h0
theorem nameE_le {l : List Int} {p : Nat} {one : Bool} (hp : p ≤ l.length) : p ≤ (nameE l p one).2.2 ∧ (nameE l p one).2.2 ≤ l.length := by
  unfold nameE
  split
  · exact ⟨Nat.le_refl _, hp⟩
  · rename_i c m hd
    have hlen : l.length = p + (m.length + 1) := by
      have := congrArg List.length hd
      simp at this; omega
    split
    · split
      · exact ⟨Nat.le_refl _, hp⟩
      · have := idxE_lt (c :: m) 93
        simp at this
        simp only; omega
    · split
      · split <;> simp only <;> omega
      · split <;> simp only <;> omega
set_option linter.unusedSimpArgs false in
set_option maxRecDepth 20000 in
set_option maxHeartbeats 4000000 in
theorem conNm {l : List Int} {p : Nat} {out : List Tok} {bad : List Dg} (one : Bool) (hl : l.length ≤ 1073741824) (hp : p ≤ l.length) (H : Heap) (b : Nat) (hb : H[b]? = some (rdC l p out bad)) :
    Con C0 106 [.ptr b 0, .sc (.bool one)] H (.tup [.sc (.str (nameE l p one).1), .sc (.bool (nameE l p one).2.1)]) (H.set b (rdC l (nameE l p one).2.2 out bad)) := by
  have hlt := (List.getElem?_eq_some_iff.1 hb).1
  have hb' := hb
  simp only [rdC] at hb'
  have hz := sized_runes l
  have hrl := runesI_len l
  have p0 : (0 : Int) ≤ (p : Int) := by omega
  have p1 : (p : Int) ≤ (l.length : Int) := by omega
  have hsame : H.set b [.sc (.sl (runesI l)), .sc (.int .i64 p), .own (out.map Tok.pv), .own (bad.map Dg.pv)] = H := set_sameX hb'
  have tkl : (runesI l).take l.length = runesI l := by rw [← hrl, List.take_length]
  refine enter106 ?_
  cases hd : l.drop p with
  | nil => simp [Tryd.f106, hb', hz, hrl, p0, p1, runesI_drop, tkl, hd, nameE, rdC, hsame, runesI_nil]
  | cons c m =>
    have hml : l.length = p + (m.length + 1) := by
      have := congrArg List.length hd
      simp at this; omega
    have n0 : ¬ ((m.length : Int) + 1 = 0) := by omega
    have hrm := runesI_len m
    by_cases h91 : c = 91
    · subst h91
      have hc : (runesI m).length + 1 = m.length + 1 := by rw [hrm]
      have ci := conIndexR (91 :: m) 93 (by simp only [List.length_cons, lenMax]; omega)
      simp [Tryd.f106, hb', hz, hrl, p0, p1, runesI_drop, tkl, hd, runesI_cons, hrm, n0]
      refine CallQ.mk (Call.pure callable109 (by simp) (by simp) ci) ?_
      by_cases hneg : idxE (91 :: m) 93 < 0
      · simp [hneg, nameE, hd, rdC, hsame]
      · have i1 : 1 ≤ idxE (91 :: m) 93 := idxE_pos (by decide) hneg
        have i2 := idxE_lt (91 :: m) 93
        simp only [List.length_cons] at i2
        obtain ⟨i, hi⟩ : ∃ i : Nat, idxE (91 :: m) 93 = i := ⟨(idxE (91 :: m) 93).toNat, by omega⟩
        rw [hi] at i1 i2 hneg ⊢
        have w1 : IntKind.i64.wrap ((i : Int) + 1) = (i : Int) + 1 := wrap64 (by omega) (by omega)
        have w2 : IntKind.i64.wrap ((p : Int) + ((i : Int) + 1)) = ((p + (i + 1) : Nat) : Int) := by rw [wrap64 (by omega) (by omega)]; omega
        have i3 : (i : Int) ≤ (m.length : Int) + 1 := by omega
        have i0 : (0 : Int) ≤ (i : Int) := by omega
        obtain ⟨j, rfl⟩ : ∃ j, i = j + 1 := ⟨i - 1, by omega⟩
        have hz1 : sizedB 1 (PV.int .i32 91 :: runesI m) = true := sized_runes (91 :: m)
        have i4 : ¬ ((j : Int) + 1 < 0) := by omega
        have i5 : (j : Int) + 1 ≤ (m.length : Int) + 1 := by omega
        have i6 : (j : Int) ≤ (m.length : Int) := by omega
        have w1' : IntKind.i64.wrap ((j : Int) + 1 + 1) = (j : Int) + 1 + 1 := by simpa using w1
        have w2' : IntKind.i64.wrap ((p : Int) + ((j : Int) + 1 + 1)) = ((p + (j + 1 + 1) : Nat) : Int) := by simpa using w2
        have tt : ((j : Int) + 1).toNat = j + 1 := by omega
        have i7 : (0 : Int) ≤ (j : Int) + 1 := by omega
        have i8 : (1 : Int) ≤ (j : Int) + 1 := by omega
        have i9 : (0 : Int) ≤ (j : Int) := by omega
        simp [hneg, hb', w1', w2', hset_b hlt, hz1, hrm, i0, i1, i3, i4, i5, i6, i7, i8, i9, tt, runesI_take, runesOf_I, nameE, hd, hi, rdC]
        done
    · by_cases h40 : c = 40
      · subst h40
        have w1 : IntKind.i64.wrap ((p : Int) + 1) = ((p + 1 : Nat) : Int) := by rw [wrap64 (by omega) (by omega)]; omega
        have w1' : IntKind.i64.wrap ((p : Int) + 1) = (p : Int) + 1 := by rw [wrap64 (by omega) (by omega)]
        have wr2 : IntKind.i64.wrap 2 = 2 := by decide
        have w2' : IntKind.i64.wrap ((p : Int) + 1 + 2) = ((p + 3 : Nat) : Int) := by rw [wrap64 (by omega) (by omega)]; omega
        have e1 : [FV.sc (.sl (runesI l)), .sc (.int .i64 (((p + 1 : Nat)) : Int)), .own (out.map Tok.pv), .own (bad.map Dg.pv)] = rdC l (p + 1) out bad := rfl
        have q0 : (0 : Int) ≤ (p : Int) + 1 := by omega
        have q2 : (p : Int) + 1 ≤ (p : Int) + 3 := by omega
        have t1 : ((p : Int) + 1).toNat = p + 1 := by omega
        have t3 : ((p : Int) + 3).toNat = p + 3 := by omega
        by_cases hlong : l.length < p + 3
        · have q3 : (l.length : Int) < (p : Int) + 3 := by omega
          cases one <;> simp [wr2, Tryd.f106, hb', hz, hrl, p0, p1, runesI_drop, tkl, hd, runesI_cons, hrm, n0, w1', w2', hset_b hlt, hlong, q3, nameE, rdC]
        · have q3 : ¬ (l.length : Int) < (p : Int) + 3 := by omega
          have q4 : (p : Int) + 3 ≤ (l.length : Int) := by omega
          have q5 : (0 : Int) ≤ (p : Int) + 3 := by omega
          cases one <;> simp [wr2, Tryd.f106, hb', hz, hrl, p0, p1, runesI_drop, tkl, hd, runesI_cons, hrm, n0, w1', w2', hset_b hlt, hlong, q3, q4, q5, q0, q2, t1, t3, runesI_take, runesOf_I, nameE, rdC]
      · have w1' : IntKind.i64.wrap ((p : Int) + 1) = (p : Int) + 1 := by rw [wrap64 (by omega) (by omega)]
        have q3 : ¬ (l.length : Int) < (p : Int) + 1 := by omega
        have q4 : (p : Int) + 1 ≤ (l.length : Int) := by omega
        have q0 : (0 : Int) ≤ (p : Int) + 1 := by omega
        have q2 : (p : Int) ≤ (p : Int) + 1 := by omega
        have t1 : ((p : Int) + 1).toNat = p + 1 := by omega
        cases one
        · simp [Tryd.f106, hb', hz, hrl, p0, p1, runesI_drop, tkl, hd, runesI_cons, hrm, n0, h91, h40, nameE, rdC, hsame]
        · simp [Tryd.f106, hb', hz, hrl, p0, p1, runesI_drop, tkl, hd, runesI_cons, hrm, n0, h91, h40, w1', q3, q4, q0, q2, t1, runesI_take, runesOf_I, hset_b hlt, nameE, rdC]
end Go.Proofs.YtabgeenhpfnhdaaDoor.Ev
end
section
namespace Go.Proofs.YtabgeenhpfnhdaaDoor.Ev
open Go
structure Rd where
  on : Bool
  p : Nat
  out : List Tok
  bad : List Dg
def namedE (l : List Int) (p : Nat) (out : List Tok) (bad : List Dg) (font : Bool) (fr : Int) : Rd :=
  if (nameE l p font).2.1 = true then
    (if (if font = true then fontR (nameE l p font).1 else nameR (nameE l p font).1).2 = true then
      ⟨true, (nameE l p font).2.2, out ++ [⟨if font = true then 3 else 1, (if font = true then fontR (nameE l p font).1 else nameR (nameE l p font).1).1⟩], bad⟩
    else ⟨true, (nameE l p font).2.2, out, bad ++ [⟨2, 0, IntKind.i64.wrap (fr + 1)⟩]⟩)
  else ⟨false, (nameE l p font).2.2, out, bad ++ [⟨1, 0, IntKind.i64.wrap (fr + 1)⟩]⟩
theorem nameE_size (l : List Int) (p : Nat) (one : Bool) : (nameE l p one).1.size ≤ 4 * l.length := by
  unfold nameE
  have hz : (⟨#[]⟩ : ByteArray).size = 0 := rfl
  split
  · simp [hz]
  · rename_i c m hd
    have hlen : l.length = p + (m.length + 1) := by
      have := congrArg List.length hd
      simp at this; omega
    have key : ∀ (x : List Int), x.length ≤ l.length → (runesBytes x).size ≤ 4 * l.length := fun x hx => by
      have := runesBytes_size_le x; omega
    repeat' split
    all_goals first
      | (rw [show (⟨#[]⟩ : ByteArray).size = 0 from rfl]; exact Nat.zero_le _)
      | (refine key _ ?_; simp only [List.length_drop, List.length_take, List.length_cons]; omega)
set_option maxRecDepth 20000 in
set_option maxHeartbeats 4000000 in
theorem conNamed {l : List Int} {p : Nat} {out : List Tok} {bad : List Dg} (font : Bool) (fr : Int) (hl : l.length ≤ 1073741824) (hp : p ≤ l.length) (ho : out.length < lenMax) (hd : bad.length < lenMax) (H : Heap) (b : Nat) (hb : H[b]? = some (rdC l p out bad)) :
    Con C0 103 [.ptr b 0, .sc (.bool font), .sc (.int .i64 fr)] H (.sc (.bool (namedE l p out bad font fr).on)) (H.set b (rdC l (namedE l p out bad font fr).p (namedE l p out bad font fr).out (namedE l p out bad font fr).bad)) := by
  have hlt := (List.getElem?_eq_some_iff.1 hb).1
  have hsz := nameE_size l p font
  refine enter103 ?_
  simp [Tryd.f103]
  refine CallQ.mk (Call.shared callable106 (conNm font hl hp H b hb)) ?_
  generalize hne : nameE l p font = ne at hsz ⊢
  obtain ⟨s, ok, q⟩ := ne
  simp only at hsz ⊢
  cases ok
  · simp
    refine CallQ.mk (Call.shared callable97 (conTell 1 fr hd _ b (hset_b hlt))) ?_
    simp [namedE, hne]
  · cases font
    · simp
      refine CallQ.mk (Call.pure callable107 (by simp) (by simp) (conName s (by omega))) ?_
      cases hx : (nameR s).2
      · simp
        refine CallQ.mk (Call.shared callable97 (conTell 2 fr hd _ b (hset_b hlt))) ?_
        simp [namedE, hne, hx]
      · simp
        refine CallQ.mk (Call.shared callable94 (conSay 1 _ ho _ b (hset_b hlt))) ?_
        simp [namedE, hne, hx]
    · simp
      refine CallQ.mk (Call.pure callable108 (by simp) (by simp) (conFont s (by omega))) ?_
      cases hx : (fontR s).2
      · simp
        refine CallQ.mk (Call.shared callable97 (conTell 2 fr hd _ b (hset_b hlt))) ?_
        simp [namedE, hne, hx]
      · simp
        refine CallQ.mk (Call.shared callable94 (conSay 3 _ ho _ b (hset_b hlt))) ?_
        simp [namedE, hne, hx]
def escE (l : List Int) (p : Nat) (out : List Tok) (bad : List Dg) (fr : Int) : Rd :=
  match l[p]? with
  | none => ⟨false, p, out, bad ++ [⟨1, 0, IntKind.i64.wrap (fr + 1)⟩]⟩
  | some c =>
    if c = 92 ∨ c = 101 then ⟨true, p + 1, out ++ [⟨1, 92⟩], bad⟩
    else if c = 45 ∨ c = 46 then ⟨true, p + 1, out ++ [⟨1, c⟩], bad⟩
    else if c = 39 then ⟨true, p + 1, out ++ [⟨1, 180⟩], bad⟩
    else if c = 96 then ⟨true, p + 1, out ++ [⟨1, 96⟩], bad⟩
    else if c = 32 ∨ c = 126 ∨ c = 48 then ⟨true, p + 1, out ++ [⟨1, 160⟩], bad⟩
    else if c = 38 ∨ c = 37 ∨ c = 47 ∨ c = 44 ∨ c = 58 then ⟨true, p + 1, out, bad⟩
    else if c = 34 then ⟨false, p + 1, out, bad⟩
    else if c = 40 ∨ c = 91 then namedE l p out bad false fr
    else if c = 102 then namedE l (p + 1) out bad true fr
    else ⟨true, p + 1, out, bad ++ [⟨1, 0, IntKind.i64.wrap (fr + 1)⟩]⟩
set_option maxRecDepth 20000 in
set_option maxHeartbeats 4000000 in
theorem conEsc {l : List Int} {p : Nat} {out : List Tok} {bad : List Dg} (fr : Int) (hl : l.length ≤ 1073741824) (hp : p ≤ l.length) (ho : out.length < lenMax) (hd : bad.length < lenMax) (H : Heap) (b : Nat) (hb : H[b]? = some (rdC l p out bad)) :
    Con C0 95 [.ptr b 0, .sc (.int .i64 fr)] H (.sc (.bool (escE l p out bad fr).on)) (H.set b (rdC l (escE l p out bad fr).p (escE l p out bad fr).out (escE l p out bad fr).bad)) := by
  have hlt := (List.getElem?_eq_some_iff.1 hb).1
  have hb' := hb
  simp only [rdC] at hb'
  have hz := sized_runes l
  have hrl := runesI_len l
  refine enter95 ?_
  cases hc : l[p]? with
  | none =>
    have hpl : p = l.length := by
      have := List.getElem?_eq_none_iff.1 hc; omega
    subst hpl
    simp [Tryd.f95, hb', hrl]
    refine CallQ.mk (Call.shared callable97 (conTell 1 fr hd _ b hb)) ?_
    simp [escE, hc]
  | some c =>
    have hpl : p < l.length := (List.getElem?_eq_some_iff.1 hc).1
    have hne : ¬ (p : Int) = (l.length : Int) := by omega
    have hne' : ¬ p = l.length := by omega
    have hrc : (runesI l)[p]? = some (.int .i32 c) := by simp [runesI, hc]
    have w1 : IntKind.i64.wrap ((p : Int) + 1) = ((p + 1 : Nat) : Int) := by rw [wrap64 (by omega) (by omega)]; omega
    have e1 : [FV.sc (.sl (runesI l)), .sc (.int .i64 (((p + 1 : Nat)) : Int)), .own (out.map Tok.pv), .own (bad.map Dg.pv)] = rdC l (p + 1) out bad := rfl
    have w2 : IntKind.i64.wrap ((p : Int) + 1 - 1) = (p : Int) := by rw [wrap64 (by omega) (by omega)]; omega
    have w2' : IntKind.i64.wrap (p : Int) = (p : Int) := wrap64 (by omega) (by omega)
    have hsame : H.set b [.sc (.sl (runesI l)), .sc (.int .i64 p), .own (out.map Tok.pv), .own (bad.map Dg.pv)] = H := set_sameX hb'
    by_cases h92 : c = 92
    · subst h92
      simp [Tryd.f95, hb', hrl, hne, hne', hrc, w1]
      refine CallQ.mk (Call.shared callable94 (conSay (l := l) (p := p + 1) (out := out) (bad := bad) 1 92 ho _ b (by rw [hset_b hlt]; rfl))) ?_
      simp [escE, hc]
    by_cases h101 : c = 101
    · subst h101
      simp [Tryd.f95, hb', hrl, hne, hne', hrc, w1]
      refine CallQ.mk (Call.shared callable94 (conSay (l := l) (p := p + 1) (out := out) (bad := bad) 1 92 ho _ b (by rw [hset_b hlt]; rfl))) ?_
      simp [escE, hc]
    by_cases h45 : c = 45
    · subst h45
      simp [Tryd.f95, hb', hrl, hne, hne', hrc, w1]
      refine CallQ.mk (Call.shared callable94 (conSay (l := l) (p := p + 1) (out := out) (bad := bad) 1 45 ho _ b (by rw [hset_b hlt]; rfl))) ?_
      simp [escE, hc]
    by_cases h46 : c = 46
    · subst h46
      simp [Tryd.f95, hb', hrl, hne, hne', hrc, w1]
      refine CallQ.mk (Call.shared callable94 (conSay (l := l) (p := p + 1) (out := out) (bad := bad) 1 46 ho _ b (by rw [hset_b hlt]; rfl))) ?_
      simp [escE, hc]
    by_cases h39 : c = 39
    · subst h39
      simp [Tryd.f95, hb', hrl, hne, hne', hrc, w1]
      refine CallQ.mk (Call.shared callable94 (conSay (l := l) (p := p + 1) (out := out) (bad := bad) 1 180 ho _ b (by rw [hset_b hlt]; rfl))) ?_
      simp [escE, hc]
    by_cases h96 : c = 96
    · subst h96
      simp [Tryd.f95, hb', hrl, hne, hne', hrc, w1]
      refine CallQ.mk (Call.shared callable94 (conSay (l := l) (p := p + 1) (out := out) (bad := bad) 1 96 ho _ b (by rw [hset_b hlt]; rfl))) ?_
      simp [escE, hc]
    by_cases h32 : c = 32
    · subst h32
      simp [Tryd.f95, hb', hrl, hne, hne', hrc, w1]
      refine CallQ.mk (Call.shared callable94 (conSay (l := l) (p := p + 1) (out := out) (bad := bad) 1 160 ho _ b (by rw [hset_b hlt]; rfl))) ?_
      simp [escE, hc]
    by_cases h126 : c = 126
    · subst h126
      simp [Tryd.f95, hb', hrl, hne, hne', hrc, w1]
      refine CallQ.mk (Call.shared callable94 (conSay (l := l) (p := p + 1) (out := out) (bad := bad) 1 160 ho _ b (by rw [hset_b hlt]; rfl))) ?_
      simp [escE, hc]
    by_cases h48 : c = 48
    · subst h48
      simp [Tryd.f95, hb', hrl, hne, hne', hrc, w1]
      refine CallQ.mk (Call.shared callable94 (conSay (l := l) (p := p + 1) (out := out) (bad := bad) 1 160 ho _ b (by rw [hset_b hlt]; rfl))) ?_
      simp [escE, hc]
    by_cases h38 : c = 38
    · subst h38
      simp [Tryd.f95, hb', hrl, hne, hne', hrc, w1, escE, hc, rdC]
    by_cases h37 : c = 37
    · subst h37
      simp [Tryd.f95, hb', hrl, hne, hne', hrc, w1, escE, hc, rdC]
    by_cases h47 : c = 47
    · subst h47
      simp [Tryd.f95, hb', hrl, hne, hne', hrc, w1, escE, hc, rdC]
    by_cases h44 : c = 44
    · subst h44
      simp [Tryd.f95, hb', hrl, hne, hne', hrc, w1, escE, hc, rdC]
    by_cases h58 : c = 58
    · subst h58
      simp [Tryd.f95, hb', hrl, hne, hne', hrc, w1, escE, hc, rdC]
    by_cases h34 : c = 34
    · subst h34
      simp [Tryd.f95, hb', hrl, hne, hne', hrc, w1, escE, hc, rdC]
    by_cases h40 : c = 40
    · subst h40
      simp [Tryd.f95, hb', hrl, hne, hne', hrc, w1, w2, w2', hset_b hlt, hsame]
      refine CallQ.mk (Call.shared callable103 (conNamed false fr hl hp ho hd _ b hb)) ?_
      simp [escE, hc]
    by_cases h91 : c = 91
    · subst h91
      simp [Tryd.f95, hb', hrl, hne, hne', hrc, w1, w2, w2', hset_b hlt, hsame]
      refine CallQ.mk (Call.shared callable103 (conNamed false fr hl hp ho hd _ b hb)) ?_
      simp [escE, hc]
    by_cases h102 : c = 102
    · subst h102
      simp [Tryd.f95, hb', hrl, hne, hne', hrc, w1]
      refine CallQ.mk (Call.shared callable103 (conNamed (l := l) (p := p + 1) (out := out) (bad := bad) true fr hl hpl ho hd _ b (by rw [hset_b hlt]; rfl))) ?_
      simp [escE, hc]
    simp [Tryd.f95, hb', hrl, hne, hne', hrc, w1, h92, h101, h45, h46, h39, h96, h32, h126, h48, h38, h37, h47, h44, h58, h34, h40, h91, h102]
    refine CallQ.mk (Call.shared callable97 (conTell (l := l) (p := p + 1) (out := out) (bad := bad) 1 fr hd _ b (by rw [hset_b hlt]; rfl))) ?_
    simp [escE, hc, h92, h101, h45, h46, h39, h96, h32, h126, h48, h38, h37, h47, h44, h58, h34, h40, h91, h102]
end Go.Proofs.YtabgeenhpfnhdaaDoor.Ev
end
section
namespace Go.Proofs.YtabgeenhpfnhdaaDoor.Ev
open Go
def stepE (l : List Int) (p : Nat) (out : List Tok) (bad : List Dg) (c : Int) : Rd :=
  if c = 32 ∨ c = 9 then ⟨true, p + 1, out ++ [⟨2, 0⟩], bad⟩
  else if c = 92 then escE l (p + 1) out bad p
  else if controlR c = true then ⟨true, p + 1, out ++ [⟨1, 65533⟩], bad ++ [⟨3, 0, IntKind.i64.wrap ((p : Int) + 1)⟩]⟩
  else ⟨true, p + 1, out ++ [⟨1, c⟩], bad⟩
def scanF : Nat → List Int → Nat → List Tok → List Dg → List Tok × List Dg
  | 0, _, _, out, bad => (out, bad)
  | n + 1, l, p, out, bad => match l[p]? with
    | none => (out, bad)
    | some c => if (stepE l p out bad c).on = true then scanF n l (stepE l p out bad c).p (stepE l p out bad c).out (stepE l p out bad c).bad else ((stepE l p out bad c).out, (stepE l p out bad c).bad)
def scanL (l : List Int) : List Tok × List Dg := scanF (l.length + 1) l 0 [] []
theorem namedE_ok {l : List Int} {p : Nat} {out : List Tok} {bad : List Dg} (font : Bool) (fr : Int) (hp : p ≤ l.length) :
    p ≤ (namedE l p out bad font fr).p ∧ (namedE l p out bad font fr).p ≤ l.length ∧ (namedE l p out bad font fr).out.length ≤ out.length + 1 ∧ (namedE l p out bad font fr).bad.length ≤ bad.length + 1 := by
  have h := nameE_le (one := font) hp
  unfold namedE
  repeat' split
  all_goals (simp only [List.length_append, List.length_singleton]; omega)
theorem escE_ok {l : List Int} {p : Nat} {out : List Tok} {bad : List Dg} (fr : Int) (hp : p ≤ l.length) :
    p ≤ (escE l p out bad fr).p ∧ (escE l p out bad fr).p ≤ l.length ∧ (escE l p out bad fr).out.length ≤ out.length + 1 ∧ (escE l p out bad fr).bad.length ≤ bad.length + 1 := by
  unfold escE
  cases hc : l[p]? with
  | none => simp; omega
  | some c =>
    have hpl : p < l.length := (List.getElem?_eq_some_iff.1 hc).1
    have n1 := namedE_ok (out := out) (bad := bad) false fr hp
    have n2 := namedE_ok (out := out) (bad := bad) true fr (p := p + 1) hpl
    simp only
    repeat' split
    all_goals first
      | exact n1
      | exact ⟨by omega, n2.2⟩
      | (simp only [List.length_append, List.length_singleton]; omega)
theorem stepE_ok {l : List Int} {p : Nat} {out : List Tok} {bad : List Dg} (c : Int) (hp : p < l.length) :
    p < (stepE l p out bad c).p ∧ (stepE l p out bad c).p ≤ l.length ∧ (stepE l p out bad c).out.length ≤ out.length + 1 ∧ (stepE l p out bad c).bad.length ≤ bad.length + 1 := by
  have e := escE_ok (out := out) (bad := bad) p (p := p + 1) hp
  unfold stepE
  repeat' split
  all_goals first
    | exact ⟨by omega, e.2⟩
    | (simp only [List.length_append, List.length_singleton]; omega)
theorem scanF_fuel {l : List Int} : ∀ {n m p : Nat} {out : List Tok} {bad : List Dg}, l.length < p + n → l.length < p + m → scanF n l p out bad = scanF m l p out bad := by
  intro n
  induction n with
  | zero =>
    intro m p out bad h1 h2
    have : l[p]? = none := List.getElem?_eq_none_iff.2 (by omega)
    cases m with
    | zero => rfl
    | succ m => simp [scanF, this]
  | succ n ih =>
    intro m p out bad h1 h2
    cases hc : l[p]? with
    | none => cases m <;> simp [scanF, hc]
    | some c =>
      have hpl : p < l.length := (List.getElem?_eq_some_iff.1 hc).1
      have h := stepE_ok (out := out) (bad := bad) c hpl
      cases m with
      | zero => omega
      | succ m =>
        simp only [scanF, hc]
        split
        · exact ih (by omega) (by omega)
        · rfl
set_option maxRecDepth 20000 in
set_option maxHeartbeats 4000000 in
theorem conScan (s : ByteArray) (hs : s.size ≤ 1073741824) :
    PCon C0 80 [.sc (.str s)] (.tup [.sc (.sl ((scanL (dec (bI s))).1.map Tok.pv)), .sc (.sl ((scanL (dec (bI s))).2.map Dg.pv))]) := by
  have eb : bytesPV s = bytesI (bI s) := by simp [bytesPV, bytesI, bI]
  have hbl := bI_len s
  have hdl : (dec (bI s)).length ≤ s.size := by rw [← hbl]; exact decR_len
  generalize hl : dec (bI s) = l at hdl ⊢
  refine penter80 ?_
  simp [Tryd.f80]
  rw [eb]
  refine CallQ.mk (Call.pure callable93 (by simp) (by simp) (conDecode (bI s) (by rw [hbl]; show s.size ≤ 137438953472; omega))) ?_
  rw [hl]
  simp
  refine loopC (fun d e H' => ∃ (p : Nat) (out : List Tok) (bad : List Dg) (x5 x6 x21 x43 x48 x51 x59 : FV), H' = [rdC l p out bad] ∧ d = l.length - p ∧ p ≤ l.length ∧ out.length ≤ p ∧ bad.length ≤ p ∧ scanF (l.length + 1 - p) l p out bad = scanL l ∧ e = [(0, .sc (.str s)), (2, .own []), (3, .own []), (4, .ptr 0 0), (5, x5), (6, x6), (21, x21), (43, x43), (48, x48), (51, x51), (59, x59)]) (d := l.length) ⟨0, [], [], .undef, .undef, .undef, .undef, .undef, .undef, .undef, rfl, rfl, Nat.zero_le _, Nat.le_refl _, Nat.le_refl _, rfl, ?_⟩ ?_
  · simp
  · rintro d e H' ⟨p, out, bad, x5, x6, x21, x43, x48, x51, x59, rfl, rfl, hp, ho, hb, hsc, rfl⟩
    have hrl := runesI_len l
    have hz := sized_runes l
    simp [rdC]
    refine CondC.mk (fun hlt => ?_) (fun hlt => ?_)
    · simp [hrl] at hlt
      have hrc : (runesI l)[p]? = some (.int .i32 l[p]) := by simp [runesI, hlt]
      have w1 : IntKind.i64.wrap ((p : Int) + 1) = ((p + 1 : Nat) : Int) := by rw [wrap64 (by omega) (by omega)]; omega
      have st := stepE_ok (out := out) (bad := bad) l[p] hlt
      have hnext : scanL l = if (stepE l p out bad l[p]).on = true then scanF (l.length + 1 - (stepE l p out bad l[p]).p) l (stepE l p out bad l[p]).p (stepE l p out bad l[p]).out (stepE l p out bad l[p]).bad else ((stepE l p out bad l[p]).out, (stepE l p out bad l[p]).bad) := by
        rw [← hsc]
        have hq : l[p]? = some l[p] := by simp [hlt]
        rw [show l.length + 1 - p = (l.length - p) + 1 from by omega, scanF, hq]
        simp only
        split
        · exact scanF_fuel (by omega) (by omega)
        · rfl
      generalize l[p] = c at hrc st hnext
      have lm : out.length < lenMax ∧ bad.length < lenMax := ⟨by show out.length < 137438953472; omega, by show bad.length < 137438953472; omega⟩
      by_cases h32 : c = 32
      · have hs : stepE l p out bad c = ⟨true, p + 1, out ++ [⟨2, 0⟩], bad⟩ := by simp [stepE, h32]
        rw [hs] at hnext st
        simp [hrl, hrc, w1, h32]
        refine CallQ.mk (Call.shared callable94 (conSay (l := l) (p := p + 1) (out := out) (bad := bad) 2 0 lm.1 _ 0 rfl)) ?_
        simp
        exact ⟨l.length - (p + 1), by omega, p + 1, _, _, rfl, rfl, hlt, Nat.le_trans st.2.2.1 (by omega), Nat.le_trans st.2.2.2 (by omega), (hnext.trans (if_pos rfl)).symm⟩
      by_cases h9 : c = 9
      · have hs : stepE l p out bad c = ⟨true, p + 1, out ++ [⟨2, 0⟩], bad⟩ := by simp [stepE, h9]
        rw [hs] at hnext st
        simp [hrl, hrc, w1, h9]
        refine CallQ.mk (Call.shared callable94 (conSay (l := l) (p := p + 1) (out := out) (bad := bad) 2 0 lm.1 _ 0 rfl)) ?_
        simp
        exact ⟨l.length - (p + 1), by omega, p + 1, _, _, rfl, rfl, hlt, Nat.le_trans st.2.2.1 (by omega), Nat.le_trans st.2.2.2 (by omega), (hnext.trans (if_pos rfl)).symm⟩
      by_cases h92 : c = 92
      · have hs : stepE l p out bad c = escE l (p + 1) out bad p := by simp [stepE, h92]
        rw [hs] at hnext st
        simp [hrl, hrc, w1, h92]
        refine CallQ.mk (Call.shared callable95 (conEsc (l := l) (p := p + 1) (out := out) (bad := bad) p (by omega) (by omega) lm.1 lm.2 _ 0 rfl)) ?_
        cases hon : (escE l (p + 1) out bad p).on
        · rw [if_neg (by rw [hon]; decide)] at hnext
          simp [hon, rdC, hnext]
        · rw [if_pos hon] at hnext
          simp [hon]
          exact ⟨l.length - (escE l (p + 1) out bad p).p, by omega, _, _, _, rfl, rfl, st.2.1, Nat.le_trans st.2.2.1 (by omega), Nat.le_trans st.2.2.2 (by omega), hnext.symm⟩
      simp [hrl, hrc, w1, h32, h9, h92]
      refine CallQ.mk (Call.pure callable96 (by simp) (by simp) (conControl c)) ?_
      cases hct : controlR c
      · have hs : stepE l p out bad c = ⟨true, p + 1, out ++ [⟨1, c⟩], bad⟩ := by simp [stepE, h32, h9, h92, hct]
        rw [hs] at hnext st
        simp
        refine CallQ.mk (Call.shared callable94 (conSay (l := l) (p := p + 1) (out := out) (bad := bad) 1 c lm.1 _ 0 rfl)) ?_
        simp
        exact ⟨l.length - (p + 1), by omega, p + 1, _, _, rfl, rfl, hlt, Nat.le_trans st.2.2.1 (by omega), Nat.le_trans st.2.2.2 (by omega), (hnext.trans (if_pos rfl)).symm⟩
      · have hs : stepE l p out bad c = ⟨true, p + 1, out ++ [⟨1, 65533⟩], bad ++ [⟨3, 0, IntKind.i64.wrap ((p : Int) + 1)⟩]⟩ := by simp [stepE, h32, h9, h92, hct]
        rw [hs] at hnext st
        simp
        refine CallQ.mk (Call.shared callable97 (conTell (l := l) (p := p + 1) (out := out) (bad := bad) 3 p lm.2 _ 0 rfl)) ?_
        simp
        refine CallQ.mk (Call.shared callable94 (conSay (l := l) (p := p + 1) (out := out) (bad := bad ++ [⟨3, 0, IntKind.i64.wrap ((p : Int) + 1)⟩]) 1 65533 lm.1 _ 0 rfl)) ?_
        simp
        exact ⟨l.length - (p + 1), by omega, p + 1, _, _, rfl, rfl, hlt, Nat.le_trans st.2.2.1 (by omega), Nat.le_trans st.2.2.2 (by omega), (hnext.trans (if_pos rfl)).symm⟩
    · simp [hrl] at hlt
      obtain rfl : p = l.length := by omega
      have hq : l[l.length]? = none := by simp
      rw [show l.length + 1 - l.length = 0 + 1 from by omega, scanF, hq] at hsc
      simp only at hsc
      simp [← hsc]
end Go.Proofs.YtabgeenhpfnhdaaDoor.Ev
end
section
namespace Go.Proofs.YtabgeenhpfnhdaaDoor.Ev
open Go
structure Face where
  now : Int
  was : Int
def Face.cells (f : Face) : List FV := [.sc (.int .u8 f.now), .sc (.int .u8 f.was)]
def turnF (f : Face) (n : Int) : Face := if n = 4 then ⟨f.was, f.now⟩ else if n = 0 ∨ n = 1 ∨ n = 2 ∨ n = 3 then ⟨n, f.now⟩ else f
set_option maxRecDepth 20000 in
theorem conTurn (f : Face) (n : Int) : PCon C0 98 [.agg f.cells, .sc (.int .i32 n)] (.agg (turnF f n).cells) := by
  refine penter98 ?_
  have w0 : IntKind.u8.wrap 0 = 0 := by decide
  have w1 : IntKind.u8.wrap 1 = 1 := by decide
  have w2 : IntKind.u8.wrap 2 = 2 := by decide
  have w3 : IntKind.u8.wrap 3 = 3 := by decide
  by_cases h4 : n = 4
  · simp [Tryd.f98, Face.cells, turnF, h4]
  by_cases h0 : n = 0
  · simp [Tryd.f98, Face.cells, turnF, h0, w0]
  by_cases h1 : n = 1
  · simp [Tryd.f98, Face.cells, turnF, h1, w1]
  by_cases h2 : n = 2
  · simp [Tryd.f98, Face.cells, turnF, h2, w2]
  by_cases h3 : n = 3
  · simp [Tryd.f98, Face.cells, turnF, h3, w3]
  simp [Tryd.f98, Face.cells, turnF, h0, h1, h2, h3, h4]
def setE : List Glyph × Face → Tok → List Glyph × Face := fun s t =>
  if t.kind = 1 then (s.1 ++ [⟨t.r, s.2.now⟩], s.2) else if t.kind = 2 then (s.1 ++ [⟨32, 0⟩], s.2) else if t.kind = 3 then (s.1, turnF s.2 t.r) else s
def setL (f : Face) (l : List Tok) : List Glyph × Face := l.foldl setE ([], f)
theorem setL_take {f : Face} {l : List Tok} {i : Nat} (h : i < l.length) : setL f (l.take (i + 1)) = setE (setL f (l.take i)) l[i] := by
  rw [List.take_succ_eq_append_getElem h, setL, List.foldl_append]; rfl
theorem setL_len (f : Face) (l : List Tok) : (setL f l).1.length ≤ l.length := by
  have : ∀ (l : List Tok) (s : List Glyph × Face), (l.foldl setE s).1.length ≤ s.1.length + l.length := by
    intro l
    induction l with
    | nil => intro s; simp
    | cons g l ih =>
      intro s
      have h1 := ih (setE s g)
      have h2 : (setE s g).1.length ≤ s.1.length + 1 := by
        unfold setE; split
        · simp
        · split
          · simp
          · split <;> simp
      rw [List.foldl_cons, List.length_cons]; omega
  have := this l ([], f)
  simpa [setL] using this
set_option maxRecDepth 20000 in
set_option maxHeartbeats 4000000 in
theorem conSet (f : Face) (l : List Tok) (hl : l.length ≤ 1073741824) : PCon C0 81 [.agg f.cells, .sc (.sl (l.map Tok.pv))] (.tup [.own ((setL f l).1.map Glyph.pv), .agg (setL f l).2.cells]) := by
  refine penter81 ?_
  simp [Tryd.f81, Face.cells]
  have e0 : (setL f (l.take 0)) = ([], f) := rfl
  refine loopC (fun d e H' => ∃ (i : Nat) (J : Heap) (x4 x8 x12 x16 x17 x27 x33 : FV) (ra rb : FV), H' = (setL f (l.take i)).2.cells :: [ra, rb] :: J ∧ d = l.length - i ∧ i ≤ l.length ∧ e = [(0, .agg f.cells), (1, .sc (.sl (l.map Tok.pv))), (2, .ptr 0 0), (4, x4), (5, .ptr 1 0), (6, .own ((setL f (l.take i)).1.map Glyph.pv)), (8, x8), (9, .sc (.sl (l.map Tok.pv))), (10, .sc (.int .i64 l.length)), (11, .sc (.int .i64 i)), (12, x12), (16, x16), (17, x17), (27, x27), (33, x33)]) (d := l.length) ⟨0, [], .own [], .undef, .undef, .undef, .undef, .undef, .undef, _, _, (by rw [e0]; rfl), rfl, Nat.zero_le _, ?_⟩ ?_
  · simp [setL, Face.cells]
    done
  · rintro d e H' ⟨i, J, x4, x8, x12, x16, x17, x27, x33, ra, rb, rfl, rfl, hi, rfl⟩
    simp
    refine CondC.mk (fun hlt => ?_) (fun hlt => ?_)
    · simp at hlt
      have hlen := setL_len f (l.take i)
      have ht := setL_take (f := f) hlt
      have hq : (l.map Tok.pv)[i]? = some (l[i]).pv := by simp [hlt]
      generalize hS : setL f (l.take i) = Q at *
      obtain ⟨out, fc⟩ := Q
      have hw : IntKind.i64.wrap ((i : Int) + 1) = ((i + 1 : Nat) : Int) := by rw [wrap64 (by omega) (by omega)]; omega
      have ho : out.length ≤ 1073741824 := by simp only [List.length_take] at hlen; omega
      have so : Sized 2 (out.map Glyph.pv) := fun p hp => by simp only [List.mem_map] at hp; obtain ⟨x, _, rfl⟩ := hp; rfl
      have s1 : ∀ a b : Int, Sized 2 [PV.agg [PV.int .i32 a, PV.int .u8 b]] := fun a b p hp => by simp at hp; subst hp; rfl
      generalize l[i] = t at hq ht
      have fin : ∀ (o' : List Glyph) (n' w' : Int) (q : List PV), setE (out, fc) t = (o', ⟨n', w'⟩) → q = o'.map Glyph.pv → ∃ d', d' < l.length - i ∧ ∃ k, (n' = (setL f (List.take k l)).snd.now ∧ w' = (setL f (List.take k l)).snd.was) ∧ d' = l.length - k ∧ k ≤ l.length ∧
          q = List.map Glyph.pv (setL f (List.take k l)).fst ∧ (i : Int) + 1 = (k : Nat) := by
        intro o' n' w' q h1 h2
        refine ⟨l.length - (i + 1), by omega, i + 1, ?_, rfl, by omega, ?_, by omega⟩
        · rw [ht, h1]; exact ⟨rfl, rfl⟩
        · rw [ht, h1, h2]
      by_cases h1 : t.kind = 1
      · simp [hq, Tok.pv, Face.cells, h1, so, s1, lenMax, hw]
        exact ⟨by omega, fin (out ++ [⟨t.r, fc.now⟩]) fc.now fc.was _ (by simp [setE, h1]) (by simp [Glyph.pv])⟩
      by_cases h2 : t.kind = 2
      · simp [hq, Tok.pv, Face.cells, h2, so, s1, lenMax, hw]
        exact ⟨by omega, fin (out ++ [⟨32, 0⟩]) fc.now fc.was _ (by simp [setE, h2]) (by simp [Glyph.pv])⟩
      by_cases h3 : t.kind = 3
      · simp [hq, Tok.pv, Face.cells, h3, hw]
        refine CallQ.mk (Call.pure callable98 (by simp) (by simp [Face.cells]) (conTurn fc t.r)) ?_
        simp [Face.cells, hw]
        exact fin out _ _ _ (by simp [setE, h3]) rfl
      simp [hq, Tok.pv, Face.cells, h1, h2, h3, hw]
      exact fin out fc.now fc.was _ (by simp [setE, h1, h2, h3]) rfl
    · simp at hlt
      simp [Face.cells, List.take_of_length_le hlt]
def lineG (f : Face) (s : ByteArray) : List Glyph := (setL f (scanL (dec (bI s))).1).1
def lineF (f : Face) (s : ByteArray) : Face := (setL f (scanL (dec (bI s))).1).2
def lineD (s : ByteArray) : List Dg := (scanL (dec (bI s))).2
theorem scanF_len {l : List Int} : ∀ {n p : Nat} {out : List Tok} {bad : List Dg}, p ≤ l.length → out.length ≤ p → bad.length ≤ p → (scanF n l p out bad).1.length ≤ l.length ∧ (scanF n l p out bad).2.length ≤ l.length := by
  intro n
  induction n with
  | zero => intro p out bad h h1 h2; simp only [scanF]; omega
  | succ n ih =>
    intro p out bad h h1 h2
    rw [scanF]
    cases hc : l[p]? with
    | none => simp only; omega
    | some c =>
      have hpl : p < l.length := (List.getElem?_eq_some_iff.1 hc).1
      have st := stepE_ok (out := out) (bad := bad) c hpl
      simp only
      split
      · exact ih st.2.1 (by omega) (by omega)
      · simp only; omega
theorem scan_len (s : ByteArray) : (scanL (dec (bI s))).1.length ≤ s.size ∧ (scanL (dec (bI s))).2.length ≤ s.size := by
  have h := scanF_len (l := dec (bI s)) (n := (dec (bI s)).length + 1) (p := 0) (out := []) (bad := []) (Nat.zero_le _) (Nat.le_refl _) (Nat.le_refl _)
  have hdl : (dec (bI s)).length ≤ s.size := by rw [← bI_len s]; exact decR_len
  exact ⟨Nat.le_trans h.1 hdl, Nat.le_trans h.2 hdl⟩
theorem line_len (f : Face) (s : ByteArray) : (lineG f s).length ≤ s.size := Nat.le_trans (setL_len _ _) (scan_len s).1
set_option maxRecDepth 20000 in
set_option maxHeartbeats 4000000 in
theorem conLine (f : Face) (s : ByteArray) (hs : s.size ≤ 1073741824) : PCon C0 65 [.agg f.cells, .sc (.str s)] (.tup [.sc (gl (lineG f s)), .agg (lineF f s).cells, .sc (.sl ((lineD s).map Dg.pv))]) := by
  have hl := (scan_len s).1
  refine penter65 ?_
  simp [Tryd.f65, Face.cells]
  refine CallQ.mk (Call.pure callable80 (by simp) (by simp) (conScan s hs)) ?_
  simp
  refine CallQ.mk (Call.pure callable81 (by simp [Face.cells]) (by simp [Face.cells]) (conSet f _ (by omega))) ?_
  simp
  simp [Face.cells, lineG, lineF, lineD, gl]
end Go.Proofs.YtabgeenhpfnhdaaDoor.Ev
end
section
namespace Go.Proofs.YtabgeenhpfnhdaaDoor.Ev
open Go
def Glyph.blank (g : Glyph) : Bool := decide (g.r = 32)
def idxB : List Glyph → Nat
  | [] => 0
  | g :: l => if g.blank = true then 0 else idxB l + 1
def idxOf (l : List Glyph) : Int := if idxB l < l.length then (idxB l : Int) else -1
end Go.Proofs.YtabgeenhpfnhdaaDoor.Ev
end
