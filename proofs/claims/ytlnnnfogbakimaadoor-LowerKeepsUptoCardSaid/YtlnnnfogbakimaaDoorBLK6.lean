/- Of what the law LowerKeeps needs: part 6. -/
import Derived.KernelRfl
import Derived.Lib.DecodeN
import Derived.Test.YtlnnnfogbakimaaDoorProg
import Derived.Test.YtlnnnfogbakimaaDoorBLK5
set_option linter.unusedSimpArgs false
set_option linter.unusedVariables false
section
namespace Go.Proofs.YtlnnnfogbakimaaDoor.Ev
open Go
def firstPV : List PV := (List.range 256).map fun c => .int .u8 (Go.Lib.firstT c : Nat)
def acceptPV : List PV := (List.range 32).map fun j => .int .u8 ((if j % 2 = 0 then Go.Lib.accLo (j / 2) else Go.Lib.accHi (j / 2) : Nat) : Int)
noncomputable def C0 : Ctx := { P := Tryd.prog, laid := fun g => if g = 0 then some [.int .i32 32, .int .u8 0] else if g = 1 then some firstPV else if g = 2 then some acceptPV else none, keep := fun _ => True, mapT := 0, maps := fun _ => none, mapsOk := fun _ _ _ _ _ _ _ _ h => nomatch h }
theorem laidFirst : C0.laid 1 = some firstPV := rfl
theorem laidAccept : C0.laid 2 = some acceptPV := rfl
theorem C0_P : C0.P = Tryd.prog := rfl
theorem laid0 : C0.laid 0 = some [.int .i32 32, .int .u8 0] := rfl
theorem mixed : C0.P.follows .mixedOrders = true := by kernel_rfl
theorem sz3 : szOf Tryd.prog 3 = some 1 := by kernel_rfl
theorem zero3 : zeroOf Tryd.prog 3 = some (.int .i64 0) := by kernel_rfl
theorem bytes3 : bytesOf Tryd.prog 3 = some 8 := by kernel_rfl
theorem sz4 : szOf Tryd.prog 4 = some 1 := by kernel_rfl
theorem zero4 : zeroOf Tryd.prog 4 = some (.bool false) := by kernel_rfl
theorem bytes4 : bytesOf Tryd.prog 4 = some 1 := by kernel_rfl
theorem sz5 : szOf Tryd.prog 5 = some 1 := by kernel_rfl
theorem zero5 : zeroOf Tryd.prog 5 = some (.int .u8 0) := by kernel_rfl
theorem bytes5 : bytesOf Tryd.prog 5 = some 1 := by kernel_rfl
theorem sz9 : szOf Tryd.prog 9 = some 1 := by kernel_rfl
theorem zero9 : zeroOf Tryd.prog 9 = some (.string ByteArray.empty) := by kernel_rfl
theorem bytes9 : bytesOf Tryd.prog 9 = some 16 := by kernel_rfl
theorem sz20 : szOf Tryd.prog 20 = some 1 := by kernel_rfl
theorem zero20 : zeroOf Tryd.prog 20 = some (.nilIface) := by kernel_rfl
theorem bytes20 : bytesOf Tryd.prog 20 = some 16 := by kernel_rfl
theorem sz21 : szOf Tryd.prog 21 = some 1 := by kernel_rfl
theorem zero21 : zeroOf Tryd.prog 21 = some (.int .i32 0) := by kernel_rfl
theorem bytes21 : bytesOf Tryd.prog 21 = some 4 := by kernel_rfl
theorem sz22 : szOf Tryd.prog 22 = some 1 := by kernel_rfl
theorem zero22 : zeroOf Tryd.prog 22 = some (.slice none 0 0) := by kernel_rfl
theorem bytes22 : bytesOf Tryd.prog 22 = some 24 := by kernel_rfl
theorem sz24 : szOf Tryd.prog 24 = some 5 := by kernel_rfl
theorem zero24 : zeroOf Tryd.prog 24 = some (.agg #[.string ByteArray.empty, .string ByteArray.empty, .string ByteArray.empty, .string ByteArray.empty, .slice none 0 0]) := by kernel_rfl
theorem bytes24 : bytesOf Tryd.prog 24 = some 88 := by kernel_rfl
theorem sz28 : szOf Tryd.prog 28 = some 1 := by kernel_rfl
theorem zero28 : zeroOf Tryd.prog 28 = some (.slice none 0 0) := by kernel_rfl
theorem bytes28 : bytesOf Tryd.prog 28 = some 24 := by kernel_rfl
theorem sz29 : szOf Tryd.prog 29 = some 1 := by kernel_rfl
theorem zero29 : zeroOf Tryd.prog 29 = some (.slice none 0 0) := by kernel_rfl
theorem bytes29 : bytesOf Tryd.prog 29 = some 24 := by kernel_rfl
theorem sz30 : szOf Tryd.prog 30 = some 1 := by kernel_rfl
theorem zero30 : zeroOf Tryd.prog 30 = some (.slice none 0 0) := by kernel_rfl
theorem bytes30 : bytesOf Tryd.prog 30 = some 24 := by kernel_rfl
theorem sz32 : szOf Tryd.prog 32 = some 4 := by kernel_rfl
theorem zero32 : zeroOf Tryd.prog 32 = some (.agg #[.string ByteArray.empty, .slice none 0 0, .bool false, .bool false]) := by kernel_rfl
theorem bytes32 : bytesOf Tryd.prog 32 = some 48 := by kernel_rfl
theorem sz34 : szOf Tryd.prog 34 = some 10 := by kernel_rfl
theorem zero34 : zeroOf Tryd.prog 34 = some (.agg #[.int .i64 0, .int .i64 0, .int .i64 0, .slice none 0 0, .slice none 0 0, .slice none 0 0, .string ByteArray.empty, .slice none 0 0, .bool false, .bool false]) := by kernel_rfl
theorem bytes34 : bytesOf Tryd.prog 34 = some 144 := by kernel_rfl
theorem sz36 : szOf Tryd.prog 36 = some 2 := by kernel_rfl
theorem zero36 : zeroOf Tryd.prog 36 = some (.agg #[.int .i32 0, .int .u8 0]) := by kernel_rfl
theorem bytes36 : bytesOf Tryd.prog 36 = some 8 := by kernel_rfl
theorem tags36 : tagsOf Tryd.prog 36 = some [.int, .int] := by kernel_rfl
theorem sz43 : szOf Tryd.prog 43 = some 1 := by kernel_rfl
theorem zero43 : zeroOf Tryd.prog 43 = some (.slice none 0 0) := by kernel_rfl
theorem bytes43 : bytesOf Tryd.prog 43 = some 24 := by kernel_rfl
theorem sz49 : szOf Tryd.prog 49 = some 12 := by kernel_rfl
theorem zero49 : zeroOf Tryd.prog 49 = some (.agg #[.int .i64 0, .int .i64 0, .int .i64 0, .bool false, .int .i64 0, .slice none 0 0, .slice none 0 0, .slice none 0 0, .string ByteArray.empty, .slice none 0 0, .bool false, .bool false]) := by kernel_rfl
theorem bytes49 : bytesOf Tryd.prog 49 = some 160 := by kernel_rfl
theorem sz52 : szOf Tryd.prog 52 = some 1 := by kernel_rfl
theorem zero52 : zeroOf Tryd.prog 52 = some (.slice none 0 0) := by kernel_rfl
theorem bytes52 : bytesOf Tryd.prog 52 = some 24 := by kernel_rfl
theorem sz56 : szOf Tryd.prog 56 = some 1 := by kernel_rfl
theorem zero56 : zeroOf Tryd.prog 56 = some (.nilFunc) := by kernel_rfl
theorem bytes56 : bytesOf Tryd.prog 56 = some 8 := by kernel_rfl
theorem sz57 : szOf Tryd.prog 57 = some 1 := by kernel_rfl
theorem zero57 : zeroOf Tryd.prog 57 = some (.nilFunc) := by kernel_rfl
theorem bytes57 : bytesOf Tryd.prog 57 = some 8 := by kernel_rfl
theorem sz62 : szOf Tryd.prog 62 = some 3 := by kernel_rfl
theorem zero62 : zeroOf Tryd.prog 62 = some (.agg #[.int .i64 0, .int .i64 0, .slice none 0 0]) := by kernel_rfl
theorem bytes62 : bytesOf Tryd.prog 62 = some 40 := by kernel_rfl
theorem sz65 : szOf Tryd.prog 65 = some 1 := by kernel_rfl
theorem zero65 : zeroOf Tryd.prog 65 = some (.int .i64 0) := by kernel_rfl
theorem bytes65 : bytesOf Tryd.prog 65 = some 8 := by kernel_rfl
theorem sz70 : szOf Tryd.prog 70 = some 1 := by kernel_rfl
theorem zero70 : zeroOf Tryd.prog 70 = some (.pointer none) := by kernel_rfl
theorem bytes70 : bytesOf Tryd.prog 70 = some 8 := by kernel_rfl
theorem sz72 : szOf Tryd.prog 72 = some 1 := by kernel_rfl
theorem zero72 : zeroOf Tryd.prog 72 = some (.agg #[.int .i64 0]) := by kernel_rfl
theorem bytes72 : bytesOf Tryd.prog 72 = some 8 := by kernel_rfl
theorem tags72 : tagsOf Tryd.prog 72 = some [.int] := by kernel_rfl
theorem sz76 : szOf Tryd.prog 76 = some 1 := by kernel_rfl
theorem zero76 : zeroOf Tryd.prog 76 = some (.nilFunc) := by kernel_rfl
theorem bytes76 : bytesOf Tryd.prog 76 = some 8 := by kernel_rfl
theorem sz80 : szOf Tryd.prog 80 = some 2 := by kernel_rfl
theorem zero80 : zeroOf Tryd.prog 80 = some (.agg #[.bool false, .slice none 0 0]) := by kernel_rfl
theorem bytes80 : bytesOf Tryd.prog 80 = some 32 := by kernel_rfl
theorem sz81 : szOf Tryd.prog 81 = some 1 := by kernel_rfl
theorem zero81 : zeroOf Tryd.prog 81 = some (.nilFunc) := by kernel_rfl
theorem bytes81 : bytesOf Tryd.prog 81 = some 8 := by kernel_rfl
theorem sz83 : szOf Tryd.prog 83 = some 1 := by kernel_rfl
theorem zero83 : zeroOf Tryd.prog 83 = some (.pointer none) := by kernel_rfl
theorem bytes83 : bytesOf Tryd.prog 83 = some 8 := by kernel_rfl
theorem sz85 : szOf Tryd.prog 85 = some 1 := by kernel_rfl
theorem zero85 : zeroOf Tryd.prog 85 = some (.agg #[.slice none 0 0]) := by kernel_rfl
theorem bytes85 : bytesOf Tryd.prog 85 = some 24 := by kernel_rfl
theorem sz95 : szOf Tryd.prog 95 = some 1 := by kernel_rfl
theorem zero95 : zeroOf Tryd.prog 95 = some (.nilFunc) := by kernel_rfl
theorem bytes95 : bytesOf Tryd.prog 95 = some 8 := by kernel_rfl
theorem sz100 : szOf Tryd.prog 100 = some 1 := by kernel_rfl
theorem zero100 : zeroOf Tryd.prog 100 = some (.nilFunc) := by kernel_rfl
theorem bytes100 : bytesOf Tryd.prog 100 = some 8 := by kernel_rfl
theorem sz102 : szOf Tryd.prog 102 = some 1 := by kernel_rfl
theorem zero102 : zeroOf Tryd.prog 102 = some (.nilFunc) := by kernel_rfl
theorem bytes102 : bytesOf Tryd.prog 102 = some 8 := by kernel_rfl
theorem sz106 : szOf Tryd.prog 106 = some 1 := by kernel_rfl
theorem zero106 : zeroOf Tryd.prog 106 = some (.slice none 0 0) := by kernel_rfl
theorem bytes106 : bytesOf Tryd.prog 106 = some 24 := by kernel_rfl
theorem sz109 : szOf Tryd.prog 109 = some 1 := by kernel_rfl
theorem zero109 : zeroOf Tryd.prog 109 = some (.slice none 0 0) := by kernel_rfl
theorem bytes109 : bytesOf Tryd.prog 109 = some 24 := by kernel_rfl
theorem sz111 : szOf Tryd.prog 111 = some 1 := by kernel_rfl
theorem zero111 : zeroOf Tryd.prog 111 = some (.slice none 0 0) := by kernel_rfl
theorem bytes111 : bytesOf Tryd.prog 111 = some 24 := by kernel_rfl
theorem sz115 : szOf Tryd.prog 115 = some 1 := by kernel_rfl
theorem zero115 : zeroOf Tryd.prog 115 = some (.nilFunc) := by kernel_rfl
theorem bytes115 : bytesOf Tryd.prog 115 = some 8 := by kernel_rfl
theorem sz117 : szOf Tryd.prog 117 = some 1 := by kernel_rfl
theorem zero117 : zeroOf Tryd.prog 117 = some (.slice none 0 0) := by kernel_rfl
theorem bytes117 : bytesOf Tryd.prog 117 = some 24 := by kernel_rfl
theorem sz119 : szOf Tryd.prog 119 = some 1 := by kernel_rfl
theorem zero119 : zeroOf Tryd.prog 119 = some (.pointer none) := by kernel_rfl
theorem bytes119 : bytesOf Tryd.prog 119 = some 8 := by kernel_rfl
theorem sz121 : szOf Tryd.prog 121 = some 2 := by kernel_rfl
theorem zero121 : zeroOf Tryd.prog 121 = some (.agg #[.pointer none, .slice none 0 0]) := by kernel_rfl
theorem bytes121 : bytesOf Tryd.prog 121 = some 32 := by kernel_rfl
theorem sz127 : szOf Tryd.prog 127 = some 1 := by kernel_rfl
theorem zero127 : zeroOf Tryd.prog 127 = some (.nilIface) := by kernel_rfl
theorem bytes127 : bytesOf Tryd.prog 127 = some 16 := by kernel_rfl
theorem sz141 : szOf Tryd.prog 141 = some 1 := by kernel_rfl
theorem zero141 : zeroOf Tryd.prog 141 = some (.pointer none) := by kernel_rfl
theorem bytes141 : bytesOf Tryd.prog 141 = some 8 := by kernel_rfl
theorem sz151 : szOf Tryd.prog 151 = some 1 := by kernel_rfl
theorem zero151 : zeroOf Tryd.prog 151 = some (.pointer none) := by kernel_rfl
theorem bytes151 : bytesOf Tryd.prog 151 = some 8 := by kernel_rfl
theorem sz160 : szOf Tryd.prog 160 = some 2 := by kernel_rfl
theorem zero160 : zeroOf Tryd.prog 160 = some (.agg #[.int .u8 0, .int .u8 0]) := by kernel_rfl
theorem bytes160 : bytesOf Tryd.prog 160 = some 2 := by kernel_rfl
theorem tags160 : tagsOf Tryd.prog 160 = some [.int, .int] := by kernel_rfl
theorem sz161 : szOf Tryd.prog 161 = some 32 := by kernel_rfl
theorem zero161 : zeroOf Tryd.prog 161 = some (.agg #[.int .u8 0, .int .u8 0, .int .u8 0, .int .u8 0, .int .u8 0, .int .u8 0, .int .u8 0, .int .u8 0, .int .u8 0, .int .u8 0, .int .u8 0, .int .u8 0, .int .u8 0, .int .u8 0, .int .u8 0, .int .u8 0, .int .u8 0, .int .u8 0, .int .u8 0, .int .u8 0, .int .u8 0, .int .u8 0, .int .u8 0, .int .u8 0, .int .u8 0, .int .u8 0, .int .u8 0, .int .u8 0, .int .u8 0, .int .u8 0, .int .u8 0, .int .u8 0]) := by kernel_rfl
theorem bytes161 : bytesOf Tryd.prog 161 = some 32 := by kernel_rfl
theorem sz165 : szOf Tryd.prog 165 = some 1 := by kernel_rfl
theorem zero165 : zeroOf Tryd.prog 165 = some (.int .u32 0) := by kernel_rfl
theorem bytes165 : bytesOf Tryd.prog 165 = some 4 := by kernel_rfl
attribute [simp] C0_P laid0 sz3 zero3 bytes3 sz4 zero4 bytes4 sz5 zero5 bytes5 sz9 zero9 bytes9 sz20 zero20 bytes20 sz21 zero21 bytes21 sz22 zero22 bytes22 sz24 zero24 bytes24 sz28 zero28 bytes28 sz29 zero29 bytes29 sz30 zero30 bytes30 sz32 zero32 bytes32 sz34 zero34 bytes34 sz36 zero36 bytes36 tags36 sz43 zero43 bytes43 sz49 zero49 bytes49 sz52 zero52 bytes52 sz56 zero56 bytes56 sz57 zero57 bytes57 sz62 zero62 bytes62 sz65 zero65 bytes65 sz70 zero70 bytes70 sz72 zero72 bytes72 tags72 sz76 zero76 bytes76 sz80 zero80 bytes80 sz81 zero81 bytes81 sz83 zero83 bytes83 sz85 zero85 bytes85 sz95 zero95 bytes95 sz100 zero100 bytes100 sz102 zero102 bytes102 sz106 zero106 bytes106 sz109 zero109 bytes109 sz111 zero111 bytes111 sz115 zero115 bytes115 sz117 zero117 bytes117 sz119 zero119 bytes119 sz121 zero121 bytes121 sz127 zero127 bytes127 sz141 zero141 bytes141 sz151 zero151 bytes151 sz160 zero160 bytes160 tags160 sz161 zero161 bytes161 sz165 zero165 bytes165 Tryd.underlying0 Tryd.underlying3 Tryd.underlying4 Tryd.underlying5 Tryd.underlying9 Tryd.underlying20 Tryd.underlying21 Tryd.underlying22 Tryd.underlying24 Tryd.underlying28 Tryd.underlying29 Tryd.underlying30 Tryd.underlying32 Tryd.underlying34 Tryd.underlying36 Tryd.underlying43 Tryd.underlying49 Tryd.underlying52 Tryd.underlying56 Tryd.underlying57 Tryd.underlying62 Tryd.underlying65 Tryd.underlying68 Tryd.underlying70 Tryd.underlying72 Tryd.underlying76 Tryd.underlying80 Tryd.underlying81 Tryd.underlying83 Tryd.underlying85 Tryd.underlying95 Tryd.underlying100 Tryd.underlying102 Tryd.underlying106 Tryd.underlying107 Tryd.underlying109 Tryd.underlying111 Tryd.underlying115 Tryd.underlying117 Tryd.underlying119 Tryd.underlying121 Tryd.underlying122 Tryd.underlying127 Tryd.underlying128 Tryd.underlying137 Tryd.underlying138 Tryd.underlying141 Tryd.underlying151 Tryd.underlying158 Tryd.underlying160 Tryd.underlying161 Tryd.underlying162 Tryd.underlying165
theorem penter11 {args : List FV} {r : FV} (h : wpC C0 123 [] [0, 1, 2, 3, 4, 5, 6, 7, 8, 9, 10, 13, 28, 32, 45, 52, 68, 113] (Tryd.f11.body.getD .skip) (argsEnv 0 args) [] fun x e H₁ => (match x with | .exit _ => False | _ => True) ∧ resultOf C0 e H₁ Tryd.f11.results.toList = some r ∧ True) : PCon C0 11 args r :=
  pcon_of (C := C0) (fn := Tryd.f11) Tryd.func11 rfl (by decide) mixed (by kernel_rfl) h
theorem penter17 {args : List FV} {r : FV} (h : wpC C0 14 [9, 10] [0, 1, 2, 3] (Tryd.f17.body.getD .skip) (argsEnv 0 args) [] fun x e H₁ => (match x with | .exit _ => False | _ => True) ∧ resultOf C0 e H₁ Tryd.f17.results.toList = some r ∧ True) : PCon C0 17 args r :=
  pcon_of (C := C0) (fn := Tryd.f17) Tryd.func17 rfl (by decide) mixed rfl h
theorem callable17 : callable C0.P 17 = true := by kernel_rfl
theorem penter18 {args : List FV} {r : FV} (h : wpC C0 12 [] [0, 1, 2, 3] (Tryd.f18.body.getD .skip) (argsEnv 0 args) [] fun x e H₁ => (match x with | .exit _ => False | _ => True) ∧ resultOf C0 e H₁ Tryd.f18.results.toList = some r ∧ True) : PCon C0 18 args r :=
  pcon_of (C := C0) (fn := Tryd.f18) Tryd.func18 rfl (by decide) mixed rfl h
theorem callable18 : callable C0.P 18 = true := by kernel_rfl
theorem penter23 {args : List FV} {r : FV} (h : wpC C0 70 [] [0, 1, 2, 3, 4, 5, 33, 38, 69] (Tryd.f23.body.getD .skip) (argsEnv 0 args) [] fun x e H₁ => (match x with | .exit _ => False | _ => True) ∧ resultOf C0 e H₁ Tryd.f23.results.toList = some r ∧ True) : PCon C0 23 args r :=
  pcon_of (C := C0) (fn := Tryd.f23) Tryd.func23 rfl (by decide) mixed (by kernel_rfl) h
theorem callable23 : callable C0.P 23 = true := by kernel_rfl
theorem penter24 {args : List FV} {r : FV} (h : wpC C0 11 [] [0, 2] (Tryd.f24.body.getD .skip) (argsEnv 0 args) [] fun x e H₁ => (match x with | .exit _ => False | _ => True) ∧ resultOf C0 e H₁ Tryd.f24.results.toList = some r ∧ True) : PCon C0 24 args r :=
  pcon_of (C := C0) (fn := Tryd.f24) Tryd.func24 rfl (by decide) mixed rfl h
theorem callable24 : callable C0.P 24 = true := by kernel_rfl
theorem penter25 {args : List FV} {r : FV} (h : wpC C0 19 [] [0, 1, 2] (Tryd.f25.body.getD .skip) (argsEnv 0 args) [] fun x e H₁ => (match x with | .exit _ => False | _ => True) ∧ resultOf C0 e H₁ Tryd.f25.results.toList = some r ∧ True) : PCon C0 25 args r :=
  pcon_of (C := C0) (fn := Tryd.f25) Tryd.func25 rfl (by decide) mixed rfl h
theorem callable25 : callable C0.P 25 = true := by kernel_rfl
theorem callable26 : callable C0.P 26 = true := by kernel_rfl
theorem penter27 {args : List FV} {r : FV} (h : wpC C0 6 [] [0, 1, 2] (Tryd.f27.body.getD .skip) (argsEnv 0 args) [] fun x e H₁ => (match x with | .exit _ => False | _ => True) ∧ resultOf C0 e H₁ Tryd.f27.results.toList = some r ∧ True) : PCon C0 27 args r :=
  pcon_of (C := C0) (fn := Tryd.f27) Tryd.func27 rfl (by decide) mixed rfl h
theorem callable27 : callable C0.P 27 = true := by kernel_rfl
theorem penter29 {args : List FV} {r : FV} (h : wpC C0 21 [] [0, 1, 4, 5] (Tryd.f29.body.getD .skip) (argsEnv 0 args) [] fun x e H₁ => (match x with | .exit _ => False | _ => True) ∧ resultOf C0 e H₁ Tryd.f29.results.toList = some r ∧ True) : PCon C0 29 args r :=
  pcon_of (C := C0) (fn := Tryd.f29) Tryd.func29 rfl (by decide) mixed rfl h
theorem callable29 : callable C0.P 29 = true := by kernel_rfl
theorem penter32 {args : List FV} {r : FV} (h : wpC C0 21 [20] [0, 2, 3, 4, 8] (Tryd.f32.body.getD .skip) (argsEnv 0 args) [] fun x e H₁ => (match x with | .exit _ => False | _ => True) ∧ resultOf C0 e H₁ Tryd.f32.results.toList = some r ∧ True) : PCon C0 32 args r :=
  pcon_of (C := C0) (fn := Tryd.f32) Tryd.func32 rfl (by decide) mixed rfl h
theorem callable32 : callable C0.P 32 = true := by kernel_rfl
theorem penter33 {args : List FV} {r : FV} (h : wpC C0 53 [25, 44, 52] [0, 2, 3, 4, 8, 24] (Tryd.f33.body.getD .skip) (argsEnv 0 args) [] fun x e H₁ => (match x with | .exit _ => False | _ => True) ∧ resultOf C0 e H₁ Tryd.f33.results.toList = some r ∧ True) : PCon C0 33 args r :=
  pcon_of (C := C0) (fn := Tryd.f33) Tryd.func33 rfl (by decide) mixed (by kernel_rfl) h
theorem callable33 : callable C0.P 33 = true := by kernel_rfl
theorem penter34 {args : List FV} {r : FV} (h : wpC C0 27 [26] [0, 2, 3, 4, 5, 8, 9, 10, 11, 17] (Tryd.f34.body.getD .skip) (argsEnv 0 args) [] fun x e H₁ => (match x with | .exit _ => False | _ => True) ∧ resultOf C0 e H₁ Tryd.f34.results.toList = some r ∧ True) : PCon C0 34 args r :=
  pcon_of (C := C0) (fn := Tryd.f34) Tryd.func34 rfl (by decide) mixed rfl h
theorem callable34 : callable C0.P 34 = true := by kernel_rfl
theorem penter35 {args : List FV} {r : FV} (h : wpC C0 26 [] [0, 1, 4, 5, 10, 14, 25] (Tryd.f35.body.getD .skip) (argsEnv 0 args) [] fun x e H₁ => (match x with | .exit _ => False | _ => True) ∧ resultOf C0 e H₁ Tryd.f35.results.toList = some r ∧ True) : PCon C0 35 args r :=
  pcon_of (C := C0) (fn := Tryd.f35) Tryd.func35 rfl (by decide) mixed (by kernel_rfl) h
theorem callable35 : callable C0.P 35 = true := by kernel_rfl
theorem penter37 {args : List FV} {r : FV} (h : wpC C0 55 [16, 28, 41, 48, 54] [0, 2, 3, 5, 7, 9, 10, 11, 12, 13, 22, 23, 24, 25, 35, 36, 37, 38] (Tryd.f37.body.getD .skip) (argsEnv 0 args) [] fun x e H₁ => (match x with | .exit _ => False | _ => True) ∧ resultOf C0 e H₁ Tryd.f37.results.toList = some r ∧ True) : PCon C0 37 args r :=
  pcon_of (C := C0) (fn := Tryd.f37) Tryd.func37 rfl (by decide) mixed rfl h
theorem callable37 : callable C0.P 37 = true := by kernel_rfl
theorem penter38 {args : List FV} {r : FV} (h : wpC C0 32 [25, 31] [0, 2, 3, 5, 6, 7, 8, 9, 10] (Tryd.f38.body.getD .skip) (argsEnv 0 args) [] fun x e H₁ => (match x with | .exit _ => False | _ => True) ∧ resultOf C0 e H₁ Tryd.f38.results.toList = some r ∧ True) : PCon C0 38 args r :=
  pcon_of (C := C0) (fn := Tryd.f38) Tryd.func38 rfl (by decide) mixed (by kernel_rfl) h
theorem callable38 : callable C0.P 38 = true := by kernel_rfl
theorem penter39 {args : List FV} {r : FV} (h : wpC C0 84 [15, 32, 69, 75, 83, 7000021, 7000041, 7000074] [0, 2, 3, 4, 5, 6, 7, 8, 12, 29, 50, 66] (Tryd.f39.body.getD .skip) (argsEnv 0 args) [] fun x e H₁ => (match x with | .exit _ => False | _ => True) ∧ resultOf C0 e H₁ Tryd.f39.results.toList = some r ∧ True) : PCon C0 39 args r :=
  pcon_of (C := C0) (fn := Tryd.f39) Tryd.func39 rfl (by decide) mixed rfl h
theorem callable39 : callable C0.P 39 = true := by kernel_rfl
theorem penter40 {args : List FV} {r : FV} (h : wpC C0 76 [63, 69] [0, 1, 2, 3, 4, 6, 7, 8, 9, 19, 31, 32, 33, 34, 48, 55] (Tryd.f40.body.getD .skip) (argsEnv 0 args) [] fun x e H₁ => (match x with | .exit _ => False | _ => True) ∧ resultOf C0 e H₁ Tryd.f40.results.toList = some r ∧ True) : PCon C0 40 args r :=
  pcon_of (C := C0) (fn := Tryd.f40) Tryd.func40 rfl (by decide) mixed rfl h
theorem callable40 : callable C0.P 40 = true := by kernel_rfl
theorem penter41 {args : List FV} {r : FV} (h : wpC C0 104 [92, 98] [0, 1, 2, 3, 4, 5, 6, 7, 8, 9, 14, 26, 36, 51, 69, 80] (Tryd.f41.body.getD .skip) (argsEnv 0 args) [] fun x e H₁ => (match x with | .exit _ => False | _ => True) ∧ resultOf C0 e H₁ Tryd.f41.results.toList = some r ∧ True) : PCon C0 41 args r :=
  pcon_of (C := C0) (fn := Tryd.f41) Tryd.func41 rfl (by decide) mixed rfl h
theorem callable41 : callable C0.P 41 = true := by kernel_rfl
theorem penter47 {args : List FV} {r : FV} (h : wpC C0 101 [100] [0, 2, 3, 4, 5, 6, 7, 8, 12, 46, 69, 90] (Tryd.f47.body.getD .skip) (argsEnv 0 args) [] fun x e H₁ => (match x with | .exit _ => False | _ => True) ∧ resultOf C0 e H₁ Tryd.f47.results.toList = some r ∧ True) : PCon C0 47 args r :=
  pcon_of (C := C0) (fn := Tryd.f47) Tryd.func47 rfl (by decide) mixed (by kernel_rfl) h
theorem callable47 : callable C0.P 47 = true := by kernel_rfl
theorem penter48 {args : List FV} {r : FV} (h : wpC C0 112 [83, 84, 89, 105, 106, 107, 110, 111] [0, 1, 2, 3, 8, 9, 10, 11, 12, 13, 14, 15, 16, 17, 29, 51, 74, 88, 97] (Tryd.f48.body.getD .skip) (argsEnv 0 args) [] fun x e H₁ => (match x with | .exit _ => False | _ => True) ∧ resultOf C0 e H₁ Tryd.f48.results.toList = some r ∧ True) : PCon C0 48 args r :=
  pcon_of (C := C0) (fn := Tryd.f48) Tryd.func48 rfl (by decide) mixed rfl h
theorem callable48 : callable C0.P 48 = true := by kernel_rfl
theorem callable49 : callable C0.P 49 = true := by kernel_rfl
theorem penter54 {args : List FV} {r : FV} (h : wpC C0 27 [] [0, 1, 4, 5, 10, 14, 26] (Tryd.f54.body.getD .skip) (argsEnv 0 args) [] fun x e H₁ => (match x with | .exit _ => False | _ => True) ∧ resultOf C0 e H₁ Tryd.f54.results.toList = some r ∧ True) : PCon C0 54 args r :=
  pcon_of (C := C0) (fn := Tryd.f54) Tryd.func54 rfl (by decide) mixed (by kernel_rfl) h
theorem callable54 : callable C0.P 54 = true := by kernel_rfl
theorem penter57 {args : List FV} {r : FV} (h : wpC C0 27 [17, 26] [0, 1, 4, 5, 6, 7, 14] (Tryd.f57.body.getD .skip) (argsEnv 0 args) [] fun x e H₁ => (match x with | .exit _ => False | _ => True) ∧ resultOf C0 e H₁ Tryd.f57.results.toList = some r ∧ True) : PCon C0 57 args r :=
  pcon_of (C := C0) (fn := Tryd.f57) Tryd.func57 rfl (by decide) mixed rfl h
theorem callable57 : callable C0.P 57 = true := by kernel_rfl
theorem callable58 : callable C0.P 58 = true := by kernel_rfl
theorem penter62 {args : List FV} {r : FV} (h : wpC C0 8 [] [0, 2, 4] (Tryd.f62.body.getD .skip) (argsEnv 0 args) [] fun x e H₁ => (match x with | .exit _ => False | _ => True) ∧ resultOf C0 e H₁ Tryd.f62.results.toList = some r ∧ True) : PCon C0 62 args r :=
  pcon_of (C := C0) (fn := Tryd.f62) Tryd.func62 rfl (by decide) mixed rfl h
theorem callable62 : callable C0.P 62 = true := by kernel_rfl
theorem penter63 {args : List FV} {r : FV} (h : wpC C0 6 [] [0, 2] (Tryd.f63.body.getD .skip) (argsEnv 0 args) [] fun x e H₁ => (match x with | .exit _ => False | _ => True) ∧ resultOf C0 e H₁ Tryd.f63.results.toList = some r ∧ True) : PCon C0 63 args r :=
  pcon_of (C := C0) (fn := Tryd.f63) Tryd.func63 rfl (by decide) mixed rfl h
theorem callable63 : callable C0.P 63 = true := by kernel_rfl
theorem callable64 : callable C0.P 64 = true := by kernel_rfl
theorem callable65 : callable C0.P 65 = true := by kernel_rfl
theorem henter66 {args : List FV} {r : FV} (h : wpC C0 26 [18, 25] [0, 1, 4, 5, 9, 17] (Tryd.f66.body.getD .skip) (argsEnv 0 args) [] fun x e H₁ => (match x with | .exit _ => False | _ => True) ∧ resultOf C0 e H₁ Tryd.f66.results.toList = some r ∧ True) : PConH C0 66 args r :=
  pconH_of (C := C0) (fn := Tryd.f66) Tryd.func66 rfl (by decide) mixed rfl h
theorem callable66 : callable C0.P 66 = true := by kernel_rfl
theorem callable67 : callable C0.P 67 = true := by kernel_rfl
theorem penter68 {args : List FV} {r : FV} (h : wpC C0 6 [5] [0, 2, 4] (Tryd.f68.body.getD .skip) (argsEnv 0 args) [] fun x e H₁ => (match x with | .exit _ => False | _ => True) ∧ resultOf C0 e H₁ Tryd.f68.results.toList = some r ∧ True) : PCon C0 68 args r :=
  pcon_of (C := C0) (fn := Tryd.f68) Tryd.func68 rfl (by decide) mixed rfl h
theorem penter69 {args : List FV} {r : FV} (h : wpC C0 9 [] [0, 1, 4] (Tryd.f69.body.getD .skip) (argsEnv 0 args) [] fun x e H₁ => (match x with | .exit _ => False | _ => True) ∧ resultOf C0 e H₁ Tryd.f69.results.toList = some r ∧ True) : PCon C0 69 args r :=
  pcon_of (C := C0) (fn := Tryd.f69) Tryd.func69 rfl (by decide) mixed rfl h
theorem callable69 : callable C0.P 69 = true := by kernel_rfl
theorem penter70 {args : List FV} {r : FV} (h : wpC C0 34 [24, 28, 33] [0, 2, 3, 4, 6, 7, 8, 9, 10, 17, 23] (Tryd.f70.body.getD .skip) (argsEnv 0 args) [] fun x e H₁ => (match x with | .exit _ => False | _ => True) ∧ resultOf C0 e H₁ Tryd.f70.results.toList = some r ∧ True) : PCon C0 70 args r :=
  pcon_of (C := C0) (fn := Tryd.f70) Tryd.func70 rfl (by decide) mixed rfl h
theorem callable70 : callable C0.P 70 = true := by kernel_rfl
theorem penter71 {args : List FV} {r : FV} (h : wpC C0 13 [] [0, 2] (Tryd.f71.body.getD .skip) (argsEnv 0 args) [] fun x e H₁ => (match x with | .exit _ => False | _ => True) ∧ resultOf C0 e H₁ Tryd.f71.results.toList = some r ∧ True) : PCon C0 71 args r :=
  pcon_of (C := C0) (fn := Tryd.f71) Tryd.func71 rfl (by decide) mixed rfl h
theorem callable71 : callable C0.P 71 = true := by kernel_rfl
theorem penter72 {args : List FV} {r : FV} (h : wpC C0 44 [19, 39, 43] [0, 2, 3, 4, 10, 18, 38] (Tryd.f72.body.getD .skip) (argsEnv 0 args) [] fun x e H₁ => (match x with | .exit _ => False | _ => True) ∧ resultOf C0 e H₁ Tryd.f72.results.toList = some r ∧ True) : PCon C0 72 args r :=
  pcon_of (C := C0) (fn := Tryd.f72) Tryd.func72 rfl (by decide) mixed rfl h
theorem callable72 : callable C0.P 72 = true := by kernel_rfl
theorem penter83 {args : List FV} {r : FV} (h : wpC C0 27 [] [0, 1, 4] (Tryd.f83.body.getD .skip) (argsEnv 0 args) [] fun x e H₁ => (match x with | .exit _ => False | _ => True) ∧ resultOf C0 e H₁ Tryd.f83.results.toList = some r ∧ True) : PCon C0 83 args r :=
  pcon_of (C := C0) (fn := Tryd.f83) Tryd.func83 rfl (by decide) mixed rfl h
theorem callable83 : callable C0.P 83 = true := by kernel_rfl
theorem penter84 {args : List FV} {r : FV} (h : wpC C0 39 [] [0, 1, 2, 4, 5, 14, 21, 28, 33] (Tryd.f84.body.getD .skip) (argsEnv 0 args) [] fun x e H₁ => (match x with | .exit _ => False | _ => True) ∧ resultOf C0 e H₁ Tryd.f84.results.toList = some r ∧ True) : PCon C0 84 args r :=
  pcon_of (C := C0) (fn := Tryd.f84) Tryd.func84 rfl (by decide) mixed rfl h
theorem callable84 : callable C0.P 84 = true := by kernel_rfl
theorem penter85 {args : List FV} {r : FV} (h : wpC C0 18 [] [0, 1, 4, 5, 9, 17] (Tryd.f85.body.getD .skip) (argsEnv 0 args) [] fun x e H₁ => (match x with | .exit _ => False | _ => True) ∧ resultOf C0 e H₁ Tryd.f85.results.toList = some r ∧ True) : PCon C0 85 args r :=
  pcon_of (C := C0) (fn := Tryd.f85) Tryd.func85 rfl (by decide) mixed rfl h
theorem callable85 : callable C0.P 85 = true := by kernel_rfl
theorem penter86 {args : List FV} {r : FV} (h : wpC C0 40 [] [0, 1, 2, 6, 13, 20] (Tryd.f86.body.getD .skip) (argsEnv 0 args) [] fun x e H₁ => (match x with | .exit _ => False | _ => True) ∧ resultOf C0 e H₁ Tryd.f86.results.toList = some r ∧ True) : PCon C0 86 args r :=
  pcon_of (C := C0) (fn := Tryd.f86) Tryd.func86 rfl (by decide) mixed rfl h
theorem callable86 : callable C0.P 86 = true := by kernel_rfl
theorem penter87 {args : List FV} {r : FV} (h : wpC C0 20 [] [0, 1, 4, 5, 6, 10] (Tryd.f87.body.getD .skip) (argsEnv 0 args) [] fun x e H₁ => (match x with | .exit _ => False | _ => True) ∧ resultOf C0 e H₁ Tryd.f87.results.toList = some r ∧ True) : PCon C0 87 args r :=
  pcon_of (C := C0) (fn := Tryd.f87) Tryd.func87 rfl (by decide) mixed rfl h
theorem callable87 : callable C0.P 87 = true := by kernel_rfl
theorem penter88 {args : List FV} {r : FV} (h : wpC C0 47 [14, 15, 16, 17, 18] [0, 1, 2, 4, 5, 7, 8, 9, 10, 25, 30, 35, 40] (Tryd.f88.body.getD .skip) (argsEnv 0 args) [] fun x e H₁ => (match x with | .exit _ => False | _ => True) ∧ resultOf C0 e H₁ Tryd.f88.results.toList = some r ∧ True) : PCon C0 88 args r :=
  pcon_of (C := C0) (fn := Tryd.f88) Tryd.func88 rfl (by decide) mixed rfl h
theorem callable88 : callable C0.P 88 = true := by kernel_rfl
theorem penter89 {args : List FV} {r : FV} (h : wpC C0 35 [] [0, 1, 2, 4, 5, 13, 19, 25] (Tryd.f89.body.getD .skip) (argsEnv 0 args) [] fun x e H₁ => (match x with | .exit _ => False | _ => True) ∧ resultOf C0 e H₁ Tryd.f89.results.toList = some r ∧ True) : PCon C0 89 args r :=
  pcon_of (C := C0) (fn := Tryd.f89) Tryd.func89 rfl (by decide) mixed rfl h
theorem callable89 : callable C0.P 89 = true := by kernel_rfl
theorem penter90 {args : List FV} {r : FV} (h : wpC C0 26 [21, 22, 23, 24, 25] [0, 2, 3, 4, 5, 6, 7, 8, 10, 13, 15, 17, 19] (Tryd.f90.body.getD .skip) (argsEnv 0 args) [] fun x e H₁ => (match x with | .exit _ => False | _ => True) ∧ resultOf C0 e H₁ Tryd.f90.results.toList = some r ∧ True) : PCon C0 90 args r :=
  pcon_of (C := C0) (fn := Tryd.f90) Tryd.func90 rfl (by decide) mixed rfl h
theorem callable90 : callable C0.P 90 = true := by kernel_rfl
theorem penter92 {args : List FV} {r : FV} (h : wpC C0 57 [37, 42, 56] [0, 2, 3, 4, 5, 6, 10, 24, 33, 36] (Tryd.f92.body.getD .skip) (argsEnv 0 args) [] fun x e H₁ => (match x with | .exit _ => False | _ => True) ∧ resultOf C0 e H₁ Tryd.f92.results.toList = some r ∧ True) : PCon C0 92 args r :=
  pcon_of (C := C0) (fn := Tryd.f92) Tryd.func92 rfl (by decide) mixed rfl h
theorem callable92 : callable C0.P 92 = true := by kernel_rfl
theorem callable93 : callable C0.P 93 = true := by kernel_rfl
theorem penter96 {args : List FV} {r : FV} (h : wpC C0 42 [13] [0, 1, 4, 5, 6, 7, 12, 19, 29] (Tryd.f96.body.getD .skip) (argsEnv 0 args) [] fun x e H₁ => (match x with | .exit _ => False | _ => True) ∧ resultOf C0 e H₁ Tryd.f96.results.toList = some r ∧ True) : PCon C0 96 args r :=
  pcon_of (C := C0) (fn := Tryd.f96) Tryd.func96 rfl (by decide) mixed rfl h
theorem callable96 : callable C0.P 96 = true := by kernel_rfl
theorem penter97 {args : List FV} {r : FV} (h : wpC C0 6 [] [0, 1, 2] (Tryd.f97.body.getD .skip) (argsEnv 0 args) [] fun x e H₁ => (match x with | .exit _ => False | _ => True) ∧ resultOf C0 e H₁ Tryd.f97.results.toList = some r ∧ True) : PCon C0 97 args r :=
  pcon_of (C := C0) (fn := Tryd.f97) Tryd.func97 rfl (by decide) mixed rfl h
theorem callable97 : callable C0.P 97 = true := by kernel_rfl
theorem enter98 {args : List FV} {H H' : Heap} {r : FV} (h : wpC C0 27 [26, 4000022] [0, 1, 4, 6, 16] (Tryd.f98.body.getD .skip) (argsEnv 0 args) H fun x e H₁ => (match x with | .exit _ => False | _ => True) ∧ resultOf C0 e H₁ Tryd.f98.results.toList = some r ∧ H₁ = H') : Con C0 98 args H r H' :=
  con_of (C := C0) (fn := Tryd.f98) Tryd.func98 rfl (by decide) mixed rfl h
theorem callable98 : callable C0.P 98 = true := by kernel_rfl
theorem callable99 : callable C0.P 99 = true := by kernel_rfl
theorem penter108 {args : List FV} {r : FV} (h : wpC C0 187 [177, 178, 179, 182] [0, 1, 4, 5, 6, 7, 8, 9, 10, 11, 12, 13, 14, 15, 16, 26, 33, 43, 51, 64, 98, 108, 124, 139, 143, 156, 160, 171, 175, 176, 177, 181, 183] (Tryd.f108.body.getD .skip) (argsEnv 0 args) [] fun x e H₁ => (match x with | .exit _ => False | _ => True) ∧ resultOf C0 e H₁ Tryd.f108.results.toList = some r ∧ True) : PCon C0 108 args r :=
  pcon_of (C := C0) (fn := Tryd.f108) Tryd.func108 rfl (by decide) mixed (by kernel_rfl) h
theorem callable108 : callable C0.P 108 = true := by kernel_rfl
theorem penter109 {args : List FV} {r : FV} (h : wpC C0 22 [] [0, 2, 3, 16] (Tryd.f109.body.getD .skip) (argsEnv 0 args) [] fun x e H₁ => (match x with | .exit _ => False | _ => True) ∧ resultOf C0 e H₁ Tryd.f109.results.toList = some r ∧ True) : PCon C0 109 args r :=
  pcon_of (C := C0) (fn := Tryd.f109) Tryd.func109 rfl (by decide) mixed rfl h
theorem callable109 : callable C0.P 109 = true := by kernel_rfl
theorem penter122 {args : List FV} {r : FV} (h : wpC C0 19 [12, 18] [0, 2, 3, 5, 6, 7, 8, 9] (Tryd.f122.body.getD .skip) (argsEnv 0 args) [] fun x e H₁ => (match x with | .exit _ => False | _ => True) ∧ resultOf C0 e H₁ Tryd.f122.results.toList = some r ∧ True) : PCon C0 122 args r :=
  pcon_of (C := C0) (fn := Tryd.f122) Tryd.func122 rfl (by decide) mixed rfl h
theorem callable122 : callable C0.P 122 = true := by kernel_rfl
theorem penter123 {args : List FV} {r : FV} (h : wpC C0 25 [] [0, 2, 3, 17] (Tryd.f123.body.getD .skip) (argsEnv 0 args) [] fun x e H₁ => (match x with | .exit _ => False | _ => True) ∧ resultOf C0 e H₁ Tryd.f123.results.toList = some r ∧ True) : PCon C0 123 args r :=
  pcon_of (C := C0) (fn := Tryd.f123) Tryd.func123 rfl (by decide) mixed (by kernel_rfl) h
theorem callable123 : callable C0.P 123 = true := by kernel_rfl
theorem penter124 {args : List FV} {r : FV} (h : wpC C0 39 [38] [0, 2, 3, 4, 10, 11, 15, 19, 26] (Tryd.f124.body.getD .skip) (argsEnv 0 args) [] fun x e H₁ => (match x with | .exit _ => False | _ => True) ∧ resultOf C0 e H₁ Tryd.f124.results.toList = some r ∧ True) : PCon C0 124 args r :=
  pcon_of (C := C0) (fn := Tryd.f124) Tryd.func124 rfl (by decide) mixed rfl h
theorem callable124 : callable C0.P 124 = true := by kernel_rfl
theorem callable125 : callable C0.P 125 = true := by kernel_rfl
theorem penter126 {args : List FV} {r : FV} (h : wpC C0 19 [17] [0, 1, 4, 5, 7, 8, 9, 16] (Tryd.f126.body.getD .skip) (argsEnv 0 args) [] fun x e H₁ => (match x with | .exit _ => False | _ => True) ∧ resultOf C0 e H₁ Tryd.f126.results.toList = some r ∧ True) : PCon C0 126 args r :=
  pcon_of (C := C0) (fn := Tryd.f126) Tryd.func126 rfl (by decide) mixed rfl h
theorem callable126 : callable C0.P 126 = true := by kernel_rfl
theorem callable131 : callable C0.P 131 = true := by kernel_rfl
theorem callable132 : callable C0.P 132 = true := by kernel_rfl
theorem penter137 {args : List FV} {r : FV} (h : wpC C0 17 [] [0, 2] (Tryd.f137.body.getD .skip) (argsEnv 0 args) [] fun x e H₁ => (match x with | .exit _ => False | _ => True) ∧ resultOf C0 e H₁ Tryd.f137.results.toList = some r ∧ True) : PCon C0 137 args r :=
  pcon_of (C := C0) (fn := Tryd.f137) Tryd.func137 rfl (by decide) mixed rfl h
theorem callable137 : callable C0.P 137 = true := by kernel_rfl
theorem penter138 {args : List FV} {r : FV} (h : wpC C0 60 [] [0, 2, 3, 8, 10, 15, 26] (Tryd.f138.body.getD .skip) (argsEnv 0 args) [] fun x e H₁ => (match x with | .exit _ => False | _ => True) ∧ resultOf C0 e H₁ Tryd.f138.results.toList = some r ∧ True) : PCon C0 138 args r :=
  pcon_of (C := C0) (fn := Tryd.f138) Tryd.func138 rfl (by decide) mixed rfl h
theorem callable138 : callable C0.P 138 = true := by kernel_rfl
end Go.Proofs.YtlnnnfogbakimaaDoor.Ev
end
section
namespace Go.Proofs.YtlnnnfogbakimaaDoor.Ev
open Go
section
variable {C : Ctx} {nt : Nat} {mv vars : List Nat} {call : Nat → FuncId → List FV → Heap → FV → Heap → Prop} {ops : Array Oper}
def KSeq (C : Ctx) (nt : Nat) (mv vars : List Nat) (b : Code) (Q : Ex → Env → Heap → Prop) : Ex → Env → Heap → Prop := fun x e H => match x with
  | .normal => wpC C nt mv vars b e H Q
  | x => Q x e H
def KBlock (id : Nat) (Q : Ex → Env → Heap → Prop) : Ex → Env → Heap → Prop := fun x e H => match x with
  | .exit i => if i = id then Q .normal e H else Q (.exit i) e H
  | x => Q x e H
def KEnd (vars : List Nat) (Q : Ex → Env → Heap → Prop) : Env → Heap → Prop := fun e H => Q .normal (keep vars e) H
def KRest (C : Ctx) (nt : Nat) (mv : List Nat) (call : Nat → FuncId → List FV → Heap → FV → Heap → Prop) (ops : Array Oper) (l : List Oper) (K : Env → Heap → Prop) : Env → Heap → Prop := fun e H => wpOps C nt mv call ops l e H K
def CondC (C : Ctx) (nt : Nat) (mv vars : List Nat) (t : Bool) (a b : Code) (e : Env) (H : Heap) (Q : Ex → Env → Heap → Prop) : Prop := Cond t (wpC C nt mv vars a e H Q) (wpC C nt mv vars b e H Q)
def LoopC (C : Ctx) (nt : Nat) (mv vars : List Nat) (c : Code) (e : Env) (H : Heap) (Q : Ex → Env → Heap → Prop) : Prop := Loop (wpC C nt mv vars c) e H Q
theorem KSeq_normal {b : Code} {Q : Ex → Env → Heap → Prop} {e : Env} {H : Heap} : KSeq C nt mv vars b Q .normal e H = wpC C nt mv vars b e H Q := rfl
theorem KSeq_exit {b : Code} {Q : Ex → Env → Heap → Prop} {e : Env} {H : Heap} {i : Nat} : KSeq C nt mv vars b Q (.exit i) e H = Q (.exit i) e H := rfl
theorem KSeq_ret {b : Code} {Q : Ex → Env → Heap → Prop} {e : Env} {H : Heap} : KSeq C nt mv vars b Q .ret e H = Q .ret e H := rfl
theorem KBlock_normal {id : Nat} {Q : Ex → Env → Heap → Prop} {e : Env} {H : Heap} : KBlock id Q .normal e H = Q .normal e H := rfl
theorem KBlock_ret {id : Nat} {Q : Ex → Env → Heap → Prop} {e : Env} {H : Heap} : KBlock id Q .ret e H = Q .ret e H := rfl
theorem KBlock_exit {id i : Nat} {Q : Ex → Env → Heap → Prop} {e : Env} {H : Heap} : KBlock id Q (.exit i) e H = if i = id then Q .normal e H else Q (.exit i) e H := rfl
theorem KEnd_apply {Q : Ex → Env → Heap → Prop} {e : Env} {H : Heap} : KEnd vars Q e H = Q .normal (keep vars e) H := rfl
theorem KRest_apply {l : List Oper} {K : Env → Heap → Prop} {e : Env} {H : Heap} : KRest C nt mv call ops l K e H = wpOps C nt mv call ops l e H K := rfl
theorem KCall_apply {e : Env} {dst : Option Nat} {K : Env → Heap → Prop} {r : FV} {H : Heap} : KCall e dst K r H = K (e.put dst r.home) H := rfl
theorem CondC_true {a b : Code} {e : Env} {H : Heap} {Q : Ex → Env → Heap → Prop} : CondC C nt mv vars true a b e H Q = wpC C nt mv vars a e H Q := by simp [CondC, Cond]
theorem CondC_false {a b : Code} {e : Env} {H : Heap} {Q : Ex → Env → Heap → Prop} : CondC C nt mv vars false a b e H Q = wpC C nt mv vars b e H Q := by simp [CondC, Cond]
theorem CondC.mk {t : Bool} {a b : Code} {e : Env} {H : Heap} {Q : Ex → Env → Heap → Prop} (h1 : t = true → wpC C nt mv vars a e H Q) (h2 : t = false → wpC C nt mv vars b e H Q) : CondC C nt mv vars t a b e H Q := ⟨h1, h2⟩
theorem NilQ.mk {l : List PV} {sg : Bool} {e : Env} {dst : Option Nat} {H : Heap} {K : Env → Heap → Prop} (h1 : l ≠ [] → K (e.put dst (.sc (.bool sg))) H) (h2 : l = [] → ∀ b, K (e.put dst (.sc (.bool b))) H) : NilQ l sg e dst H K := ⟨h1, h2⟩
section
variable {e : Env} {H : Heap} {Q : Ex → Env → Heap → Prop} {K : Env → Heap → Prop}
theorem wpC_skip : wpC C nt mv vars .skip e H Q = Q .normal e H := rfl
theorem wpC_label {l : Nat} : wpC C nt mv vars (.label l) e H Q = Q .normal e H := rfl
theorem wpC_exit {i : Nat} : wpC C nt mv vars (.exit i) e H Q = Q (.exit i) e H := rfl
theorem wpC_ret : wpC C nt mv vars .ret e H Q = Q .ret e H := rfl
theorem wpC_seq {a b : Code} : wpC C nt mv vars (.seq a b) e H Q = wpC C nt mv vars a e H (KSeq C nt mv vars b Q) := rfl
theorem wpC_block {id : Nat} {a : Code} : wpC C nt mv vars (.block id a) e H Q = wpC C nt mv vars a e H (KBlock id Q) := rfl
theorem wpC_scope {a : Code} : wpC C nt mv vars (.scope a) e H Q = wpC C nt mv vars a e H Q := rfl
theorem wpC_loop {a : Code} : wpC C nt mv vars (.loop a) e H Q = LoopC C nt mv vars a e H Q := rfl
theorem wpC_cond {c : Operand} {a b : Code} : wpC C nt mv vars (.cond c a b) e H Q = match rd C e c with
    | some (.sc (.bool t)) => CondC C nt mv vars t a b e H Q
    | _ => False := rfl
theorem wpC_region {id : Nat} {ops : Array Oper} : wpC C nt mv vars (.region id ops false) e H Q = wpOps C nt mv (fun _ => Call C) ops ops.toList e H (KEnd vars Q) := rfl
theorem wpC_regionD {id : Nat} {ops : Array Oper} : wpC C nt mv vars (.region id ops true) e H Q = (barred mv id = false ∧ DrawC C nt mv ops e H (KEnd vars Q) (ordersOf mv id)) := rfl
theorem DrawC_nil : DrawC C nt mv ops e H K [] = wpOps C nt mv (CallP C) ops ops.toList e H K := rfl
def det0 (ρ : FuncId → List FV → FV) : Rho := det ⟨ρ, fun _ _ _ => (.undef, [])⟩
theorem DrawC.mk {l : List Nat} {R : List (List Nat)} (ρ : FuncId → List FV → FV) (h : ∀ r ∈ l :: R, wpOps C nt mv (CallD C (det0 ρ)) ops (opersOf ops r) e H K) : DrawC C nt mv ops e H K (l :: R) := ⟨⟨ρ, fun _ _ _ => (.undef, [])⟩, h⟩
theorem DrawC.two {l₁ l₂ : List Nat} (ρ : FuncId → List FV → FV) (h1 : wpOps C nt mv (CallD C (det0 ρ)) ops (opersOf ops l₁) e H K) (h2 : wpOps C nt mv (CallD C (det0 ρ)) ops (opersOf ops l₂) e H K) : DrawC C nt mv ops e H K [l₁, l₂] :=
  DrawC.mk ρ fun r hr => by
    rcases List.mem_cons.1 hr with rfl | hr
    · exact h1
    · rw [List.mem_singleton.1 hr]; exact h2
theorem wpOps_nil : wpOps C nt mv call ops [] e H K = K e H := rfl
def WantC (C : Ctx) (nt : Nat) (mv : List Nat) (call : Nat → FuncId → List FV → Heap → FV → Heap → Prop) (ops : Array Oper) (o : Oper) (l : List Oper) (e : Env) (H : Heap) (K : Env → Heap → Prop) : Option Bool → Prop
  | some true => wpOp C nt mv call o e H (KRest C nt mv call ops l K)
  | some false => KRest C nt mv call ops l K (e.put o.dst (.tup [])) H
  | none => False
theorem WantC_true {o : Oper} {l : List Oper} : WantC C nt mv call ops o l e H K (some true) = wpOp C nt mv call o e H (KRest C nt mv call ops l K) := rfl
theorem WantC_false {o : Oper} {l : List Oper} : WantC C nt mv call ops o l e H K (some false) = KRest C nt mv call ops l K (e.put o.dst (.tup [])) H := rfl
theorem WantC_none {o : Oper} {l : List Oper} : WantC C nt mv call ops o l e H K none = False := rfl
theorem wpOps_cons {o : Oper} {l : List Oper} : wpOps C nt mv call ops (o :: l) e H K = WantC C nt mv call ops o l e H K (wanted nt ops e o) := by
  unfold wpOps WantC
  rcases wanted nt ops e o with _ | t
  · rfl
  · cases t <;> rfl
end
end
attribute [simp] handed HandQ DrawC_nil ordersOf decOrd opersOf WantC_true WantC_false WantC_none isClear boxed rowed rowOf body rowCells MoveQ ZerosQ zeroed stripO demote0 located callMode pended pendSlots PendQ setBody barred bytesConv strOf bytesFrom byteOf wpC_skip wpC_label wpC_exit wpC_ret wpC_seq wpC_block wpC_scope wpC_loop wpC_cond wpC_region wpC_regionD wpOps_nil wpOps_cons KSeq_normal KSeq_exit KSeq_ret KBlock_normal KBlock_ret KBlock_exit KEnd_apply KRest_apply KCall_apply CondC_true CondC_false
  argsEnv dstOk wanted wpOp give rd FV.ofConst FV.ofValue Env.put keep Env.get FV.home FV.homeE empd nilArg mvOf valOp demote demote1 FV.asRow FV.asList Value.cells rdAll rdParts rdo resultOf resAll resOf strip
  nilRow isAppend binOf intBin strBin unOf convOf lenOf foldMin foldMax minFrom maxFrom sliceOf loOf hiOf partOf fieldOf aggOf buildOf fillOf fieldPlaces FV.cells FV.ofValues FV.toPV FV.leafPV allPV PV.toFV PV.leaves
  FV.isLeaf PV.isLeaf FV.noPtr FV.np0 FV.np1 splice eqAll
theorem CallQ.mk {call : FuncId → List FV → Heap → FV → Heap → Prop} {f : FuncId} {args : List FV} {H H' : Heap} {r : FV} {K : FV → Heap → Prop} (h : call f args H r H') (hK : K r H') : CallQ call f args H K := ⟨r, H', h, hK⟩
theorem Call.pure {C : Ctx} {f : FuncId} {args : List FV} {H : Heap} {r : FV} (hc : callable C.P f = true) (ha : args.all FV.noPtr = true) (hr : r.noPtr = true) (h : PCon C f args r) : Call C f args H r H :=
  ⟨hc, .inl ⟨rfl, ha, hr, h⟩⟩
theorem CallP.pure {C : Ctx} {f : FuncId} {args : List FV} {H : Heap} {r : FV} (hc : callable C.P f = true) (ha : args.all FV.noPtr = true) (hr : r.noPtr = true) (h : PCon C f args r) : CallP C 0 f args H r H := by
  simp only [CallP, if_true]
  exact ⟨hc, rfl, ha, hr, h⟩
theorem CallD.pure {C : Ctx} {ρ : Rho} {f : FuncId} {args : List FV} {H : Heap} {r : FV} (hc : callable C.P f = true) (ha : args.all FV.noPtr = true) (hr : r.noPtr = true) (h : PCon C f args r) (hρ : ρ.p f args r) : CallD C ρ 0 f args H r H := by
  simp only [CallD, if_true]
  exact ⟨⟨hc, rfl, ha, hr, h⟩, hρ⟩
theorem Call.shared {C : Ctx} {f : FuncId} {args : List FV} {H : Heap} {r : FV} {H' : Heap} (hc : callable C.P f = true) (h : Con C f args H r H') : Call C f args H r H' := ⟨hc, .inr h⟩
theorem CallH.mk {C : Ctx} {f : FuncId} {args : List FV} {r : FV} {K : FV → Prop} (hc : callable C.P f = true) (ha : args.all FV.noPtr = true) (hr : r.noPtr = true) (h : PConH C f args r) (hK : K r) : CallH C f args K := ⟨r, hc, ha, hr, h, hK⟩
theorem loop_of {step : Env → Heap → (Ex → Env → Heap → Prop) → Prop} {Q : Ex → Env → Heap → Prop} (hm : ∀ e H Q Q', (∀ x e H, Q x e H → Q' x e H) → step e H Q → step e H Q') (I : Nat → Env → Heap → Prop)
    (round : ∀ d e H, I d e H → step e H fun x e' H' => match x with | .normal => ∃ d' < d, I d' e' H' | x => Q x e' H') : ∀ d e H, I d e H → Loop step e H Q := by
  have key : ∀ n d e H, d ≤ n → I d e H → iterP step (n + 1) e H Q := by
    intro n
    induction n with
    | zero =>
      intro d e H hd hI
      refine hm _ _ _ _ (fun x e' H' h => ?_) (round d e H hI)
      cases x with
      | normal => obtain ⟨d', h1, _⟩ := h; omega
      | exit i => exact h
      | ret => exact h
    | succ n ih =>
      intro d e H hd hI
      refine hm _ _ _ _ (fun x e' H' h => ?_) (round d e H hI)
      cases x with
      | normal => obtain ⟨d', h1, h2⟩ := h; exact ih d' e' H' (by omega) h2
      | exit i => exact h
      | ret => exact h
  exact fun d e H h => ⟨d + 1, key d d e H (Nat.le_refl _) h⟩
theorem wpOp_mono' {C : Ctx} {nt : Nat} {mv : List Nat} {call : Nat → FuncId → List FV → Heap → FV → Heap → Prop} {o : Oper} {e : Env} {H : Heap} {K K' : Env → Heap → Prop} (hh : ∀ e H, K e H → K' e H) (h : wpOp C nt mv call o e H K) : wpOp C nt mv call o e H K' := by
  unfold wpOp at h ⊢
  refine ⟨h.1, ?_⟩
  have h := h.2
  split at h
  · split at h
    · exact hh _ _ h
    · exact h.elim
  · split at h
    · rename_i hm
      rw [if_pos hm]
      split at h
      · exact hh _ _ h
      · exact h.elim
    · rename_i hm
      rw [if_neg hm]
      split at h
      · exact hh _ _ h
      · exact h.elim
  · split at h
    · rename_i hm
      rw [if_pos hm]
      split at h
      · split at h
        · exact hh _ _ h
        · exact h.elim
      · exact h.elim
    · rename_i hm
      rw [if_neg hm]
      split at h
      · exact hh _ _ h
      · exact h.elim
  · split at h
    · rename_i hm
      rw [if_pos hm]
      split at h
      · split at h
        · exact hh _ _ h
        · exact h.elim
      · split at h
        · exact ⟨h.1, hh _ _ h.2⟩
        · exact h.elim
      · split at h
        · obtain ⟨h1, h⟩ := h
          refine ⟨h1, ?_⟩
          split at h
          · exact hh _ _ h
          · exact h.elim
        · exact h.elim
      · exact h.elim
    · rename_i hm
      rw [if_neg hm]
      split at h
      · exact hh _ _ h
      · exact h.elim
  · split at h
    · split at h
      · exact hh _ _ h
      · exact h.elim
    · exact h.elim
  · split at h
    · split at h
      · exact ⟨h.1, hh _ _ h.2⟩
      · exact h.elim
    · exact h.elim
  · split at h
    · split at h
      · exact ⟨h.1, h.2.1, h.2.2.1, hh _ _ h.2.2.2⟩
      · exact h.elim
    · split at h
      · exact ⟨h.1, h.2.1, h.2.2.1, h.2.2.2.1, hh _ _ h.2.2.2.2⟩
      · exact h.elim
    · obtain ⟨h0, h⟩ := h
      refine ⟨h0, ?_⟩
      split at h
      · split at h
        · split at h
          · exact ⟨h.1, h.2.1, h.2.2.1, h.2.2.2.1, hh _ _ h.2.2.2.2⟩
          · exact h.elim
        · exact ⟨h.1, h.2.1, h.2.2.1, h.2.2.2.1, hh _ _ h.2.2.2.2⟩
        · exact h.elim
      · exact h.elim
    · exact h.elim
  · split at h
    · rename_i hm
      rw [if_pos hm]
      split at h
      · split at h
        · split at h
          · obtain ⟨h1, h2, h3, h4, h5, h⟩ := h
            exact ⟨h1, h2, h3, h4, h5, hh _ _ h⟩
          · exact h.elim
        · exact h.elim
      · exact h.elim
    rename_i hm
    rw [if_neg hm]
    split at h
    · split at h
      · obtain ⟨h1, h2, h3, h4, h⟩ := h
        refine ⟨h1, h2, h3, h4, ?_⟩
        split at h
        · exact ⟨h.1, hh _ _ h.2⟩
        · exact h.elim
      · exact h.elim
    · exact h.elim
  · split at h
    · rename_i hm
      rw [if_pos hm]
      split at h
      · exact hh _ _ h
      · exact hh _ _ h
      · exact hh _ _ h
      · exact hh _ _ h
      · split at h
        · exact ⟨fun hl => hh _ _ (h.1 hl), fun hl b => hh _ _ (h.2 hl b)⟩
        · exact h.elim
      · split at h
        · exact ⟨fun hl => hh _ _ (h.1 hl), fun hl b => hh _ _ (h.2 hl b)⟩
        · exact h.elim
      · exact h.elim
    · rename_i hm
      rw [if_neg hm]
      split at h
      · exact hh _ _ h
      · exact h.elim
  · split at h
    · exact hh _ _ h
    · split at h
      · exact hh _ _ h
      · exact h.elim
  · split at h
    · split at h
      · rename_i hm
        rw [if_pos hm]
        unfold HandQ at h ⊢
        split at h
        · split at h
          · obtain ⟨r, h1, h2, h3, h4, hK⟩ := h
            exact ⟨r, h1, h2, h3, h4, hh _ _ hK⟩
          · exact h.elim
        · exact h.elim
      rename_i hm
      rw [if_neg hm]
      split at h
      · obtain ⟨r, H', hc, hK⟩ := h
        exact ⟨r, H', hc, hh _ _ hK⟩
      · exact h.elim
    · split at h
      · rename_i hm
        rw [if_pos hm]
        unfold PendQ at h ⊢
        split at h
        · split at h
          · split at h
            · split at h
              · obtain ⟨h1, h2, h3, h4, h5, h6, h7, h⟩ := h
                exact ⟨h1, h2, h3, h4, h5, h6, h7, fun k o => hh _ _ (h k o)⟩
              · exact h.elim
            · exact h.elim
          · exact h.elim
        · exact h.elim
      rename_i hp0
      rw [if_neg hp0]
      split at h
      · rename_i hm
        rw [if_pos hm]
        unfold ZerosQ at h ⊢
        split at h
        · split at h
          · split at h
            · obtain ⟨h1, h2, h3, h4, h5, h6, h⟩ := h
              exact ⟨h1, h2, h3, h4, h5, h6, hh _ _ h⟩
            · exact h.elim
          · exact h.elim
        · exact h.elim
      rename_i hz0
      rw [if_neg hz0]
      split at h
      · rename_i hm
        rw [if_pos hm]
        split at h
        · split at h
          · split at h
            · split at h
              · obtain ⟨hr, h⟩ := h
                refine ⟨hr, ?_⟩
                split at h
                · obtain ⟨h1, h2, h3, h4, h5, h6, h7, h8, h9, h⟩ := h
                  exact ⟨h1, h2, h3, h4, h5, h6, h7, h8, h9, hh _ _ h⟩
                · exact h.elim
              · split at h
                · rename_i hrw
                  rw [if_pos hrw]
                  obtain ⟨h1, h2, h3, h4, h5, h6, h7, h8, h⟩ := h
                  exact ⟨h1, h2, h3, h4, h5, h6, h7, h8, hh _ _ h⟩
                rename_i hrw
                rw [if_neg hrw]
                split at h
                · rename_i hbx
                  rw [if_pos hbx]
                  obtain ⟨h1, h2, h3, h4, h5, h6, h7, h8, h⟩ := h
                  exact ⟨h1, h2, h3, h4, h5, h6, h7, h8, hh _ _ h⟩
                · rename_i hbx
                  rw [if_neg hbx]
                  obtain ⟨h1, h2, h3, h4, h5, h6, h7, h⟩ := h
                  exact ⟨h1, h2, h3, h4, h5, h6, h7, hh _ _ h⟩
              · obtain ⟨h1, h2, h3, h4, h⟩ := h
                refine ⟨h1, h2, h3, h4, ?_⟩
                unfold MoveQ at h ⊢
                split at h
                · split at h
                  · obtain ⟨p1, p2, p3, p4, p5, h⟩ := h
                    refine ⟨p1, p2, p3, p4, p5, ?_⟩
                    split at h
                    · exact ⟨h.1, h.2.1, hh _ _ h.2.2⟩
                    · split at h
                      · obtain ⟨p1, p2, p3, p4, p5, h⟩ := h
                        exact ⟨p1, p2, p3, p4, p5, hh _ _ h⟩
                      · exact h.elim
                    · exact h.elim
                  · exact h.elim
                · exact h.elim
              · exact h.elim
            · exact h.elim
          · exact h.elim
        · exact h.elim
      · rename_i hm
        rw [if_neg hm]
        split at h
        · rename_i hc
          rw [if_pos hc]
          split at h
          · split at h
            · split at h
              · obtain ⟨h1, h2, h3, h⟩ := h
                exact ⟨h1, h2, h3, hh _ _ h⟩
              · exact h.elim
            · exact hh _ _ h
            · exact h.elim
          · exact h.elim
        · rename_i hc
          rw [if_neg hc]
          split at h
          · exact hh _ _ h
          · exact h.elim
    · exact h.elim
  · split at h
    · exact hh _ _ h
    · exact h.elim
theorem wpOps_mono' {C : Ctx} {nt : Nat} {mv : List Nat} {call : Nat → FuncId → List FV → Heap → FV → Heap → Prop} {ops : Array Oper} {K K' : Env → Heap → Prop} (hh : ∀ e H, K e H → K' e H) : ∀ {l : List Oper} {e : Env} {H : Heap}, wpOps C nt mv call ops l e H K → wpOps C nt mv call ops l e H K'
  | [], e, H, h => hh e H h
  | o :: l, e, H, h => by
    unfold wpOps at h ⊢
    split at h
    · exact wpOp_mono' (fun e H h => wpOps_mono' hh h) h
    · exact wpOps_mono' hh h
    · exact h.elim
theorem iterP_mono {step : Env → Heap → (Ex → Env → Heap → Prop) → Prop} (hm : ∀ e H Q Q', (∀ x e H, Q x e H → Q' x e H) → step e H Q → step e H Q') {Q Q' : Ex → Env → Heap → Prop} (hh : ∀ x e H, Q x e H → Q' x e H) : ∀ {k : Nat} {e : Env} {H : Heap}, iterP step k e H Q → iterP step k e H Q'
  | 0, _, _, h => h
  | k + 1, e, H, h => by
    unfold iterP at h ⊢
    refine hm _ _ _ _ (fun x e' H' h => ?_) h
    cases x with
    | normal => exact iterP_mono hm hh h
    | exit i => exact hh _ _ _ h
    | ret => exact hh _ _ _ h
theorem wpC_mono {C : Ctx} {nt : Nat} {mv vars : List Nat} : ∀ (c : Code) (e : Env) (H : Heap) (Q Q' : Ex → Env → Heap → Prop), (∀ x e H, Q x e H → Q' x e H) → wpC C nt mv vars c e H Q → wpC C nt mv vars c e H Q' := by
  intro c
  induction c with
  | skip => exact fun e H Q Q' hh h => hh _ _ _ h
  | label l => exact fun e H Q Q' hh h => hh _ _ _ h
  | exit id => exact fun e H Q Q' hh h => hh _ _ _ h
  | ret => exact fun e H Q Q' hh h => hh _ _ _ h
  | region id ops draw =>
    intro e H Q Q' hh h
    cases draw with
    | false => exact wpOps_mono' (fun e H h => hh _ _ _ h) (l := ops.toList) h
    | true =>
      refine ⟨h.1, ?_⟩
      have h := h.2
      revert h
      cases ordersOf mv id with
      | nil => exact fun h => wpOps_mono' (fun e H h => hh _ _ _ h) h
      | cons l R => exact fun ⟨ρ, h⟩ => ⟨ρ, fun r hr => wpOps_mono' (fun e H h => hh _ _ _ h) (h r hr)⟩
  | seq a b iha ihb =>
    intro e H Q Q' hh h
    refine iha _ _ _ _ (fun x e H h => ?_) h
    cases x with
    | normal => exact ihb _ _ _ _ hh h
    | exit i => exact hh _ _ _ h
    | ret => exact hh _ _ _ h
  | cond c a b iha ihb =>
    intro e H Q Q' hh h
    unfold wpC at h ⊢
    split at h
    · exact ⟨fun ht => iha _ _ _ _ hh (h.1 ht), fun ht => ihb _ _ _ _ hh (h.2 ht)⟩
    · exact h.elim
  | block id c ih =>
    intro e H Q Q' hh h
    refine ih _ _ _ _ (fun x e H h => ?_) h
    cases x with
    | normal => exact hh _ _ _ h
    | ret => exact hh _ _ _ h
    | exit i =>
      simp only at h ⊢
      split
      · rename_i hi; rw [if_pos hi] at h; exact hh _ _ _ h
      · rename_i hi; rw [if_neg hi] at h; exact hh _ _ _ h
  | loop c ih =>
    intro e H Q Q' hh h
    obtain ⟨k, hk⟩ := h
    exact ⟨k, iterP_mono ih hh hk⟩
  | scope c ih => exact fun e H Q Q' hh h => ih _ _ _ _ hh h
  | rangeFunc => exact fun e H Q Q' _ h => h.elim
  | goto => exact fun e H Q Q' _ h => h.elim
  | refuse => exact fun e H Q Q' _ h => h.elim
def KLoop (I : Nat → Env → Heap → Prop) (d : Nat) (Q : Ex → Env → Heap → Prop) : Ex → Env → Heap → Prop := fun x e H => match x with
  | .normal => ∃ d', d' < d ∧ I d' e H
  | x => Q x e H
theorem KLoop_normal {I : Nat → Env → Heap → Prop} {d : Nat} {Q : Ex → Env → Heap → Prop} {e : Env} {H : Heap} : KLoop I d Q .normal e H = ∃ d', d' < d ∧ I d' e H := rfl
theorem KLoop_exit {I : Nat → Env → Heap → Prop} {d : Nat} {Q : Ex → Env → Heap → Prop} {e : Env} {H : Heap} {i : Nat} : KLoop I d Q (.exit i) e H = Q (.exit i) e H := rfl
theorem KLoop_ret {I : Nat → Env → Heap → Prop} {d : Nat} {Q : Ex → Env → Heap → Prop} {e : Env} {H : Heap} : KLoop I d Q .ret e H = Q .ret e H := rfl
attribute [simp] KLoop_normal KLoop_exit KLoop_ret
theorem loopC {C : Ctx} {nt : Nat} {mv vars : List Nat} {c : Code} {Q : Ex → Env → Heap → Prop} (I : Nat → Env → Heap → Prop) {d : Nat} {e : Env} {H : Heap} (h0 : I d e H)
    (round : ∀ d e H, I d e H → wpC C nt mv vars c e H (KLoop I d Q)) : LoopC C nt mv vars c e H Q :=
  loop_of (wpC_mono c) I (fun d e H h => wpC_mono c _ _ _ _ (fun x e H h => by cases x <;> exact h) (round d e H h)) d e H h0
theorem seq_cut {C : Ctx} {nt : Nat} {mv vars : List Nat} {a b : Code} {e E : Env} {H H₁ : Heap} {Q : Ex → Env → Heap → Prop} (h : wpC C nt mv vars a e H fun x e' H' => x = .normal ∧ e' = E ∧ H' = H₁) (hK : wpC C nt mv vars b E H₁ Q) : wpC C nt mv vars (.seq a b) e H Q := by
  rw [wpC_seq]
  refine wpC_mono a e H _ _ (fun x e' H' hh => ?_) h
  obtain ⟨rfl, rfl, rfl⟩ := hh
  exact hK
end Go.Proofs.YtlnnnfogbakimaaDoor.Ev
end
section
namespace Go.Proofs.YtlnnnfogbakimaaDoor.Ev
open Go
theorem heap_at {H L : List (List FV)} {k : Nat} : (H ++ L)[H.length + k]? = L[k]? := by
  rw [List.getElem?_append_right (by omega)]; congr 1; omega
theorem heap_at0 {H L : List (List FV)} : (H ++ L)[H.length]? = L[0]? := heap_at (k := 0)
theorem heap_set {H L : List (List FV)} {k : Nat} {x : List FV} : (H ++ L).set (H.length + k) x = H ++ L.set k x := by
  have := List.set_append_right (s := H) (t := L) (H.length + k) x (by omega)
  rw [this]; congr 2; omega
theorem heap_set0 {H L : List (List FV)} {x : List FV} : (H ++ L).set H.length x = H ++ L.set 0 x := heap_set (k := 0)
attribute [simp] heap_at heap_at0 heap_set heap_set0 List.append_assoc
theorem wrap64 {n : Int} (h0 : -9223372036854775808 ≤ n) (h1 : n ≤ 9223372036854775807) : IntKind.i64.wrap n = n := by
  simp only [IntKind.wrap, IntKind.signed, IntKind.bits]
  simp
  omega
structure Glyph where
  r : Int
  s : Int
  deriving DecidableEq
def Glyph.pv (g : Glyph) : PV := .agg [.int .i32 g.r, .int .u8 g.s]
def gl (l : List Glyph) : PV := .sl (l.map Glyph.pv)
def sumBy {α : Type} (f : α → Nat) : List α → Nat
  | [] => 0
  | x :: l => f x + sumBy f l
theorem sumBy_append {α : Type} (f : α → Nat) (l m : List α) : sumBy f (l ++ m) = sumBy f l + sumBy f m := by
  induction l with
  | nil => simp [sumBy]
  | cons x l ih => rw [List.cons_append, sumBy, sumBy, ih]; omega
theorem sumBy_take {α : Type} (f : α → Nat) {l : List α} {i : Nat} (h : i < l.length) : sumBy f (l.take (i + 1)) = sumBy f (l.take i) + f l[i] := by
  rw [List.take_succ_eq_append_getElem h, sumBy_append]; simp [sumBy]
theorem sumBy_take_le {α : Type} (f : α → Nat) (l : List α) (i : Nat) : sumBy f (l.take i) ≤ sumBy f l := by
  conv => rhs; rw [← List.take_append_drop i l, sumBy_append]
  congr 1; omega
theorem sumBy_mem {α : Type} (f : α → Nat) {l : List α} {i : Nat} (h : i < l.length) : sumBy f (l.take i) + f l[i] ≤ sumBy f l := by
  have := sumBy_take f h; have := sumBy_take_le f l (i + 1); omega
theorem map_at {α : Type} {f : α → PV} {l : List α} {i : Nat} (h : i < l.length) : (l.map f)[i]? = some (f l[i]) := by
  simp [h]
end Go.Proofs.YtlnnnfogbakimaaDoor.Ev
end
section
namespace Go.Proofs.YtlnnnfogbakimaaDoor.Ev
open Go
theorem take_succ_eq {α : Type} {a b : List α} {i : Nat} (ha : i < a.length) (hb : i < b.length) : a.take (i + 1) = b.take (i + 1) ↔ a.take i = b.take i ∧ a[i] = b[i] := by
  rw [List.take_succ_eq_append_getElem ha, List.take_succ_eq_append_getElem hb]
  constructor
  · intro h
    obtain ⟨h1, h2⟩ := List.append_inj h (by simp; omega)
    exact ⟨h1, by simpa using h2⟩
  · rintro ⟨h1, h2⟩; rw [h1, h2]
end Go.Proofs.YtlnnnfogbakimaaDoor.Ev
end
section
namespace Go.Proofs.YtlnnnfogbakimaaDoor.Ev
open Go
theorem wrapInc {i : Nat} (h : i < 4611686018427387904) : IntKind.i64.wrap ((i : Int) + 1) = ((i + 1 : Nat) : Int) := by
  rw [wrap64 (by omega) (by omega)]; omega
set_option maxRecDepth 20000 in
theorem refSame (a b : List Glyph) (ha : a.length ≤ 4611686018427387904) : PCon C0 35 [.sc (gl a), .sc (gl b)] (.sc (.bool (decide (a = b)))) := by
  refine penter35 ?_
  simp [Tryd.f35, gl]
  refine CondC.mk (fun h => ?_) (fun h => ?_)
  · simp at h
    simp
    intro hab; subst hab; exact h rfl
  · simp at h
    simp
    refine loopC (fun d e H => ∃ i x14 x25, d = a.length - i ∧ i ≤ a.length ∧ a.take i = b.take i ∧ e = [(0, FV.sc (PV.sl (List.map Glyph.pv a))), (1, FV.sc (PV.sl (List.map Glyph.pv b))), (4, FV.sc (PV.bool false)),
      (5, FV.sc (.int .i64 (i : Nat))), (10, FV.sc (PV.bool !decide ((a.length : Int) = b.length))), (14, x14), (25, x25)]) (d := a.length) ⟨0, .undef, .undef, ?_⟩ ?_
    · simp [h]
    · rintro d e H ⟨i, x14, x25, rfl, hi, heq, rfl⟩
      simp
      refine CondC.mk (fun hlt => ?_) (fun hlt => ?_)
      · simp at hlt
        have hib : i < b.length := by omega
        simp [hlt, hib, Glyph.pv]
        refine CondC.mk (fun hne => ?_) (fun hne => ?_)
        · simp at hne
          simp
          intro hab; subst hab
          simp at hne
        · simp at hne
          simp [wrapInc (i := i) (by omega)]
          refine ⟨a.length - (i + 1), by omega, i + 1, rfl, by omega, (take_succ_eq hlt hib).2 ⟨heq, ?_⟩, by simp⟩
          cases hx : a[i]; cases hy : b[i]; simp_all
      · simp at hlt
        simp
        rw [List.take_of_length_le hlt, List.take_of_length_le (by omega)] at heq
        exact heq
set_option maxRecDepth 20000 in
theorem refSameRows (a b : List (List Glyph)) (ha : a.length ≤ 4611686018427387904) (hs : ∀ x ∈ a, x.length ≤ 4611686018427387904) : PCon C0 54 [.sc (.sl (a.map gl)), .sc (.sl (b.map gl))] (.sc (.bool (decide (a = b)))) := by
  refine penter54 ?_
  simp [Tryd.f54]
  refine CondC.mk (fun h => ?_) (fun h => ?_)
  · simp at h
    simp
    intro hab; subst hab; exact h rfl
  · simp at h
    simp
    refine loopC (fun d e H => ∃ i x14 x26, d = a.length - i ∧ i ≤ a.length ∧ a.take i = b.take i ∧ e = [(0, FV.sc (PV.sl (List.map gl a))), (1, FV.sc (PV.sl (List.map gl b))), (4, FV.sc (PV.bool false)),
      (5, FV.sc (.int .i64 (i : Nat))), (10, FV.sc (PV.bool !decide ((a.length : Int) = b.length))), (14, x14), (26, x26)]) (d := a.length) ⟨0, .undef, .undef, ?_⟩ ?_
    · simp [h]
    · rintro d e H ⟨i, x14, x26, rfl, hi, heq, rfl⟩
      simp
      refine CondC.mk (fun hlt => ?_) (fun hlt => ?_)
      · simp at hlt
        have hib : i < b.length := by omega
        simp [hlt, hib]
        refine CallQ.mk (CallP.pure callable35 (by simp) (by simp) (refSame a[i] b[i] (hs _ (List.getElem_mem hlt)))) ?_
        simp
        refine CondC.mk (fun hne => ?_) (fun hne => ?_)
        · simp at hne
          simp
          intro hab; subst hab
          simp at hne
        · simp at hne
          simp [wrapInc (i := i) (by omega)]
          exact ⟨a.length - (i + 1), by omega, i + 1, rfl, by omega, (take_succ_eq hlt hib).2 ⟨heq, hne⟩, by simp⟩
      · simp at hlt
        simp
        rw [List.take_of_length_le hlt, List.take_of_length_le (by omega)] at heq
        exact heq
end Go.Proofs.YtlnnnfogbakimaaDoor.Ev
end
section
namespace Go.Proofs.YtlnnnfogbakimaaDoor.Ev
open Go
structure TRow where
  rule : Bool
  cells : List (List Glyph)
deriving DecidableEq
def TRow.pv (x : TRow) : PV := .agg [.bool x.rule, .sl (x.cells.map gl)]
def TRow.ok (x : TRow) : Prop := x.cells.length ≤ 4611686018427387904 ∧ ∀ c ∈ x.cells, c.length ≤ 4611686018427387904
end Go.Proofs.YtlnnnfogbakimaaDoor.Ev
end
section
namespace Go.Proofs.YtlnnnfogbakimaaDoor.Ev
open Go
structure Tbl where
  cols : ByteArray
  rows : List TRow
  box : Bool
  all : Bool
deriving DecidableEq
def Tbl.pv (t : Tbl) : PV := .agg [.str t.cols, .sl (t.rows.map TRow.pv), .bool t.box, .bool t.all]
def Tbl.ok (t : Tbl) : Prop := t.rows.length ≤ 4611686018427387904 ∧ ∀ c ∈ t.rows, c.ok
set_option maxRecDepth 20000 in
theorem refTableSame (a b : Tbl) (ha : a.ok) : PCon C0 23 [a.pv.toFV, b.pv.toFV] (.sc (.bool (decide (a = b)))) := by
  refine penter23 ?_
  by_cases h1 : a.cols = b.cols
  · cases h2 : a.box == b.box
    · have hn : a ≠ b := by intro h; subst h; simp at h2
      simp [Tryd.f23, Tbl.pv, h1, h2, hn]
    · cases h3 : a.all == b.all
      · have hn : a ≠ b := by intro h; subst h; simp at h3
        simp [Tryd.f23, Tbl.pv, h1, h2, h3, hn]
      · by_cases h4 : (a.rows.length : Int) = b.rows.length
        · simp [Tryd.f23, Tbl.pv, h1, h2, h3, h4]
          refine loopC (fun d e H => ∃ i x0 x1 x33 x38 x69, d = a.rows.length - i ∧ i ≤ a.rows.length ∧ a.rows.take i = b.rows.take i ∧
            H = [[FV.sc (PV.str b.cols), FV.sc (PV.sl (List.map TRow.pv a.rows)), FV.sc (PV.bool a.box), FV.sc (PV.bool a.all)], [FV.sc (PV.str b.cols), FV.sc (PV.sl (List.map TRow.pv b.rows)), FV.sc (PV.bool b.box), FV.sc (PV.bool b.all)]] ∧
            e = [(0, x0), (1, x1), (2, FV.ptr 0 0), (3, FV.ptr 1 0), (4, FV.sc (PV.bool false)), (5, FV.sc (.int .i64 (i : Nat))), (33, x33), (38, x38), (69, x69)]) (d := a.rows.length) ⟨0, _, _, _, _, _, rfl, by omega, rfl, rfl, rfl⟩ ?_
          rintro d e H ⟨i, x0, x1, x33, x38, x69, rfl, hi, heq, rfl, rfl⟩
          simp
          refine CondC.mk (fun hlt => ?_) (fun hlt => ?_)
          · simp at hlt
            have hib : i < b.rows.length := by omega
            cases hr : a.rows[i].rule == b.rows[i].rule
            · have hn : a ≠ b := by intro h; subst h; simp at hr
              simp [hlt, hib, TRow.pv, hr, hn]
            · simp [hlt, hib, TRow.pv, hr]
              have hok := ha.2 _ (List.getElem_mem hlt)
              refine CallQ.mk (CallP.pure callable54 (by simp) (by simp) (refSameRows a.rows[i].cells b.rows[i].cells hok.1 hok.2)) ?_
              simp
              refine CondC.mk (fun hne => ?_) (fun hne => ?_)
              · have hn : a ≠ b := by intro h; subst h; simp at hne
                simp [hn]
              · simp at hne
                simp [wrapInc (i := i) (by have := ha.1; omega)]
                refine ⟨a.rows.length - (i + 1), by omega, i + 1, rfl, by omega, (take_succ_eq hlt hib).2 ⟨heq, ?_⟩, by simp⟩
                cases hx : a.rows[i]; cases hy : b.rows[i]; simp_all
          · simp at hlt
            simp
            rw [List.take_of_length_le hlt, List.take_of_length_le (by omega)] at heq
            cases a; cases b; simp_all
        · have hn : a ≠ b := by intro h; subst h; simp at h4
          simp [Tryd.f23, Tbl.pv, h1, h2, h3, h4, hn]
  · have hn : a ≠ b := by intro h; subst h; simp at h1
    simp [Tryd.f23, Tbl.pv, h1, hn]
end Go.Proofs.YtlnnnfogbakimaaDoor.Ev
end
section
namespace Go.Proofs.YtlnnnfogbakimaaDoor.Ev
open Go
inductive Node where
  | mk (kind line n : Int) (text : List Glyph) (kids : List Node) (rows : List (List Glyph)) (grid : Tbl)
namespace Node
def kind : Node → Int | mk k _ _ _ _ _ _ => k
def line : Node → Int | mk _ k _ _ _ _ _ => k
def n : Node → Int | mk _ _ k _ _ _ _ => k
def text : Node → List Glyph | mk _ _ _ k _ _ _ => k
def kids : Node → List Node | mk _ _ _ _ k _ _ => k
def rows : Node → List (List Glyph) | mk _ _ _ _ _ k _ => k
def grid : Node → Tbl | mk _ _ _ _ _ _ k => k
@[simp] theorem kind_mk {k l m : Int} {t : List Glyph} {c : List Node} {r : List (List Glyph)} {g : Tbl} : (mk k l m t c r g).kind = k := rfl
@[simp] theorem line_mk {k l m : Int} {t : List Glyph} {c : List Node} {r : List (List Glyph)} {g : Tbl} : (mk k l m t c r g).line = l := rfl
@[simp] theorem n_mk {k l m : Int} {t : List Glyph} {c : List Node} {r : List (List Glyph)} {g : Tbl} : (mk k l m t c r g).n = m := rfl
@[simp] theorem text_mk {k l m : Int} {t : List Glyph} {c : List Node} {r : List (List Glyph)} {g : Tbl} : (mk k l m t c r g).text = t := rfl
@[simp] theorem kids_mk {k l m : Int} {t : List Glyph} {c : List Node} {r : List (List Glyph)} {g : Tbl} : (mk k l m t c r g).kids = c := rfl
@[simp] theorem rows_mk {k l m : Int} {t : List Glyph} {c : List Node} {r : List (List Glyph)} {g : Tbl} : (mk k l m t c r g).rows = r := rfl
@[simp] theorem grid_mk {k l m : Int} {t : List Glyph} {c : List Node} {r : List (List Glyph)} {g : Tbl} : (mk k l m t c r g).grid = g := rfl
mutual
def pv : Node → PV
  | mk kind line n text kids rows grid => .agg [.int .i64 kind, .int .i64 line, .int .i64 n, gl text, .sl (pvs kids), .sl (rows.map gl), .str grid.cols, .sl (grid.rows.map TRow.pv), .bool grid.box, .bool grid.all]
def pvs : List Node → List PV
  | [] => []
  | x :: l => x.pv :: pvs l
end
theorem pvs_eq (l : List Node) : pvs l = l.map pv := by
  induction l with
  | nil => rw [pvs]; rfl
  | cons x l ih => rw [pvs, ih]; rfl
theorem pv_eq (x : Node) : x.pv = .agg [.int .i64 x.kind, .int .i64 x.line, .int .i64 x.n, gl x.text, .sl (x.kids.map pv), .sl (x.rows.map gl), .str x.grid.cols, .sl (x.grid.rows.map TRow.pv), .bool x.grid.box, .bool x.grid.all] := by
  cases x; rw [pv, pvs_eq]; rfl
inductive Ok : Node → Prop
  | mk {kind line n : Int} {text : List Glyph} {kids : List Node} {rows : List (List Glyph)} {grid : Tbl}
    (ht : text.length ≤ 4611686018427387904) (hk : kids.length ≤ 4611686018427387904) (hks : ∀ x ∈ kids, Ok x) (hr : rows.length ≤ 4611686018427387904) (hrs : ∀ x ∈ rows, x.length ≤ 4611686018427387904) (hg : grid.ok) : Ok (.mk kind line n text kids rows grid)
end Node
end Go.Proofs.YtlnnnfogbakimaaDoor.Ev
end
section
namespace Go.Proofs.YtlnnnfogbakimaaDoor.Ev
open Go
theorem Node.Ok.all {x : Node} (h : x.Ok) : x.text.length ≤ 4611686018427387904 ∧ x.kids.length ≤ 4611686018427387904 ∧ (∀ y ∈ x.kids, y.Ok) ∧ x.rows.length ≤ 4611686018427387904 ∧ (∀ y ∈ x.rows, y.length ≤ 4611686018427387904) ∧ x.grid.ok := by
  cases h; exact ⟨by assumption, by assumption, by assumption, by assumption, by assumption, by assumption⟩
theorem Node.kids_lt {x : Node} {l : List Node} (h : x ∈ l) : SizeOf.sizeOf x.kids < SizeOf.sizeOf l := by
  have h1 := List.sizeOf_lt_of_mem h
  have h2 : SizeOf.sizeOf x.kids < SizeOf.sizeOf x := by cases x; simp only [kids_mk, mk.sizeOf_spec]; omega
  omega
end Go.Proofs.YtlnnnfogbakimaaDoor.Ev
end
section
namespace Go.Proofs.YtlnnnfogbakimaaDoor.Ev
open Go
namespace Node
mutual
def deep : Node → Nat
  | mk _ _ _ _ kids _ _ => 1 + deeps kids
def deeps : List Node → Nat
  | [] => 0
  | x :: l => max x.deep (deeps l)
end
theorem deep_eq (x : Node) : x.deep = 1 + deeps x.kids := by cases x; rw [deep]; rfl
theorem deeps_append (l m : List Node) : deeps (l ++ m) = max (deeps l) (deeps m) := by
  induction l with
  | nil => simp [deeps]
  | cons x l ih => rw [List.cons_append, deeps, deeps, ih]; omega
theorem deeps_le {l : List Node} {x : Node} (h : x ∈ l) : 1 + deeps x.kids ≤ deeps l := by
  induction l with
  | nil => cases h
  | cons y l ih =>
    rw [deeps]
    cases h with
    | head => rw [← deep_eq]; omega
    | tail _ h => have := ih h; omega
end Node
theorem wrapL {k : IntKind} {a b : Int} : k.wrap (k.wrap a + b) = k.wrap (a + b) := by
  cases k <;> simp [IntKind.wrap, IntKind.signed, IntKind.bits] <;> (try split) <;> (try split) <;> omega
theorem wrapR {k : IntKind} {a b : Int} : k.wrap (a + k.wrap b) = k.wrap (a + b) := by rw [Int.add_comm, wrapL, Int.add_comm]
namespace Node
mutual
def deepW : Node → Int
  | mk _ _ _ _ kids _ _ => IntKind.i64.wrap (1 + deepsW kids)
def deepsW : List Node → Int
  | [] => 0
  | x :: l => max (deepW x) (deepsW l)
end
theorem deepW_eq (x : Node) : x.deepW = IntKind.i64.wrap (1 + deepsW x.kids) := by cases x; rw [deepW]; rfl
theorem deepsW_nn (l : List Node) : 0 ≤ deepsW l := by
  induction l with
  | nil => simp [deepsW]
  | cons x l ih => rw [deepsW]; omega
theorem deepsW_append (l m : List Node) : deepsW (l ++ m) = max (deepsW l) (deepsW m) := by
  induction l with
  | nil => have := deepsW_nn m; simp [deepsW]; omega
  | cons x l ih => rw [List.cons_append, deepsW, deepsW, ih]; omega
theorem deepsW_take {l : List Node} {i : Nat} (h : i < l.length) : deepsW (l.take (i + 1)) = max (deepsW (l.take i)) (IntKind.i64.wrap (1 + deepsW l[i].kids)) := by
  have := deepsW_nn (l.take i)
  rw [List.take_succ_eq_append_getElem h, deepsW_append, deepsW, deepW_eq, deepsW]; omega
end Node
set_option maxRecDepth 20000 in
set_option maxHeartbeats 4000000 in
theorem refDeep : ∀ (n : Nat) (a : List Node), SizeOf.sizeOf a < n → a.length ≤ 4611686018427387904 → (∀ x ∈ a, x.Ok) → PCon C0 32 [.sc (.sl (a.map Node.pv))] (.sc (.int .i64 (Node.deepsW a))) := by
  intro n
  induction n with
  | zero => intro a h; omega
  | succ n ih =>
    intro a hn hl hok
    refine penter32 ?_
    simp [Tryd.f32]
    refine loopC (fun d e H => ∃ i x2 x8, d = a.length - i ∧ i ≤ a.length ∧
      e = [(0, FV.sc (PV.sl (List.map Node.pv a))), (2, x2), (3, FV.sc (.int .i64 (Node.deepsW (a.take i)))), (4, FV.sc (.int .i64 (i : Nat))), (8, x8)]) (d := a.length) ⟨0, _, _, rfl, by omega, rfl⟩ ?_
    rintro d e H ⟨i, x2, x8, rfl, hi, rfl⟩
    simp
    refine CondC.mk (fun hlt => ?_) (fun hlt => ?_)
    · simp at hlt
      have ea := Node.pv_eq a[i]
      have hx := (hok _ (List.getElem_mem hlt)).all
      have hk := ih a[i].kids (by have := Node.kids_lt (List.getElem_mem hlt); omega) hx.2.1 hx.2.2.1
      simp [hlt, ea, gl]
      refine CallQ.mk (Call.pure callable32 (by simp) (by simp) hk) ?_
      simp [wrapInc (i := i) (by omega)]
      refine ⟨a.length - (i + 1), by omega, i + 1, rfl, by omega, ?_, by omega⟩
      rw [Node.deepsW_take hlt]
      split <;> omega
    · simp at hlt
      simp [List.take_of_length_le hlt]
end Go.Proofs.YtlnnnfogbakimaaDoor.Ev
end
section
namespace Go.Proofs.YtlnnnfogbakimaaDoor.Ev
open Go
def rowsLong (l : List (List Glyph)) : Nat := sumBy (fun r => 1 + r.length) l
def trowLong (r : TRow) : Nat := 1 + r.cells.length + sumBy List.length r.cells
namespace Node
mutual
def long : Node → Nat
  | mk _ _ _ text kids rows grid => 3 + text.length + grid.cols.size + longs kids + rowsLong rows + sumBy trowLong grid.rows
def longs : List Node → Nat
  | [] => 0
  | x :: l => x.long + longs l
end
theorem longs_eq (l : List Node) : longs l = sumBy long l := by
  induction l with
  | nil => rw [longs]; rfl
  | cons x l ih => rw [longs, ih]; rfl
theorem long_eq (x : Node) : x.long = 3 + x.text.length + x.grid.cols.size + sumBy long x.kids + rowsLong x.rows + sumBy trowLong x.grid.rows := by cases x; rw [long, longs_eq]; rfl
end Node
set_option maxRecDepth 20000 in
set_option maxHeartbeats 4000000 in
theorem refLong : ∀ (n : Nat) (a : List Node), SizeOf.sizeOf a < n → (∀ x ∈ a, x.Ok) → a.length ≤ 4611686018427387904 → PCon C0 47 [.sc (.sl (a.map Node.pv))] (.sc (.int .i64 (IntKind.i64.wrap (sumBy Node.long a : Nat)))) := by
  intro n
  induction n with
  | zero => intro a h; omega
  | succ n ih =>
    intro a hn hok hla
    refine penter47 ?_
    simp [Tryd.f47]
    refine loopC (fun d e H => ∃ i x2 x5 x6 x7 x8 x12 x46 x69 x90, d = a.length - i ∧ i ≤ a.length ∧
      e = [(0, FV.sc (PV.sl (List.map Node.pv a))), (2, x2), (3, FV.sc (.int .i64 (IntKind.i64.wrap (sumBy Node.long (a.take i) : Nat)))), (4, FV.sc (.int .i64 (i : Nat))), (5, x5), (6, x6), (7, x7), (8, x8), (12, x12), (46, x46), (69, x69), (90, x90)]) (d := a.length) ⟨0, _, _, _, _, _, _, _, _, _, rfl, by omega, rfl⟩ ?_
    rintro d e H ⟨i, x2, x5, x6, x7, x8, x12, x46, x69, x90, rfl, hi, rfl⟩
    simp
    refine CondC.mk (fun hlt => ?_) (fun hlt => ?_)
    · simp at hlt
      have ea := Node.pv_eq a[i]
      have hx := (hok _ (List.getElem_mem hlt)).all
      have ht := sumBy_take Node.long hlt
      rw [Node.long_eq a[i]] at ht
      have hk := ih a[i].kids (by have := Node.kids_lt (List.getElem_mem hlt); omega) hx.2.2.1 hx.2.1
      simp [hlt, ea, gl]
      refine CallQ.mk (CallP.pure callable47 (by simp) (by simp) hk) ?_
      generalize hS : sumBy Node.long (List.take i a) = S at *
      generalize hK : sumBy Node.long a[i].kids = K at *
      simp [wrapL, wrapR]
      obtain ⟨B, hB⟩ : ∃ B : Nat, B = S + 3 + a[i].text.length + a[i].grid.cols.size + K := ⟨_, rfl⟩
      have hB' : (S : Int) + 3 + a[i].text.length + a[i].grid.cols.size + K = B := by omega
      rw [hB']
      refine loopC (fun d e H => ∃ k x2 x6 x7 x8 x12 x46 x69 x90, d = a[i].rows.length - k ∧ k ≤ a[i].rows.length ∧
        e = [(0, FV.sc (PV.sl (List.map Node.pv a))), (2, x2), (3, FV.sc (.int .i64 (IntKind.i64.wrap (B + rowsLong (a[i].rows.take k) : Nat)))), (4, FV.sc (.int .i64 (i : Nat))), (5, FV.sc (.int .i64 (k : Nat))), (6, x6), (7, x7), (8, x8), (12, x12), (46, x46), (69, x69), (90, x90)]) (d := a[i].rows.length) ⟨0, x2, x6, x7, x8, .sc (.bool true), x46, x69, x90, rfl, by omega, by simp [rowsLong, sumBy]⟩ ?_
      rintro d e H ⟨k, x2, x6, x7, x8, x12, x46, x69, x90, rfl, hk', rfl⟩
      simp [hlt, ea, gl]
      refine CondC.mk (fun hlk => ?_) (fun hlk => ?_)
      · simp at hlk
        have hr' := sumBy_take (fun r : List Glyph => 1 + r.length) hlk
        have hrl := hx.2.2.2.1
        change rowsLong _ = rowsLong _ + _ at hr'
        generalize hR : rowsLong (List.take k a[i].rows) = R at *
        simp [hlt, ea, gl, hlk, wrapL, wrapR, wrapInc (i := k) (by omega)]
        refine ⟨a[i].rows.length - (k + 1), by omega, k + 1, rfl, by omega, ?_, by omega⟩
        congr 1; omega
      · simp at hlk
        simp [List.take_of_length_le hlk]
        clear hk' hlk
        have hgl := hx.2.2.2.2.2
        obtain ⟨D, hD⟩ : ∃ D : Nat, D = B + rowsLong a[i].rows := ⟨_, rfl⟩
        have hD' : (B : Int) + (rowsLong a[i].rows : Nat) = D := by omega
        rw [hD']
        refine loopC (fun d e H => ∃ k x2 x5 x7 x8 x12 x46 x69 x90, d = a[i].grid.rows.length - k ∧ k ≤ a[i].grid.rows.length ∧
          e = [(0, FV.sc (PV.sl (List.map Node.pv a))), (2, x2), (3, FV.sc (.int .i64 (IntKind.i64.wrap (D + sumBy trowLong (a[i].grid.rows.take k) : Nat)))), (4, FV.sc (.int .i64 (i : Nat))), (5, x5), (6, FV.sc (.int .i64 (k : Nat))), (7, x7), (8, x8), (12, x12), (46, x46), (69, x69), (90, x90)]) (d := a[i].grid.rows.length) ⟨0, x2, .sc (.int .i64 k), x7, x8, x12, .sc (.bool (decide (k < a[i].rows.length))), x69, x90, rfl, by omega, by simp [sumBy]⟩ ?_
        rintro d e H ⟨k, x2, x5, x7, x8, x12, x46, x69, x90, rfl, hk', rfl⟩
        simp [hlt, ea, gl]
        refine CondC.mk (fun hlk => ?_) (fun hlk => ?_)
        · simp at hlk
          have hr' := sumBy_take trowLong hlk
          have hc := hgl.2 _ (List.getElem_mem hlk)
          generalize hR : sumBy trowLong (List.take k a[i].grid.rows) = R at *
          simp only [trowLong] at hr'
          simp [hlt, ea, gl, hlk, TRow.pv, wrapL, wrapR]
          obtain ⟨M, hM⟩ : ∃ M : Nat, M = D + R + 1 + a[i].grid.rows[k].cells.length := ⟨_, rfl⟩
          have hM' : (D : Int) + R + 1 + a[i].grid.rows[k].cells.length = M := by omega
          rw [hM']
          refine loopC (fun d e H => ∃ j x2 x5 x12 x46 x69 x90, d = a[i].grid.rows[k].cells.length - j ∧ j ≤ a[i].grid.rows[k].cells.length ∧
            e = [(0, FV.sc (PV.sl (List.map Node.pv a))), (2, x2), (3, FV.sc (.int .i64 (IntKind.i64.wrap (M + sumBy List.length (a[i].grid.rows[k].cells.take j) : Nat)))), (4, FV.sc (.int .i64 (i : Nat))), (5, x5), (6, FV.sc (.int .i64 (k : Nat))), (7, FV.sc (PV.sl (List.map gl a[i].grid.rows[k].cells))), (8, FV.sc (.int .i64 (j : Nat))), (12, x12), (46, x46), (69, x69), (90, x90)]) (d := a[i].grid.rows[k].cells.length) ⟨0, x2, x5, x12, x46, .sc (.bool true), x90, rfl, by omega, by simp [sumBy]⟩ ?_
          rintro d e H ⟨j, x2, x5, x12, x46, x69, x90, rfl, hj', rfl⟩
          simp
          refine CondC.mk (fun hlj => ?_) (fun hlj => ?_)
          · simp at hlj
            have hs' := sumBy_take List.length hlj
            generalize hT : sumBy List.length (List.take j a[i].grid.rows[k].cells) = T at *
            simp [gl, hlj, wrapL, wrapR, wrapInc (i := j) (by have := hc.1; omega)]
            refine ⟨a[i].grid.rows[k].cells.length - (j + 1), by omega, j + 1, rfl, by omega, ?_, by omega⟩
            congr 1; omega
          · simp at hlj
            simp [List.take_of_length_le hlj, wrapInc (i := k) (by have := hgl.1; omega)]
            refine ⟨a[i].grid.rows.length - (k + 1), by omega, k + 1, rfl, by omega, ?_, by omega⟩
            congr 1; omega
        · simp at hlk
          simp [List.take_of_length_le hlk, wrapInc (i := i) (by omega)]
          refine ⟨a.length - (i + 1), by omega, i + 1, rfl, by omega, ?_, by omega⟩
          congr 1; omega
    · simp at hlt
      simp [List.take_of_length_le hlt]
end Go.Proofs.YtlnnnfogbakimaaDoor.Ev
end
section
namespace Go.Proofs.YtlnnnfogbakimaaDoor.Ev
open Go
theorem len_le_long (a : List Node) : a.length ≤ sumBy Node.long a := by
  induction a with
  | nil => simp
  | cons x l ih => rw [sumBy, Node.long_eq, List.length_cons]; omega
def tooLong (a : List Node) : Bool := decide (600 < IntKind.i64.wrap (sumBy Node.long a : Nat)) || decide (40 < Node.deepsW a)
end Go.Proofs.YtlnnnfogbakimaaDoor.Ev
end
section
namespace Go.Proofs.YtlnnnfogbakimaaDoor.Ev
open Go
def hasText (k : Int) : Bool := decide (1 ≤ k) && decide (k ≤ 4)
def hasKids (k : Int) : Bool := decide (k = 1) || decide (k = 2) || decide (k = 4) || decide (k = 5)
def hasN (k : Int) : Bool := decide (k = 4) || decide (k = 5)
def standsIn (k i : Int) : Bool := if k = 1 then decide (i = 0) else if k = 2 then decide (i = 1) else decide (3 ≤ k) && decide (k ≤ 7)
set_option maxRecDepth 20000 in
set_option maxHeartbeats 4000000 in
theorem treeStands (k i : Int) : PCon C0 87 [.sc (.int .i64 k), .sc (.int .i64 i)] (.sc (.bool (standsIn k i))) := by
  refine penter87 ?_
  by_cases h1 : k = 1
  · simp [Tryd.f87, standsIn, h1]
  · by_cases h2 : k = 2
    · simp [Tryd.f87, standsIn, h1, h2]
    · by_cases h3 : 3 ≤ k
      · simp [Tryd.f87, standsIn, h1, h2, h3]
      · simp [Tryd.f87, standsIn, h1, h2, h3]
set_option maxRecDepth 20000 in
set_option maxHeartbeats 4000000 in
theorem treeFull (k : Int) : PCon C0 90 [.sc (.int .i64 k)] (.tup [.sc (.bool (hasText k)), .sc (.bool (hasKids k)), .sc (.bool (decide (k = 6))), .sc (.bool (decide (k = 7))), .sc (.bool (hasN k))]) := by
  refine penter90 ?_
  by_cases h4 : k = 4
  · simp [Tryd.f90, h4, hasText, hasKids, hasN]
  · by_cases h1 : k = 1
    · simp [Tryd.f90, h1, hasText, hasKids, hasN]
    · by_cases h2 : k = 2
      · simp [Tryd.f90, h2, hasText, hasKids, hasN]
      · by_cases h3 : k = 3
        · simp [Tryd.f90, h3, hasText, hasKids, hasN]
        · by_cases h5 : k = 5
          · simp [Tryd.f90, h5, hasText, hasKids, hasN]
          · by_cases h6 : k = 6
            · simp [Tryd.f90, h6, hasText, hasKids, hasN]
            · by_cases h7 : k = 7
              · simp [Tryd.f90, h7, hasText, hasKids, hasN]
              · have ht : ¬ (1 ≤ k ∧ k ≤ 4) := by omega
                simp [Tryd.f90, h1, h2, h3, h4, h5, h6, h7, hasText, hasKids, hasN]
                omega
end Go.Proofs.YtlnnnfogbakimaaDoor.Ev
end
section
namespace Go.Proofs.YtlnnnfogbakimaaDoor.Ev
open Go
def sqStep (s : List Glyph × Bool) (g : Glyph) : List Glyph × Bool :=
  if g.r = 32 then (s.1, true) else ((if s.2 = true ∧ s.1 ≠ [] then s.1 ++ [⟨32, 0⟩] else s.1) ++ [g], false)
def sqAll (l : List Glyph) : List Glyph × Bool := l.foldl sqStep ([], false)
def squeeze (l : List Glyph) : List Glyph := (sqAll l).1
theorem sqAll_take {l : List Glyph} {i : Nat} (h : i < l.length) : sqAll (l.take (i + 1)) = sqStep (sqAll (l.take i)) l[i] := by
  rw [List.take_succ_eq_append_getElem h, sqAll, List.foldl_append]; rfl
theorem sqAll_len (l : List Glyph) : (sqAll l).1.length ≤ 2 * l.length := by
  have : ∀ (l : List Glyph) (s : List Glyph × Bool), (l.foldl sqStep s).1.length ≤ s.1.length + 2 * l.length := by
    intro l
    induction l with
    | nil => intro s; simp
    | cons g l ih =>
      intro s
      have h1 := ih (sqStep s g)
      have h2 : (sqStep s g).1.length ≤ s.1.length + 2 := by
        unfold sqStep; split
        · simp
        · split <;> simp
      rw [List.foldl_cons, List.length_cons]; omega
  have := this l ([], false)
  simpa [sqAll] using this
set_option maxRecDepth 20000 in
set_option maxHeartbeats 4000000 in
theorem treeSqueeze (l : List Glyph) (hl : l.length ≤ 1073741824) : PCon C0 70 [.sc (gl l)] (.own ((squeeze l).map Glyph.pv)) := by
  refine penter70 ?_
  simp [Tryd.f70, gl]
  refine loopC (fun d e H => ∃ i x2 x6 x10 x17 x23, d = l.length - i ∧ i ≤ l.length ∧
    e = [(0, FV.sc (PV.sl (List.map Glyph.pv l))), (2, x2), (3, FV.own ((sqAll (l.take i)).1.map Glyph.pv)), (4, FV.sc (PV.bool (sqAll (l.take i)).2)), (6, x6), (7, FV.sc (PV.sl (List.map Glyph.pv l))), (8, FV.sc (PV.int IntKind.i64 l.length)),
      (9, FV.sc (PV.int IntKind.i64 (i : Nat))), (10, x10), (17, x17), (23, x23)]) (d := l.length) ⟨0, .own [], .undef, .undef, .undef, .undef, rfl, by omega, by simp [sqAll]⟩ ?_
  rintro d e H ⟨i, x2, x6, x10, x17, x23, rfl, hi, rfl⟩
  simp
  refine CondC.mk (fun hlt => ?_) (fun hlt => ?_)
  · simp at hlt
    have hlen := sqAll_len (l.take i)
    have ht := sqAll_take hlt
    generalize hS : sqAll (l.take i) = S at *
    obtain ⟨out, wants⟩ := S
    simp [hlt, Glyph.pv]
    have hout : out.length ≤ 2147483648 := by
      simp only [List.length_take] at hlen; omega
    have fin : ∀ (o : List Glyph) (w : Bool) (q : List PV), sqStep (out, wants) l[i] = (o, w) → q = o.map Glyph.pv → ∃ d', d' < l.length - i ∧ ∃ k, d' = l.length - k ∧ k ≤ l.length ∧
        q = List.map Glyph.pv (sqAll (List.take k l)).fst ∧ (sqAll (List.take k l)).snd = w ∧ (i : Int) + 1 = (k : Nat) := by
      intro o w q ho hq
      refine ⟨l.length - (i + 1), by omega, i + 1, rfl, by omega, ?_, ?_, by omega⟩
      · rw [ht, ho, hq]
      · rw [ht, ho]
    refine CondC.mk (fun h32 => ?_) (fun h32 => ?_)
    · simp at h32
      simp [wrapInc (i := i) (by omega)]
      exact fin out true _ (by simp [sqStep, h32]) rfl
    · simp at h32
      cases wants
      · simp [wrapInc (i := i) (by omega), Sized]
        refine ⟨fun g _ => rfl, by unfold lenMax; omega, fin (out ++ [l[i]]) false _ (by simp [sqStep, h32]) (by simp [Glyph.pv])⟩
      · by_cases ho : out = []
        · subst ho
          simp [wrapInc (i := i) (by omega), Sized]
          exact ⟨by unfold lenMax; omega, fin [l[i]] false _ (by simp [sqStep, h32]) (by simp [Glyph.pv])⟩
        · have hp : 0 < out.length := List.length_pos_iff.2 ho
          simp [wrapInc (i := i) (by omega), Sized, hp]
          refine ⟨fun g _ => rfl, by unfold lenMax; omega, ?_, by unfold lenMax; omega, fin (out ++ [⟨32, 0⟩] ++ [l[i]]) false _ (by simp [sqStep, h32, ho]) (by simp [Glyph.pv])⟩
          rintro p (⟨g, _, rfl⟩ | rfl) <;> rfl
  · simp at hlt
    simp [List.take_of_length_le hlt, squeeze]
end Go.Proofs.YtlnnnfogbakimaaDoor.Ev
end
section
namespace Go.Proofs.YtlnnnfogbakimaaDoor.Ev
open Go
def wholeN (x : Node) : Bool :=
  if x.kind = 1 ∨ x.kind = 2 ∨ x.kind = 3 then !x.text.isEmpty
  else if x.kind = 5 then !x.kids.isEmpty
  else if x.kind = 6 then !x.rows.isEmpty
  else if x.kind = 7 then !x.grid.rows.isEmpty
  else decide (x.kind = 4)
theorem len_pos {α : Type} (l : List α) : decide (0 < (l.length : Int)) = !l.isEmpty := by
  cases l <;> simp
set_option maxRecDepth 20000 in
set_option maxHeartbeats 4000000 in
theorem treeWhole (x : Node) : PCon C0 89 [x.pv.toFV] (.sc (.bool (wholeN x))) := by
  refine penter89 ?_
  rw [Node.pv_eq]
  by_cases h1 : x.kind = 1
  · simp [Tryd.f89, h1, gl, wholeN, ← len_pos]
  · by_cases h2 : x.kind = 2
    · simp [Tryd.f89, h2, gl, wholeN, ← len_pos]
    · by_cases h3 : x.kind = 3
      · simp [Tryd.f89, h3, gl, wholeN, ← len_pos]
      · by_cases h5 : x.kind = 5
        · simp [Tryd.f89, h5, gl, wholeN, ← len_pos]
        · by_cases h6 : x.kind = 6
          · simp [Tryd.f89, h6, gl, wholeN, ← len_pos]
          · by_cases h7 : x.kind = 7
            · simp [Tryd.f89, h7, gl, wholeN, ← len_pos]
            · simp [Tryd.f89, h1, h2, h3, h5, h6, h7, gl, wholeN]
end Go.Proofs.YtlnnnfogbakimaaDoor.Ev
end
section
namespace Go.Proofs.YtlnnnfogbakimaaDoor.Ev
open Go
def clamp (m n : Int) : Int := if 0 < (if m < n then m else n) then (if m < n then m else n) else 0
def isSide (b : UInt8) : Bool := b == 108 || b == 99 || b == 114
def mendCols (c : ByteArray) : ByteArray := ⟨(if (c.data.toList.filter isSide).take 20 = [] then [108] else (c.data.toList.filter isSide).take 20).toArray⟩
def mendRow (n : Nat) (r : TRow) : TRow := ⟨r.rule, if r.rule = true then [] else (List.range n).map fun k => if k < r.cells.length then squeeze (r.cells.getD k []) else []⟩
def mendT (t : Tbl) : Tbl := ⟨mendCols t.cols, t.rows.map (mendRow (mendCols t.cols).size), t.box, t.all && t.box⟩
def noTbl : Tbl := ⟨ByteArray.empty, [], false, false⟩
def ownN (x : Node) (k : Int) : Node := .mk k (clamp 1099511627775 x.line) (if hasN k = true then clamp 200 x.n else 0) (if hasText k = true then squeeze x.text else []) [] (if k = 6 then x.rows else []) (if k = 7 then mendT x.grid else noTbl)
set_option maxRecDepth 20000 in
set_option maxHeartbeats 4000000 in
theorem treeOwn5 (x : Node) (k : Int) (hk : 1 ≤ k ∧ k ≤ 5) (hx : x.text.length ≤ 1073741824) : PCon C0 88 [x.pv.toFV, .sc (.int .i64 k)] (ownN x k).pv.toFV := by
  refine penter88 ?_
  rw [Node.pv_eq]
  have cf := treeFull k
  have h6 : ¬ k = 6 := by omega
  have h7 : ¬ k = 7 := by omega
  simp [h6, h7] at cf
  simp [Tryd.f88, gl]
  refine CallQ.mk (Call.pure callable90 (by simp) (by simp) cf) ?_
  simp
  have sq := treeSqueeze x.text hx
  cases ht : hasText k <;> cases hn : hasN k
  · simp [Node.pv_eq, gl, ownN, ht, hn, clamp, h6, h7, noTbl]
  · simp [Node.pv_eq, gl, ownN, ht, hn, clamp, h6, h7, noTbl]
  · simp
    refine CallQ.mk (Call.pure callable70 (by simp) (by simp) sq) ?_
    simp [Node.pv_eq, gl, ownN, ht, hn, clamp, h6, h7, noTbl]
  · simp
    refine CallQ.mk (Call.pure callable70 (by simp) (by simp) sq) ?_
    simp [Node.pv_eq, gl, ownN, ht, hn, clamp, h6, h7, noTbl]
end Go.Proofs.YtlnnnfogbakimaaDoor.Ev
end
section
namespace Go.Proofs.YtlnnnfogbakimaaDoor.Ev
open Go
def below (n : Nat) : Root → Bool
  | .box i => decide (i < n)
  | _ => true
theorem only_some {W : Wd} {p : Root → Bool} {b : Nat} {q : Root} {k : Nat} (h : W.o b = some (q, k)) (hp : p q = true) : (W.only p).o b = some (q, k) := by
  simp [Wd.only, h, hp]
theorem only_of {W : Wd} {p : Root → Bool} {b : Nat} {q : Root} {k : Nat} (h : (W.only p).o b = some (q, k)) : W.o b = some (q, k) := by
  simp only [Wd.only] at h
  split at h
  · rename_i q' k' hq
    split at h
    · rw [hq]; exact h
    · simp at h
  · simp at h
def FV.und0 (n : Nat) : FV → Bool
  | .sc _ | .own _ | .emp | .ea _ | .nilp => true
  | .ptr b _ | .bs b _ _ | .gr b _ _ _ | .gp b _ _ => decide (b < n)
  | .fn _ [] [] => true
  | _ => false
def FV.und1 (n : Nat) : FV → Bool
  | .agg l => l.all (FV.und0 n)
  | .fn _ a b => a.all (FV.und0 n) && b.all (FV.und0 n)
  | .sc _ | .own _ | .emp | .ea _ | .nilp => true
  | .ptr b _ | .bs b _ _ | .gr b _ _ _ | .gp b _ _ => decide (b < n)
  | _ => false
def FV.under (n : Nat) : FV → Bool
  | .tup l => l.all (FV.und1 n)
  | .oagg l => l.all (FV.und0 n)
  | .agg l => l.all (FV.und0 n)
  | .fn _ a b => a.all (FV.und0 n) && b.all (FV.und0 n)
  | .sc _ | .own _ | .emp | .ea _ | .nilp => true
  | .ptr b _ | .bs b _ _ | .gr b _ _ _ | .gp b _ _ => decide (b < n)
  | _ => false
theorem FV.und_np {n : Nat} {f : FV} (h : f.np0 = true) : f.und0 n = true := by
  cases f with
  | fn f a b => cases a <;> cases b <;> simp_all [FV.np0, FV.und0]
  | _ => simp_all [FV.np0, FV.und0]
section
variable {A B : Wd} {r r' : Root} {n : Nat} (hc : ∀ b off, off < A.lim b → B.w.cell? ⟨b, off, none⟩ = A.w.cell? ⟨b, off, none⟩) (hl : ∀ b, A.lim b ≤ B.lim b)
    (hs : ∀ (b : Nat) (c : Array Value) (T : TypeId) (fz : Nat × Nat), A.w.heap[b]? = some (Obj.cells c T fz) → ∃ c' : Array Value, B.w.heap[b]? = some (Obj.cells c' T fz) ∧ c'.size = c.size)
    (hb : ∀ b i, i < n → A.o b = some (.box i, 0) → A.β i = b → B.β i = b ∧ B.o b = some (.box i, 0))
    (hw : ∀ i, i < n → A.gen i ≤ B.gen i ∧ (B.gen i = A.gen i → A.o (A.β i) = some (.box i, 1) → B.β i = A.β i ∧ B.o (A.β i) = some (.box i, 1)))
include hc hl hs hb hw
theorem FRep.und0 {q : Option Root} (hh : q = some r → ∀ b i, A.o b = some (r, i) → B.o b = some (r', i) ∧ B.lim b = A.lim b) {i : Nat} {f : FV} {v : Value} (h : FRep A q i f v) (hq : q = none ∨ q = some r) (hn : f.und0 n = true) : FRep B (q.map fun _ => r') i f v := by
  by_cases h0 : f.np0 = true
  · exact h.np0 hc hl hs hh hq h0
  cases h with
  | ptr h1 =>
    obtain ⟨q1, q2⟩ := hb _ _ (by simpa [FV.und0] using hn) h1 rfl
    rw [← q1]
    exact .ptr (by rw [q1]; exact q2)
  | bs h1 h2 =>
    obtain ⟨q1, q2⟩ := hb _ _ (by simpa [FV.und0] using hn) h1 rfl
    rw [← q1]
    exact .bs (by rw [q1]; exact q2) h2
  | @gr _ _ b g z n' cap A' hg hnn hcc =>
    obtain ⟨h1, h2⟩ := hw b (by simpa [FV.und0] using hn)
    refine .gr (Nat.le_trans hg h1) hnn fun hB => ?_
    have hA := Nat.le_antisymm (hB ▸ h1) hg
    obtain ⟨q1, q2, c, T, fz, q3, q4⟩ := hcc hA
    obtain ⟨h3, h4⟩ := h2 (hB.trans hA.symm) q2
    obtain ⟨c', hc', hsz⟩ := hs _ _ _ _ q3
    exact ⟨by rw [h3]; exact q1, by rw [h3]; exact h4, c', T, fz, by rw [h3]; exact hc', by rw [hsz]; exact q4⟩
  | @gp _ _ b g off A' hg hcc =>
    obtain ⟨h1, h2⟩ := hw b (by simpa [FV.und0] using hn)
    refine .gp (Nat.le_trans hg h1) fun hB => ?_
    have hA := Nat.le_antisymm (hB ▸ h1) hg
    obtain ⟨q1, q2⟩ := hcc hA
    obtain ⟨h3, h4⟩ := h2 (hB.trans hA.symm) q2
    exact ⟨by rw [h3]; exact q1, by rw [h3]; exact h4⟩
  | nilp => exact .nilp
  | sc => simp [FV.np0] at h0
  | own => simp [FV.np0] at h0
  | emp => simp [FV.np0] at h0
  | ea => simp [FV.np0] at h0
  | @fn _ _ f first cap fs cs a b c d => cases first <;> cases cap <;> simp_all [FV.np0, FV.und0]
  | undef => simp [FV.und0] at hn
  | ext => simp [FV.und0] at hn
  | exr => simp [FV.und0] at hn
  | exq => simp [FV.und0] at hn
  | agg => simp [FV.und0] at hn
  | tup => simp [FV.und0] at hn
  | oagg => simp [FV.und0] at hn
theorem FRep.und1 {q : Option Root} (hh : q = some r → ∀ b i, A.o b = some (r, i) → B.o b = some (r', i) ∧ B.lim b = A.lim b) {i : Nat} {f : FV} {v : Value} (h : FRep A q i f v) (hq : q = none ∨ q = some r) (hn : f.und1 n = true) : FRep B (q.map fun _ => r') i f v := by
  by_cases h0 : f.und0 n = true
  · exact h.und0 hc hl hs hb hw hh hq h0
  cases h with
  | agg a b =>
    refine .agg a fun j g u hg hu => ?_
    have := List.all_eq_true.1 hn g (List.mem_of_getElem? hg)
    exact (b j g u hg hu).und0 (r := r) (r' := r') hc hl hs hb hw (by simp) (.inl rfl) this
  | @fn _ _ f first cap fs cs a b c d =>
    simp only [FV.und1, Bool.and_eq_true] at hn
    refine .fn a b (fun j g u hg hu => ?_) (fun j g u hg hu => ?_)
    · exact (c j g u hg hu).und0 (r := r) (r' := r') hc hl hs hb hw (by simp) (.inl rfl) (List.all_eq_true.1 hn.1 g (List.mem_of_getElem? hg))
    · exact (d j g u hg hu).und0 (r := r) (r' := r') hc hl hs hb hw (by simp) (.inl rfl) (List.all_eq_true.1 hn.2 g (List.mem_of_getElem? hg))
  | _ => simp_all [FV.und1, FV.und0]
theorem FRep.under {q : Option Root} (hh : q = some r → ∀ b i, A.o b = some (r, i) → B.o b = some (r', i) ∧ B.lim b = A.lim b) {i : Nat} {f : FV} {v : Value} (h : FRep A q i f v) (hq : q = none ∨ q = some r) (hn : f.under n = true) : FRep B (q.map fun _ => r') i f v := by
  by_cases h0 : f.und1 n = true
  · exact h.und1 hc hl hs hb hw hh hq h0
  cases h with
  | tup a b =>
    refine .tup a fun j g u hg hu => ?_
    have := List.all_eq_true.1 hn g (List.mem_of_getElem? hg)
    exact (b j g u hg hu).und1 hc hl hs hb hw hh hq this
  | oagg a b =>
    refine .oagg a fun j g u hg hu => ?_
    have := List.all_eq_true.1 hn g (List.mem_of_getElem? hg)
    exact (b j g u hg hu).und0 hc hl hs hb hw hh hq this
  | _ => simp_all [FV.under, FV.und1]
end
theorem GenOk.congr {A B : Wd} {b : Nat} {fs : List FV} (hg : B.gen b = A.gen b) (h : GenOk A b fs) : GenOk B b fs := by
  rcases kind_cases fs with ⟨_, _, k⟩ | ⟨g, l, rfl⟩
  · exact k _ _
  · exact hg.trans h
def Wd.forget (W : Wd) (n : Nat) : Wd := { W.only (below n) with gen := fun b => if b < n then W.gen b else 0 }
theorem forget_o {W : Wd} {n b : Nat} : (W.forget n).o b = (W.only (below n)).o b := rfl
theorem HInv.trim {C : Ctx} {H : Heap} {W : Wd} {n : Nat} (h : HInv C H W) (hp : ∀ fs ∈ H.take n, ∀ f ∈ body fs, f.und0 n = true) : HInv C (H.take n) (W.forget n) := by
  refine ⟨fun b fs hfs => ?_, h.laid, fun b hb => ⟨(h.fresh b hb).1, ?_⟩, fun b i k hb => ?_, fun b hb => ?_, h.kept.same rfl fun b hb => only_none fun q k hq => by rw [hb] at hq; simp at hq⟩
  · have hm := List.mem_of_getElem? hfs
    have hbn : b < n := by
      have := (List.getElem?_eq_some_iff.1 hfs).1
      simp at this; omega
    have hfs' : H[b]? = some fs := by
      rw [List.getElem?_take, if_pos hbn] at hfs
      exact hfs
    obtain ⟨h1, h2, c, T, fz, h3, h4, h5, h6⟩ := h.box b fs hfs'
    refine ⟨⟨only_some h1.1 (by simp [below, hbn]), h1.2.congr (by simp [Wd.forget, hbn])⟩, h2, c, T, fz, h3, h4, h5, fun i f v hf hv => ⟨(h6 i f v hf hv).1, ?_⟩⟩
    exact (h6 i f v hf hv).2.und0 (A := W) (r := .leaf b i) (r' := .leaf b i) (n := n) (B := W.forget n) (fun _ _ _ => rfl) (fun _ => Nat.le_refl _) (fun _ c _ _ h => ⟨c, h, rfl⟩) (fun b' i' hi hb' hβ => ⟨hβ, only_some hb' (by simp [below, hi])⟩) (fun i' hi => ⟨by simp [Wd.forget, hi], fun _ ho => ⟨rfl, only_some ho (by simp [below, hi])⟩⟩) (fun _ b' i' hb' => ⟨only_some hb' rfl, rfl⟩) (.inr rfl) (hp fs hm f (List.mem_of_getElem? hf))
  · exact only_none fun q k hq => by rw [(h.fresh b hb).2] at hq; simp at hq
  · have h1 := only_of hb
    have h2 : below n (.box i) = true := by
      rw [forget_o] at hb
      simp only [Wd.only, h1] at hb
      split at hb
      · assumption
      · simp at hb
    have h3 := h.boxes b i k h1
    simp [below] at h2
    simp; omega
  · simp only [Wd.forget]
    split
    · exact h.gen0 b (by simp at hb; omega)
    · rfl
theorem Evo.forget {C : Ctx} {H : Heap} {W W' : Wd} (hH : HInv C H W) (h : Evo W W' (fun _ _ => False)) : Evo W (W'.forget H.length) (fun _ _ => False) := by
  refine Evo.of h.os h.tape h.output h.size h.cell h.lim h.shape (fun _ _ _ _ hk => hk.elim) (fun b i hbi hβ => ?_) (fun i => ?_) (fun b hlt hbo => ?_)
  · obtain ⟨q1, q2⟩ := h.beta b i hbi hβ
    exact ⟨q1, only_some q2 (by simp [below]; exact hH.boxes b i 0 hbi)⟩
  · obtain ⟨q1, q2⟩ := h.row i
    by_cases hi : i < H.length
    · have hg : (W'.forget H.length).gen i = W'.gen i := by simp [Wd.forget, hi]
      rw [hg]
      refine ⟨q1, fun hq ho => ?_⟩
      obtain ⟨q3, q4⟩ := q2 hq ho
      exact ⟨q3, only_some q4 (by simp [below, hi])⟩
    · refine ⟨by rw [hH.gen0 i (by omega)]; exact Nat.zero_le _, fun _ ho => absurd (hH.boxes _ i 1 ho) hi⟩
  · obtain ⟨q1, q2, q3⟩ := h.away b hlt hbo
    exact ⟨q1, q2, only_none fun q k hq => by rw [q3] at hq; simp at hq⟩
theorem body_np {H' : Heap} {n : Nat} (hp : ∀ fs ∈ H', ∀ f ∈ fs, f.np0 = true) : ∀ fs ∈ H', ∀ f ∈ body fs, f.und0 n = true := fun fs hfs f hf => by
  rcases kind_cases fs with ⟨_, k, _⟩ | ⟨g, l, rfl⟩
  · rw [k] at hf; exact FV.und_np (hp fs hfs f hf)
  · have := hp _ hfs (.row g l) (by simp)
    simp [FV.np0] at this
section
variable {C : Ctx} {f : FuncId} {fn : Func} {c : Code} {args : List FV} {H H' : Heap} {r : FV} {mv vars : List Nat} (hf : C.P.funcs[f]? = some fn) (hb : fn.body = some c) (hn : (resTmps fn.results.toList).Nodup) (hmix : C.P.follows .mixedOrders = true) (hk : codeOk mv c = true)
include hf hb hn hmix hk
theorem con_trimU (hr : r.under H.length = true) (hp : ∀ fs ∈ H', ∀ f ∈ body fs, f.und0 H.length = true)
    (h : wpC C fn.ntmps mv vars c (argsEnv 0 args) H fun x e H₁ => (match x with | .exit _ => False | _ => True) ∧ resultOf C e H₁ fn.results.toList = some r ∧ H₁.take H.length = H') : Con C f args H r H' :=
  fun vs W hl hargs hH _ => (con_gen (G := fun H₁ => H₁.take H.length = H') hf hb hn hmix hk h vs W hl hargs hH).mono fun _ _ ⟨v, W', H₁, h1, h2, h3, h4, h5, h6⟩ => by
    refine ⟨v, W'.forget H.length, h1, h2, ?_, h3 ▸ h5.trim (h3 ▸ hp), h6.forget hH⟩
    exact h4.under (A := W') (B := W'.forget H.length) (r := .res) (r' := .res) (n := H.length) (fun _ _ _ => rfl) (fun _ => Nat.le_refl _) (fun _ c _ _ h => ⟨c, h, rfl⟩) (fun b' i' hi hb' hβ => ⟨hβ, only_some hb' (by simp [below, hi])⟩) (fun i' hi => ⟨by simp [Wd.forget, hi], fun _ ho => ⟨rfl, only_some ho (by simp [below, hi])⟩⟩) (fun _ b' i' hb' => ⟨only_some hb' rfl, rfl⟩) (.inr rfl) hr
theorem con_trim (hr : r.noPtr = true) (hp : ∀ fs ∈ H', ∀ f ∈ fs, f.np0 = true)
    (h : wpC C fn.ntmps mv vars c (argsEnv 0 args) H fun x e H₁ => (match x with | .exit _ => False | _ => True) ∧ resultOf C e H₁ fn.results.toList = some r ∧ H₁.take H.length = H') : Con C f args H r H' :=
  fun vs W hl hargs hH _ => (con_gen (G := fun H₁ => H₁.take H.length = H') hf hb hn hmix hk h vs W hl hargs hH).mono fun _ _ ⟨v, W', H₁, h1, h2, h3, h4, h5, h6⟩ => by
    have key : HInv C H' (W'.forget H.length) := h3 ▸ h5.trim (h3 ▸ body_np hp)
    refine ⟨v, W'.forget H.length, h1, h2, ?_, key, h6.forget hH⟩
    exact h4.np (A := W') (B := W'.forget H.length) (r := .res) (r' := .res) (fun _ _ _ => rfl) (fun _ => Nat.le_refl _) (fun _ c _ _ h => ⟨c, h, rfl⟩) (fun _ b' i' hb' => ⟨only_some hb' rfl, rfl⟩) (.inr rfl) hr
end
theorem heap_old {H L : List (List FV)} {b : Nat} (h : b < H.length) : (H ++ L)[b]? = H[b]? := List.getElem?_append_left h
theorem heap_old_set {H L : List (List FV)} {b : Nat} {x : List FV} (h : b < H.length) : (H ++ L).set b x = H.set b x ++ L := List.set_append_left b x h
theorem heap_old_take_set {H L : List (List FV)} {b : Nat} {x : List FV} : (H.set b x ++ L).take H.length = H.set b x := by
  have : H.length = (H.set b x).length := by simp
  rw [this]; simp only [List.take_left']
end Go.Proofs.YtlnnnfogbakimaaDoor.Ev
end
section
namespace Go.Proofs.YtlnnnfogbakimaaDoor.Ev
open Go
def Node.withKids (x : Node) (l : List Node) : Node := .mk x.kind x.line x.n x.text l x.rows x.grid
def Node.zero : Node := .mk 0 0 0 [] [] [] noTbl
mutual
def tidyN (inn deep : Int) (left : Nat) : Node → List Node × Nat
  | .mk kind line n text kids rows grid =>
    let x := Node.mk kind line n text kids rows grid
    if (kind = 1 ∨ kind = 2) ∧ standsIn kind inn = false then
      ((if wholeN (ownN x 3) = true then [ownN x 3] else []) ++ (tidyL inn deep (left - 1) kids).1, (tidyL inn deep (left - 1) kids).2)
    else if hasKids kind = true then
      let r := if wholeN ((ownN x kind).withKids [Node.zero]) = true then tidyL kind (deep + 1) (left - 1) kids else tidyL inn deep (left - 1) kids
      (if wholeN ((ownN x kind).withKids r.1) = true then [(ownN x kind).withKids r.1] else r.1, r.2)
    else (if wholeN (ownN x kind) = true then [ownN x kind] else [], left - 1)
def tidyL (inn deep : Int) (left : Nat) : List Node → List Node × Nat
  | [] => ([], left)
  | x :: l => if left = 0 then ([], 0) else if 20 ≤ deep then tidyL inn deep left l
    else ((tidyN inn deep left x).1 ++ (tidyL inn deep (tidyN inn deep left x).2 l).1, (tidyL inn deep (tidyN inn deep left x).2 l).2)
end
theorem tidyN_eq (inn deep : Int) (left : Nat) (x : Node) : tidyN inn deep left x =
    if (x.kind = 1 ∨ x.kind = 2) ∧ standsIn x.kind inn = false then
      ((if wholeN (ownN x 3) = true then [ownN x 3] else []) ++ (tidyL inn deep (left - 1) x.kids).1, (tidyL inn deep (left - 1) x.kids).2)
    else if hasKids x.kind = true then
      let r := if wholeN ((ownN x x.kind).withKids [Node.zero]) = true then tidyL x.kind (deep + 1) (left - 1) x.kids else tidyL inn deep (left - 1) x.kids
      (if wholeN ((ownN x x.kind).withKids r.1) = true then [(ownN x x.kind).withKids r.1] else r.1, r.2)
    else (if wholeN (ownN x x.kind) = true then [ownN x x.kind] else [], left - 1) := by
  cases x; rw [tidyN]; rfl
theorem tidyL_count : ∀ (n : Nat) (l : List Node), SizeOf.sizeOf l < n → ∀ inn deep left, (tidyL inn deep left l).1.length + (tidyL inn deep left l).2 ≤ left := by
  intro n
  induction n with
  | zero => intro l h; omega
  | succ n ih =>
    intro l hn inn deep left
    cases l with
    | nil => rw [tidyL]; simp
    | cons x l =>
      have hx : SizeOf.sizeOf x.kids < n ∧ SizeOf.sizeOf l < n := by
        cases x; simp at hn ⊢; omega
      rw [tidyL]
      split
      · simp
      · split
        · exact ih l hx.2 _ _ _
        · rename_i h0 _
          have h1 : (tidyN inn deep left x).1.length + (tidyN inn deep left x).2 ≤ left := by
            rw [tidyN_eq]
            have h1 := ih x.kids hx.1 inn deep (left - 1)
            have h2 := ih x.kids hx.1 x.kind (deep + 1) (left - 1)
            split
            · split <;> simp <;> omega
            · split
              · simp only
                split <;> split <;> simp <;> omega
              · split <;> simp <;> omega
          have h2 := ih l hx.2 inn deep (tidyN inn deep left x).2
          simp; omega
end Go.Proofs.YtlnnnfogbakimaaDoor.Ev
end
section
namespace Go.Proofs.YtlnnnfogbakimaaDoor.Ev
open Go
structure Fit (P : Node → Prop) : Prop where
  own : ∀ x, P x → PCon C0 88 [x.pv.toFV, .sc (.int .i64 x.kind)] (ownN x x.kind).pv.toFV
  para : ∀ x, P x → PCon C0 88 [x.pv.toFV, .sc (.int .i64 3)] (ownN x 3).pv.toFV
  kids : ∀ x, P x → ∀ y ∈ x.kids, P y
  len : ∀ x, P x → x.kids.length ≤ 4611686018427387904
section
variable {H L : Heap} {b k : Nat} {v w : List FV}
theorem hs_b (h : b < H.length) : (H.set b v ++ L)[b]? = some v := by rw [List.getElem?_append_left (by simpa using h)]; simp [h]
theorem hs_set (h : b < H.length) : (H.set b v ++ L).set b w = H.set b w ++ L := by rw [List.set_append_left _ _ (by simpa using h)]; simp
theorem hs_at : (H.set b v ++ L)[H.length + k]? = L[k]? := by
  have := heap_at (H := H.set b v) (L := L) (k := k)
  simpa only [List.length_set] using this
theorem hs_at0 : (H.set b v ++ L)[H.length]? = L[0]? := hs_at (k := 0)
theorem hs_put : (H.set b v ++ L).set (H.length + k) w = H.set b v ++ L.set k w := by
  have := heap_set (H := H.set b v) (L := L) (k := k) (x := w)
  simpa only [List.length_set] using this
theorem hs_put0 : (H.set b v ++ L).set H.length w = H.set b v ++ L.set 0 w := hs_put (k := 0)
end
theorem Node.zero_pv : Node.zero.pv = .agg [.int .i64 0, .int .i64 0, .int .i64 0, .sl [], .sl [], .sl [], .str ByteArray.empty, .sl [], .bool false, .bool false] := rfl
section
variable (x : Node) (l : List Node)
@[simp] theorem Node.kind_wk : (x.withKids l).kind = x.kind := rfl
@[simp] theorem Node.line_wk : (x.withKids l).line = x.line := rfl
@[simp] theorem Node.n_wk : (x.withKids l).n = x.n := rfl
@[simp] theorem Node.text_wk : (x.withKids l).text = x.text := rfl
@[simp] theorem Node.kids_wk : (x.withKids l).kids = l := rfl
@[simp] theorem Node.rows_wk : (x.withKids l).rows = x.rows := rfl
@[simp] theorem Node.grid_wk : (x.withKids l).grid = x.grid := rfl
end
theorem sizedN (l : List Node) : Sized 10 (l.map Node.pv) := by
  intro p hp
  obtain ⟨x, _, rfl⟩ := List.mem_map.1 hp
  rw [Node.pv_eq]; rfl
theorem sized1 {a b c d e f g h i j : PV} : Sized 10 [PV.agg [a, b, c, d, e, f, g, h, i, j]] := by
  intro p hp
  rw [List.mem_singleton.1 hp]; rfl
theorem sized_app {n : Nat} {l m : List PV} : Sized n (l ++ m) ↔ Sized n l ∧ Sized n m := by
  simp only [Sized, List.mem_append]
  exact ⟨fun h => ⟨fun p hp => h p (.inl hp), fun p hp => h p (.inr hp)⟩, fun h p hp => hp.elim (h.1 p) (h.2 p)⟩
theorem set_same {α : Type} {H : List α} {b : Nat} {x : α} (h : H[b]? = some x) : H.set b x = H := by
  obtain ⟨hb, rfl⟩ := List.getElem?_eq_some_iff.1 h
  exact List.set_getElem_self hb
def NP (H : Heap) : Prop := ∀ fs ∈ H, ∀ f ∈ fs, f.np0 = true
theorem np_nil : NP [] := fun _ h => by simp at h
theorem np_cons {x : List FV} {L : Heap} (hx : ∀ f ∈ x, f.np0 = true) (h : NP L) : NP (x :: L) := fun fs hfs => by
  rcases List.mem_cons.1 hfs with e | e
  · subst e; exact hx
  · exact h fs e
theorem np_app {H L : Heap} (h : NP H) (h' : NP L) : NP (H ++ L) := fun fs hfs => by
  rcases List.mem_append.1 hfs with e | e
  · exact h fs e
  · exact h' fs e
set_option linter.unusedSimpArgs false in
set_option maxRecDepth 20000 in
set_option maxHeartbeats 4000000 in
theorem treeNodes {P : Node → Prop} (hP : Fit P) : ∀ (n : Nat) (a : List Node), SizeOf.sizeOf a < n → (∀ x ∈ a, P x) → a.length ≤ 4611686018427387904 → ∀ (H : Heap) (b : Nat) (inn d : Int) (left : Nat), 0 ≤ d → d ≤ 20 → left ≤ 1073741824 →
    H[b]? = some [.sc (.int .i64 left)] → NP H →
    Con C0 49 [.ptr b 0, .sc (.sl (a.map Node.pv)), .sc (.int .i64 inn), .sc (.int .i64 d)] H (.own ((tidyL inn d left a).1.map Node.pv)) (H.set b [.sc (.int .i64 (tidyL inn d left a).2)]) := by
  intro n
  induction n with
  | zero => intro a h; omega
  | succ n ih =>
    intro a hn hall hla H b inn d left hd0 hd1 hleft hb hp
    have hbl : b < H.length := (List.getElem?_eq_some_iff.1 hb).1
    refine con_trim (C := C0) (fn := Tryd.f49) Tryd.func49 rfl (by decide) mixed (mv := [60, 64, 80, 81, 82, 83, 84, 109, 113, 118]) (vars := [0, 1, 2, 3, 8, 9, 11, 12, 13, 14, 16, 20, 21, 22, 23, 30, 32, 55, 59, 85, 90, 108]) (c := Tryd.f49.body.getD .skip) rfl rfl ?_ ?_
    · intro fs hfs f hf
      rcases List.mem_or_eq_of_mem_set hfs with h | h
      · exact hp fs h f hf
      · subst h; simp at hf; subst hf; rfl
    simp [Tryd.f49]
    refine loopC (fun dd e H' => ∃ (i : Nat) (out : List Node) (k : Nat) (X : Heap) (x11 x12 x13 x14 x16 x23 x30 x32 x55 x59 x85 x90 x108 : FV), dd = a.length - i ∧ i ≤ a.length ∧ H' = H.set b [.sc (.int .i64 k)] ++ X ∧ NP X ∧ k ≤ left ∧ out.length + k ≤ left ∧
        ((tidyL inn d left a).1 = out ++ (tidyL inn d k (a.drop i)).1 ∧ (tidyL inn d left a).2 = (tidyL inn d k (a.drop i)).2) ∧
        e = [(0, FV.ptr b 0), (1, .sc (.sl (a.map Node.pv))), (2, .sc (.int .i64 inn)), (3, .sc (.int .i64 d)), (8, FV.own []), (9, FV.own (out.map Node.pv)), (11, x11), (12, x12), (13, x13), (14, x14), (16, x16), (20, .sc (.sl (a.map Node.pv))), (21, .sc (.int .i64 a.length)), (22, .sc (.int .i64 i)), (23, x23), (30, x30), (32, x32), (55, x55), (59, x59), (85, x85), (90, x90), (108, x108)]) (d := a.length)
        ⟨0, [], left, [], .undef, .undef, .undef, .undef, .undef, .undef, .undef, .undef, .undef, .undef, .undef, .undef, .undef, by omega, by omega, ?_, np_nil, by omega, by simp, by simp, by simp⟩ ?_
    · rw [List.append_nil, set_same hb]
    · rintro dd e H' ⟨i, out, k, X, x11, x12, x13, x14, x16, x23, x30, x32, x55, x59, x85, x90, x108, rfl, hi, rfl, hX, hk, hout, ⟨ho1, ho2⟩, rfl⟩
      have hbs : b < (H.set b [FV.sc (.int .i64 k)]).length := by simpa using hbl
      have hbg : (H.set b [FV.sc (.int .i64 k)])[b]? = some [FV.sc (.int .i64 k)] := by simp [hbl]
      simp
      refine CondC.mk (fun hlt => ?_) (fun hlt => ?_)
      · simp at hlt
        have ea := Node.pv_eq a[i]
        simp [hlt, ea, gl, hs_b hbl, hs_at, hs_at0]
        refine CondC.mk (fun h0 => ?_) (fun h0 => ?_)
        · simp at h0
          simp
          have hdrop : a.drop i = a[i] :: a.drop (i + 1) := List.drop_eq_getElem_cons hlt
          rw [hdrop, tidyL, if_pos h0] at ho1 ho2
          simp at ho1 ho2
          exact ⟨by rw [ho1], by rw [ho2, h0]⟩
        · simp at h0
          simp
          refine CondC.mk (fun h20 => ?_) (fun h20 => ?_)
          · simp at h20
            simp
            have hdrop : a.drop i = a[i] :: a.drop (i + 1) := List.drop_eq_getElem_cons hlt
            rw [hdrop, tidyL, if_neg (by omega), if_pos h20] at ho1 ho2
            exact ⟨a.length - (i + 1), by omega, i + 1, rfl, by omega, out, k, _, rfl, np_app hX (np_cons (by simp) np_nil), hk, hout, ⟨ho1, ho2⟩, rfl, by rw [wrap64 (by omega) (by omega)]; omega⟩
          · simp at h20
            have hm : a[i] ∈ a := List.getElem_mem hlt
            have hPx := hall _ hm
            have own := hP.own _ hPx
            have para := hP.para _ hPx
            have st := treeStands a[i].kind inn
            have fl := treeFull a[i].kind
            have w1 : IntKind.i64.wrap ((k : Int) - 1) = ((k - 1 : Nat) : Int) := by rw [wrap64 (by omega) (by omega)]; omega
            have hrec := fun (G : Heap) (inn d : Int) (hd0 : 0 ≤ d) (hd1 : d ≤ 20) (hG : G[b]? = some [.sc (.int .i64 (k - 1 : Nat))]) hp => ih a[i].kids (by have := Node.kids_lt hm; omega) (hP.kids _ hPx) (hP.len _ hPx) G b inn d (k - 1) hd0 hd1 (by omega) hG hp
            rw [ea] at own para
            generalize hy : ownN a[i] a[i].kind = y at own
            generalize hy3 : ownN a[i] 3 = y3 at para
            rw [Node.pv_eq] at own para
            simp [gl] at own para
            have hset : ∀ m : Int, NP (H.set b [.sc (.int .i64 m)]) := fun m fs hfs f hf => by
              rcases List.mem_or_eq_of_mem_set hfs with h | h
              · exact hp fs h f hf
              · subst h; simp at hf; subst hf; rfl
            have wh3 := treeWhole y3
            rw [Node.pv_eq] at wh3
            simp [gl] at wh3
            have hdrop : a.drop i = a[i] :: a.drop (i + 1) := List.drop_eq_getElem_cons hlt
            rw [hdrop, tidyL, if_neg (by omega), if_neg (by omega)] at ho1 ho2
            have fin : ∀ (o : List Node) (k' : Nat) (X' : Heap), tidyN inn d k a[i] = (o, k') → NP X' → ∀ q, q = (out ++ o).map Node.pv → ∃ d', d' < a.length - i ∧ ∃ i', d' = a.length - i' ∧ i' ≤ a.length ∧ ∃ x x_1 x_2,
                H.set b [FV.sc (PV.int IntKind.i64 (k' : Nat))] ++ X' = H.set b [FV.sc (PV.int IntKind.i64 (x_1 : Nat))] ++ x_2 ∧ NP x_2 ∧ x_1 ≤ left ∧ x.length + x_1 ≤ left ∧
                ((tidyL inn d left a).1 = x ++ (tidyL inn d x_1 (a.drop i')).1 ∧ (tidyL inn d left a).2 = (tidyL inn d x_1 (a.drop i')).2) ∧ q = x.map Node.pv ∧ IntKind.i64.wrap (i + 1) = (i' : Nat) := by
              intro o k' X' he hX' q hq
              have hc := tidyL_count (SizeOf.sizeOf [a[i]] + 1) [a[i]] (by omega) inn d k
              rw [tidyL, if_neg (by omega), if_neg (by omega), tidyL] at hc
              simp [he] at hc ho1 ho2
              exact ⟨a.length - (i + 1), by omega, i + 1, rfl, by omega, out ++ o, k', X', rfl, hX', by omega, by simp; omega, ⟨by simp [ho1], ho2⟩, hq, by rw [wrap64 (by omega) (by omega)]; omega⟩
            have hn' := tidyN_eq inn d k a[i]
            rw [hy, hy3] at hn'
            obtain ⟨t1, hk1⟩ : ∃ t : Bool, (a[i].kind = 1) = (t = true) := ⟨decide (a[i].kind = 1), by simp⟩
            obtain ⟨t2, hk2⟩ : ∃ t : Bool, (a[i].kind = 2) = (t = true) := ⟨decide (a[i].kind = 2), by simp⟩
            have hlm : lenMax ≥ 2147483648 := by unfold lenMax; omega
            have hcr := tidyL_count _ a[i].kids (Nat.lt_succ_self _) inn d (k - 1)
            have hcr2 := tidyL_count _ a[i].kids (Nat.lt_succ_self _) a[i].kind (d + 1) (k - 1)
            by_cases hA : (a[i].kind = 1 ∨ a[i].kind = 2) ∧ standsIn a[i].kind inn = false
            · have hs := hA.2
              rw [if_pos hA] at hn'
              replace hA := hA.1
              rw [hk1, hk2] at hA
              cases t1 <;> cases t2
              · simp at hA
              rotate_right
              · simp at hk1 hk2; omega
              all_goals
                simp [hs_b hbl, hs_set hbl, hs_at, hs_at0, hk1, hk2, w1]
                refine CallQ.mk (Call.pure callable87 (by simp) (by simp) st) ?_
                simp [hs]
                refine CallQ.mk (Call.pure callable88 (by simp) (by simp) para) ?_
                simp [hs_at, hs_at0]
                refine CallQ.mk (Call.pure callable89 (by simp) (by simp) wh3) ?_
                simp
                cases hw : wholeN y3
                · simp [hs_at, hs_at0]
                  refine CallQ.mk (Call.shared callable49 (hrec _ inn d hd0 hd1 (hs_b hbl) ?_)) ?_
                  · exact np_app (hset _) (np_app hX (np_cons (by simp) (np_cons (by simp) np_nil)))
                  simp [hs_set hbl, sizedN]
                  exact ⟨by omega, fin _ _ _ (by rw [hn', hw]) (np_app hX (np_cons (by simp) (np_cons (by simp) np_nil))) _ (by simp)⟩
                · simp [hs_at, hs_at0, sizedN, sized1, -List.cons_append]
                  refine ⟨by omega, CallQ.mk (Call.shared callable49 (hrec _ inn d hd0 hd1 (hs_b hbl) ?_)) ?_⟩
                  · exact np_app (hset _) (np_app hX (np_cons (by simp) (np_cons (by simp) np_nil)))
                  simp [hs_set hbl, sizedN, sized1, sized_app]
                  exact ⟨by omega, fin _ _ _ (by rw [hn', hw]) (np_app hX (np_cons (by simp) (np_cons (by simp) np_nil))) _ (by simp [Node.pv_eq y3, gl])⟩
            · rw [if_neg hA] at hn'
              have hA' : t1 = true ∨ t2 = true → standsIn a[i].kind inn = true := by
                rw [hk1, hk2] at hA
                intro h
                cases hs : standsIn a[i].kind inn
                · exact absurd ⟨h, hs⟩ hA
                · rfl
              have hyk : y.kids = [] := by rw [← hy]; rfl
              have wh := treeWhole y
              rw [Node.pv_eq] at wh
              simp [gl] at wh
              have wh0 := treeWhole (y.withKids [Node.zero])
              rw [Node.pv_eq] at wh0
              simp [gl, Node.zero_pv] at wh0
              have wd1 : IntKind.i64.wrap (d + 1) = d + 1 := wrap64 (by omega) (by omega)
              cases t1 <;> cases t2
              all_goals
                simp at hA'
                simp [hs_b hbl, hs_set hbl, hs_at, hs_at0, hk1, hk2, w1, wd1]
                try
                  refine CallQ.mk (Call.pure callable87 (by simp) (by simp) st) ?_
                  simp [hA', hs_at, hs_at0]
                refine CallQ.mk (Call.pure callable88 (by simp) (by simp) own) ?_
                simp [hs_at, hs_at0]
                refine CallQ.mk (Call.pure callable90 (by simp) (by simp) fl) ?_
                simp
                cases hkd : hasKids a[i].kind
                · simp [hs_at, hs_at0]
                  refine CallQ.mk (Call.pure callable89 (by simp) (by simp) wh) ?_
                  simp
                  cases hw : wholeN y
                  · simp [hs_at, hs_at0, sizedN]
                    exact ⟨by rw [hyk, List.length_nil]; omega, fin _ _ _ (by rw [hn', hkd, hw]; rfl) (np_app hX (np_cons (by simp) (np_cons (by simp) np_nil))) _ (by simp [hyk])⟩
                  · simp [hs_at, hs_at0, sizedN, sized1, sized_app]
                    exact ⟨by omega, fin _ _ _ (by rw [hn', hkd, hw]; rfl) (np_app hX (np_cons (by simp) (np_cons (by simp) np_nil))) _ (by simp [Node.pv_eq y, gl])⟩
                · simp [hs_at, hs_at0, sized1]
                  refine CallQ.mk (Call.pure callable89 (by simp) (by simp) wh0) ?_
                  simp
                  cases hw : wholeN (y.withKids [Node.zero])
                  · simp [hs_at, hs_at0]
                    refine CallQ.mk (Call.shared callable49 (hrec _ inn d hd0 hd1 (hs_b hbl) ?_)) ?_
                    · exact np_app (hset _) (np_app hX (np_cons (by simp) (np_cons (by simp) np_nil)))
                    generalize hr : tidyL inn d (k - 1) a[i].kids = r at *
                    obtain ⟨rl, rk⟩ := r
                    have wh1 := treeWhole (y.withKids rl)
                    rw [Node.pv_eq] at wh1
                    simp [gl] at wh1
                    simp at hcr
                    simp [hs_set hbl, hs_at, hs_at0, hs_put, hs_put0, sizedN]
                    refine CallQ.mk (Call.pure callable89 (by simp) (by simp) wh1) ?_
                    simp
                    cases hw1 : wholeN (y.withKids rl)
                    · simp [hs_at, hs_at0, sizedN]
                      exact ⟨by omega, fin rl rk _ (by rw [hn', hkd, if_pos rfl, hw]; simp [hw1]) (np_app hX (np_cons (by simp) (np_cons (by simp) np_nil))) _ (by simp)⟩
                    · simp [hs_at, hs_at0, sizedN, sized1, sized_app]
                      exact ⟨by omega, fin [y.withKids rl] rk _ (by rw [hn', hkd, if_pos rfl, hw]; simp [hw1]) (np_app hX (np_cons (by simp) (np_cons (by simp) np_nil))) _ (by simp [Node.pv_eq (y.withKids rl), gl])⟩
                  · simp [hs_at, hs_at0, wd1]
                    refine CallQ.mk (Call.shared callable49 (hrec _ a[i].kind (d + 1) (by omega) (by omega) (hs_b hbl) ?_)) ?_
                    · exact np_app (hset _) (np_app hX (np_cons (by simp) (np_cons (by simp) np_nil)))
                    generalize hr : tidyL a[i].kind (d + 1) (k - 1) a[i].kids = r at *
                    obtain ⟨rl, rk⟩ := r
                    have wh1 := treeWhole (y.withKids rl)
                    rw [Node.pv_eq] at wh1
                    simp [gl] at wh1
                    simp at hcr2
                    simp [hs_set hbl, hs_at, hs_at0, hs_put, hs_put0, sizedN]
                    refine CallQ.mk (Call.pure callable89 (by simp) (by simp) wh1) ?_
                    simp
                    cases hw1 : wholeN (y.withKids rl)
                    · simp [hs_at, hs_at0, sizedN]
                      exact ⟨by omega, fin rl rk _ (by rw [hn', hkd, if_pos rfl, hw]; simp [hw1]) (np_app hX (np_cons (by simp) (np_cons (by simp) np_nil))) _ (by simp)⟩
                    · simp [hs_at, hs_at0, sizedN, sized1, sized_app]
                      exact ⟨by omega, fin [y.withKids rl] rk _ (by rw [hn', hkd, if_pos rfl, hw]; simp [hw1]) (np_app hX (np_cons (by simp) (np_cons (by simp) np_nil))) _ (by simp [Node.pv_eq (y.withKids rl), gl])⟩
      · simp at hlt
        simp
        rw [List.drop_eq_nil_of_le hlt, tidyL] at ho1 ho2
        simp at ho1 ho2
        exact ⟨by rw [ho1], by rw [ho2]⟩
end Go.Proofs.YtlnnnfogbakimaaDoor.Ev
end
section
namespace Go.Proofs.YtlnnnfogbakimaaDoor.Ev
open Go
structure Doc where
  name : ByteArray
  part : ByteArray
  date : ByteArray
  source : ByteArray
  kids : List Node
def Doc.pv (d : Doc) : PV := .agg [.str d.name, .str d.part, .str d.date, .str d.source, .sl (d.kids.map Node.pv)]
def tidyD (d : Doc) : Doc := { d with kids := (tidyL 0 0 20000 d.kids).1 }
set_option linter.unusedSimpArgs false in
set_option maxRecDepth 20000 in
set_option maxHeartbeats 4000000 in
theorem treeTidy {P : Node → Prop} (hP : Fit P) (d : Doc) (hall : ∀ x ∈ d.kids, P x) (hl : d.kids.length ≤ 4611686018427387904) : PCon C0 18 [d.pv.toFV] (tidyD d).pv.toFV := by
  refine penter18 ?_
  simp [Tryd.f18, Doc.pv]
  refine CallQ.mk (Call.shared callable49 (treeNodes hP _ d.kids (Nat.lt_succ_self _) hall hl _ 2 0 0 20000 (by omega) (by omega) (by omega) rfl ?_)) ?_
  · exact np_cons (by simp) (np_cons (by simp) (np_cons (by simp) np_nil))
  simp [tidyD]
theorem treeTidy' {P : Node → Prop} (hP : Fit P) (d : Doc) (hall : ∀ x ∈ d.kids, P x) (hl : d.kids.length ≤ 4611686018427387904) : PCon C0 18 [.agg [.sc (.str d.name), .sc (.str d.part), .sc (.str d.date), .sc (.str d.source), .sc (.sl (d.kids.map Node.pv))]]
    (.agg [.sc (.str d.name), .sc (.str d.part), .sc (.str d.date), .sc (.str d.source), .sc (.sl ((tidyL 0 0 20000 d.kids).1.map Node.pv))]) := by
  have := treeTidy hP d hall hl
  simpa [Doc.pv, tidyD] using this
inductive Plain5 : Node → Prop
  | mk {kind line n : Int} {text : List Glyph} {kids : List Node} {rows : List (List Glyph)} {grid : Tbl} (h1 : 1 ≤ kind) (h5 : kind ≤ 5) (ht : text.length ≤ 1073741824) (hk : kids.length ≤ 4611686018427387904) (hks : ∀ x ∈ kids, Plain5 x) : Plain5 (.mk kind line n text kids rows grid)
theorem fit5 : Fit Plain5 where
  own x hx := by cases hx; exact treeOwn5 _ _ ⟨by assumption, by assumption⟩ (by assumption)
  para x hx := by cases hx; exact treeOwn5 _ _ (by omega) (by assumption)
  kids x hx := by cases hx; assumption
  len x hx := by cases hx; assumption
end Go.Proofs.YtlnnnfogbakimaaDoor.Ev
end
section
namespace Go.Proofs.YtlnnnfogbakimaaDoor.Ev
open Go
def Wd.freeze (W : Wd) (b n : Nat) : Wd := { W with lim := fun x => if x = b then n else W.lim x }
theorem flat_at {s : Nat} : ∀ {l : List PV} {x y : Nat} {e q : PV}, Sized s l → l[x]? = some e → e.leaves[y]? = some q → (l.flatMap PV.leaves)[x * s + y]? = some q
  | [], x, y, e, q, _, he, _ => by simp at he
  | p :: l, 0, y, e, q, _, he, hq => by
    simp at he; subst he
    rw [List.flatMap_cons, Nat.zero_mul, Nat.zero_add, List.getElem?_append_left (List.getElem?_eq_some_iff.1 hq).1]
    exact hq
  | p :: l, x + 1, y, e, q, hz, he, hq => by
    have hps : p.leaves.length = s := hz p (by simp)
    rw [List.flatMap_cons, List.getElem?_append_right (by rw [hps, Nat.succ_mul]; omega), hps, show (x + 1) * s + y - s = x * s + y by rw [Nat.succ_mul]; omega]
    exact flat_at (fun z hz' => hz z (by simp [hz'])) (by simpa using he) hq
theorem freeze_evo {W : Wd} {B n : Nat} (h0 : W.lim B = 0) (hB : W.o B = none) : Evo0 W (W.freeze B n) (fun _ _ => True) :=
  { cell := fun _ _ _ => rfl
    lim := fun x => by
      simp only [Wd.freeze]
      split
      · rename_i h; rw [h, h0]; exact Nat.zero_le _
      · exact Nat.le_refl _
    shape := fun _ c _ _ h => ⟨c, h, rfl⟩
    hold := fun x q i ho _ => ⟨ho, by
      simp only [Wd.freeze]
      split
      · rename_i h; rw [h, hB] at ho; simp at ho
      · rfl⟩
    beta := fun x i ho hb => ⟨hb, ho⟩
    row := fun i => ⟨Nat.le_refl _, fun _ h => ⟨rfl, h⟩⟩ }
theorem HInv.freeze {C : Ctx} {H : Heap} {W : Wd} {B n : Nat} (h : HInv C H W) (h0 : W.lim B = 0) (hB : W.o B = none) (hlt : B < W.w.heap.size) : HInv C H (W.freeze B n) := by
  have hE0 := freeze_evo (n := n) h0 hB
  refine ⟨fun x gs hgs => ?_, fun g ls hls j q hq => ?_, fun x hx => ?_, fun x i k hx => h.boxes x i k hx, h.gen0, h.kept.same rfl fun _ h => h⟩
  · obtain ⟨m1, m2, c₂, T₂, fz₂, m3, m4, m5, m6⟩ := h.box x gs hgs
    refine ⟨⟨m1.1, m1.2.congr rfl⟩, ?_, c₂, T₂, fz₂, m3, m4, m5, fun i g v hg hv => ⟨(m6 i g v hg hv).1, (m6 i g v hg hv).2.mono0 hE0 (fun _ _ _ => trivial)⟩⟩
    simp only [Wd.freeze]
    split
    · rename_i hh
      have q := m1.1
      have : W.β x = B := hh
      rw [this, hB] at q; simp at q
    · exact m2
  · obtain ⟨m1, m2, v, m3, m4⟩ := h.laid g ls hls j q hq
    exact ⟨m1, Nat.lt_of_lt_of_le m2 (hE0.lim g), v, m3, m4.mono (fun _ _ _ => rfl) hE0.lim⟩
  · obtain ⟨m1, m2⟩ := h.fresh x hx
    refine ⟨?_, m2⟩
    simp only [Wd.freeze]
    rw [if_neg (by intro h; subst h; exact absurd hlt (Nat.not_lt.2 hx))]
    exact m1
theorem HInv.lt {C : Ctx} {H : Heap} {W : Wd} (h : HInv C H W) {b : Nat} {fs : List FV} (hb : H[b]? = some fs) : W.β b < W.w.heap.size := by
  obtain ⟨k1, _⟩ := h.box b fs hb
  rcases Nat.lt_or_ge (W.β b) W.w.heap.size with h' | h'
  · exact h'
  · have := k1.1
    rw [(h.fresh _ h').2] at this; simp at this
theorem forget_none {W : Wd} {n b x k : Nat} (hn : n ≤ b) (h : W.o x = some (.box b, k)) : (W.forget n).o x = none := by
  have : below n (.box b) = false := by simp [below]; omega
  rw [forget_o]
  simp [Wd.only, h, this]
theorem frozen_row {W W₁ : Wd} {B off s cap : Nat} {cs : Array Value} {T : TypeId} {fz : Nat × Nat} {fs : List FV} {b : Nat} {l : List PV} (hs : 0 < s) (hl : Sized s l) (k3 : W.w.heap[B]? = some (.cells cs T fz)) (k4 : fs.length ≤ cs.size) (k6 : ∀ (i : Nat) (f : FV) (v : Value), fs[i]? = some f → cs[i]? = some v → f.isLeaf = true ∧ FRep W (some (.leaf b i)) 0 f v)
    (h8 : ∀ k q, (l.flatMap PV.leaves)[k]? = some q → ∃ f, fs[off + k]? = some f ∧ f.leafPV = some q) (hw : W₁.w = W.w) (hlim : ∀ x, W.lim x ≤ W₁.lim x) (hB : cs.size ≤ W₁.lim B) (hcap : l.length ≤ cap) : Rep W₁.w W₁.lim (.sl l) (.slice (some ⟨B, off, none⟩) l.length cap) := by
  have hcell : ∀ x y, x < l.length → ∀ e q, l[x]? = some e → e.leaves[y]? = some q → ∃ u, W.w.cell? ⟨B, off + (x * s + y), none⟩ = some u ∧ off + (x * s + y) < cs.size ∧ q.isLeaf = true ∧ Rep W.w W.lim q u := by
    intro x y hx e q he hq
    have hk : (l.flatMap PV.leaves)[x * s + y]? = some q := flat_at hl he hq
    obtain ⟨f, hfs, hfq⟩ := h8 _ _ hk
    have hlt : off + (x * s + y) < fs.length := (List.getElem?_eq_some_iff.1 hfs).1
    have hcl : off + (x * s + y) < cs.size := by omega
    obtain ⟨m1, m2⟩ := k6 _ _ cs[off + (x * s + y)] hfs (Array.getElem?_eq_getElem hcl)
    obtain ⟨m3, m4⟩ := leafPV_rep m2 hfq
    exact ⟨cs[off + (x * s + y)], by rw [cell_of_heap k3]; exact Array.getElem?_eq_getElem hcl, hcl, m3, m4⟩
  by_cases hl0 : l = []
  · subst hl0; exact .nil
  refine .sl (fun x y => (W.w.cell? ⟨B, off + (x * s + y), none⟩).getD default) (sz := s) rfl rfl hs (fun x e he => hl e (List.mem_of_getElem? he)) (fun x y e q he hq => ?_) (fun x y e q he hq => ?_) (fun x y e q he hq => ?_) (fun x y e q he hq => ?_) hcap
  all_goals
    obtain ⟨u, q1, q2, q3, q4⟩ := hcell x y (List.getElem?_eq_some_iff.1 he).1 e q he hq
  · exact Nat.lt_of_lt_of_le q2 hB
  · rw [hw, q1]; rfl
  · exact q3
  · simp only [q1, Option.getD_some]
    exact q4.mono (fun _ _ _ => by rw [hw]) hlim
section
variable {C : Ctx} {f : FuncId} {fn : Func} {c : Code} {args : List FV} {H H' : Heap} {mv vars : List Nat} (hf : C.P.funcs[f]? = some fn) (hb : fn.body = some c) (hn : (resTmps fn.results.toList).Nodup) (hmix : C.P.follows .mixedOrders = true) (hk : codeOk mv c = true)
    (l : List PV) (s : Nat) (hs : 0 < s) (hl : Sized s l)
include hf hb hn hmix hk hs hl
theorem con_freeze (b off : Nat) (hbn : H.length ≤ b) (hp : ∀ fs ∈ H', ∀ f ∈ fs, f.np0 = true)
    (h : wpC C fn.ntmps mv vars c (argsEnv 0 args) H fun x e H₁ => (match x with | .exit _ => False | _ => True) ∧ resultOf C e H₁ fn.results.toList = some (.bs b off l.length) ∧ (H₁.take H.length = H' ∧ ∃ fs, H₁[b]? = some fs ∧ ∀ k q, (l.flatMap PV.leaves)[k]? = some q → fs[off + k]? = some (.sc q))) : Con C f args H (.sc (.sl l)) H' :=
  fun vs W hlen hargs hH _ => (con_gen (G := fun H₁ => H₁.take H.length = H' ∧ ∃ fs, H₁[b]? = some fs ∧ ∀ k q, (l.flatMap PV.leaves)[k]? = some q → fs[off + k]? = some (.sc q)) hf hb hn hmix hk h vs W hlen hargs hH).mono fun _ _ ⟨v, W', H₁, h1, h2, ⟨h3, fs, h7, h8⟩, h4, h5, h6⟩ => by
    have hbl := (List.getElem?_eq_some_iff.1 h7).1
    generalize hv : v = v' at h4
    cases h4 with
    | @bs _ _ _ _ _ cap hbo hcap =>
      subst hv
      obtain ⟨_, _, k2, cs, T, fz, k3, k4, k5, k6⟩ := h5.box0 h7 hbo
      have hlt := h5.lt h7
      have hbx := h5.trim (n := H.length) (h3 ▸ body_np hp)
      rw [h3] at hbx
      have hBo := forget_none hbn hbo
      have hE0 := freeze_evo (W := W'.forget H.length) (n := cs.size) (B := W'.β b) k2 hBo
      refine ⟨_, (W'.forget H.length).freeze (W'.β b) cs.size, h1, h2, ?_, hbx.freeze k2 hBo hlt, ?_⟩
      · refine .sc rfl (frozen_row (W := W') hs hl k3 k4 k6 (fun k q hkq => ⟨_, h8 k q hkq, rfl⟩) rfl hE0.lim ?_ hcap)
        simp [Wd.freeze]
      · have h6' := h6.forget hH
        refine Evo.of h6'.os h6'.tape h6'.output h6'.size h6'.cell (fun x => Nat.le_trans (h6'.lim x) (hE0.lim x)) h6'.shape (fun _ _ _ _ hk => hk.elim) h6'.beta h6'.row (fun x hxl hxo => ?_)
        obtain ⟨q1, q2, q3⟩ := h6.away x hxl hxo
        refine ⟨q1, ?_, (h6'.away x hxl hxo).2.2⟩
        simp only [Wd.freeze]
        rw [if_neg (by intro h; subst h; rw [hbo] at q3; simp at q3)]
        exact q2
theorem con_freezeR (hp : ∀ fs ∈ H', ∀ f ∈ body fs, f.und0 H.length = true)
    (h : wpC C fn.ntmps mv vars c (argsEnv 0 args) H fun x e H₁ => (match x with | .exit _ => False | _ => True) ∧ ∃ (b g : Nat) (cells : List FV), resultOf C e H₁ fn.results.toList = some (.gr b g s l.length) ∧ H.length ≤ b ∧ H₁.take H.length = H' ∧ H₁[b]? = some [.row g cells] ∧ ∀ (k : Nat) (q : PV), (l.flatMap PV.leaves)[k]? = some q → ∃ f : FV, cells[k]? = some f ∧ f.leafPV = some q) : Con C f args H (.sc (.sl l)) H' :=
  fun vs W hlen hargs hH _ => (con_gen2 (G := fun r H₁ => ∃ (b g : Nat) (cells : List FV), r = .gr b g s l.length ∧ H.length ≤ b ∧ H₁.take H.length = H' ∧ H₁[b]? = some [.row g cells] ∧ ∀ (k : Nat) (q : PV), (l.flatMap PV.leaves)[k]? = some q → ∃ f : FV, cells[k]? = some f ∧ f.leafPV = some q) hf hb hn hmix hk (wpC_mono _ _ _ _ _ (fun _ _ _ ⟨h1, b, g, cells, h2, h3⟩ => ⟨h1, _, h2, b, g, cells, rfl, h3⟩) h) vs W hlen hargs hH).mono fun _ _ ⟨v, W', H₁, r, h1, h2, ⟨b, g, cells, hr, hbn, h3, h7, h8⟩, h4, h5, h6⟩ => by
    subst hr
    have hbl := (List.getElem?_eq_some_iff.1 h7).1
    obtain ⟨k1, k2, cs, T, fz, k3, k4, k5, k6⟩ := h5.box b _ h7
    generalize hv : v = v' at h4
    cases h4 with
    | @gr _ _ _ _ _ _ cap A a1 a2 a3 =>
      subst hv
      obtain ⟨q1, q2, q3⟩ := a3 k1.2
      subst q1
      have hlt := h5.lt h7
      have hbx := h5.trim (n := H.length) (h3 ▸ hp)
      rw [h3] at hbx
      have hBo := forget_none hbn q2
      have hE0 := freeze_evo (W := W'.forget H.length) (n := cs.size) (B := W'.β b) k2 hBo
      refine ⟨_, (W'.forget H.length).freeze (W'.β b) cs.size, h1, h2, ?_, hbx.freeze k2 hBo hlt, ?_⟩
      · refine .sc rfl (frozen_row (W := W') (off := 0) hs hl k3 k4 k6 (fun k q hkq => by rw [Nat.zero_add]; exact h8 k q hkq) rfl hE0.lim ?_ a2)
        simp [Wd.freeze]
      · have h6' := h6.forget hH
        refine Evo.of h6'.os h6'.tape h6'.output h6'.size h6'.cell (fun x => Nat.le_trans (h6'.lim x) (hE0.lim x)) h6'.shape (fun _ _ _ _ hk => hk.elim) h6'.beta h6'.row (fun x hxl hxo => ?_)
        obtain ⟨p1, p2, p3⟩ := h6.away x hxl hxo
        refine ⟨p1, ?_, (h6'.away x hxl hxo).2.2⟩
        simp only [Wd.freeze]
        rw [if_neg (by intro h; subst h; rw [q2] at p3; simp at p3)]
        exact p2
end
end Go.Proofs.YtlnnnfogbakimaaDoor.Ev
end
section
namespace Go.Proofs.YtlnnnfogbakimaaDoor.Ev
open Go
theorem Con.pcon {C : Ctx} {f : FuncId} {args : List FV} {r : FV} {H' : Heap} (h : Con C f args [] r H') : PCon C f args r := fun vs W h1 h2 h3 h4 =>
  (h vs W h1 h2 h3 h4).mono fun _ _ ⟨v, W', a, b, c, d, e⟩ => ⟨v, W', H', a, b, c, d, e⟩
theorem PCon.share {C : Ctx} {f : FuncId} {args : List FV} {l : List PV} (h : PCon C f args (.own l)) : PCon C f args (.sc (.sl l)) := fun vs W h1 h2 h3 h4 =>
  (h vs W h1 h2 h3 h4).mono fun _ _ ⟨v, W', J, a, b, c, d, e⟩ => ⟨v, W', J, a, b, c.demote1, d, e⟩
theorem sizedG (l : List Glyph) : Sized 2 (l.map Glyph.pv) := by
  intro p hp
  obtain ⟨x, _, rfl⟩ := List.mem_map.1 hp
  rfl
set_option linter.unusedSimpArgs false in
set_option maxRecDepth 20000 in
set_option maxHeartbeats 4000000 in
theorem cloneG (l : List Glyph) (hl : l.length ≤ lenMax) : PCon C0 62 [.sc (gl l)] (.own (l.map Glyph.pv)) := by
  refine penter62 ?_
  simp [Tryd.f62, gl]
  refine NilQ.mk (fun h => ?_) (fun h b => ?_)
  · simp at h
    simp [sizedG]
    exact ⟨fun _ h => by simp at h, hl⟩
  · simp at h
    subst h
    cases b <;> simp [Sized]
def cellsG (l : List Glyph) : List FV := ((l.map Glyph.pv).flatMap PV.leaves).map .sc
set_option linter.unusedSimpArgs false in
set_option maxRecDepth 20000 in
set_option maxHeartbeats 4000000 in
theorem cloneBox (l : List Glyph) (hl : l.length ≤ lenMax) (hn : l ≠ []) (H : Heap) : Con C0 62 [.sc (gl l)] H (.bs H.length 0 l.length) (H ++ [cellsG l]) := by
  refine con_of (C := C0) (fn := Tryd.f62) Tryd.func62 rfl (by decide) mixed (mv := [1000007]) (vars := [0, 2, 4]) (c := Tryd.f62.body.getD .skip) rfl ?_
  simp [Tryd.f62, gl]
  refine NilQ.mk (fun h => ?_) (fun h b => ?_)
  · simp at h
    simp [sizedG]
    exact ⟨fun _ h => by simp at h, h, hl, rfl⟩
  · simp at h
    exact absurd h hn
def boldOf (s : Int) : Int := IntKind.u8.wrap (((s % 2 ^ IntKind.u8.bits).toNat ||| 1 % 2 ^ IntKind.u8.bits : Nat) : Int)
def strongG (g : Glyph) : Glyph := if g.r = 32 then g else ⟨g.r, boldOf g.s⟩
def strong (l : List Glyph) : List Glyph := l.map strongG
theorem cellsG_cons (g : Glyph) (l : List Glyph) : cellsG (g :: l) = .sc (.int .i32 g.r) :: .sc (.int .u8 g.s) :: cellsG l := rfl
theorem cellsG_len (l : List Glyph) : (cellsG l).length = l.length * 2 := by
  induction l with
  | nil => rfl
  | cons g l ih => rw [cellsG_cons, List.length_cons, List.length_cons, ih, List.length_cons]; omega
theorem cellsG_dem (l : List Glyph) : (cellsG l).map demote1 = cellsG l := by simp [cellsG]
theorem cellsG_np (l : List Glyph) : ∀ f ∈ cellsG l, f.np0 = true := by
  intro f hf
  obtain ⟨q, _, rfl⟩ := List.mem_map.1 hf
  rfl
theorem cellsG_at : ∀ {l : List Glyph} {i : Nat} (h : i < l.length), (cellsG l).drop (i * 2) = .sc (.int .i32 l[i].r) :: .sc (.int .u8 l[i].s) :: (cellsG l).drop (i * 2 + 2)
  | g :: l, 0, _ => rfl
  | g :: l, i + 1, h => by
    have := cellsG_at (l := l) (i := i) (by simpa using h)
    rw [cellsG_cons, show (i + 1) * 2 = i * 2 + 2 by omega, List.drop_succ_cons, List.drop_succ_cons, List.drop_succ_cons, List.drop_succ_cons, this]
    rfl
theorem cellsG_set : ∀ {l : List Glyph} {i : Nat} (h : i < l.length) (v : Int), (cellsG l).take (i * 2 + 1) ++ .sc (.int .u8 v) :: (cellsG l).drop (i * 2 + 2) = cellsG (l.set i ⟨l[i].r, v⟩)
  | g :: l, 0, _, v => rfl
  | g :: l, i + 1, h, v => by
    have := cellsG_set (l := l) (i := i) (by simpa using h) v
    rw [cellsG_cons, show (i + 1) * 2 + 1 = (i * 2 + 1) + 2 by omega, show (i + 1) * 2 + 2 = (i * 2 + 2) + 2 by omega, List.take_succ_cons, List.take_succ_cons, List.drop_succ_cons, List.drop_succ_cons, List.set_cons_succ, cellsG_cons]
    simp only [List.cons_append, List.getElem_cons_succ]
    rw [this]
def mixS (l : List Glyph) (i : Nat) : List Glyph := (l.take i).map strongG ++ l.drop i
theorem mixS_len (l : List Glyph) (i : Nat) : (mixS l i).length = l.length := by simp [mixS]; omega
theorem mixS_at {l : List Glyph} {i : Nat} (h : i < l.length) : (mixS l i)[i]'(by rw [mixS_len]; exact h) = l[i] := by
  have hm : min i l.length = i := Nat.min_eq_left (Nat.le_of_lt h)
  simp only [mixS]
  rw [List.getElem_append_right (by simp; omega)]
  simp [hm]
theorem mixS_next {l : List Glyph} {i : Nat} (h : i < l.length) : mixS l (i + 1) = (mixS l i).set i (strongG l[i]) := by
  have hm : min i l.length = i := Nat.min_eq_left (Nat.le_of_lt h)
  simp only [mixS]
  rw [List.set_append_right _ _ (by simp; omega), List.take_succ_eq_append_getElem h, List.drop_eq_getElem_cons h]
  simp only [List.length_map, List.length_take, hm, Nat.sub_self, List.set_cons_zero, List.map_append, List.map_cons, List.map_nil, List.append_assoc, List.cons_append, List.nil_append]
theorem mixS_end (l : List Glyph) : mixS l l.length = strong l := by simp [mixS, strong]
set_option linter.unusedSimpArgs false in
set_option maxRecDepth 20000 in
set_option maxHeartbeats 4000000 in
theorem treeStrong (l : List Glyph) (hl : l.length ≤ lenMax) : PCon C0 34 [.sc (gl l)] (.sc (gl (strong l))) := by
  by_cases h0 : l = []
  · subst h0
    have cl := cloneG [] (by simp [lenMax])
    refine PCon.share (l := []) (penter34 ?_)
    simp [Tryd.f34, gl] at cl ⊢
    refine CallQ.mk (Call.pure callable62 (by simp) (by simp) cl) ?_
    simp
    refine loopC (fun d e H => ∃ x4 x5 x11 x17, d = 0 ∧ e = [(0, .sc (.sl [])), (2, .own []), (3, .own []), (4, x4), (5, x5), (8, .sc (.sl [])), (9, .sc (.int .i64 0)), (10, .sc (.int .i64 0)), (11, x11), (17, x17)]) (d := 0) ⟨_, _, _, _, rfl, rfl⟩ ?_
    rintro d e H ⟨x4, x5, x11, x17, rfl, rfl⟩
    simp
  · have hlm : l.length ≤ 137438953472 := hl
    refine Con.pcon (H' := []) (con_freeze (C := C0) (fn := Tryd.f34) Tryd.func34 rfl (by decide) mixed (mv := []) (vars := [0, 2, 3, 4, 5, 8, 9, 10, 11, 17]) (c := Tryd.f34.body.getD .skip) rfl ((strong l).map Glyph.pv) 2 (by decide) (sizedG _) 0 0 (Nat.le_refl _) (by simp) ?_)
    simp [Tryd.f34, gl]
    refine CallQ.mk (Call.shared callable62 (cloneBox l hl h0 [])) ?_
    simp
    refine loopC (fun d e H => ∃ (i : Nat) (X : Heap) (x4 x5 x11 x17 : FV), d = l.length - i ∧ i ≤ l.length ∧ H = cellsG (mixS l i) :: X ∧ e = [(0, .sc (.sl (l.map Glyph.pv))), (2, .own []), (3, .bs 0 0 l.length), (4, x4), (5, x5), (8, .bs 0 0 l.length), (9, .sc (.int .i64 l.length)), (10, .sc (.int .i64 i)), (11, x11), (17, x17)]) (d := l.length)
      ⟨0, [], _, _, _, _, rfl, by omega, by simp [mixS], rfl⟩ ?_
    rintro d e H ⟨i, X, x4, x5, x11, x17, rfl, hi, rfl, rfl⟩
    simp
    refine CondC.mk (fun hlt => ?_) (fun hlt => ?_)
    · simp at hlt
      have hm : i < (mixS l i).length := by rw [mixS_len]; exact hlt
      have hc := cellsG_at hm
      rw [mixS_at hlt] at hc
      have hle : i * 2 + 2 ≤ l.length * 2 := by omega
      simp [hlt, hc, cellsG_dem, cellsG_len, mixS_len, hle]
      refine CondC.mk (fun h32 => ?_) (fun h32 => ?_)
      · simp at h32
        simp [hlt, hc, cellsG_dem, cellsG_len, mixS_len, hle]
        refine ⟨l.length - (i + 1), by omega, i + 1, rfl, by omega, ?_, by rw [wrap64 (by omega) (by omega)]; omega⟩
        have := cellsG_set hm (boldOf l[i].s)
        rw [mixS_at hlt] at this
        rw [mixS_next hlt, strongG, if_neg h32, ← this]
        rfl
      · simp at h32
        simp
        refine ⟨l.length - (i + 1), by omega, i + 1, rfl, by omega, ?_, by rw [wrap64 (by omega) (by omega)]; omega⟩
        rw [mixS_next hlt, strongG, if_pos h32]
        congr 1
        have := mixS_at hlt
        rw [← this, List.set_getElem_self]
    · simp at hlt
      simp
      obtain rfl : i = l.length := by omega
      refine ⟨by simp [strong], fun k q hq => ?_⟩
      rw [mixS_end, cellsG, List.getElem?_map, hq]; rfl
end Go.Proofs.YtlnnnfogbakimaaDoor.Ev
end
section
namespace Go.Proofs.YtlnnnfogbakimaaDoor.Ev
open Go
abbrev mv64 : List Nat := [31, 35, 2000033]
abbrev vars64 : List Nat := [0, 2, 3, 5, 6, 8, 9, 10, 11, 12, 20, 25, 26, 27, 28]
abbrev vars65 : List Nat := [0, 2, 3, 5, 6, 8, 9, 10, 11, 12, 20, 25, 26, 27, 28]
abbrev mv93 : List Nat := [98, 16000000000000000000000000000000000000000000000000000000000000000000000000000000000000000000000000000000020297402402218048, 16000000000000000000000000000000000000000000000000000000000000000000000000000000000000000000000000000000020297266053783616]
abbrev vars93 : List Nat := [0, 1, 2, 5, 6, 7, 9, 17, 18, 20, 22, 24, 26, 28, 30, 66, 91, 92, 93, 94]
end Go.Proofs.YtlnnnfogbakimaaDoor.Ev
end
section
namespace Go.Proofs.YtlnnnfogbakimaaDoor.Ev
open Go
theorem con_trim_bs {C : Ctx} {f : FuncId} {fn : Func} {c : Code} {args : List FV} {H H' : Heap} {mv vars : List Nat} (hf : C.P.funcs[f]? = some fn) (hb : fn.body = some c) (hn : (resTmps fn.results.toList).Nodup) (hmix : C.P.follows .mixedOrders = true) (hk : codeOk mv c = true)
    {b off n : Nat} (hbl : b < H.length) (hp : ∀ fs ∈ H', ∀ f ∈ fs, f.np0 = true)
    (h : wpC C fn.ntmps mv vars c (argsEnv 0 args) H fun x e H₁ => (match x with | .exit _ => False | _ => True) ∧ resultOf C e H₁ fn.results.toList = some (.bs b off n) ∧ H₁.take H.length = H') : Con C f args H (.bs b off n) H' :=
  con_trimU hf hb hn hmix hk (by simp [FV.under, hbl]) (body_np hp) h
end Go.Proofs.YtlnnnfogbakimaaDoor.Ev
end
section
namespace Go.Proofs.YtlnnnfogbakimaaDoor.Ev
open Go
theorem sized_gl (l : List Glyph) : Sized 2 (l.map Glyph.pv) := fun p hp => by
  simp only [List.mem_map] at hp; obtain ⟨x, _, rfl⟩ := hp; rfl
theorem cells_gl (l : List Glyph) : (l.map Glyph.pv).flatMap PV.leaves = l.flatMap fun g => [PV.int .i32 g.r, PV.int .u8 g.s] := by
  induction l with
  | nil => rfl
  | cons g l ih => simp only [List.map_cons, List.flatMap_cons, ih]; rfl
def rowG (l : List Glyph) : List FV := ((l.map Glyph.pv).flatMap PV.leaves).map .sc
theorem rowG_len (l : List Glyph) : (rowG l).length = l.length * 2 := by
  unfold rowG; rw [List.length_map, cells_gl]
  induction l with
  | nil => rfl
  | cons g l ih => simp at ih ⊢; omega
theorem rowG_app (a b : List Glyph) : rowG (a ++ b) = rowG a ++ rowG b := by simp [rowG]
set_option linter.unusedSimpArgs false in
set_option maxRecDepth 20000 in
theorem conGrow (n : Nat) (h0 : 0 < n) (hn : n ≤ 1073741824) (H : Heap) :
    Con C0 98 [.emp, .sc (.int .i64 n)] H (.gr H.length 0 2 0) (H ++ [[.row 0 []]]) := by
  refine enter98 ?_
  have w0 : IntKind.i64.wrap 0 = 0 := by decide
  have w1 : IntKind.i64.wrap (n : Int) = n := wrap64 (by omega) (by omega)
  have n0 : ¬ (n : Int) < 0 := by omega
  have n1 : (0 : Int) < n := by omega
  have n2 : (n : Int) ≤ 137438953472 := by omega
  simp [Tryd.f98, w0, w1, n0, n1, h0, n2, lenMax, hn]
def catG (l : List (List Glyph)) : List Glyph := l.flatten
theorem catG_take {l : List (List Glyph)} {i : Nat} (h : i < l.length) : catG (l.take (i + 1)) = catG (l.take i) ++ l[i] := by
  rw [List.take_succ_eq_append_getElem h]; unfold catG; rw [List.flatten_append]; simp
theorem catG_len (l : List (List Glyph)) (i : Nat) : (catG (l.take i)).length ≤ (catG l).length := by
  conv => rhs; rw [← List.take_append_drop i l]
  unfold catG; rw [List.flatten_append, List.length_append]; omega
set_option linter.unusedSimpArgs false in
set_option maxRecDepth 20000 in
set_option maxHeartbeats 8000000 in
theorem conConcat (l : List (List Glyph)) (h0 : 0 < (catG l).length) (hn : (catG l).length ≤ 1073741824) (hl : l.length ≤ 1073741824) :
    Con C0 64 [.sc (.sl (l.map gl))] [] (.sc (.sl ((catG l).map Glyph.pv))) [] := by
  refine con_freezeR (C := C0) (s := 2) (l := (catG l).map Glyph.pv) (fn := Tryd.f64) Tryd.func64 rfl (by decide) mixed (mv := mv64) (vars := vars64) (c := Tryd.f64.body.getD .skip) rfl ?_ ?_ ?_ ?_
  · decide
  · exact sized_gl (catG l)
  · intro fs h; simp at h
  simp [Tryd.f64]
  refine loopC (fun d e H' => ∃ (i : Nat) (x5 x12 x20 : FV), H' = [] ∧ d = l.length - i ∧ i ≤ l.length ∧ e = [(0, .sc (.sl (l.map gl))), (2, .own []), (3, .sc (.int .i64 (catG (l.take i)).length)), (5, x5), (6, .undef), (8, .undef), (9, .sc (.sl (l.map gl))), (10, .sc (.int .i64 l.length)), (11, .sc (.int .i64 i)), (12, x12), (20, x20), (25, .undef), (26, .undef), (27, .undef), (28, .undef)]) (d := l.length) ⟨0, .undef, .undef, .undef, rfl, rfl, Nat.zero_le _, ?_⟩ ?_
  · simp [catG]
  · rintro d e H' ⟨i, x5, x12, x20, rfl, rfl, hi, rfl⟩
    simp
    refine CondC.mk (fun hlt => ?_) (fun hlt => ?_)
    · simp at hlt
      have hw : IntKind.i64.wrap ((i : Int) + 1) = ((i + 1 : Nat) : Int) := by rw [wrap64 (by omega) (by omega)]; omega
      have hq : (l.map gl)[i]? = some (gl l[i]) := by simp [hlt]
      have ht := catG_take hlt
      have hle := catG_len l (i + 1)
      have hl2 : (catG (l.take (i + 1))).length = (catG (l.take i)).length + l[i].length := by rw [ht, List.length_append]
      have w1 : IntKind.i64.wrap (((catG (l.take i)).length : Int) + (l[i].length : Int)) = ((catG (l.take (i + 1))).length : Int) := by rw [wrap64 (by omega) (by omega)]; omega
      have n0 : ¬ ((catG (l.take (i + 1))).length : Int) < 0 := by omega
      simp [hq, gl, w1, n0, hw]
      exact ⟨l.length - (i + 1), by omega, i + 1, rfl, by omega, rfl, by omega⟩
    · simp at hlt
      obtain rfl : i = l.length := by omega
      rw [List.take_length]
      simp
      refine CallQ.mk (Call.shared callable98 (conGrow (catG l).length h0 hn [])) ?_
      simp
      refine loopC (fun d e H' => ∃ (i : Nat) (x8 x28 : FV), H' = [[.row i (rowG (catG (l.take i)))]] ∧ d = l.length - i ∧ i ≤ l.length ∧ e = [(0, .sc (.sl (l.map gl))), (2, .own []), (3, .sc (.int .i64 (catG l).length)), (5, x5), (6, .gr 0 i 2 (catG (l.take i)).length), (8, x8), (9, .sc (.sl (l.map gl))), (10, .sc (.int .i64 l.length)), (11, .sc (.int .i64 l.length)), (12, .sc (.bool false)), (20, x20), (25, .sc (.sl (l.map gl))), (26, .sc (.int .i64 l.length)), (27, .sc (.int .i64 i)), (28, x28)]) (d := l.length) ⟨0, .undef, .undef, rfl, rfl, Nat.zero_le _, ?_⟩ ?_
      · simp [catG]
      · rintro d e H'2 ⟨i, x8, x28, rfl, rfl, hi2, rfl⟩
        simp
        refine CondC.mk (fun hlt2 => ?_) (fun hlt2 => ?_)
        · simp at hlt2
          have hw : IntKind.i64.wrap ((i : Int) + 1) = ((i + 1 : Nat) : Int) := by rw [wrap64 (by omega) (by omega)]; omega
          have hq : (l.map gl)[i]? = some (gl l[i]) := by simp [hlt2]
          have ht := catG_take hlt2
          have hle := catG_len l (i + 1)
          have hl2 : (catG (l.take (i + 1))).length = (catG (l.take i)).length + l[i].length := by rw [ht, List.length_append]
          have ol := rowG_len (catG (l.take i))
          have tk : (rowG (catG (l.take i))).take ((catG (l.take i)).length * 2) = rowG (catG (l.take i)) := List.take_of_length_le (by omega)
          have sl := sized_gl l[i]
          simp [hq, gl, hw, ol, tk, sl, lenMax]
          exact ⟨by omega, l.length - (i + 1), by omega, i + 1, ⟨rfl, by rw [ht, rowG_app]; rfl⟩, rfl, by omega, ⟨rfl, by omega⟩, by omega⟩
        · simp at hlt2
          obtain rfl : i = l.length := by omega
          rw [List.take_length]
          simp
          refine ⟨0, l.length, ⟨rfl, rfl⟩, rowG (catG l), rfl, ?_⟩
          intro k q hq
          refine ⟨.sc q, ?_, rfl⟩
          unfold rowG
          rw [List.getElem?_map]
          simp only [hq, Option.map_some]
end Go.Proofs.YtlnnnfogbakimaaDoor.Ev
end
section
namespace Go.Proofs.YtlnnnfogbakimaaDoor.Ev
open Go
theorem HInv.below {C : Ctx} {H : Heap} {W : Wd} (h : HInv C H W) {w' : World} (hb : RowKit.Below W.w.heap.size W.w w') : Evo W { W with w := w' } (fun _ _ => True) ∧ HInv C H { W with w := w' } := by
  have hlt : ∀ b off, off < W.lim b → b < W.w.heap.size := fun b off ho => by
    rcases Nat.lt_or_ge b W.w.heap.size with h' | h'
    · exact h'
    · rw [(h.fresh b h').1] at ho; omega
  have hE : Evo W { W with w := w' } (fun _ _ => True) := by
    refine Evo.of hb.os hb.tape hb.output hb.size (fun b off ho => ?_) (fun _ => Nat.le_refl _) (fun b c T fz hc => ?_) (fun _ _ _ ho _ => ⟨ho, rfl⟩) (fun _ _ ho hβ => ⟨hβ, ho⟩) (fun _ => ⟨Nat.le_refl _, fun _ h => ⟨rfl, h⟩⟩) (fun b hbl ho => ⟨hb.block b hbl, rfl, ho⟩)
    · simp only [World.cell?]
      rw [hb.block b (hlt b off ho)]
    · have hbl := (Array.getElem?_eq_some_iff.1 hc).1
      exact ⟨c, by show w'.heap[b]? = _; rw [hb.block b hbl]; exact hc, rfl⟩
  refine ⟨hE, fun b fs hfs => ?_, fun g ls hls j q hq => ?_, fun b hbl => h.fresh b (Nat.le_trans hb.size hbl), h.boxes, h.gen0, h.kept.evo hE⟩
  · obtain ⟨h1, h2, c, T, fz, h3, h4, h5, h6⟩ := h.box b fs hfs
    have hbl := (Array.getElem?_eq_some_iff.1 h3).1
    exact ⟨h1, h2, c, T, fz, by show w'.heap[W.β b]? = _; rw [hb.block _ hbl]; exact h3, h4, h5, fun i f v hf hv => ⟨(h6 i f v hf hv).1, (h6 i f v hf hv).2.mono hE (by simp)⟩⟩
  · obtain ⟨m1, m2, v, m3, m4⟩ := h.laid g ls hls j q hq
    exact ⟨m1, m2, v, by rw [hE.cell _ _ m2]; exact m3, m4.mono hE.cell hE.lim⟩
theorem pcon_below {C : Ctx} {f : FuncId} {args : List FV} {p : PV} {v : Value} (hp : p.isLeaf = true) (hrep : ∀ w lim, Rep w lim p v)
    (h : ∀ (vs : List Value) (W : Wd), vs.length = args.length → (∀ (j : Nat) (g : FV) (u : Value), args[j]? = some g → vs[j]? = some u → FRep W none 0 g u) → HInv C [] W → Calls C.P f vs.toArray W.w fun e w' => e = .returned v ∧ RowKit.Below W.w.heap.size W.w w') : PCon C f args (.sc p) :=
  fun vs W h1 h2 h3 _ => (h vs W h1 h2 h3).mono fun _ w' ⟨he, hb⟩ => ⟨v, { W with w := w' }, [], he, rfl, .sc hp (hrep _ _), (h3.below hb).2, (h3.below hb).1.weaken (by simp)⟩
theorem PCon.call1 {C : Ctx} {f : FuncId} {k k' : IntKind} {x y : Int} (h : PCon C f [.sc (.int k x)] (.sc (.int k' y))) {W : Wd} (hH : HInv C [] W) : Calls C.P f #[.int k x] W.w fun e w' => e = .returned (.int k' y) ∧ RowKit.Below W.w.heap.size W.w w' := by
  have h0 : HInv C [] { W with o := fun _ => none } := ⟨fun b fs hb => by simp at hb, hH.laid, fun b hb => ⟨(hH.fresh b hb).1, rfl⟩, fun b i k hb => by simp at hb, hH.gen0, hH.kept.same rfl fun _ _ => rfl⟩
  refine (h [.int k x] { W with o := fun _ => none } rfl (fun j g v hg hv => ?_) h0 (fun b q k hb => by simp at hb)).mono fun e w' ⟨v, W', J, he, hw, hr, _, hE⟩ => ?_
  · match j with
    | 0 => simp at hg hv; subst hg hv; exact .mkInt
    | j + 1 => simp at hg
  · subst he hw
    refine ⟨by rw [hr.int], hE.os, hE.tape, hE.output, hE.size, fun b hb => (hE.away b hb rfl).1⟩
theorem FRep.fn0 {W : Wd} {r : Option Root} {i : Nat} {f : FuncId} {v : Value} (h : FRep W r i (.fn f [] []) v) : v = .func (.func f) #[] #[] := by
  cases h with
  | @fn _ _ _ _ _ fs cs a b c d =>
    have e1 : fs = #[] := Array.eq_empty_of_size_eq_zero a
    have e2 : cs = #[] := Array.eq_empty_of_size_eq_zero b
    rw [e1, e2]
theorem args1 {a : FV} {vs : List Value} {W : Wd} (hl : vs.length = [a].length) (h : ∀ (j : Nat) (g : FV) (u : Value), [a][j]? = some g → vs[j]? = some u → FRep W none 0 g u) : ∃ u, vs = [u] ∧ FRep W none 0 a u := by
  match vs, hl with
  | [u], _ => exact ⟨u, rfl, h 0 a u rfl rfl⟩
theorem args2 {a b : FV} {vs : List Value} {W : Wd} (hl : vs.length = [a, b].length) (h : ∀ (j : Nat) (g : FV) (u : Value), [a, b][j]? = some g → vs[j]? = some u → FRep W none 0 g u) : ∃ u v, vs = [u, v] ∧ FRep W none 0 a u ∧ FRep W none 0 b v := by
  match vs, hl with
  | [u, v], _ => exact ⟨u, v, rfl, h 0 a u rfl rfl, h 1 b v rfl rfl⟩
end Go.Proofs.YtlnnnfogbakimaaDoor.Ev
end
section
namespace Go.Proofs.YtlnnnfogbakimaaDoor.Ev
open Go
def Glyph.blank (g : Glyph) : Bool := decide (g.r = 32)
def ink (l : List Glyph) : List Glyph := l.filter fun g => !g.blank
theorem inked1 (g : Glyph) : PCon C0 97 [.agg [.sc (.int .i32 g.r), .sc (.int .u8 g.s)]] (.sc (.bool g.blank)) := by
  refine penter97 ?_
  simp [Tryd.f97, Glyph.blank]
def idxB : List Glyph → Nat
  | [] => 0
  | g :: l => if g.blank = true then 0 else idxB l + 1
theorem idxB_le (l : List Glyph) : idxB l ≤ l.length := by
  induction l with
  | nil => simp [idxB]
  | cons g l ih => rw [idxB, List.length_cons]; split <;> omega
theorem idxB_before : ∀ {l : List Glyph} {i : Nat} (h : i < l.length), i < idxB l → l[i].blank = false
  | g :: l, i, h, hi => by
    rw [idxB] at hi
    split at hi
    · omega
    · rename_i hg
      cases i with
      | zero => simpa using hg
      | succ i => simpa using idxB_before (l := l) (by simpa using h) (by omega)
theorem idxB_at : ∀ {l : List Glyph} (h : idxB l < l.length), (l[idxB l]'h).blank = true
  | g :: l, h => by
    by_cases hg : g.blank = true
    · have : idxB (g :: l) = 0 := by rw [idxB, if_pos hg]
      simp [this, hg]
    · have : idxB (g :: l) = idxB l + 1 := by rw [idxB, if_neg hg]
      simp only [this, List.getElem_cons_succ]
      exact idxB_at (by rw [this] at h; simpa using h)
theorem idxB_eq {l : List Glyph} {i : Nat} (h : i < l.length) (hb : ∀ j (hj : j < l.length), j < i → l[j].blank = false) (hi : l[i].blank = true) : idxB l = i := by
  rcases Nat.lt_trichotomy (idxB l) i with h1 | h1 | h1
  · have h2 := idxB_at (l := l) (by omega)
    rw [hb _ _ h1] at h2; simp at h2
  · exact h1
  · rw [idxB_before h h1] at hi; simp at hi
theorem idxB_none {l : List Glyph} (hb : ∀ j (hj : j < l.length), l[j].blank = false) : idxB l = l.length := by
  rcases Nat.lt_or_ge (idxB l) l.length with h1 | h1
  · have h2 := idxB_at h1
    rw [hb _ _] at h2; simp at h2
  · have := idxB_le l; omega
theorem ink_all {l : List Glyph} (hb : ∀ j (hj : j < l.length), l[j].blank = false) : ink l = l := by
  refine List.filter_eq_self.2 fun g hg => ?_
  obtain ⟨j, hj, rfl⟩ := List.getElem_of_mem hg
  simp [hb j hj]
def idxOf (l : List Glyph) : Int := if idxB l < l.length then (idxB l : Int) else -1
set_option linter.unusedSimpArgs false in
set_option maxRecDepth 20000 in
set_option maxHeartbeats 4000000 in
theorem indexG (l : List Glyph) (hl : l.length ≤ lenMax) (H : Heap) (b : Nat) (hb : H[b]? = some (cellsG l)) : Con C0 126 [.bs b 0 l.length, .fn 97 [] []] H (.sc (.int .i64 (idxOf l))) H := by
  refine con_of (C := C0) (fn := Tryd.f126) Tryd.func126 rfl (by decide) mixed (mv := []) (vars := [0, 1, 4, 5, 7, 8, 9, 16]) (c := Tryd.f126.body.getD .skip) rfl ?_
  have hlm : l.length ≤ 137438953472 := hl
  simp [Tryd.f126]
  refine loopC (fun d e H' => ∃ (i : Nat) (x4 x5 x9 x16 : FV), d = l.length - i ∧ i ≤ l.length ∧ (∀ j (hj : j < l.length), j < i → l[j].blank = false) ∧ H' = H ∧ e = [(0, .bs b 0 l.length), (1, .fn 97 [] []), (4, x4), (5, x5), (7, .sc (.int .i64 l.length)), (8, .sc (.int .i64 i)), (9, x9), (16, x16)]) (d := l.length)
    ⟨0, _, _, _, _, rfl, by omega, by simp, rfl, rfl⟩ ?_
  rintro d e H' ⟨i, x4, x5, x9, x16, rfl, hi, hbef, rfl, rfl⟩
  simp
  refine CondC.mk (fun hlt => ?_) (fun hlt => ?_)
  · simp at hlt
    have hc := cellsG_at hlt
    have hle : i * 2 + 2 ≤ l.length * 2 := by omega
    simp [hlt, hb, hc, cellsG_dem, cellsG_len, hle]
    refine CallQ.mk (Call.pure callable97 (by simp) (by simp) (inked1 l[i])) ?_
    simp
    refine CondC.mk (fun h32 => ?_) (fun h32 => ?_)
    · simp [idxOf, idxB_eq hlt hbef h32, hlt]
    · simp
      refine ⟨l.length - (i + 1), by omega, i + 1, rfl, by omega, fun j hj h => ?_, by rw [wrap64 (by omega) (by omega)]; omega⟩
      rcases Nat.lt_or_ge j i with h' | h'
      · exact hbef j hj h'
      · obtain rfl : j = i := by omega
        exact h32
  · simp at hlt
    simp
    have hn := idxB_none fun j hj => hbef j hj (by omega)
    simp [idxOf, hn]
theorem np_set {H : Heap} {b : Nat} {l : List Glyph} (hp : NP H) : NP (H.set b (cellsG l)) := fun fs hfs f hf => by
  rcases List.mem_or_eq_of_mem_set hfs with h | h
  · exact hp fs h f hf
  · subst h; exact cellsG_np l f hf
theorem cellsG_store : ∀ {l : List Glyph} {i : Nat} (h : i < l.length) (g : Glyph), (cellsG l).take (i * 2) ++ .sc (.int .i32 g.r) :: .sc (.int .u8 g.s) :: (cellsG l).drop (i * 2 + 2) = cellsG (l.set i g)
  | x :: l, 0, _, g => rfl
  | x :: l, i + 1, h, g => by
    have := cellsG_store (l := l) (i := i) (by simpa using h) g
    rw [cellsG_cons, show (i + 1) * 2 = (i * 2) + 2 by omega, List.take_succ_cons, List.take_succ_cons, List.drop_succ_cons, List.drop_succ_cons, List.set_cons_succ, cellsG_cons]
    simp only [List.cons_append]
    rw [this]
theorem cellsG_take : ∀ (l : List Glyph) (i : Nat), (cellsG l).take (i * 2) = cellsG (l.take i)
  | [], i => by simp [cellsG]
  | g :: l, 0 => by simp [cellsG]
  | g :: l, i + 1 => by rw [cellsG_cons, show (i + 1) * 2 = (i * 2) + 2 by omega, List.take_succ_cons, List.take_succ_cons, cellsG_take l i, List.take_succ_cons, cellsG_cons]
set_option linter.unusedSimpArgs false in
set_option maxRecDepth 20000 in
set_option maxHeartbeats 4000000 in
theorem deleteG (l : List Glyph) (hl : l.length ≤ lenMax) (H : Heap) (b : Nat) (hb : H[b]? = some (cellsG l)) (hp : NP H) : Con C0 96 [.bs b 0 l.length, .fn 97 [] []] H (.bs b 0 (ink l).length) (H.set b (cellsG (ink l))) := by
  have hbl : b < H.length := (List.getElem?_eq_some_iff.1 hb).1
  have hlm : l.length ≤ 137438953472 := hl
  have hix := indexG l hl H b hb
  refine con_trim_bs (C := C0) (fn := Tryd.f96) Tryd.func96 rfl (by decide) mixed (mv := []) (vars := [0, 1, 4, 5, 6, 7, 12, 19, 29]) (c := Tryd.f96.body.getD .skip) rfl hbl (np_set hp) ?_
  simp [Tryd.f96]
  refine CallQ.mk (Call.shared callable126 hix) ?_
  rcases Nat.lt_or_ge (idxB l) l.length with h0 | h0
  · have e1 : idxOf l = (idxB l : Int) := if_pos h0
    have e2 : ¬ ((idxB l : Nat) : Int) = -1 := by omega
    simp [e1, e2]
    rw [wrap64 (by omega) (by omega)]
    refine loopC (fun d e H' => ∃ (i j : Nat) (m : List Glyph) (X : Heap) (x7 x12 x19 x29 : FV), d = l.length - j ∧ i < j ∧ j ≤ l.length ∧ m.length = l.length ∧ m.take i = ink (l.take j) ∧ m.drop j = l.drop j ∧ H' = H.set b (cellsG m) ++ X ∧
      e = [(0, .bs b 0 l.length), (1, .fn 97 [] []), (4, .own []), (5, .sc (.int .i64 i)), (6, .sc (.int .i64 j)), (7, x7), (12, x12), (19, x19), (29, x29)]) (d := l.length - (idxB l + 1))
      ⟨idxB l, idxB l + 1, l, [], .undef, .sc (.bool false), .undef, .undef, by omega, by omega, by omega, rfl, ?_, rfl, by rw [List.append_nil, set_same hb], by simp⟩ ?_
    · have : l.take (idxB l + 1) = l.take (idxB l) ++ [l[idxB l]] := List.take_succ_eq_append_getElem h0
      rw [this, ink, List.filter_append, show l.take (idxB l) = (l.take (idxB l)).filter _ from (ink_all (l := l.take (idxB l)) fun j hj => by
        have hj' := hj
        rw [List.length_take] at hj'
        rw [List.getElem_take]
        exact idxB_before (by omega) (by omega)).symm]
      simp [idxB_at h0, ink]
    rintro d e H' ⟨i, j, m, X, x7, x12, x19, x29, rfl, hij, hj, hm, ht, hd, rfl, rfl⟩
    simp
    refine CondC.mk (fun hlt => ?_) (fun hlt => ?_)
    · simp at hlt
      have hlt' : j < m.length := by omega
      have hc := cellsG_at hlt'
      have hmj : m[j] = l[j] := by
        have := congrArg (·[0]?) hd
        simpa [hlt, hlt'] using this
      rw [hmj] at hc
      have hle : j * 2 + 2 ≤ m.length * 2 := by omega
      have hne : (H.set b (cellsG m))[b]? = some (cellsG m) := by simp [hbl]
      have hjl : l.take (j + 1) = l.take j ++ [l[j]] := List.take_succ_eq_append_getElem hlt
      have hil : i < m.length := by omega
      have hst := cellsG_store hil l[j]
      have hile : i * 2 + 2 ≤ m.length * 2 := by omega
      have hi' : (i : Int) < l.length := by omega
      have wj : IntKind.i64.wrap (j + 1) = ((j + 1 : Nat) : Int) := by rw [wrap64 (by omega) (by omega)]; omega
      have wi : IntKind.i64.wrap (i + 1) = ((i + 1 : Nat) : Int) := by rw [wrap64 (by omega) (by omega)]; omega
      simp [hlt, hs_b hbl, hs_at, hs_at0, hs_put, hs_put0, hs_set hbl, hc, cellsG_dem, cellsG_len, hle]
      refine CallQ.mk (Call.pure callable97 (by simp) (by simp) (inked1 l[j])) ?_
      simp
      refine CondC.mk (fun h32 => ?_) (fun h32 => ?_)
      · simp at h32
        simp [hlt, hs_b hbl, hs_at, hs_at0, hs_put, hs_put0, hs_set hbl, hc, cellsG_dem, cellsG_len, hile, hi']
        refine ⟨l.length - (j + 1), by omega, i + 1, j + 1, rfl, by omega, by omega, m.set i l[j], by simp [hm], ?_, ?_, ⟨_, by rw [hst]⟩, by rw [wi], by rw [wj]⟩
        · rw [List.take_succ_eq_append_getElem (by simpa using hil), List.getElem_set_self, List.take_set_of_le (Nat.le_refl _), ht, hjl, ink, ink, List.filter_append, List.filter_cons_of_pos (by simp [h32]), List.filter_nil]
        · rw [List.drop_set_of_lt (by omega), ← List.drop_drop, hd, List.drop_drop]
      · simp at h32
        simp
        refine ⟨l.length - (j + 1), by omega, i, j + 1, rfl, by omega, by omega, m, hm, ?_, ?_, ⟨_, rfl⟩, rfl, by rw [wj]⟩
        · rw [ht, hjl, ink, ink, List.filter_append, List.filter_cons_of_neg (by simp [h32]), List.filter_nil, List.append_nil]
        · rw [← List.drop_drop, hd, List.drop_drop]
    · simp at hlt
      obtain rfl : j = l.length := by omega
      rw [List.take_length] at ht
      have hil : i = (ink l).length := by
        have := congrArg List.length ht
        rw [List.length_take] at this; omega
      have hile : (i : Int) ≤ l.length := by omega
      have hilt : i < l.length := by omega
      have hct := cellsG_take m i
      rw [ht] at hct
      have hlm2 : i * 2 + (l.length - i) * 2 ≤ m.length * 2 := by omega
      simp [hs_b hbl, hs_at, hs_at0, hs_put, hs_put0, hs_set hbl, cellsG_len, hile, hilt]
      by_cases hi0 : i = 0
      · subst hi0
        have e0 : ink l = [] := List.eq_nil_of_length_eq_zero hil.symm
        have ec : cellsG [] = [] := rfl
        simp [hs_b hbl, hs_at, hs_at0, hs_put, hs_put0, hs_set hbl, cellsG_len, e0, hm, ec, heap_old_take_set]
      · simp [hi0]
        simp [hs_b hbl, hs_at, hs_at0, hs_put, hs_put0, hs_set hbl, cellsG_len, hm, hct, heap_old_take_set]
        exact ⟨by omega, hil⟩
  · have e1 : idxOf l = -1 := if_neg (by omega)
    have e2 : ink l = l := ink_all fun j hj => idxB_before hj (by omega)
    simp [e1, e2, set_same hb]
set_option linter.unusedSimpArgs false in
set_option maxRecDepth 20000 in
set_option maxHeartbeats 4000000 in
theorem index0 : PCon C0 126 [.sc (.sl []), .fn 97 [] []] (.sc (.int .i64 (-1))) := by
  refine penter126 ?_
  simp [Tryd.f126]
  refine loopC (fun d e H => ∃ (x4 x5 x9 x16 : FV), d = 0 ∧ e = [(0, .sc (.sl [])), (1, .fn 97 [] []), (4, x4), (5, x5), (7, .sc (.int .i64 0)), (8, .sc (.int .i64 0)), (9, x9), (16, x16)]) (d := 0) ⟨_, _, _, _, rfl, rfl⟩ ?_
  rintro d e H ⟨x4, x5, x9, x16, rfl, rfl⟩
  simp
set_option linter.unusedSimpArgs false in
set_option maxRecDepth 20000 in
set_option maxHeartbeats 4000000 in
theorem delete0 : PCon C0 96 [.sc (.sl []), .fn 97 [] []] (.sc (.sl [])) := by
  refine penter96 ?_
  simp [Tryd.f96]
  refine CallQ.mk (Call.pure callable126 (by simp) (by simp) index0) ?_
  simp
theorem ink_len (l : List Glyph) : (ink l).length ≤ l.length := List.length_filter_le _ _
set_option linter.unusedSimpArgs false in
set_option maxRecDepth 20000 in
set_option maxHeartbeats 4000000 in
theorem treeInked (l : List Glyph) (hl : l.length ≤ lenMax) : PCon C0 63 [.sc (gl l)] (.sc (gl (ink l))) := by
  by_cases h0 : l = []
  · subst h0
    have cl := cloneG [] (by simp [lenMax])
    refine penter63 ?_
    simp [Tryd.f63, gl, ink] at cl ⊢
    refine CallQ.mk (Call.pure callable62 (by simp) (by simp) cl) ?_
    simp
    refine CallQ.mk (Call.pure callable96 (by simp) (by simp) delete0) ?_
    simp
  · refine Con.pcon (H' := []) (con_freeze (C := C0) (fn := Tryd.f63) Tryd.func63 rfl (by decide) mixed (mv := []) (vars := [0, 2]) (c := Tryd.f63.body.getD .skip) rfl ((ink l).map Glyph.pv) 2 (by decide) (sizedG _) 0 0 (Nat.le_refl _) (by simp) ?_)
    simp [Tryd.f63, gl]
    refine CallQ.mk (Call.shared callable62 (cloneBox l hl h0 [])) ?_
    simp
    refine CallQ.mk (Call.shared callable96 (deleteG l hl [cellsG l] 0 rfl (np_cons (cellsG_np l) np_nil))) ?_
    simp
    intro k q hq
    rw [cellsG, List.getElem?_map, hq]; rfl
end Go.Proofs.YtlnnnfogbakimaaDoor.Ev
end
section
namespace Go.Proofs.YtlnnnfogbakimaaDoor.Ev
open Go
theorem ink_append (l m : List Glyph) : ink (l ++ m) = ink l ++ ink m := List.filter_append _ _
namespace Node
mutual
def cnt : Node → Nat
  | mk _ _ _ _ kids _ _ => 1 + cntL kids
def cntL : List Node → Nat
  | [] => 0
  | x :: l => x.cnt + cntL l
end
theorem cnt_eq (x : Node) : x.cnt = 1 + cntL x.kids := by cases x; rw [cnt]; rfl
theorem kids_size {x : Node} {l : List Node} {n : Nat} (hn : SizeOf.sizeOf (x :: l) < n + 1) : SizeOf.sizeOf x.kids < n ∧ SizeOf.sizeOf l < n := by
  cases x; simp at hn ⊢; omega
theorem cnt_long : ∀ (n : Nat) (l : List Node), SizeOf.sizeOf l < n → cntL l ≤ sumBy long l := by
  intro n
  induction n with
  | zero => intro l h; omega
  | succ n ih =>
    intro l hn
    cases l with
    | nil => rw [cntL]; omega
    | cons x l =>
      obtain ⟨h1, h2⟩ := kids_size hn
      have := ih _ h1; have := ih _ h2
      rw [cntL, cnt_eq, sumBy, long_eq]; omega
end Node
end Go.Proofs.YtlnnnfogbakimaaDoor.Ev
end
section
namespace Go.Proofs.YtlnnnfogbakimaaDoor.Ev
open Go
theorem long_mem {l : List Node} {x : Node} (hx : x ∈ l) : x.long ≤ sumBy Node.long l := by
  induction l with
  | nil => cases hx
  | cons y l ih =>
    rw [sumBy]
    rcases List.mem_cons.1 hx with rfl | h
    · omega
    · have := ih h; omega
end Go.Proofs.YtlnnnfogbakimaaDoor.Ev
end
section
namespace Go.Proofs.YtlnnnfogbakimaaDoor.Ev
open Go
set_option linter.unusedSimpArgs false in
set_option maxRecDepth 20000 in
set_option maxHeartbeats 4000000 in
theorem refInked (out l : List Glyph) (hl : out.length + l.length ≤ 1073741824) : PConH C0 66 [.own (out.map Glyph.pv), .sc (gl l)] (.own ((out ++ ink l).map Glyph.pv)) := by
  refine henter66 ?_
  simp [Tryd.f66, gl]
  refine loopC (fun d e H' => ∃ (i : Nat) (x9 x17 : FV), H' = [] ∧ d = l.length - i ∧ i ≤ l.length ∧ e = [(0, .own ((out ++ ink (l.take i)).map Glyph.pv)), (1, .sc (.sl (l.map Glyph.pv))), (4, .own []), (5, .sc (.int .i64 i)), (9, x9), (17, x17)]) (d := l.length) ⟨0, .undef, .undef, rfl, rfl, Nat.zero_le _, by simp [ink]⟩ ?_
  rintro d e H' ⟨i, x9, x17, rfl, rfl, hi, rfl⟩
  simp
  refine CondC.mk (fun hlt => ?_) (fun hlt => ?_)
  · simp at hlt
    have hlt' : (i : Int) < (l.length : Int) := by omega
    have hw : IntKind.i64.wrap ((i : Int) + 1) = ((i + 1 : Nat) : Int) := by rw [wrap64 (by omega) (by omega)]; omega
    have ht : ink (l.take (i + 1)) = ink (l.take i) ++ (if l[i].blank = true then [] else [l[i]]) := by
      rw [List.take_succ_eq_append_getElem hlt, ink_append]
      congr 1
      by_cases hb : l[i].blank = true
      · simp [ink, hb]
      · simp [ink, hb]
    have hil : (ink (l.take i)).length ≤ i := by
      have := List.length_filter_le (fun g : Glyph => !g.blank) (l.take i)
      rw [List.length_take] at this
      unfold ink; omega
    have so : Sized 2 ((out ++ ink (l.take i)).map Glyph.pv) := sizedG _
    have s1 := sizedG [l[i]]
    simp only [List.map_cons, List.map_nil] at s1
    have hgp : (l[i]).pv = .agg [.int .i32 l[i].r, .int .u8 l[i].s] := rfl
    rw [hgp] at s1
    have hm : out.length + (ink (l.take i)).length ≤ 137438953471 := by omega
    simp only [List.map_append] at so
    generalize ink (l.take i) = S at *
    by_cases hb : l[i].r = 32
    · have hbb : l[i].blank = true := by simp [Glyph.blank, hb]
      rw [if_pos hbb, List.append_nil] at ht
      simp [hlt, hlt', hgp, hb, hw]
      exact ⟨l.length - (i + 1), by omega, i + 1, rfl, by omega, by rw [ht], by omega⟩
    · have hbb : ¬ l[i].blank = true := by simp [Glyph.blank, hb]
      rw [if_neg hbb] at ht
      simp [hlt, hlt', hgp, hb, hw, so, s1, lenMax]
      exact ⟨hm, l.length - (i + 1), by omega, i + 1, rfl, by omega, by rw [ht]; simp [hgp], by omega⟩
  · simp at hlt
    obtain rfl : i = l.length := by omega
    simp
def ltr (l : List TRow) : List Glyph := l.flatMap fun r => r.cells.flatMap ink
namespace Node
mutual
def lvs : Node → List Glyph
  | mk _ _ _ text kids rows grid => ink text ++ rows.flatMap ink ++ ltr grid.rows ++ lvsL kids
def lvsL : List Node → List Glyph
  | [] => []
  | x :: l => x.lvs ++ lvsL l
end
theorem lvs_eq (x : Node) : x.lvs = ink x.text ++ x.rows.flatMap ink ++ ltr x.grid.rows ++ lvsL x.kids := by cases x; rw [lvs]; rfl
theorem lvsL_eq (l : List Node) : lvsL l = l.flatMap lvs := by
  induction l with
  | nil => rw [lvsL]; rfl
  | cons x l ih => rw [lvsL, ih]; rfl
end Node
theorem flat_take {α β : Type} (f : α → List β) {l : List α} {i : Nat} (h : i < l.length) : (l.take (i + 1)).flatMap f = (l.take i).flatMap f ++ f l[i] := by
  rw [List.take_succ_eq_append_getElem h, List.flatMap_append]; simp
theorem flat_lenG {α β : Type} (f : α → List β) (g : α → Nat) : ∀ (l : List α), (∀ x ∈ l, (f x).length ≤ g x) → (l.flatMap f).length ≤ sumBy g l
  | [], _ => by simp [sumBy]
  | x :: l, h => by
    have h1 := flat_lenG f g l fun y hy => h y (by simp [hy])
    have h2 := h x (by simp)
    rw [List.flatMap_cons, List.length_append, sumBy]; omega
theorem sumLen' {α : Type} (f : α → Nat) (h : ∀ x, 1 ≤ f x) (l : List α) : l.length ≤ sumBy f l := by
  induction l with
  | nil => simp [sumBy]
  | cons x l ih => rw [sumBy, List.length_cons]; have := h x; omega
theorem rowInk_len (l : List (List Glyph)) : (l.flatMap ink).length ≤ rowsLong l := flat_lenG _ _ _ fun r _ => by have := ink_len r; omega
theorem cellInk_len (l : List (List Glyph)) : (l.flatMap ink).length ≤ sumBy List.length l := flat_lenG _ _ _ fun r _ => ink_len r
theorem ltr_len (l : List TRow) : (ltr l).length ≤ sumBy trowLong l := flat_lenG _ _ _ fun r _ => by have := cellInk_len r.cells; unfold trowLong; omega
theorem lvs_len : ∀ (n : Nat) (l : List Node), SizeOf.sizeOf l < n → (Node.lvsL l).length ≤ sumBy Node.long l := by
  intro n
  induction n with
  | zero => intro l h; omega
  | succ n ih =>
    intro l hn
    cases l with
    | nil => rw [Node.lvsL]; simp
    | cons x l =>
      obtain ⟨h1, h2⟩ := Node.kids_size hn
      have := ih _ h1; have := ih _ h2; have := ink_len x.text; have := rowInk_len x.rows; have := ltr_len x.grid.rows
      rw [Node.lvsL, Node.lvs_eq, sumBy, Node.long_eq]
      simp only [List.length_append]; omega
set_option linter.unusedSimpArgs false in
set_option maxRecDepth 20000 in
set_option maxHeartbeats 8000000 in
theorem refLeaves : ∀ (n : Nat) (a : List Node), SizeOf.sizeOf a < n → sumBy Node.long a ≤ 1073741824 → PCon C0 39 [.sc (.sl (a.map Node.pv))] (.own ((Node.lvsL a).map Glyph.pv)) := by
  intro n
  induction n with
  | zero => intro a h; omega
  | succ n ih =>
    intro a hn hsz
    have hla := len_le_long a
    have sg : ∀ l : List Glyph, Sized 2 (l.map Glyph.pv) := sizedG
    refine penter39 ?_
    simp [Tryd.f39]
    refine loopC (fun d e H => ∃ (i : Nat) (x5 x6 x7 x8 x12 x29 x50 x66 : FV), H = [] ∧ d = a.length - i ∧ i ≤ a.length ∧
      e = [(0, .sc (.sl (a.map Node.pv))), (2, .own []), (3, .own (((a.take i).flatMap Node.lvs).map Glyph.pv)), (4, .sc (.int .i64 i)), (5, x5), (6, x6), (7, x7), (8, x8), (12, x12), (29, x29), (50, x50), (66, x66)]) (d := a.length)
      ⟨0, .undef, .undef, .undef, .undef, .undef, .undef, .undef, .undef, rfl, rfl, Nat.zero_le _, rfl⟩ ?_
    rintro d e H ⟨i, x5, x6, x7, x8, x12, x29, x50, x66, rfl, rfl, hi, rfl⟩
    simp
    refine CondC.mk (fun hlt => ?_) (fun hlt => ?_)
    · simp at hlt
      have hlt' : (i : Int) < (a.length : Int) := by omega
      have ea := Node.pv_eq a[i]
      have ht := flat_take Node.lvs hlt
      rw [Node.lvs_eq] at ht
      have hll := sumBy_mem Node.long hlt
      have hel := Node.long_eq a[i]
      have hsl : ((a.take i).flatMap Node.lvs).length ≤ sumBy Node.long (a.take i) := by
        have := lvs_len _ (a.take i) (Nat.lt_succ_self _)
        rwa [Node.lvsL_eq] at this
      have hk := ih a[i].kids (by have := Node.kids_lt (List.getElem_mem hlt); omega) (by omega)
      have hkl := lvs_len _ a[i].kids (Nat.lt_succ_self _)
      have htl := ink_len a[i].text
      have hrl := rowInk_len a[i].rows
      have hgl := ltr_len a[i].grid.rows
      have hw : IntKind.i64.wrap ((i : Int) + 1) = ((i + 1 : Nat) : Int) := by rw [wrap64 (by omega) (by omega)]; omega
      generalize (a.take i).flatMap Node.lvs = S at *
      have c1 := refInked S a[i].text (by omega)
      simp only [gl] at c1
      have hn3 : a[i].rows.length ≤ rowsLong a[i].rows := sumLen' _ (fun r => by omega) _
      have hn4 : a[i].grid.rows.length ≤ sumBy trowLong a[i].grid.rows := sumLen' _ (fun r => by unfold trowLong; omega) _
      simp [hlt, hlt', ea, gl]
      refine CallH.mk callable66 (by simp) (by simp) c1 ?_
      simp
      refine loopC (fun d e H => ∃ (k : Nat) (x29 : FV), H = [] ∧ d = a[i].rows.length - k ∧ k ≤ a[i].rows.length ∧
        e = [(0, .sc (.sl (a.map Node.pv))), (2, .own []), (3, .own ((S ++ ink a[i].text ++ (a[i].rows.take k).flatMap ink).map Glyph.pv)), (4, .sc (.int .i64 i)), (5, .sc (.int .i64 k)), (6, x6), (7, x7), (8, x8), (12, .sc (.bool true)), (29, x29), (50, x50), (66, x66)]) (d := a[i].rows.length)
        ⟨0, x29, rfl, rfl, Nat.zero_le _, by simp⟩ ?_
      rintro d e H ⟨k, x29, rfl, rfl, hk', rfl⟩
      simp [hlt, hlt', ea, gl]
      refine CondC.mk (fun hlk => ?_) (fun hlk => ?_)
      · simp at hlk
        have hlk' : (k : Int) < (a[i].rows.length : Int) := by omega
        have ht2 := flat_take ink hlk
        have hr2 := rowInk_len (a[i].rows.take k)
        have hr3 := sumBy_mem (fun r : List Glyph => 1 + r.length) hlk
        change rowsLong _ + _ ≤ rowsLong _ at hr3
        have hwk : IntKind.i64.wrap ((k : Int) + 1) = ((k + 1 : Nat) : Int) := by rw [wrap64 (by omega) (by omega)]; omega
        generalize (a[i].rows.take k).flatMap ink = R at *
        have c2 := refInked (S ++ ink a[i].text ++ R) a[i].rows[k] (by simp only [List.length_append]; omega)
        simp [gl] at c2
        simp [hlt, hlt', hlk, hlk', ea, gl]
        refine CallH.mk callable66 (by simp) (by simp) c2 ?_
        simp [hwk]
        exact ⟨a[i].rows.length - (k + 1), by omega, k + 1, rfl, by omega, by rw [ht2]; simp, by omega⟩
      · simp at hlk
        obtain rfl : k = a[i].rows.length := by omega
        simp
        generalize hP : S ++ (ink a[i].text ++ a[i].rows.flatMap ink) = P
        have hPe : S.map Glyph.pv ++ ((ink a[i].text).map Glyph.pv ++ (a[i].rows.flatMap ink).map Glyph.pv) = P.map Glyph.pv := by rw [← hP]; simp
        have hPl : P.length ≤ S.length + a[i].text.length + rowsLong a[i].rows := by rw [← hP]; simp only [List.length_append]; omega
        refine loopC (fun d e H => ∃ (k : Nat) (x7 x8 x50 x66 : FV), H = [] ∧ d = a[i].grid.rows.length - k ∧ k ≤ a[i].grid.rows.length ∧
          e = [(0, .sc (.sl (a.map Node.pv))), (2, .own []), (3, .own ((P ++ ltr (a[i].grid.rows.take k)).map Glyph.pv)), (4, .sc (.int .i64 i)), (5, .sc (.int .i64 a[i].rows.length)), (6, .sc (.int .i64 k)), (7, x7), (8, x8), (12, .sc (.bool true)), (29, .sc (.bool false)), (50, x50), (66, x66)]) (d := a[i].grid.rows.length)
          ⟨0, x7, x8, x50, x66, rfl, rfl, Nat.zero_le _, by rw [hPe]; simp [ltr]⟩ ?_
        rintro d e H ⟨k, x7, x8, x50, x66, rfl, rfl, hk', rfl⟩
        simp [hlt, hlt', ea, gl]
        refine CondC.mk (fun hlk => ?_) (fun hlk => ?_)
        · simp at hlk
          have hlk' : (k : Int) < (a[i].grid.rows.length : Int) := by omega
          have ht2 : ltr (a[i].grid.rows.take (k + 1)) = ltr (a[i].grid.rows.take k) ++ a[i].grid.rows[k].cells.flatMap ink := flat_take (fun r : TRow => r.cells.flatMap ink) hlk
          have hr2 := ltr_len (a[i].grid.rows.take k)
          have hr3 := sumBy_mem trowLong hlk
          have hr4 : trowLong a[i].grid.rows[k] = 1 + a[i].grid.rows[k].cells.length + sumBy List.length a[i].grid.rows[k].cells := rfl
          have hwk : IntKind.i64.wrap ((k : Int) + 1) = ((k + 1 : Nat) : Int) := by rw [wrap64 (by omega) (by omega)]; omega
          generalize ltr (a[i].grid.rows.take k) = R at *
          simp [hlt, hlt', hlk, hlk', ea, gl, TRow.pv]
          refine loopC (fun d e H => ∃ (j : Nat) (x66 : FV), H = [] ∧ d = a[i].grid.rows[k].cells.length - j ∧ j ≤ a[i].grid.rows[k].cells.length ∧
            e = [(0, .sc (.sl (a.map Node.pv))), (2, .own []), (3, .own ((P ++ R ++ (a[i].grid.rows[k].cells.take j).flatMap ink).map Glyph.pv)), (4, .sc (.int .i64 i)), (5, .sc (.int .i64 a[i].rows.length)), (6, .sc (.int .i64 k)), (7, .sc (.sl (a[i].grid.rows[k].cells.map gl))), (8, .sc (.int .i64 j)), (12, .sc (.bool true)), (29, .sc (.bool false)), (50, .sc (.bool true)), (66, x66)]) (d := a[i].grid.rows[k].cells.length)
            ⟨0, x66, rfl, rfl, Nat.zero_le _, by simp [gl]⟩ ?_
          rintro d e H ⟨j, x66, rfl, rfl, hj', rfl⟩
          simp
          refine CondC.mk (fun hlj => ?_) (fun hlj => ?_)
          · simp at hlj
            have hlj' : (j : Int) < (a[i].grid.rows[k].cells.length : Int) := by omega
            have ht3 := flat_take ink hlj
            have hr5 := cellInk_len (a[i].grid.rows[k].cells.take j)
            have hr6 := sumBy_mem List.length hlj
            have hwj : IntKind.i64.wrap ((j : Int) + 1) = ((j + 1 : Nat) : Int) := by rw [wrap64 (by omega) (by omega)]; omega
            generalize (a[i].grid.rows[k].cells.take j).flatMap ink = U at *
            have c2 := refInked (P ++ R ++ U) a[i].grid.rows[k].cells[j] (by simp only [List.length_append]; omega)
            simp [gl] at c2
            simp [hlj, hlj', gl]
            refine CallH.mk callable66 (by simp) (by simp) c2 ?_
            simp [hwj]
            exact ⟨a[i].grid.rows[k].cells.length - (j + 1), by omega, j + 1, rfl, by omega, by rw [ht3]; simp, by omega⟩
          · simp at hlj
            obtain rfl : j = a[i].grid.rows[k].cells.length := by omega
            simp [hwk]
            exact ⟨a[i].grid.rows.length - (k + 1), by omega, k + 1, rfl, by omega, by rw [ht2]; simp, by omega⟩
        · simp at hlk
          obtain rfl : k = a[i].grid.rows.length := by omega
          simp [hlt, hlt', ea, gl]
          refine CallQ.mk (Call.pure callable39 (by simp) (by simp) hk) ?_
          have s3 := sg (P ++ ltr a[i].grid.rows)
          have s4 := sg (Node.lvsL a[i].kids)
          simp only [List.map_append] at s3
          simp [s3, s4, hw, lenMax]
          refine ⟨by omega, a.length - (i + 1), by omega, i + 1, rfl, by omega, ?_, by omega⟩
          rw [ht, ← hP]; simp
    · simp at hlt
      obtain rfl : i = a.length := by omega
      simp [Node.lvsL_eq]
end Go.Proofs.YtlnnnfogbakimaaDoor.Ev
end
section
namespace Go.Proofs.YtlnnnfogbakimaaDoor.Ev
open Go
def Asc (n : Int) : Prop := 0 ≤ n ∧ n < 128
theorem wrapAny {k : IntKind} {n : Int} (h : Asc n) : k.wrap n = n := by
  obtain ⟨h0, h1⟩ := h
  cases k <;> simp [IntKind.wrap, IntKind.signed, IntKind.bits] <;> omega
set_option linter.unusedSimpArgs false in
set_option maxRecDepth 20000 in
set_option maxHeartbeats 4000000 in
theorem value1 (n : Int) (h : Asc n) : PCon C0 124 [.sc (.sl [.int .u8 n])] (.sc (.int .i64 n)) := by
  refine penter124 ?_
  simp [Tryd.f124, wrapAny h]
  refine loopC (fun d e H => ∃ x11 x15 x19 x26, d = 0 ∧ e = [(0, .sc (.sl [.int .u8 n])), (2, .sc (.int .i64 0)), (3, .sc (.int .i64 n)), (4, .sc (.int .i64 1)), (10, .sc (.int .i64 1)), (11, x11), (15, x15), (19, x19), (26, x26)]) (d := 0) ⟨_, _, _, _, rfl, rfl⟩ ?_
  rintro d e H ⟨x11, x15, x19, x26, rfl, rfl⟩
  simp
set_option linter.unusedSimpArgs false in
set_option maxRecDepth 20000 in
set_option maxHeartbeats 4000000 in
theorem valid1 (n : Int) (h : Asc n) : PCon C0 137 [.sc (.int .i32 n)] (.sc (.bool true)) := by
  refine penter137 ?_
  obtain ⟨h0, h1⟩ := h
  have h2 : n < 1114112 := by omega
  have h3 : n < 55296 := by omega
  simp [Tryd.f137, h0, h2, h3]
set_option linter.unusedSimpArgs false in
set_option maxRecDepth 20000 in
set_option maxHeartbeats 4000000 in
theorem one1 (n : Int) (h : Asc n) : PCon C0 138 [.sc (.int .i32 n)] (.own [.int .u8 n]) := by
  refine penter138 ?_
  have v := valid1 n h
  simp [Tryd.f138, wrapAny h]
  refine CallQ.mk (Call.pure callable137 (by simp) (by simp) v) ?_
  have h1 : n < 128 := h.2
  simp [h1, wrapAny h, Sized]
set_option linter.unusedSimpArgs false in
set_option maxRecDepth 20000 in
set_option maxHeartbeats 4000000 in
theorem is1 (n : Int) (h : Asc n) : PCon C0 123 [.sc (.sl [.int .u8 n])] (.sc (.bool true)) := by
  refine penter123 ?_
  have h0 : ¬ n < 0 := by have := h.1; omega
  have h1 : ¬ 1114111 < n := by have := h.2; omega
  have hb : n = max n 0 % 256 := by have := h.1; have := h.2; omega
  simp [Tryd.f123]
  refine CallQ.mk (Call.pure callable124 (by simp) (by simp) (value1 n h)) ?_
  simp [h0, h1, wrapAny h]
  refine CallQ.mk (Call.pure callable137 (by simp) (by simp) (valid1 n h)) ?_
  simp [h0, h1, wrapAny h]
  refine CallQ.mk (CallP.pure callable138 (by simp) (by simp) (one1 n h)) ?_
  simp [eq_true hb]
theorem sz8 (l : List Int) : sizedB 1 (l.map (PV.int .u8)) = true := by simp [sizedB, PV.leaves]
def u8s (l : List Int) : List PV := l.map (PV.int .u8)
def i32s (l : List Int) : List PV := l.map (PV.int .i32)
set_option linter.unusedSimpArgs false in
set_option maxRecDepth 20000 in
set_option maxHeartbeats 4000000 in
theorem decodeA (l : List Int) (hl : ∀ n ∈ l, Asc n) (hn : l.length ≤ 1073741824) : PCon C0 92 [.sc (.sl (u8s l))] (.own (i32s l)) := by
  refine penter92 ?_
  simp [Tryd.f92, u8s, i32s]
  refine loopC (fun d e H => ∃ i x5 x6 x10 x24 x33 x36, d = l.length - i ∧ i ≤ l.length ∧ e = [(0, .sc (.sl (l.map (PV.int .u8)))), (2, .own []), (3, .own ((l.take i).map (PV.int .i32))), (4, .sc (.int .i64 (i : Nat))), (5, x5), (6, x6), (10, x10), (24, x24), (33, x33), (36, x36)]) (d := l.length) ⟨0, _, _, _, _, _, _, rfl, by omega, rfl⟩ ?_
  · rintro d e H ⟨i, x5, x6, x10, x24, x33, x36, rfl, hi, rfl⟩
    simp
    refine CondC.mk (fun hlt => ?_) (fun hlt => ?_)
    · simp at hlt
      have hA := hl _ (List.getElem_mem hlt)
      have hcut : (l.map (PV.int .u8)).take (i + 1) = (l.map (PV.int .u8)).take i ++ [.int .u8 l[i]] := by
        rw [List.take_succ_eq_append_getElem (by simpa using hlt)]; simp
      have hdr : ((l.map (PV.int .u8)).take (i + 1)).drop i = [.int .u8 l[i]] := by
        rw [hcut, List.drop_left' (by simp; omega)]
      have h01 : (i : Int) ≤ (i : Int) + 1 := by omega
      have h0i : (0 : Int) ≤ (i : Int) + 1 := by omega
      have h1 : (i : Int) + 1 ≤ l.length := by omega
      have w1 : IntKind.i64.wrap ((i : Int) + 1) = (i : Int) + 1 := wrap64 (by omega) (by omega)
      simp
      refine loopC (fun d e H => ∃ (m : Nat) (x10 x24 x33 x36 : FV), d = 1 - m ∧ m ≤ 1 ∧ e = [(0, .sc (.sl (l.map (PV.int .u8)))), (2, .own []), (3, .own ((l.take i).map (PV.int .i32))), (4, .sc (.int .i64 (i : Nat))), (5, .sc (.int .i64 m)), (6, .sc (.int .i64 (m + 1 : Nat))), (10, x10), (24, x24), (33, x33), (36, x36)]) (d := 1) ?_ ?_
      · exact ⟨0, _, _, _, _, rfl, by omega, by simp; exact ⟨rfl, rfl, rfl, rfl⟩⟩
      · rintro d e H ⟨m, x10, x24, x33, x36, rfl, hm, rfl⟩
        have hm2 : m = 0 ∨ m = 1 := by omega
        rcases hm2 with rfl | rfl
        · simp [w1, h1, sz8, h0i, h01, hdr]
          refine CallQ.mk (Call.pure callable123 (by simp) (by simp) (is1 l[i] hA)) ?_
          simp
          exact ⟨1, rfl, by omega, rfl, by decide⟩
        · by_cases h2 : IntKind.i64.wrap ((i : Int) + 2) ≤ l.length
          all_goals
            simp [w1, h1, h2, sz8, h0i, h01, hdr]
            refine CallQ.mk (Call.pure callable124 (by simp) (by simp) (value1 l[i] hA)) ?_
            simp [wrapAny hA, Sized, w1]
            refine ⟨fun p hp => ?_, by unfold lenMax; omega, l.length - (i + 1), by omega, i + 1, rfl, by omega, ?_, by omega⟩
            · obtain ⟨n, _, rfl⟩ := List.mem_map.1 (List.mem_of_mem_take hp)
              rfl
            · rw [List.take_succ_eq_append_getElem (by simpa using hlt)]; simp
    · simp at hlt
      simp
      rw [List.take_of_length_le (by simpa using hlt)]
def ofS (s : ByteArray) (set : Int) : List Glyph := s.data.toList.map fun b => ⟨(b.toNat : Int), set⟩
set_option linter.unusedSimpArgs false in
set_option maxRecDepth 20000 in
set_option maxHeartbeats 4000000 in
theorem refOf (s : ByteArray) (set : Int) (hs : ∀ b ∈ s.data.toList, b.toNat < 128) (hn : s.size ≤ 1073741824) : PCon C0 57 [.sc (.str s), .sc (.int .u8 set)] (.own ((ofS s set).map Glyph.pv)) := by
  obtain ⟨l, hl⟩ : ∃ l : List Int, l = s.data.toList.map fun b => (b.toNat : Int) := ⟨_, rfl⟩
  have hb : bytesPV s = u8s l := by rw [hl]; simp [bytesPV, u8s]
  have ho : (ofS s set).map Glyph.pv = l.map fun n => .agg [.int .i32 n, .int .u8 set] := by rw [hl]; simp [ofS, Glyph.pv]
  have hla : ∀ n ∈ l, Asc n := by
    intro n h
    rw [hl] at h
    obtain ⟨b, h1, rfl⟩ := List.mem_map.1 h
    have := hs b h1
    exact ⟨by omega, by omega⟩
  have hll : l.length ≤ 1073741824 := by rw [hl]; simpa using hn
  have dc := decodeA l hla hll
  rw [ho]
  clear hl hs hn ho
  refine penter57 ?_
  simp [Tryd.f57, hb]
  refine CallQ.mk (Call.pure callable92 (by simp) (by simp) dc) ?_
  simp [i32s]
  refine loopC (fun d e H => ∃ i x14, d = l.length - i ∧ i ≤ l.length ∧ e = [(0, .sc (.str s)), (1, .sc (.int .u8 set)), (4, .own []), (5, .own (l.map (PV.int .i32))), (6, .own ((l.take i).map fun n => .agg [.int .i32 n, .int .u8 set])), (7, .sc (.int .i64 (i : Nat))), (14, x14)]) (d := l.length) ⟨0, _, rfl, by omega, rfl⟩ ?_
  rintro d e H ⟨i, x14, rfl, hi, rfl⟩
  simp
  refine CondC.mk (fun hlt => ?_) (fun hlt => ?_)
  · simp at hlt
    simp [hlt, Sized, wrapInc (i := i) (by omega)]
    refine ⟨fun p hp => ?_, by unfold lenMax; omega, l.length - (i + 1), by omega, i + 1, rfl, by omega, ?_, by omega⟩
    · obtain ⟨n, _, rfl⟩ := List.mem_map.1 (List.mem_of_mem_take hp)
      rfl
    · rw [List.take_succ_eq_append_getElem (by simpa using hlt)]; simp
  · simp at hlt
    simp
    rw [List.take_of_length_le (by simpa using hlt)]
end Go.Proofs.YtlnnnfogbakimaaDoor.Ev
end
section
namespace Go.Proofs.YtlnnnfogbakimaaDoor.Ev
open Go
structure Block where
  kind : Int
  line : Int
  inn : Int
  gap : Bool
  room : Int
  tag : List Glyph
  text : List Glyph
  rows : List (List Glyph)
  grid : Tbl
def Block.pv (x : Block) : PV := .agg [.int .i64 x.kind, .int .i64 x.line, .int .i64 x.inn, .bool x.gap, .int .i64 x.room, gl x.tag, gl x.text, .sl (x.rows.map gl), .str x.grid.cols, .sl (x.grid.rows.map TRow.pv), .bool x.grid.box, .bool x.grid.all]
theorem sizedBk (l : List Block) : Sized 12 (l.map Block.pv) := by
  intro p hp
  obtain ⟨x, _, rfl⟩ := List.mem_map.1 hp
  rfl
theorem sized12 {a b c d e f g h i j k l : PV} : Sized 12 [PV.agg [a, b, c, d, e, f, g, h, i, j, k, l]] := by
  intro p hp
  rw [List.mem_singleton.1 hp]; rfl
theorem sizedNil {n : Nat} : Sized n [] := fun _ h => by simp at h
def layB (out : List Block) (b : Block) : List Block :=
  out ++ [match out.getLast? with
    | some x => { b with gap := decide (x.kind ≠ 1) && decide (x.kind ≠ 2) }
    | none => b]
theorem layB_len (out : List Block) (b : Block) : (layB out b).length = out.length + 1 := by simp [layB]
set_option linter.unusedSimpArgs false in
set_option maxRecDepth 20000 in
set_option maxHeartbeats 4000000 in
theorem lowerLay (H : Heap) (b : Nat) (out : List Block) (x : Block) (hb : H[b]? = some [.own (out.map Block.pv)]) (hp : NP H) (hl : out.length ≤ 1073741824) :
    Con C0 125 [.ptr b 0, x.pv.toFV] H (.tup []) (H.set b [.own ((layB out x).map Block.pv)]) := by
  have hbl : b < H.length := (List.getElem?_eq_some_iff.1 hb).1
  refine con_trim (C := C0) (fn := Tryd.f125) Tryd.func125 rfl (by decide) mixed (mv := [33]) (vars := [0, 1, 3, 4, 5, 12]) (c := Tryd.f125.body.getD .skip) (by kernel_rfl) rfl ?_ ?_
  · intro fs hfs f hf
    rcases List.mem_or_eq_of_mem_set hfs with h | h
    · exact hp fs h f hf
    · subst h; simp at hf; subst hf; rfl
  simp [Tryd.f125, Block.pv, gl, heap_old hbl, hb]
  refine CondC.mk (fun h0 => ?_) (fun h0 => ?_)
  · simp at h0
    obtain ⟨k, hk⟩ : ∃ k, out.length = k + 1 := ⟨out.length - 1, by omega⟩
    have hkl : k < out.length := by omega
    have hlast : out.getLast? = some out[k] := by rw [List.getLast?_eq_getElem?, hk]; simp [hkl]
    have w1 : IntKind.i64.wrap (k : Int) = (k : Int) := wrap64 (by omega) (by omega)
    have hlm : k + 1 + 1 ≤ lenMax := by unfold lenMax; omega
    have ea : out[k].pv = .agg [.int .i64 out[k].kind, .int .i64 out[k].line, .int .i64 out[k].inn, .bool out[k].gap, .int .i64 out[k].room, gl out[k].tag, gl out[k].text, .sl (out[k].rows.map gl), .str out[k].grid.cols, .sl (out[k].grid.rows.map TRow.pv), .bool out[k].grid.box, .bool out[k].grid.all] := rfl
    by_cases h1 : out[k].kind = 1
    all_goals
      simp [heap_old hbl, hb, hk, w1, hkl, ea, h1, heap_old_set hbl, sizedBk, sized_app, sized12, hs_b hbl, hs_set hbl, heap_old_take_set, hlm]
      rw [layB, hlast]
      simp [Block.pv, gl, h1]
  · simp at h0
    subst h0
    simp [heap_old hbl, hb, heap_old_set hbl, sized12, sizedNil, hs_b hbl, hs_set hbl, heap_old_take_set]
    exact ⟨by unfold lenMax; omega, rfl⟩
mutual
def layN (inn : Int) (out : List Block) : Node → List Block
  | .mk kind line n text kids _ _ =>
    if kind = 1 then layL inn (layB out ⟨1, line, 0, false, 0, [], strong text, [], noTbl⟩) kids
    else if kind = 2 then layL inn (layB out ⟨2, line, 3, false, 0, [], strong text, [], noTbl⟩) kids
    else if kind = 3 then layL inn (layB out ⟨3, line, inn, false, 0, [], text, [], noTbl⟩) kids
    else layL (IntKind.i64.wrap (inn + n)) out kids
def layL (inn : Int) (out : List Block) : List Node → List Block
  | [] => out
  | x :: l => layL inn (layN inn out x) l
end
theorem layN_eq (inn : Int) (out : List Block) (x : Node) : layN inn out x =
    if x.kind = 1 then layL inn (layB out ⟨1, x.line, 0, false, 0, [], strong x.text, [], noTbl⟩) x.kids
    else if x.kind = 2 then layL inn (layB out ⟨2, x.line, 3, false, 0, [], strong x.text, [], noTbl⟩) x.kids
    else if x.kind = 3 then layL inn (layB out ⟨3, x.line, inn, false, 0, [], x.text, [], noTbl⟩) x.kids
    else layL (IntKind.i64.wrap (inn + x.n)) out x.kids := by cases x; rw [layN]; rfl
theorem layL_append (inn : Int) : ∀ (l m : List Node) (out : List Block), layL inn out (l ++ m) = layL inn (layL inn out l) m
  | [], m, out => by rw [List.nil_append]; conv => rhs; rw [layL]
  | x :: l, m, out => by rw [List.cons_append, layL, layL_append inn l m, layL]
theorem layL_take {inn : Int} {out : List Block} {l : List Node} {i : Nat} (h : i < l.length) : layL inn out (l.take (i + 1)) = layN inn (layL inn out (l.take i)) l[i] := by
  rw [List.take_succ_eq_append_getElem h, layL_append, layL, layL]
inductive Plain3 : Node → Prop
  | mk {kind line n : Int} {text : List Glyph} {kids : List Node} {rows : List (List Glyph)} {grid : Tbl} (h : kind = 1 ∨ kind = 2 ∨ kind = 3 ∨ kind = 5) (ht : text.length ≤ lenMax) (hk : kids.length ≤ 4611686018427387904) (hks : ∀ x ∈ kids, Plain3 x) : Plain3 (.mk kind line n text kids rows grid)
theorem Plain3.all {x : Node} (h : Plain3 x) : (x.kind = 1 ∨ x.kind = 2 ∨ x.kind = 3 ∨ x.kind = 5) ∧ x.text.length ≤ lenMax ∧ x.kids.length ≤ 4611686018427387904 ∧ ∀ y ∈ x.kids, Plain3 y := by
  cases h; exact ⟨by assumption, by assumption, by assumption, by assumption⟩
end Go.Proofs.YtlnnnfogbakimaaDoor.Ev
end
section
namespace Go.Proofs.YtlnnnfogbakimaaDoor.Ev
open Go
theorem layL_len : ∀ (n : Nat) (l : List Node), SizeOf.sizeOf l < n → ∀ inn out, out.length ≤ (layL inn out l).length := by
  intro n
  induction n with
  | zero => intro l h; omega
  | succ n ih =>
    intro l hn inn out
    cases l with
    | nil => rw [layL]; exact Nat.le_refl _
    | cons x l =>
      have hx : SizeOf.sizeOf x.kids < n ∧ SizeOf.sizeOf l < n := by
        cases x; simp at hn ⊢; omega
      rw [layL]
      have h1 : out.length ≤ (layN inn out x).length := by
        rw [layN_eq]
        have h1 := fun i o => ih x.kids hx.1 i o
        split
        · exact Nat.le_trans (by rw [layB_len]; omega) (h1 _ _)
        · split
          · exact Nat.le_trans (by rw [layB_len]; omega) (h1 _ _)
          · split
            · exact Nat.le_trans (by rw [layB_len]; omega) (h1 _ _)
            · exact h1 _ _
      exact Nat.le_trans h1 (ih l hx.2 _ _)
set_option linter.unusedSimpArgs false in
set_option maxRecDepth 20000 in
set_option maxHeartbeats 4000000 in
theorem lowerNode (x : Node) (hx : Plain3 x) (ih : ∀ (H : Heap) (b : Nat) (inn : Int) (out : List Block), H[b]? = some [.own (out.map Block.pv)] → NP H → (layL inn out x.kids).length ≤ 1073741824 →
      Con C0 58 [.ptr b 0, .sc (.int .i64 inn), .sc (.sl (x.kids.map Node.pv))] H (.tup []) (H.set b [.own ((layL inn out x.kids).map Block.pv)]))
    (H : Heap) (b : Nat) (inn : Int) (out : List Block) (hb : H[b]? = some [.own (out.map Block.pv)]) (hp : NP H) (hl : (layN inn out x).length ≤ 1073741824) (ho : out.length ≤ 1073741824) :
    Con C0 93 [.ptr b 0, .sc (.int .i64 inn), x.pv.toFV] H (.tup []) (H.set b [.own ((layN inn out x).map Block.pv)]) := by
  have hbl : b < H.length := (List.getElem?_eq_some_iff.1 hb).1
  have hset : ∀ l : List PV, NP (H.set b [.own l]) := fun l fs hfs f hf => by
    rcases List.mem_or_eq_of_mem_set hfs with h | h
    · exact hp fs h f hf
    · subst h; simp at hf; subst hf; rfl
  refine con_trim (C := C0) (fn := Tryd.f93) Tryd.func93 rfl (by decide) mixed (mv := [98, 2000015, 2000017, 2000026]) (vars := [0, 1, 2, 5, 6, 7, 9, 17, 18, 20, 22, 24, 26, 28, 30, 66, 91, 92, 93, 94]) (c := Tryd.f93.body.getD .skip) (by kernel_rfl) rfl (hset _) ?_
  obtain ⟨hk, ht, hkl, hks⟩ := hx.all
  rw [layN_eq] at hl ⊢
  have ea := Node.pv_eq x
  rcases hk with h1 | h1 | h1 | h1
  · have st := treeStrong x.text ht
    simp [h1] at hl ⊢
    simp [Tryd.f93, ea, gl, h1]
    refine CallQ.mk (Call.pure callable34 (by simp) (by simp) st) ?_
    simp [gl, hs_at, hs_at0, hb, heap_old hbl]
    refine CallQ.mk (Call.shared callable125 (lowerLay _ b out ⟨1, x.line, 0, false, 0, [], strong x.text, [], noTbl⟩ (by rw [heap_old hbl]; exact hb) ?_ ho)) ?_
    · exact np_app hp (np_cons (by simp) (np_cons (by simp) np_nil))
    simp [heap_old_set hbl, hs_at, hs_at0]
    refine CallQ.mk (Call.shared callable58 (ih _ b inn _ (hs_b hbl) ?_ hl)) ?_
    · exact np_app (hset _) (np_cons (by simp) (np_cons (by simp) np_nil))
    simp [hs_set hbl, heap_old_take_set]
  · have st := treeStrong x.text ht
    simp [h1] at hl ⊢
    simp [Tryd.f93, ea, gl, h1]
    refine CallQ.mk (Call.pure callable34 (by simp) (by simp) st) ?_
    simp [gl, hs_at, hs_at0, hb, heap_old hbl]
    refine CallQ.mk (Call.shared callable125 (lowerLay _ b out ⟨2, x.line, 3, false, 0, [], strong x.text, [], noTbl⟩ (by rw [heap_old hbl]; exact hb) ?_ ho)) ?_
    · exact np_app hp (np_cons (by simp) (np_cons (by simp) np_nil))
    simp [heap_old_set hbl, hs_at, hs_at0]
    refine CallQ.mk (Call.shared callable58 (ih _ b inn _ (hs_b hbl) ?_ hl)) ?_
    · exact np_app (hset _) (np_cons (by simp) (np_cons (by simp) np_nil))
    simp [hs_set hbl, heap_old_take_set]
  · have st := cloneG x.text ht
    simp [h1] at hl ⊢
    simp [Tryd.f93, ea, gl, h1]
    refine CallQ.mk (Call.pure callable62 (by simp) (by simp) st) ?_
    simp [gl, hs_at, hs_at0, hb, heap_old hbl]
    refine CallQ.mk (Call.shared callable125 (lowerLay _ b out ⟨3, x.line, inn, false, 0, [], x.text, [], noTbl⟩ (by rw [heap_old hbl]; exact hb) ?_ ho)) ?_
    · exact np_app hp (np_cons (by simp) (np_cons (by simp) np_nil))
    simp [heap_old_set hbl, hs_at, hs_at0]
    refine CallQ.mk (Call.shared callable58 (ih _ b inn _ (hs_b hbl) ?_ hl)) ?_
    · exact np_app (hset _) (np_cons (by simp) (np_cons (by simp) np_nil))
    simp [hs_set hbl, heap_old_take_set]
  · simp [h1] at hl ⊢
    simp [Tryd.f93, ea, gl, h1]
    refine CallQ.mk (Call.shared callable58 (ih _ b _ out (by rw [heap_old hbl]; exact hb) ?_ hl)) ?_
    · exact np_app hp (np_cons (by simp) (np_cons (by simp) np_nil))
    simp [heap_old_set hbl, heap_old_take_set]
set_option linter.unusedSimpArgs false in
set_option maxRecDepth 20000 in
set_option maxHeartbeats 4000000 in
theorem lowerNodes : ∀ (n : Nat) (l : List Node), SizeOf.sizeOf l < n → (∀ x ∈ l, Plain3 x) → l.length ≤ 4611686018427387904 → ∀ (H : Heap) (b : Nat) (inn : Int) (out : List Block), H[b]? = some [.own (out.map Block.pv)] → NP H → (layL inn out l).length ≤ 1073741824 →
      Con C0 58 [.ptr b 0, .sc (.int .i64 inn), .sc (.sl (l.map Node.pv))] H (.tup []) (H.set b [.own ((layL inn out l).map Block.pv)]) := by
  intro n
  induction n with
  | zero => intro l h; omega
  | succ n ih =>
    intro l hn hall hll H b inn out hb hp hfin
    have hbl : b < H.length := (List.getElem?_eq_some_iff.1 hb).1
    have hset : ∀ l : List PV, NP (H.set b [.own l]) := fun l fs hfs f hf => by
      rcases List.mem_or_eq_of_mem_set hfs with h | h
      · exact hp fs h f hf
      · subst h; simp at hf; subst hf; rfl
    refine con_trim (C := C0) (fn := Tryd.f58) Tryd.func58 rfl (by decide) mixed (mv := []) (vars := [0, 1, 2, 7, 8, 9, 10, 11]) (c := Tryd.f58.body.getD .skip) rfl rfl (hset _) ?_
    simp [Tryd.f58]
    refine loopC (fun d e H' => ∃ (i : Nat) (X : Heap) (x7 x11 : FV), d = l.length - i ∧ i ≤ l.length ∧ H' = H.set b [.own ((layL inn out (l.take i)).map Block.pv)] ++ X ∧ NP X ∧ e = [(0, .ptr b 0), (1, .sc (.int .i64 inn)), (2, .sc (.sl (l.map Node.pv))), (7, x7), (8, .sc (.sl (l.map Node.pv))), (9, .sc (.int .i64 l.length)), (10, .sc (.int .i64 (i : Nat))), (11, x11)]) (d := l.length)
      ⟨0, [], _, _, by omega, by omega, by rw [List.take_zero, layL, List.append_nil, set_same hb], np_nil, rfl⟩ ?_
    rintro d e H' ⟨i, X, x7, x11, rfl, hi, rfl, hX, rfl⟩
    simp
    refine CondC.mk (fun hlt => ?_) (fun hlt => ?_)
    · simp at hlt
      have hm : l[i] ∈ l := List.getElem_mem hlt
      have ea := Node.pv_eq l[i]
      have hk := (hall _ hm).all
      have hlen : (layL inn out (l.take i)).length ≤ (layN inn (layL inn out (l.take i)) l[i]).length ∧ (layN inn (layL inn out (l.take i)) l[i]).length ≤ 1073741824 := by
        have h1 := layL_len _ [l[i]] (Nat.lt_succ_self _) inn (layL inn out (l.take i))
        rw [layL, layL] at h1
        have h2 := layL_len _ (l.drop (i + 1)) (Nat.lt_succ_self _) inn (layL inn out (l.take (i + 1)))
        rw [← layL_append, List.take_append_drop, layL_take hlt] at h2
        exact ⟨h1, Nat.le_trans h2 hfin⟩
      have nd := fun H b => lowerNode l[i] (hall _ hm) (fun H b inn out h1 h2 h3 => ih l[i].kids (by have := Node.kids_lt hm; omega) hk.2.2.2 hk.2.2.1 H b inn out h1 h2 h3) H b inn (layL inn out (l.take i))
      rw [ea] at nd
      simp [gl] at nd
      simp [hlt, ea, gl, hs_at, hs_at0]
      refine CallQ.mk (Call.shared callable93 (nd _ b (hs_b hbl) ?_ hlen.2 (Nat.le_trans hlen.1 hlen.2))) ?_
      · exact np_app (hset _) (np_app hX (np_cons (by simp) np_nil))
      simp [hs_set hbl]
      refine ⟨l.length - (i + 1), by omega, i + 1, rfl, by omega, _, by rw [layL_take hlt], np_app hX (np_cons (by simp) np_nil), by rw [wrap64 (by omega) (by omega)]; omega⟩
    · simp at hlt
      simp [heap_old_take_set]
      rw [List.take_of_length_le hlt]
end Go.Proofs.YtlnnnfogbakimaaDoor.Ev
end
section
namespace Go.Proofs.YtlnnnfogbakimaaDoor.Ev
open Go
structure Block.Ok (x : Block) : Prop where
  tag : x.tag.length ≤ 4611686018427387904
  text : x.text.length ≤ 4611686018427387904
  rows : x.rows.length ≤ 4611686018427387904
  each : ∀ r ∈ x.rows, r.length ≤ 4611686018427387904
  grid : x.grid.ok
noncomputable instance : DecidableEq Block := fun _ _ => Classical.propDecidable _
theorem Block.ext' {x y : Block} (h1 : x.kind = y.kind) (h2 : x.line = y.line) (h3 : x.inn = y.inn) (h4 : x.gap = y.gap) (h5 : x.room = y.room) (h6 : x.tag = y.tag) (h7 : x.text = y.text) (h8 : x.rows = y.rows) (h9 : x.grid = y.grid) : x = y := by
  cases x; cases y; simp_all
theorem Block.pv_eq (x : Block) : x.pv = .agg [.int .i64 x.kind, .int .i64 x.line, .int .i64 x.inn, .bool x.gap, .int .i64 x.room, gl x.tag, gl x.text, .sl (x.rows.map gl), .str x.grid.cols, .sl (x.grid.rows.map TRow.pv), .bool x.grid.box, .bool x.grid.all] := rfl
set_option linter.unusedSimpArgs false in
set_option maxRecDepth 20000 in
set_option maxHeartbeats 8000000 in
theorem refBlocksSame (a b : List Block) (hl : a.length ≤ 4611686018427387904) (hok : ∀ x ∈ a, x.Ok) : PCon C0 26 [.sc (.sl (a.map Block.pv)), .sc (.sl (b.map Block.pv))] (.sc (.bool (decide (a = b)))) := by
  refine pcon_of (C := C0) (fn := Tryd.f26) Tryd.func26 rfl (by decide) mixed (mv := []) (vars := [0, 1, 4, 5, 6, 7, 12, 16, 91]) (c := Tryd.f26.body.getD .skip) rfl ?_
  simp [Tryd.f26]
  refine CondC.mk (fun h => ?_) (fun h => ?_)
  · simp at h
    simp
    intro hab; subst hab; exact h rfl
  · simp at h
    simp
    refine loopC (fun d e H => ∃ i x6 x7 x12 x16 x91, d = a.length - i ∧ i ≤ a.length ∧ a.take i = b.take i ∧
      e = [(0, FV.sc (PV.sl (List.map Block.pv a))), (1, FV.sc (PV.sl (List.map Block.pv b))), (4, FV.sc (PV.bool false)), (5, FV.sc (.int .i64 (i : Nat))), (6, x6), (7, x7), (12, x12), (16, x16), (91, x91)]) (d := a.length) ⟨0, _, _, _, _, _, rfl, by omega, rfl, rfl⟩ ?_
    rintro d e H ⟨i, x6, x7, x12, x16, x91, rfl, hi, heq, rfl⟩
    simp
    refine CondC.mk (fun hlt => ?_) (fun hlt => ?_)
    · simp at hlt
      have hib : i < b.length := by omega
      have ea := Block.pv_eq a[i]
      have eb := Block.pv_eq b[i]
      have hx := hok _ (List.getElem_mem hlt)
      have hg0 := refSame a[i].tag b[i].tag hx.tag
      have ht := refSame a[i].text b[i].text hx.text
      have hr := refSameRows a[i].rows b[i].rows hx.rows hx.each
      have hg := refTableSame a[i].grid b[i].grid hx.grid
      by_cases h1 : a[i].kind = b[i].kind
      rotate_left
      · have hn : a ≠ b := by intro h; subst h; exact h1 rfl
        simp [hlt, hib, ea, eb, h1, hn, gl]
      by_cases h2 : a[i].line = b[i].line
      rotate_left
      · have hn : a ≠ b := by intro h; subst h; exact h2 rfl
        simp [hlt, hib, ea, eb, h1, h2, hn, gl]
      by_cases h3 : a[i].inn = b[i].inn
      rotate_left
      · have hn : a ≠ b := by intro h; subst h; exact h3 rfl
        simp [hlt, hib, ea, eb, h1, h2, h3, hn, gl]
      by_cases h4 : a[i].gap = b[i].gap
      rotate_left
      · have hn : a ≠ b := by intro h; subst h; exact h4 rfl
        have h4' : (a[i].gap == b[i].gap) = false := by simpa using h4
        simp [hlt, hib, ea, eb, h1, h2, h3, h4, h4', hn, gl]
      by_cases h5 : a[i].room = b[i].room
      rotate_left
      · have hn : a ≠ b := by intro h; subst h; exact h5 rfl
        simp [hlt, hib, ea, eb, h1, h2, h3, h4, h5, hn, gl]
      simp [hlt, hib, ea, eb, h1, h2, h3, h4, h5, gl]
      refine CallQ.mk (Call.pure callable35 (by simp) (by simp) hg0) ?_
      by_cases h6 : a[i].tag = b[i].tag
      rotate_left
      · have hn : a ≠ b := by intro h; subst h; exact h6 rfl
        simp [h6, hn]
      simp [h6]
      refine CallQ.mk (Call.pure callable35 (by simp) (by simp) ht) ?_
      by_cases h7 : a[i].text = b[i].text
      rotate_left
      · have hn : a ≠ b := by intro h; subst h; exact h7 rfl
        simp [h7, hn]
      simp [h7]
      refine CallQ.mk (Call.pure callable54 (by simp) (by simp) hr) ?_
      by_cases h8 : a[i].rows = b[i].rows
      rotate_left
      · have hn : a ≠ b := by intro h; subst h; exact h8 rfl
        simp [h8, hn]
      simp [h8]
      refine CallQ.mk (Call.pure callable23 (by simp) (by simp) hg) ?_
      by_cases h9 : a[i].grid = b[i].grid
      rotate_left
      · have hn : a ≠ b := by intro h; subst h; exact h9 rfl
        simp [h9, hn]
      simp [h9, wrapInc (i := i) (by omega)]
      exact ⟨a.length - (i + 1), by omega, i + 1, rfl, by omega, (take_succ_eq hlt hib).2 ⟨heq, Block.ext' h1 h2 h3 h4 h5 h6 h7 h8 h9⟩, by simp⟩
    · simp at hlt
      simp
      rw [List.take_of_length_le hlt, List.take_of_length_le (by omega)] at heq
      exact heq
end Go.Proofs.YtlnnnfogbakimaaDoor.Ev
end
section
namespace Go.Proofs.YtlnnnfogbakimaaDoor.Ev
open Go
set_option linter.unusedSimpArgs false in
set_option maxRecDepth 20000 in
set_option maxHeartbeats 4000000 in
theorem lowerNodesOf {P : Node → Prop} (hP : Fit P) (l : List Node) (inn : Int) (hall : ∀ x ∈ l, P x) (hl : l.length ≤ 4611686018427387904) (hpl : ∀ x ∈ (tidyL 0 0 20000 l).1, Plain3 x) (hfin : (layL (clamp 200 inn) [] (tidyL 0 0 20000 l).1).length ≤ 1073741824) :
    PCon C0 29 [.sc (.int .i64 inn), .sc (.sl (l.map Node.pv))] (.sc (.sl ((layL (clamp 200 inn) [] (tidyL 0 0 20000 l).1).map Block.pv))) := by
  have td := treeTidy' hP ⟨ByteArray.empty, ByteArray.empty, ByteArray.empty, ByteArray.empty, l⟩ hall hl
  have hcount := tidyL_count _ l (Nat.lt_succ_self _) 0 0 20000
  refine penter29 ?_
  simp [Tryd.f29]
  refine CallQ.mk (Call.pure callable18 (by simp) (by simp) td) ?_
  simp
  refine CallQ.mk (Call.shared callable58 (lowerNodes _ (tidyL 0 0 20000 l).1 (Nat.lt_succ_self _) hpl (by omega) _ 0 _ [] rfl ?_ ?_)) ?_
  · exact np_cons (by simp) np_nil
  · exact hfin
  simp
  rfl
set_option linter.unusedSimpArgs false in
set_option maxRecDepth 20000 in
set_option maxHeartbeats 4000000 in
theorem lowerBlocksOf {P : Node → Prop} (hP : Fit P) (d : Doc) (hall : ∀ x ∈ d.kids, P x) (hl : d.kids.length ≤ 4611686018427387904) (hpl : ∀ x ∈ (tidyL 0 0 20000 d.kids).1, Plain3 x) (hfin : (layL 7 [] (tidyL 0 0 20000 d.kids).1).length ≤ 1073741824) :
    PCon C0 27 [d.pv.toFV] (.sc (.sl ((layL 7 [] (tidyL 0 0 20000 d.kids).1).map Block.pv))) := by
  have nd := lowerNodesOf hP d.kids 7 hall hl hpl hfin
  refine penter27 ?_
  simp [Tryd.f27, Doc.pv]
  refine CallQ.mk (Call.pure callable29 (by simp) (by simp) nd) ?_
  simp
  rfl
def gA (s : Int) : List Glyph := [⟨65, s⟩]
def gB : List Glyph := [⟨98, 0⟩]
def k15 : List Node := [.mk 1 0 0 (gA 0) [.mk 3 0 0 gB [] [] noTbl] [] noTbl]
def w15 : List Block := [⟨1, 0, 0, false, 0, [], gA 1, [], noTbl⟩, ⟨3, 0, 7, false, 0, [], gB, [], noTbl⟩]
theorem k15Tidy : (tidyL 0 0 20000 k15).1 = k15 := by
  simp [k15, tidyL, tidyN, standsIn, hasKids, wholeN, ownN, hasText, hasN, clamp, gA, gB, squeeze, sqAll, sqStep, Node.withKids, noTbl]
theorem k15Lay : layL 7 [] k15 = w15 := by
  have : strong (gA 0) = gA 1 := by simp [strong, strongG, gA]; decide
  simp [k15, w15, layL, layN, layB, this]
set_option linter.unusedSimpArgs false in
set_option maxRecDepth 20000 in
set_option maxHeartbeats 4000000 in
theorem lowerKnown : PCon C0 25 [] (.sc (.bool true)) := by
  have h5 : ∀ x ∈ k15, Plain5 x := by
    intro x hx
    rw [List.mem_singleton.1 hx]
    refine .mk (by omega) (by omega) (by simp [gA]) (by simp) fun y hy => ?_
    rw [List.mem_singleton.1 hy]
    exact .mk (by omega) (by omega) (by simp [gB]) (by simp) (by simp)
  have h3 : ∀ x ∈ (tidyL 0 0 20000 k15).1, Plain3 x := by
    rw [k15Tidy]
    intro x hx
    rw [List.mem_singleton.1 hx]
    refine .mk (.inl rfl) (by simp [gA, lenMax]) (by simp) fun y hy => ?_
    rw [List.mem_singleton.1 hy]
    exact .mk (.inr (.inr (.inl rfl))) (by simp [gB, lenMax]) (by simp) (by simp)
  have bl := lowerBlocksOf fit5 ⟨ByteArray.empty, ByteArray.empty, ByteArray.empty, ByteArray.empty, k15⟩ h5 (by simp [k15]) h3 (by rw [k15Tidy, k15Lay]; simp [w15])
  rw [show (Doc.mk ByteArray.empty ByteArray.empty ByteArray.empty ByteArray.empty k15).kids = k15 from rfl, k15Tidy, k15Lay] at bl
  have hw : ∀ x ∈ w15, x.Ok := by
    intro x hx
    simp [w15] at hx
    rcases hx with rfl | rfl
    · exact ⟨by simp, by simp [gA], by simp, by simp, by simp [noTbl], by simp [noTbl]⟩
    · exact ⟨by simp, by simp [gB], by simp, by simp, by simp [noTbl], by simp [noTbl]⟩
  have sm := refBlocksSame w15 w15 (by simp [w15]) hw
  have oA := fun s => refOf ⟨#[65]⟩ s (by simp) (by decide)
  have oB := refOf ⟨#[98]⟩ 0 (by simp) (by decide)
  have eA : ∀ s, (ofS ⟨#[65]⟩ s).map Glyph.pv = [.agg [.int .i32 65, .int .u8 s]] := fun s => rfl
  have eB : (ofS ⟨#[98]⟩ 0).map Glyph.pv = [.agg [.int .i32 98, .int .u8 0]] := rfl
  simp only [eA] at oA
  rw [eB] at oB
  have ek : (Doc.mk ByteArray.empty ByteArray.empty ByteArray.empty ByteArray.empty k15).pv.toFV = .agg [.sc (.str ByteArray.empty), .sc (.str ByteArray.empty), .sc (.str ByteArray.empty), .sc (.str ByteArray.empty),
      .sc (.sl [.agg [.int .i64 1, .int .i64 0, .int .i64 0, .sl [.agg [.int .i32 65, .int .u8 0]], .sl [.agg [.int .i64 3, .int .i64 0, .int .i64 0, .sl [.agg [.int .i32 98, .int .u8 0]], .sl [], .sl [], .str ByteArray.empty, .sl [], .bool false, .bool false]], .sl [], .str ByteArray.empty, .sl [], .bool false, .bool false]])] := rfl
  have ew : w15.map Block.pv = [.agg [.int .i64 1, .int .i64 0, .int .i64 0, .bool false, .int .i64 0, .sl [], .sl [.agg [.int .i32 65, .int .u8 1]], .sl [], .str ByteArray.empty, .sl [], .bool false, .bool false],
      .agg [.int .i64 3, .int .i64 0, .int .i64 7, .bool false, .int .i64 0, .sl [], .sl [.agg [.int .i32 98, .int .u8 0]], .sl [], .str ByteArray.empty, .sl [], .bool false, .bool false]] := rfl
  rw [ek, ew] at bl
  rw [ew] at sm
  simp at sm
  refine penter25 ?_
  simp [Tryd.f25]
  refine CallQ.mk (Call.pure callable57 (by simp) (by simp) (oA 0)) ?_
  simp
  refine CallQ.mk (Call.pure callable57 (by simp) (by simp) oB) ?_
  simp [sized1]
  refine CallQ.mk (Call.pure callable57 (by simp) (by simp) (oA 1)) ?_
  simp
  refine CallQ.mk (Call.pure callable57 (by simp) (by simp) oB) ?_
  simp [sized12, sized1]
  refine ⟨rfl, by simp [Sized], CallQ.mk (Call.pure callable27 (by simp) (by simp) bl) ?_⟩
  simp
  refine CallQ.mk (Call.pure callable26 (by simp) (by simp) sm) ?_
  simp
end Go.Proofs.YtlnnnfogbakimaaDoor.Ev
end
