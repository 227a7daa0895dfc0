/- Of what the law BuildOwn needs: part 6. -/
import Derived.KernelRfl
import Derived.Lib.DecodeN
import Derived.Test.YtlbjfjaleefiiaaDoorProg
import Derived.Test.YtlbjfjaleefiiaaDoorBBO5
set_option linter.unusedSimpArgs false
set_option linter.unusedVariables false
section
namespace Go.Proofs.YtlbjfjaleefiiaaDoor.Ev
open Go
def firstPV : List PV := (List.range 256).map fun c => .int .u8 (Go.Lib.firstT c : Nat)
def acceptPV : List PV := (List.range 32).map fun j => .int .u8 ((if j % 2 = 0 then Go.Lib.accLo (j / 2) else Go.Lib.accHi (j / 2) : Nat) : Int)
noncomputable def C0 : Ctx := { P := Tryd.prog, laid := fun g => if g = 0 then some [.int .i32 32, .int .u8 0] else if g = 1 then some [.int .i32 32, .int .u8 0] else if g = 2 then some firstPV else if g = 3 then some acceptPV else none, keep := fun _ => True, mapT := 0, maps := fun _ => none, mapsOk := fun _ _ _ _ _ _ _ _ h => nomatch h }
theorem laidFirst : C0.laid 2 = some firstPV := rfl
theorem laidAccept : C0.laid 3 = some acceptPV := rfl
theorem C0_P : C0.P = Tryd.prog := rfl
theorem laid0 : C0.laid 0 = some [.int .i32 32, .int .u8 0] := rfl
theorem laid1 : C0.laid 1 = some [.int .i32 32, .int .u8 0] := rfl
theorem mixed : C0.P.follows .mixedOrders = true := by kernel_rfl
theorem sz3 : szOf Tryd.prog 3 = some 1 := by kernel_rfl
theorem zero3 : zeroOf Tryd.prog 3 = some (.int .i64 0) := by kernel_rfl
theorem bytes3 : bytesOf Tryd.prog 3 = some 8 := by kernel_rfl
theorem sz4 : szOf Tryd.prog 4 = some 1 := by kernel_rfl
theorem zero4 : zeroOf Tryd.prog 4 = some (.bool false) := by kernel_rfl
theorem bytes4 : bytesOf Tryd.prog 4 = some 1 := by kernel_rfl
theorem sz5 : szOf Tryd.prog 5 = some 1 := by kernel_rfl
theorem zero5 : zeroOf Tryd.prog 5 = some (.int .u8 0) := by kernel_rfl
theorem bytes5 : bytesOf Tryd.prog 5 = some 1 := by kernel_rfl
theorem sz9 : szOf Tryd.prog 9 = some 1 := by kernel_rfl
theorem zero9 : zeroOf Tryd.prog 9 = some (.string ByteArray.empty) := by kernel_rfl
theorem bytes9 : bytesOf Tryd.prog 9 = some 16 := by kernel_rfl
theorem sz20 : szOf Tryd.prog 20 = some 1 := by kernel_rfl
theorem zero20 : zeroOf Tryd.prog 20 = some (.nilIface) := by kernel_rfl
theorem bytes20 : bytesOf Tryd.prog 20 = some 16 := by kernel_rfl
theorem sz21 : szOf Tryd.prog 21 = some 1 := by kernel_rfl
theorem zero21 : zeroOf Tryd.prog 21 = some (.int .i32 0) := by kernel_rfl
theorem bytes21 : bytesOf Tryd.prog 21 = some 4 := by kernel_rfl
theorem sz22 : szOf Tryd.prog 22 = some 1 := by kernel_rfl
theorem zero22 : zeroOf Tryd.prog 22 = some (.slice none 0 0) := by kernel_rfl
theorem bytes22 : bytesOf Tryd.prog 22 = some 24 := by kernel_rfl
theorem sz23 : szOf Tryd.prog 23 = some 1 := by kernel_rfl
theorem zero23 : zeroOf Tryd.prog 23 = some (.slice none 0 0) := by kernel_rfl
theorem bytes23 : bytesOf Tryd.prog 23 = some 24 := by kernel_rfl
theorem sz24 : szOf Tryd.prog 24 = some 1 := by kernel_rfl
theorem zero24 : zeroOf Tryd.prog 24 = some (.pointer none) := by kernel_rfl
theorem bytes24 : bytesOf Tryd.prog 24 = some 8 := by kernel_rfl
theorem sz26 : szOf Tryd.prog 26 = some 1 := by kernel_rfl
theorem zero26 : zeroOf Tryd.prog 26 = some (.slice none 0 0) := by kernel_rfl
theorem bytes26 : bytesOf Tryd.prog 26 = some 24 := by kernel_rfl
theorem sz30 : szOf Tryd.prog 30 = some 2 := by kernel_rfl
theorem zero30 : zeroOf Tryd.prog 30 = some (.agg #[.int .i32 0, .int .u8 0]) := by kernel_rfl
theorem bytes30 : bytesOf Tryd.prog 30 = some 8 := by kernel_rfl
theorem tags30 : tagsOf Tryd.prog 30 = some [.int, .int] := by kernel_rfl
theorem sz31 : szOf Tryd.prog 31 = some 1 := by kernel_rfl
theorem zero31 : zeroOf Tryd.prog 31 = some (.slice none 0 0) := by kernel_rfl
theorem bytes31 : bytesOf Tryd.prog 31 = some 24 := by kernel_rfl
theorem sz33 : szOf Tryd.prog 33 = some 5 := by kernel_rfl
theorem zero33 : zeroOf Tryd.prog 33 = some (.agg #[.string ByteArray.empty, .string ByteArray.empty, .string ByteArray.empty, .string ByteArray.empty, .slice none 0 0]) := by kernel_rfl
theorem bytes33 : bytesOf Tryd.prog 33 = some 88 := by kernel_rfl
theorem sz38 : szOf Tryd.prog 38 = some 1 := by kernel_rfl
theorem zero38 : zeroOf Tryd.prog 38 = some (.slice none 0 0) := by kernel_rfl
theorem bytes38 : bytesOf Tryd.prog 38 = some 24 := by kernel_rfl
theorem sz41 : szOf Tryd.prog 41 = some 9 := by kernel_rfl
theorem zero41 : zeroOf Tryd.prog 41 = some (.agg #[.string ByteArray.empty, .string ByteArray.empty, .string ByteArray.empty, .string ByteArray.empty, .slice none 0 0, .slice none 0 0, .slice none 0 0, .int .i64 0, .bool false]) := by kernel_rfl
theorem bytes41 : bytesOf Tryd.prog 41 = some 152 := by kernel_rfl
theorem sz43 : szOf Tryd.prog 43 = some 1 := by kernel_rfl
theorem zero43 : zeroOf Tryd.prog 43 = some (.slice none 0 0) := by kernel_rfl
theorem bytes43 : bytesOf Tryd.prog 43 = some 24 := by kernel_rfl
theorem sz44 : szOf Tryd.prog 44 = some 1 := by kernel_rfl
theorem zero44 : zeroOf Tryd.prog 44 = some (.slice none 0 0) := by kernel_rfl
theorem bytes44 : bytesOf Tryd.prog 44 = some 24 := by kernel_rfl
theorem sz46 : szOf Tryd.prog 46 = some 4 := by kernel_rfl
theorem zero46 : zeroOf Tryd.prog 46 = some (.agg #[.string ByteArray.empty, .slice none 0 0, .bool false, .bool false]) := by kernel_rfl
theorem bytes46 : bytesOf Tryd.prog 46 = some 48 := by kernel_rfl
theorem sz48 : szOf Tryd.prog 48 = some 10 := by kernel_rfl
theorem zero48 : zeroOf Tryd.prog 48 = some (.agg #[.int .i64 0, .int .i64 0, .int .i64 0, .slice none 0 0, .slice none 0 0, .slice none 0 0, .string ByteArray.empty, .slice none 0 0, .bool false, .bool false]) := by kernel_rfl
theorem bytes48 : bytesOf Tryd.prog 48 = some 144 := by kernel_rfl
theorem sz49 : szOf Tryd.prog 49 = some 1 := by kernel_rfl
theorem zero49 : zeroOf Tryd.prog 49 = some (.slice none 0 0) := by kernel_rfl
theorem bytes49 : bytesOf Tryd.prog 49 = some 24 := by kernel_rfl
theorem sz51 : szOf Tryd.prog 51 = some 15 := by kernel_rfl
theorem zero51 : zeroOf Tryd.prog 51 = some (.agg #[.int .i64 0, .slice none 0 0, .int .i64 0, .int .i64 0, .int .i64 0, .slice none 0 0, .slice none 0 0, .slice none 0 0, .string ByteArray.empty, .slice none 0 0, .bool false, .bool false, .int .i64 0, .slice none 0 0, .slice none 0 0]) := by kernel_rfl
theorem bytes51 : bytesOf Tryd.prog 51 = some 232 := by kernel_rfl
theorem sz68 : szOf Tryd.prog 68 = some 9 := by kernel_rfl
theorem zero68 : zeroOf Tryd.prog 68 = some (.agg #[.string ByteArray.empty, .string ByteArray.empty, .string ByteArray.empty, .string ByteArray.empty, .slice none 0 0, .slice none 0 0, .slice none 0 0, .int .i64 0, .bool false]) := by kernel_rfl
theorem bytes68 : bytesOf Tryd.prog 68 = some 152 := by kernel_rfl
theorem sz75 : szOf Tryd.prog 75 = some 2 := by kernel_rfl
theorem zero75 : zeroOf Tryd.prog 75 = some (.agg #[.bool false, .slice none 0 0]) := by kernel_rfl
theorem bytes75 : bytesOf Tryd.prog 75 = some 32 := by kernel_rfl
theorem sz88 : szOf Tryd.prog 88 = some 1 := by kernel_rfl
theorem zero88 : zeroOf Tryd.prog 88 = some (.pointer none) := by kernel_rfl
theorem bytes88 : bytesOf Tryd.prog 88 = some 8 := by kernel_rfl
theorem sz90 : szOf Tryd.prog 90 = some 1 := by kernel_rfl
theorem zero90 : zeroOf Tryd.prog 90 = some (.agg #[.int .i64 0]) := by kernel_rfl
theorem bytes90 : bytesOf Tryd.prog 90 = some 8 := by kernel_rfl
theorem tags90 : tagsOf Tryd.prog 90 = some [.int] := by kernel_rfl
theorem sz110 : szOf Tryd.prog 110 = some 1 := by kernel_rfl
theorem zero110 : zeroOf Tryd.prog 110 = some (.nilFunc) := by kernel_rfl
theorem bytes110 : bytesOf Tryd.prog 110 = some 8 := by kernel_rfl
theorem sz111 : szOf Tryd.prog 111 = some 1 := by kernel_rfl
theorem zero111 : zeroOf Tryd.prog 111 = some (.pointer none) := by kernel_rfl
theorem bytes111 : bytesOf Tryd.prog 111 = some 8 := by kernel_rfl
theorem sz112 : szOf Tryd.prog 112 = some 1 := by kernel_rfl
theorem zero112 : zeroOf Tryd.prog 112 = some (.slice none 0 0) := by kernel_rfl
theorem bytes112 : bytesOf Tryd.prog 112 = some 24 := by kernel_rfl
theorem sz114 : szOf Tryd.prog 114 = some 2 := by kernel_rfl
theorem zero114 : zeroOf Tryd.prog 114 = some (.agg #[.pointer none, .slice none 0 0]) := by kernel_rfl
theorem bytes114 : bytesOf Tryd.prog 114 = some 32 := by kernel_rfl
theorem sz120 : szOf Tryd.prog 120 = some 1 := by kernel_rfl
theorem zero120 : zeroOf Tryd.prog 120 = some (.nilIface) := by kernel_rfl
theorem bytes120 : bytesOf Tryd.prog 120 = some 16 := by kernel_rfl
theorem sz128 : szOf Tryd.prog 128 = some 1 := by kernel_rfl
theorem zero128 : zeroOf Tryd.prog 128 = some (.pointer none) := by kernel_rfl
theorem bytes128 : bytesOf Tryd.prog 128 = some 8 := by kernel_rfl
theorem sz136 : szOf Tryd.prog 136 = some 2 := by kernel_rfl
theorem zero136 : zeroOf Tryd.prog 136 = some (.agg #[.int .u8 0, .int .u8 0]) := by kernel_rfl
theorem bytes136 : bytesOf Tryd.prog 136 = some 2 := by kernel_rfl
theorem tags136 : tagsOf Tryd.prog 136 = some [.int, .int] := by kernel_rfl
theorem sz137 : szOf Tryd.prog 137 = some 32 := by kernel_rfl
theorem zero137 : zeroOf Tryd.prog 137 = some (.agg #[.int .u8 0, .int .u8 0, .int .u8 0, .int .u8 0, .int .u8 0, .int .u8 0, .int .u8 0, .int .u8 0, .int .u8 0, .int .u8 0, .int .u8 0, .int .u8 0, .int .u8 0, .int .u8 0, .int .u8 0, .int .u8 0, .int .u8 0, .int .u8 0, .int .u8 0, .int .u8 0, .int .u8 0, .int .u8 0, .int .u8 0, .int .u8 0, .int .u8 0, .int .u8 0, .int .u8 0, .int .u8 0, .int .u8 0, .int .u8 0, .int .u8 0, .int .u8 0]) := by kernel_rfl
theorem bytes137 : bytesOf Tryd.prog 137 = some 32 := by kernel_rfl
theorem sz141 : szOf Tryd.prog 141 = some 1 := by kernel_rfl
theorem zero141 : zeroOf Tryd.prog 141 = some (.int .u32 0) := by kernel_rfl
theorem bytes141 : bytesOf Tryd.prog 141 = some 4 := by kernel_rfl
attribute [simp] C0_P laid0 laid1 sz3 zero3 bytes3 sz4 zero4 bytes4 sz5 zero5 bytes5 sz9 zero9 bytes9 sz20 zero20 bytes20 sz21 zero21 bytes21 sz22 zero22 bytes22 sz23 zero23 bytes23 sz24 zero24 bytes24 sz26 zero26 bytes26 sz30 zero30 bytes30 tags30 sz31 zero31 bytes31 sz33 zero33 bytes33 sz38 zero38 bytes38 sz41 zero41 bytes41 sz43 zero43 bytes43 sz44 zero44 bytes44 sz46 zero46 bytes46 sz48 zero48 bytes48 sz49 zero49 bytes49 sz51 zero51 bytes51 sz68 zero68 bytes68 sz75 zero75 bytes75 sz88 zero88 bytes88 sz90 zero90 bytes90 tags90 sz110 zero110 bytes110 sz111 zero111 bytes111 sz112 zero112 bytes112 sz114 zero114 bytes114 sz120 zero120 bytes120 sz128 zero128 bytes128 sz136 zero136 bytes136 tags136 sz137 zero137 bytes137 sz141 zero141 bytes141 Tryd.underlying0 Tryd.underlying3 Tryd.underlying4 Tryd.underlying5 Tryd.underlying9 Tryd.underlying20 Tryd.underlying21 Tryd.underlying22 Tryd.underlying23 Tryd.underlying24 Tryd.underlying26 Tryd.underlying30 Tryd.underlying31 Tryd.underlying33 Tryd.underlying38 Tryd.underlying41 Tryd.underlying43 Tryd.underlying44 Tryd.underlying46 Tryd.underlying48 Tryd.underlying49 Tryd.underlying51 Tryd.underlying52 Tryd.underlying68 Tryd.underlying75 Tryd.underlying88 Tryd.underlying90 Tryd.underlying94 Tryd.underlying103 Tryd.underlying110 Tryd.underlying111 Tryd.underlying112 Tryd.underlying114 Tryd.underlying115 Tryd.underlying120 Tryd.underlying121 Tryd.underlying128 Tryd.underlying134 Tryd.underlying136 Tryd.underlying137 Tryd.underlying138 Tryd.underlying141
theorem enter8 {args : List FV} {H H' : Heap} {r : FV} (h : wpC C0 3 [] [0] (Tryd.f8.body.getD .skip) (argsEnv 0 args) H fun x e H₁ => (match x with | .exit _ => False | _ => True) ∧ resultOf C0 e H₁ Tryd.f8.results.toList = some r ∧ H₁ = H') : Con C0 8 args H r H' :=
  con_of (C := C0) (fn := Tryd.f8) Tryd.func8 rfl (by decide) mixed rfl h
theorem callable8 : callable C0.P 8 = true := by kernel_rfl
theorem penter9 {args : List FV} {r : FV} (h : wpC C0 45 [] [0, 1, 2, 3, 4] (Tryd.f9.body.getD .skip) (argsEnv 0 args) [] fun x e H₁ => (match x with | .exit _ => False | _ => True) ∧ resultOf C0 e H₁ Tryd.f9.results.toList = some r ∧ True) : PCon C0 9 args r :=
  pcon_of (C := C0) (fn := Tryd.f9) Tryd.func9 rfl (by decide) mixed rfl h
theorem callable9 : callable C0.P 9 = true := by kernel_rfl
theorem enter10 {args : List FV} {H H' : Heap} {r : FV} (h : wpC C0 29 [] [0, 1, 2, 7, 12] (Tryd.f10.body.getD .skip) (argsEnv 0 args) H fun x e H₁ => (match x with | .exit _ => False | _ => True) ∧ resultOf C0 e H₁ Tryd.f10.results.toList = some r ∧ H₁ = H') : Con C0 10 args H r H' :=
  con_of (C := C0) (fn := Tryd.f10) Tryd.func10 rfl (by decide) mixed rfl h
theorem callable10 : callable C0.P 10 = true := by kernel_rfl
theorem enter11 {args : List FV} {H H' : Heap} {r : FV} (h : wpC C0 35 [8000028] [0, 10, 17] (Tryd.f11.body.getD .skip) (argsEnv 0 args) H fun x e H₁ => (match x with | .exit _ => False | _ => True) ∧ resultOf C0 e H₁ Tryd.f11.results.toList = some r ∧ H₁ = H') : Con C0 11 args H r H' :=
  con_of (C := C0) (fn := Tryd.f11) Tryd.func11 rfl (by decide) mixed (by kernel_rfl) h
theorem callable11 : callable C0.P 11 = true := by kernel_rfl
theorem callable12 : callable C0.P 12 = true := by kernel_rfl
theorem penter13 {args : List FV} {r : FV} (h : wpC C0 26 [] [0, 1, 4, 5, 10, 14, 25] (Tryd.f13.body.getD .skip) (argsEnv 0 args) [] fun x e H₁ => (match x with | .exit _ => False | _ => True) ∧ resultOf C0 e H₁ Tryd.f13.results.toList = some r ∧ True) : PCon C0 13 args r :=
  pcon_of (C := C0) (fn := Tryd.f13) Tryd.func13 rfl (by decide) mixed (by kernel_rfl) h
theorem callable13 : callable C0.P 13 = true := by kernel_rfl
theorem penter15 {args : List FV} {r : FV} (h : wpC C0 11 [] [0, 2] (Tryd.f15.body.getD .skip) (argsEnv 0 args) [] fun x e H₁ => (match x with | .exit _ => False | _ => True) ∧ resultOf C0 e H₁ Tryd.f15.results.toList = some r ∧ True) : PCon C0 15 args r :=
  pcon_of (C := C0) (fn := Tryd.f15) Tryd.func15 rfl (by decide) mixed rfl h
theorem callable15 : callable C0.P 15 = true := by kernel_rfl
theorem enter16 {args : List FV} {H H' : Heap} {r : FV} (h : wpC C0 57 [8000026] [0, 1, 3, 4, 6, 11, 27, 33, 39, 45, 53] (Tryd.f16.body.getD .skip) (argsEnv 0 args) H fun x e H₁ => (match x with | .exit _ => False | _ => True) ∧ resultOf C0 e H₁ Tryd.f16.results.toList = some r ∧ H₁ = H') : Con C0 16 args H r H' :=
  con_of (C := C0) (fn := Tryd.f16) Tryd.func16 rfl (by decide) mixed (by kernel_rfl) h
theorem callable16 : callable C0.P 16 = true := by kernel_rfl
theorem enter18 {args : List FV} {H H' : Heap} {r : FV} (h : wpC C0 10 [] [0, 2, 4] (Tryd.f18.body.getD .skip) (argsEnv 0 args) H fun x e H₁ => (match x with | .exit _ => False | _ => True) ∧ resultOf C0 e H₁ Tryd.f18.results.toList = some r ∧ H₁ = H') : Con C0 18 args H r H' :=
  con_of (C := C0) (fn := Tryd.f18) Tryd.func18 rfl (by decide) mixed rfl h
theorem callable18 : callable C0.P 18 = true := by kernel_rfl
theorem callable19 : callable C0.P 19 = true := by kernel_rfl
theorem penter21 {args : List FV} {r : FV} (h : wpC C0 38 [] [0, 1, 2, 3, 4] (Tryd.f21.body.getD .skip) (argsEnv 0 args) [] fun x e H₁ => (match x with | .exit _ => False | _ => True) ∧ resultOf C0 e H₁ Tryd.f21.results.toList = some r ∧ True) : PCon C0 21 args r :=
  pcon_of (C := C0) (fn := Tryd.f21) Tryd.func21 rfl (by decide) mixed rfl h
theorem callable21 : callable C0.P 21 = true := by kernel_rfl
theorem penter23 {args : List FV} {r : FV} (h : wpC C0 101 [100] [0, 2, 3, 4, 5, 6, 7, 8, 12, 46, 69, 90] (Tryd.f23.body.getD .skip) (argsEnv 0 args) [] fun x e H₁ => (match x with | .exit _ => False | _ => True) ∧ resultOf C0 e H₁ Tryd.f23.results.toList = some r ∧ True) : PCon C0 23 args r :=
  pcon_of (C := C0) (fn := Tryd.f23) Tryd.func23 rfl (by decide) mixed (by kernel_rfl) h
theorem callable23 : callable C0.P 23 = true := by kernel_rfl
theorem callable24 : callable C0.P 24 = true := by kernel_rfl
theorem penter25 {args : List FV} {r : FV} (h : wpC C0 28 [] [0, 1, 2, 3, 13, 18, 27] (Tryd.f25.body.getD .skip) (argsEnv 0 args) [] fun x e H₁ => (match x with | .exit _ => False | _ => True) ∧ resultOf C0 e H₁ Tryd.f25.results.toList = some r ∧ True) : PCon C0 25 args r :=
  pcon_of (C := C0) (fn := Tryd.f25) Tryd.func25 rfl (by decide) mixed rfl h
theorem callable25 : callable C0.P 25 = true := by kernel_rfl
theorem enter26 {args : List FV} {H H' : Heap} {r : FV} (h : wpC C0 46 [] [0, 1, 4, 5, 7, 9, 18, 21, 22, 23, 24, 43] (Tryd.f26.body.getD .skip) (argsEnv 0 args) H fun x e H₁ => (match x with | .exit _ => False | _ => True) ∧ resultOf C0 e H₁ Tryd.f26.results.toList = some r ∧ H₁ = H') : Con C0 26 args H r H' :=
  con_of (C := C0) (fn := Tryd.f26) Tryd.func26 rfl (by decide) mixed rfl h
theorem callable26 : callable C0.P 26 = true := by kernel_rfl
theorem enter27 {args : List FV} {H H' : Heap} {r : FV} (h : wpC C0 30 [] [0, 1, 4, 5, 11, 29] (Tryd.f27.body.getD .skip) (argsEnv 0 args) H fun x e H₁ => (match x with | .exit _ => False | _ => True) ∧ resultOf C0 e H₁ Tryd.f27.results.toList = some r ∧ H₁ = H') : Con C0 27 args H r H' :=
  con_of (C := C0) (fn := Tryd.f27) Tryd.func27 rfl (by decide) mixed (by kernel_rfl) h
theorem callable27 : callable C0.P 27 = true := by kernel_rfl
theorem enter28 {args : List FV} {H H' : Heap} {r : FV} (h : wpC C0 32 [] [0, 1, 2, 3, 4, 11] (Tryd.f28.body.getD .skip) (argsEnv 0 args) H fun x e H₁ => (match x with | .exit _ => False | _ => True) ∧ resultOf C0 e H₁ Tryd.f28.results.toList = some r ∧ H₁ = H') : Con C0 28 args H r H' :=
  con_of (C := C0) (fn := Tryd.f28) Tryd.func28 rfl (by decide) mixed rfl h
theorem callable28 : callable C0.P 28 = true := by kernel_rfl
theorem enter29 {args : List FV} {H H' : Heap} {r : FV} (h : wpC C0 20 [11, 2000016, 4000000000000000000000000000000000000000000000000000000000000000000000000000000000000000000000023329313775742927122473024, 4000000000000000000000000000000000000000000000000000000000000000000000000000000000000000000000022427416717412624331710528, 4000000000000000000000000000000000000000000000000000000000000000000000000000000000000000000000022408602227407742214873152] [0, 1, 3, 5] (Tryd.f29.body.getD .skip) (argsEnv 0 args) H fun x e H₁ => (match x with | .exit _ => False | _ => True) ∧ resultOf C0 e H₁ Tryd.f29.results.toList = some r ∧ H₁ = H') : Con C0 29 args H r H' :=
  con_of (C := C0) (fn := Tryd.f29) Tryd.func29 rfl (by decide) mixed (by kernel_rfl) h
theorem callable29 : callable C0.P 29 = true := by kernel_rfl
theorem penter30 {args : List FV} {r : FV} (h : wpC C0 78 [] [0, 1, 4, 5, 6, 7, 12, 16, 77] (Tryd.f30.body.getD .skip) (argsEnv 0 args) [] fun x e H₁ => (match x with | .exit _ => False | _ => True) ∧ resultOf C0 e H₁ Tryd.f30.results.toList = some r ∧ True) : PCon C0 30 args r :=
  pcon_of (C := C0) (fn := Tryd.f30) Tryd.func30 rfl (by decide) mixed rfl h
theorem callable30 : callable C0.P 30 = true := by kernel_rfl
theorem penter31 {args : List FV} {r : FV} (h : wpC C0 23 [] [0, 1, 4, 5, 11] (Tryd.f31.body.getD .skip) (argsEnv 0 args) [] fun x e H₁ => (match x with | .exit _ => False | _ => True) ∧ resultOf C0 e H₁ Tryd.f31.results.toList = some r ∧ True) : PCon C0 31 args r :=
  pcon_of (C := C0) (fn := Tryd.f31) Tryd.func31 rfl (by decide) mixed rfl h
theorem callable31 : callable C0.P 31 = true := by kernel_rfl
theorem penter32 {args : List FV} {r : FV} (h : wpC C0 25 [] [0, 2, 3, 18] (Tryd.f32.body.getD .skip) (argsEnv 0 args) [] fun x e H₁ => (match x with | .exit _ => False | _ => True) ∧ resultOf C0 e H₁ Tryd.f32.results.toList = some r ∧ True) : PCon C0 32 args r :=
  pcon_of (C := C0) (fn := Tryd.f32) Tryd.func32 rfl (by decide) mixed (by kernel_rfl) h
theorem callable32 : callable C0.P 32 = true := by kernel_rfl
theorem callable33 : callable C0.P 33 = true := by kernel_rfl
theorem callable34 : callable C0.P 34 = true := by kernel_rfl
theorem callable35 : callable C0.P 35 = true := by kernel_rfl
theorem enter36 {args : List FV} {H H' : Heap} {r : FV} (h : wpC C0 12 [] [0, 1, 2, 3] (Tryd.f36.body.getD .skip) (argsEnv 0 args) H fun x e H₁ => (match x with | .exit _ => False | _ => True) ∧ resultOf C0 e H₁ Tryd.f36.results.toList = some r ∧ H₁ = H') : Con C0 36 args H r H' :=
  con_of (C := C0) (fn := Tryd.f36) Tryd.func36 rfl (by decide) mixed rfl h
theorem penter36 {args : List FV} {r : FV} (h : wpC C0 12 [] [0, 1, 2, 3] (Tryd.f36.body.getD .skip) (argsEnv 0 args) [] fun x e H₁ => (match x with | .exit _ => False | _ => True) ∧ resultOf C0 e H₁ Tryd.f36.results.toList = some r ∧ True) : PCon C0 36 args r :=
  pcon_of (C := C0) (fn := Tryd.f36) Tryd.func36 rfl (by decide) mixed rfl h
theorem callable36 : callable C0.P 36 = true := by kernel_rfl
theorem penter38 {args : List FV} {r : FV} (h : wpC C0 36 [35] [0, 2, 3, 4, 8] (Tryd.f38.body.getD .skip) (argsEnv 0 args) [] fun x e H₁ => (match x with | .exit _ => False | _ => True) ∧ resultOf C0 e H₁ Tryd.f38.results.toList = some r ∧ True) : PCon C0 38 args r :=
  pcon_of (C := C0) (fn := Tryd.f38) Tryd.func38 rfl (by decide) mixed (by kernel_rfl) h
theorem callable38 : callable C0.P 38 = true := by kernel_rfl
theorem penter39 {args : List FV} {r : FV} (h : wpC C0 13 [] [0, 1, 4, 8] (Tryd.f39.body.getD .skip) (argsEnv 0 args) [] fun x e H₁ => (match x with | .exit _ => False | _ => True) ∧ resultOf C0 e H₁ Tryd.f39.results.toList = some r ∧ True) : PCon C0 39 args r :=
  pcon_of (C := C0) (fn := Tryd.f39) Tryd.func39 rfl (by decide) mixed rfl h
theorem callable39 : callable C0.P 39 = true := by kernel_rfl
theorem penter49 {args : List FV} {r : FV} (h : wpC C0 21 [20] [0, 2, 3, 4, 8] (Tryd.f49.body.getD .skip) (argsEnv 0 args) [] fun x e H₁ => (match x with | .exit _ => False | _ => True) ∧ resultOf C0 e H₁ Tryd.f49.results.toList = some r ∧ True) : PCon C0 49 args r :=
  pcon_of (C := C0) (fn := Tryd.f49) Tryd.func49 rfl (by decide) mixed rfl h
theorem callable49 : callable C0.P 49 = true := by kernel_rfl
theorem penter50 {args : List FV} {r : FV} (h : wpC C0 21 [20] [0, 2, 3, 4, 8] (Tryd.f50.body.getD .skip) (argsEnv 0 args) [] fun x e H₁ => (match x with | .exit _ => False | _ => True) ∧ resultOf C0 e H₁ Tryd.f50.results.toList = some r ∧ True) : PCon C0 50 args r :=
  pcon_of (C := C0) (fn := Tryd.f50) Tryd.func50 rfl (by decide) mixed rfl h
theorem callable50 : callable C0.P 50 = true := by kernel_rfl
theorem penter51 {args : List FV} {r : FV} (h : wpC C0 147 [] [0, 1, 2, 4, 5, 6, 32, 78, 130, 135, 146] (Tryd.f51.body.getD .skip) (argsEnv 0 args) [] fun x e H₁ => (match x with | .exit _ => False | _ => True) ∧ resultOf C0 e H₁ Tryd.f51.results.toList = some r ∧ True) : PCon C0 51 args r :=
  pcon_of (C := C0) (fn := Tryd.f51) Tryd.func51 rfl (by decide) mixed (by kernel_rfl) h
theorem callable51 : callable C0.P 51 = true := by kernel_rfl
theorem penter52 {args : List FV} {r : FV} (h : wpC C0 27 [] [0, 1, 4, 5, 10, 14, 26] (Tryd.f52.body.getD .skip) (argsEnv 0 args) [] fun x e H₁ => (match x with | .exit _ => False | _ => True) ∧ resultOf C0 e H₁ Tryd.f52.results.toList = some r ∧ True) : PCon C0 52 args r :=
  pcon_of (C := C0) (fn := Tryd.f52) Tryd.func52 rfl (by decide) mixed (by kernel_rfl) h
theorem callable52 : callable C0.P 52 = true := by kernel_rfl
theorem penter53 {args : List FV} {r : FV} (h : wpC C0 70 [] [0, 1, 2, 3, 4, 5, 33, 38, 69] (Tryd.f53.body.getD .skip) (argsEnv 0 args) [] fun x e H₁ => (match x with | .exit _ => False | _ => True) ∧ resultOf C0 e H₁ Tryd.f53.results.toList = some r ∧ True) : PCon C0 53 args r :=
  pcon_of (C := C0) (fn := Tryd.f53) Tryd.func53 rfl (by decide) mixed (by kernel_rfl) h
theorem callable53 : callable C0.P 53 = true := by kernel_rfl
theorem penter54 {args : List FV} {r : FV} (h : wpC C0 8 [] [0, 2, 4] (Tryd.f54.body.getD .skip) (argsEnv 0 args) [] fun x e H₁ => (match x with | .exit _ => False | _ => True) ∧ resultOf C0 e H₁ Tryd.f54.results.toList = some r ∧ True) : PCon C0 54 args r :=
  pcon_of (C := C0) (fn := Tryd.f54) Tryd.func54 rfl (by decide) mixed rfl h
theorem callable54 : callable C0.P 54 = true := by kernel_rfl
theorem callable55 : callable C0.P 55 = true := by kernel_rfl
theorem callable56 : callable C0.P 56 = true := by kernel_rfl
theorem penter60 {args : List FV} {r : FV} (h : wpC C0 22 [] [0, 2, 3, 16] (Tryd.f60.body.getD .skip) (argsEnv 0 args) [] fun x e H₁ => (match x with | .exit _ => False | _ => True) ∧ resultOf C0 e H₁ Tryd.f60.results.toList = some r ∧ True) : PCon C0 60 args r :=
  pcon_of (C := C0) (fn := Tryd.f60) Tryd.func60 rfl (by decide) mixed rfl h
theorem callable60 : callable C0.P 60 = true := by kernel_rfl
theorem penter63 {args : List FV} {r : FV} (h : wpC C0 27 [] [0, 1, 4] (Tryd.f63.body.getD .skip) (argsEnv 0 args) [] fun x e H₁ => (match x with | .exit _ => False | _ => True) ∧ resultOf C0 e H₁ Tryd.f63.results.toList = some r ∧ True) : PCon C0 63 args r :=
  pcon_of (C := C0) (fn := Tryd.f63) Tryd.func63 rfl (by decide) mixed rfl h
theorem callable63 : callable C0.P 63 = true := by kernel_rfl
theorem penter64 {args : List FV} {r : FV} (h : wpC C0 40 [] [0, 1, 2, 6, 13, 20] (Tryd.f64.body.getD .skip) (argsEnv 0 args) [] fun x e H₁ => (match x with | .exit _ => False | _ => True) ∧ resultOf C0 e H₁ Tryd.f64.results.toList = some r ∧ True) : PCon C0 64 args r :=
  pcon_of (C := C0) (fn := Tryd.f64) Tryd.func64 rfl (by decide) mixed rfl h
theorem callable64 : callable C0.P 64 = true := by kernel_rfl
theorem penter65 {args : List FV} {r : FV} (h : wpC C0 7 [] [0, 2] (Tryd.f65.body.getD .skip) (argsEnv 0 args) [] fun x e H₁ => (match x with | .exit _ => False | _ => True) ∧ resultOf C0 e H₁ Tryd.f65.results.toList = some r ∧ True) : PCon C0 65 args r :=
  pcon_of (C := C0) (fn := Tryd.f65) Tryd.func65 rfl (by decide) mixed rfl h
theorem callable65 : callable C0.P 65 = true := by kernel_rfl
theorem penter66 {args : List FV} {r : FV} (h : wpC C0 18 [] [0, 1, 4, 5, 9, 17] (Tryd.f66.body.getD .skip) (argsEnv 0 args) [] fun x e H₁ => (match x with | .exit _ => False | _ => True) ∧ resultOf C0 e H₁ Tryd.f66.results.toList = some r ∧ True) : PCon C0 66 args r :=
  pcon_of (C := C0) (fn := Tryd.f66) Tryd.func66 rfl (by decide) mixed rfl h
theorem callable66 : callable C0.P 66 = true := by kernel_rfl
theorem penter67 {args : List FV} {r : FV} (h : wpC C0 87 [] [0, 1, 2, 3, 4, 5, 6, 25, 30, 38, 43, 72, 77, 86] (Tryd.f67.body.getD .skip) (argsEnv 0 args) [] fun x e H₁ => (match x with | .exit _ => False | _ => True) ∧ resultOf C0 e H₁ Tryd.f67.results.toList = some r ∧ True) : PCon C0 67 args r :=
  pcon_of (C := C0) (fn := Tryd.f67) Tryd.func67 rfl (by decide) mixed rfl h
theorem callable67 : callable C0.P 67 = true := by kernel_rfl
theorem enter68 {args : List FV} {H H' : Heap} {r : FV} (h : wpC C0 27 [26, 4000022] [0, 1, 4, 6, 16] (Tryd.f68.body.getD .skip) (argsEnv 0 args) H fun x e H₁ => (match x with | .exit _ => False | _ => True) ∧ resultOf C0 e H₁ Tryd.f68.results.toList = some r ∧ H₁ = H') : Con C0 68 args H r H' :=
  con_of (C := C0) (fn := Tryd.f68) Tryd.func68 rfl (by decide) mixed rfl h
theorem callable68 : callable C0.P 68 = true := by kernel_rfl
theorem penter69 {args : List FV} {r : FV} (h : wpC C0 20 [] [0, 1, 4, 5, 6, 10] (Tryd.f69.body.getD .skip) (argsEnv 0 args) [] fun x e H₁ => (match x with | .exit _ => False | _ => True) ∧ resultOf C0 e H₁ Tryd.f69.results.toList = some r ∧ True) : PCon C0 69 args r :=
  pcon_of (C := C0) (fn := Tryd.f69) Tryd.func69 rfl (by decide) mixed rfl h
theorem callable69 : callable C0.P 69 = true := by kernel_rfl
theorem penter70 {args : List FV} {r : FV} (h : wpC C0 47 [14, 15, 16, 17, 18] [0, 1, 2, 4, 5, 7, 8, 9, 10, 25, 30, 35, 40] (Tryd.f70.body.getD .skip) (argsEnv 0 args) [] fun x e H₁ => (match x with | .exit _ => False | _ => True) ∧ resultOf C0 e H₁ Tryd.f70.results.toList = some r ∧ True) : PCon C0 70 args r :=
  pcon_of (C := C0) (fn := Tryd.f70) Tryd.func70 rfl (by decide) mixed rfl h
theorem callable70 : callable C0.P 70 = true := by kernel_rfl
theorem penter71 {args : List FV} {r : FV} (h : wpC C0 35 [] [0, 1, 2, 4, 5, 13, 19, 25] (Tryd.f71.body.getD .skip) (argsEnv 0 args) [] fun x e H₁ => (match x with | .exit _ => False | _ => True) ∧ resultOf C0 e H₁ Tryd.f71.results.toList = some r ∧ True) : PCon C0 71 args r :=
  pcon_of (C := C0) (fn := Tryd.f71) Tryd.func71 rfl (by decide) mixed rfl h
theorem callable71 : callable C0.P 71 = true := by kernel_rfl
theorem penter72 {args : List FV} {r : FV} (h : wpC C0 26 [21, 22, 23, 24, 25] [0, 2, 3, 4, 5, 6, 7, 8, 10, 13, 15, 17, 19] (Tryd.f72.body.getD .skip) (argsEnv 0 args) [] fun x e H₁ => (match x with | .exit _ => False | _ => True) ∧ resultOf C0 e H₁ Tryd.f72.results.toList = some r ∧ True) : PCon C0 72 args r :=
  pcon_of (C := C0) (fn := Tryd.f72) Tryd.func72 rfl (by decide) mixed rfl h
theorem callable72 : callable C0.P 72 = true := by kernel_rfl
theorem penter75 {args : List FV} {r : FV} (h : wpC C0 44 [19, 39, 43] [0, 2, 3, 4, 10, 18, 38] (Tryd.f75.body.getD .skip) (argsEnv 0 args) [] fun x e H₁ => (match x with | .exit _ => False | _ => True) ∧ resultOf C0 e H₁ Tryd.f75.results.toList = some r ∧ True) : PCon C0 75 args r :=
  pcon_of (C := C0) (fn := Tryd.f75) Tryd.func75 rfl (by decide) mixed rfl h
theorem callable75 : callable C0.P 75 = true := by kernel_rfl
theorem penter76 {args : List FV} {r : FV} (h : wpC C0 13 [] [0, 2] (Tryd.f76.body.getD .skip) (argsEnv 0 args) [] fun x e H₁ => (match x with | .exit _ => False | _ => True) ∧ resultOf C0 e H₁ Tryd.f76.results.toList = some r ∧ True) : PCon C0 76 args r :=
  pcon_of (C := C0) (fn := Tryd.f76) Tryd.func76 rfl (by decide) mixed rfl h
theorem callable76 : callable C0.P 76 = true := by kernel_rfl
theorem penter77 {args : List FV} {r : FV} (h : wpC C0 34 [24, 28, 33] [0, 2, 3, 4, 6, 7, 8, 9, 10, 17, 23] (Tryd.f77.body.getD .skip) (argsEnv 0 args) [] fun x e H₁ => (match x with | .exit _ => False | _ => True) ∧ resultOf C0 e H₁ Tryd.f77.results.toList = some r ∧ True) : PCon C0 77 args r :=
  pcon_of (C := C0) (fn := Tryd.f77) Tryd.func77 rfl (by decide) mixed rfl h
theorem callable77 : callable C0.P 77 = true := by kernel_rfl
theorem penter78 {args : List FV} {r : FV} (h : wpC C0 19 [12, 18] [0, 2, 3, 5, 6, 7, 8, 9] (Tryd.f78.body.getD .skip) (argsEnv 0 args) [] fun x e H₁ => (match x with | .exit _ => False | _ => True) ∧ resultOf C0 e H₁ Tryd.f78.results.toList = some r ∧ True) : PCon C0 78 args r :=
  pcon_of (C := C0) (fn := Tryd.f78) Tryd.func78 rfl (by decide) mixed rfl h
theorem callable78 : callable C0.P 78 = true := by kernel_rfl
theorem penter79 {args : List FV} {r : FV} (h : wpC C0 76 [63, 69] [0, 1, 2, 3, 4, 6, 7, 8, 9, 19, 31, 32, 33, 34, 48, 55] (Tryd.f79.body.getD .skip) (argsEnv 0 args) [] fun x e H₁ => (match x with | .exit _ => False | _ => True) ∧ resultOf C0 e H₁ Tryd.f79.results.toList = some r ∧ True) : PCon C0 79 args r :=
  pcon_of (C := C0) (fn := Tryd.f79) Tryd.func79 rfl (by decide) mixed rfl h
theorem callable79 : callable C0.P 79 = true := by kernel_rfl
theorem callable81 : callable C0.P 81 = true := by kernel_rfl
theorem penter82 {args : List FV} {r : FV} (h : wpC C0 6 [5] [0, 2, 4] (Tryd.f82.body.getD .skip) (argsEnv 0 args) [] fun x e H₁ => (match x with | .exit _ => False | _ => True) ∧ resultOf C0 e H₁ Tryd.f82.results.toList = some r ∧ True) : PCon C0 82 args r :=
  pcon_of (C := C0) (fn := Tryd.f82) Tryd.func82 rfl (by decide) mixed rfl h
theorem penter83 {args : List FV} {r : FV} (h : wpC C0 9 [] [0, 1, 4] (Tryd.f83.body.getD .skip) (argsEnv 0 args) [] fun x e H₁ => (match x with | .exit _ => False | _ => True) ∧ resultOf C0 e H₁ Tryd.f83.results.toList = some r ∧ True) : PCon C0 83 args r :=
  pcon_of (C := C0) (fn := Tryd.f83) Tryd.func83 rfl (by decide) mixed rfl h
theorem callable83 : callable C0.P 83 = true := by kernel_rfl
theorem penter92 {args : List FV} {r : FV} (h : wpC C0 187 [177, 178, 179, 182] [0, 1, 4, 5, 6, 7, 8, 9, 10, 11, 12, 13, 14, 15, 16, 26, 33, 43, 51, 64, 98, 108, 124, 139, 143, 156, 160, 171, 175, 176, 177, 181, 183] (Tryd.f92.body.getD .skip) (argsEnv 0 args) [] fun x e H₁ => (match x with | .exit _ => False | _ => True) ∧ resultOf C0 e H₁ Tryd.f92.results.toList = some r ∧ True) : PCon C0 92 args r :=
  pcon_of (C := C0) (fn := Tryd.f92) Tryd.func92 rfl (by decide) mixed (by kernel_rfl) h
theorem callable92 : callable C0.P 92 = true := by kernel_rfl
theorem callable97 : callable C0.P 97 = true := by kernel_rfl
theorem callable98 : callable C0.P 98 = true := by kernel_rfl
end Go.Proofs.YtlbjfjaleefiiaaDoor.Ev
end
section
namespace Go.Proofs.YtlbjfjaleefiiaaDoor.Ev
open Go
section
variable {C : Ctx} {nt : Nat} {mv vars : List Nat} {call : Nat → FuncId → List FV → Heap → FV → Heap → Prop} {ops : Array Oper}
def KSeq (C : Ctx) (nt : Nat) (mv vars : List Nat) (b : Code) (Q : Ex → Env → Heap → Prop) : Ex → Env → Heap → Prop := fun x e H => match x with
  | .normal => wpC C nt mv vars b e H Q
  | x => Q x e H
def KBlock (id : Nat) (Q : Ex → Env → Heap → Prop) : Ex → Env → Heap → Prop := fun x e H => match x with
  | .exit i => if i = id then Q .normal e H else Q (.exit i) e H
  | x => Q x e H
def KEnd (vars : List Nat) (Q : Ex → Env → Heap → Prop) : Env → Heap → Prop := fun e H => Q .normal (keep vars e) H
def KRest (C : Ctx) (nt : Nat) (mv : List Nat) (call : Nat → FuncId → List FV → Heap → FV → Heap → Prop) (ops : Array Oper) (l : List Oper) (K : Env → Heap → Prop) : Env → Heap → Prop := fun e H => wpOps C nt mv call ops l e H K
def CondC (C : Ctx) (nt : Nat) (mv vars : List Nat) (t : Bool) (a b : Code) (e : Env) (H : Heap) (Q : Ex → Env → Heap → Prop) : Prop := Cond t (wpC C nt mv vars a e H Q) (wpC C nt mv vars b e H Q)
def LoopC (C : Ctx) (nt : Nat) (mv vars : List Nat) (c : Code) (e : Env) (H : Heap) (Q : Ex → Env → Heap → Prop) : Prop := Loop (wpC C nt mv vars c) e H Q
theorem KSeq_normal {b : Code} {Q : Ex → Env → Heap → Prop} {e : Env} {H : Heap} : KSeq C nt mv vars b Q .normal e H = wpC C nt mv vars b e H Q := rfl
theorem KSeq_exit {b : Code} {Q : Ex → Env → Heap → Prop} {e : Env} {H : Heap} {i : Nat} : KSeq C nt mv vars b Q (.exit i) e H = Q (.exit i) e H := rfl
theorem KSeq_ret {b : Code} {Q : Ex → Env → Heap → Prop} {e : Env} {H : Heap} : KSeq C nt mv vars b Q .ret e H = Q .ret e H := rfl
theorem KBlock_normal {id : Nat} {Q : Ex → Env → Heap → Prop} {e : Env} {H : Heap} : KBlock id Q .normal e H = Q .normal e H := rfl
theorem KBlock_ret {id : Nat} {Q : Ex → Env → Heap → Prop} {e : Env} {H : Heap} : KBlock id Q .ret e H = Q .ret e H := rfl
theorem KBlock_exit {id i : Nat} {Q : Ex → Env → Heap → Prop} {e : Env} {H : Heap} : KBlock id Q (.exit i) e H = if i = id then Q .normal e H else Q (.exit i) e H := rfl
theorem KEnd_apply {Q : Ex → Env → Heap → Prop} {e : Env} {H : Heap} : KEnd vars Q e H = Q .normal (keep vars e) H := rfl
theorem KRest_apply {l : List Oper} {K : Env → Heap → Prop} {e : Env} {H : Heap} : KRest C nt mv call ops l K e H = wpOps C nt mv call ops l e H K := rfl
theorem KCall_apply {e : Env} {dst : Option Nat} {K : Env → Heap → Prop} {r : FV} {H : Heap} : KCall e dst K r H = K (e.put dst r.home) H := rfl
theorem CondC_true {a b : Code} {e : Env} {H : Heap} {Q : Ex → Env → Heap → Prop} : CondC C nt mv vars true a b e H Q = wpC C nt mv vars a e H Q := by simp [CondC, Cond]
theorem CondC_false {a b : Code} {e : Env} {H : Heap} {Q : Ex → Env → Heap → Prop} : CondC C nt mv vars false a b e H Q = wpC C nt mv vars b e H Q := by simp [CondC, Cond]
theorem CondC.mk {t : Bool} {a b : Code} {e : Env} {H : Heap} {Q : Ex → Env → Heap → Prop} (h1 : t = true → wpC C nt mv vars a e H Q) (h2 : t = false → wpC C nt mv vars b e H Q) : CondC C nt mv vars t a b e H Q := ⟨h1, h2⟩
theorem NilQ.mk {l : List PV} {sg : Bool} {e : Env} {dst : Option Nat} {H : Heap} {K : Env → Heap → Prop} (h1 : l ≠ [] → K (e.put dst (.sc (.bool sg))) H) (h2 : l = [] → ∀ b, K (e.put dst (.sc (.bool b))) H) : NilQ l sg e dst H K := ⟨h1, h2⟩
section
variable {e : Env} {H : Heap} {Q : Ex → Env → Heap → Prop} {K : Env → Heap → Prop}
theorem wpC_skip : wpC C nt mv vars .skip e H Q = Q .normal e H := rfl
theorem wpC_label {l : Nat} : wpC C nt mv vars (.label l) e H Q = Q .normal e H := rfl
theorem wpC_exit {i : Nat} : wpC C nt mv vars (.exit i) e H Q = Q (.exit i) e H := rfl
theorem wpC_ret : wpC C nt mv vars .ret e H Q = Q .ret e H := rfl
theorem wpC_seq {a b : Code} : wpC C nt mv vars (.seq a b) e H Q = wpC C nt mv vars a e H (KSeq C nt mv vars b Q) := rfl
theorem wpC_block {id : Nat} {a : Code} : wpC C nt mv vars (.block id a) e H Q = wpC C nt mv vars a e H (KBlock id Q) := rfl
theorem wpC_scope {a : Code} : wpC C nt mv vars (.scope a) e H Q = wpC C nt mv vars a e H Q := rfl
theorem wpC_loop {a : Code} : wpC C nt mv vars (.loop a) e H Q = LoopC C nt mv vars a e H Q := rfl
theorem wpC_cond {c : Operand} {a b : Code} : wpC C nt mv vars (.cond c a b) e H Q = match rd C e c with
    | some (.sc (.bool t)) => CondC C nt mv vars t a b e H Q
    | _ => False := rfl
theorem wpC_region {id : Nat} {ops : Array Oper} : wpC C nt mv vars (.region id ops false) e H Q = wpOps C nt mv (fun _ => Call C) ops ops.toList e H (KEnd vars Q) := rfl
theorem wpC_regionD {id : Nat} {ops : Array Oper} : wpC C nt mv vars (.region id ops true) e H Q = (barred mv id = false ∧ DrawC C nt mv ops e H (KEnd vars Q) (ordersOf mv id)) := rfl
theorem DrawC_nil : DrawC C nt mv ops e H K [] = wpOps C nt mv (CallP C) ops ops.toList e H K := rfl
def det0 (ρ : FuncId → List FV → FV) : Rho := det ⟨ρ, fun _ _ _ => (.undef, [])⟩
theorem DrawC.mk {l : List Nat} {R : List (List Nat)} (ρ : FuncId → List FV → FV) (h : ∀ r ∈ l :: R, wpOps C nt mv (CallD C (det0 ρ)) ops (opersOf ops r) e H K) : DrawC C nt mv ops e H K (l :: R) := ⟨⟨ρ, fun _ _ _ => (.undef, [])⟩, h⟩
theorem wpOps_nil : wpOps C nt mv call ops [] e H K = K e H := rfl
def WantC (C : Ctx) (nt : Nat) (mv : List Nat) (call : Nat → FuncId → List FV → Heap → FV → Heap → Prop) (ops : Array Oper) (o : Oper) (l : List Oper) (e : Env) (H : Heap) (K : Env → Heap → Prop) : Option Bool → Prop
  | some true => wpOp C nt mv call o e H (KRest C nt mv call ops l K)
  | some false => KRest C nt mv call ops l K (e.put o.dst (.tup [])) H
  | none => False
theorem WantC_true {o : Oper} {l : List Oper} : WantC C nt mv call ops o l e H K (some true) = wpOp C nt mv call o e H (KRest C nt mv call ops l K) := rfl
theorem WantC_false {o : Oper} {l : List Oper} : WantC C nt mv call ops o l e H K (some false) = KRest C nt mv call ops l K (e.put o.dst (.tup [])) H := rfl
theorem WantC_none {o : Oper} {l : List Oper} : WantC C nt mv call ops o l e H K none = False := rfl
theorem wpOps_cons {o : Oper} {l : List Oper} : wpOps C nt mv call ops (o :: l) e H K = WantC C nt mv call ops o l e H K (wanted nt ops e o) := by
  unfold wpOps WantC
  rcases wanted nt ops e o with _ | t
  · rfl
  · cases t <;> rfl
end
end
attribute [simp] handed HandQ DrawC_nil ordersOf decOrd opersOf WantC_true WantC_false WantC_none isClear boxed rowed rowOf body rowCells MoveQ copyd ZerosQ zeroed stripO demote0 located callMode pended pendSlots PendQ setBody barred bytesConv strOf bytesFrom byteOf wpC_skip wpC_label wpC_exit wpC_ret wpC_seq wpC_block wpC_scope wpC_loop wpC_cond wpC_region wpC_regionD wpOps_nil wpOps_cons KSeq_normal KSeq_exit KSeq_ret KBlock_normal KBlock_ret KBlock_exit KEnd_apply KRest_apply KCall_apply CondC_true CondC_false
  argsEnv dstOk wanted wpOp give rd FV.ofConst FV.ofValue Env.put keep Env.get FV.home FV.homeE empd nilArg mvOf valOp demote demote1 FV.asRow FV.asList Value.cells rdAll rdParts rdo resultOf resAll resOf strip
  nilRow isAppend binOf intBin strBin unOf convOf lenOf foldMin foldMax minFrom maxFrom sliceOf loOf hiOf partOf fieldOf aggOf buildOf fillOf fieldPlaces FV.cells FV.ofValues FV.toPV FV.leafPV allPV PV.toFV PV.leaves
  FV.isLeaf PV.isLeaf FV.noPtr FV.np0 FV.np1 splice eqAll
theorem CallQ.mk {call : FuncId → List FV → Heap → FV → Heap → Prop} {f : FuncId} {args : List FV} {H H' : Heap} {r : FV} {K : FV → Heap → Prop} (h : call f args H r H') (hK : K r H') : CallQ call f args H K := ⟨r, H', h, hK⟩
theorem Call.pure {C : Ctx} {f : FuncId} {args : List FV} {H : Heap} {r : FV} (hc : callable C.P f = true) (ha : args.all FV.noPtr = true) (hr : r.noPtr = true) (h : PCon C f args r) : Call C f args H r H :=
  ⟨hc, .inl ⟨rfl, ha, hr, h⟩⟩
theorem CallP.pure {C : Ctx} {f : FuncId} {args : List FV} {H : Heap} {r : FV} (hc : callable C.P f = true) (ha : args.all FV.noPtr = true) (hr : r.noPtr = true) (h : PCon C f args r) : CallP C 0 f args H r H := by
  simp only [CallP, if_true]
  exact ⟨hc, rfl, ha, hr, h⟩
theorem CallD.pure {C : Ctx} {ρ : Rho} {f : FuncId} {args : List FV} {H : Heap} {r : FV} (hc : callable C.P f = true) (ha : args.all FV.noPtr = true) (hr : r.noPtr = true) (h : PCon C f args r) (hρ : ρ.p f args r) : CallD C ρ 0 f args H r H := by
  simp only [CallD, if_true]
  exact ⟨⟨hc, rfl, ha, hr, h⟩, hρ⟩
theorem CallP.shared {C : Ctx} {f : FuncId} {args : List FV} {H : Heap} {r : FV} {H' : Heap} (hc : callable C.P f = true) (h : Con C f args H r H') : CallP C 1 f args H r H' := by
  show (if (1 : Nat) = 0 then _ else if (1 : Nat) = 2 then _ else _)
  rw [if_neg (by decide), if_neg (by decide)]
  exact ⟨hc, .inr h⟩
theorem CallP.reads {C : Ctx} {f : FuncId} {args : List FV} {H : Heap} {r : FV} (hc : callable C.P f = true) (h : Con C f args H r H) : CallP C 2 f args H r H := by
  show (if (2 : Nat) = 0 then _ else if (2 : Nat) = 2 then _ else _)
  rw [if_neg (by decide), if_pos rfl]
  exact ⟨⟨hc, .inr h⟩, rfl⟩
theorem Call.shared {C : Ctx} {f : FuncId} {args : List FV} {H : Heap} {r : FV} {H' : Heap} (hc : callable C.P f = true) (h : Con C f args H r H') : Call C f args H r H' := ⟨hc, .inr h⟩
theorem loop_of {step : Env → Heap → (Ex → Env → Heap → Prop) → Prop} {Q : Ex → Env → Heap → Prop} (hm : ∀ e H Q Q', (∀ x e H, Q x e H → Q' x e H) → step e H Q → step e H Q') (I : Nat → Env → Heap → Prop)
    (round : ∀ d e H, I d e H → step e H fun x e' H' => match x with | .normal => ∃ d' < d, I d' e' H' | x => Q x e' H') : ∀ d e H, I d e H → Loop step e H Q := by
  have key : ∀ n d e H, d ≤ n → I d e H → iterP step (n + 1) e H Q := by
    intro n
    induction n with
    | zero =>
      intro d e H hd hI
      refine hm _ _ _ _ (fun x e' H' h => ?_) (round d e H hI)
      cases x with
      | normal => obtain ⟨d', h1, _⟩ := h; omega
      | exit i => exact h
      | ret => exact h
    | succ n ih =>
      intro d e H hd hI
      refine hm _ _ _ _ (fun x e' H' h => ?_) (round d e H hI)
      cases x with
      | normal => obtain ⟨d', h1, h2⟩ := h; exact ih d' e' H' (by omega) h2
      | exit i => exact h
      | ret => exact h
  exact fun d e H h => ⟨d + 1, key d d e H (Nat.le_refl _) h⟩
theorem wpOp_mono' {C : Ctx} {nt : Nat} {mv : List Nat} {call : Nat → FuncId → List FV → Heap → FV → Heap → Prop} {o : Oper} {e : Env} {H : Heap} {K K' : Env → Heap → Prop} (hh : ∀ e H, K e H → K' e H) (h : wpOp C nt mv call o e H K) : wpOp C nt mv call o e H K' := by
  unfold wpOp at h ⊢
  refine ⟨h.1, ?_⟩
  have h := h.2
  split at h
  · split at h
    · exact hh _ _ h
    · exact h.elim
  · split at h
    · rename_i hm
      rw [if_pos hm]
      split at h
      · exact hh _ _ h
      · exact h.elim
    · rename_i hm
      rw [if_neg hm]
      split at h
      · exact hh _ _ h
      · exact h.elim
  · split at h
    · rename_i hm
      rw [if_pos hm]
      split at h
      · split at h
        · exact hh _ _ h
        · exact h.elim
      · exact h.elim
    · rename_i hm
      rw [if_neg hm]
      split at h
      · exact hh _ _ h
      · exact h.elim
  · split at h
    · rename_i hm
      rw [if_pos hm]
      split at h
      · split at h
        · exact hh _ _ h
        · exact h.elim
      · split at h
        · exact ⟨h.1, hh _ _ h.2⟩
        · exact h.elim
      · split at h
        · obtain ⟨h1, h⟩ := h
          refine ⟨h1, ?_⟩
          split at h
          · exact hh _ _ h
          · exact h.elim
        · exact h.elim
      · exact h.elim
    · rename_i hm
      rw [if_neg hm]
      split at h
      · exact hh _ _ h
      · exact h.elim
  · split at h
    · split at h
      · exact hh _ _ h
      · exact h.elim
    · exact h.elim
  · split at h
    · split at h
      · exact ⟨h.1, hh _ _ h.2⟩
      · exact h.elim
    · exact h.elim
  · split at h
    · split at h
      · exact ⟨h.1, h.2.1, h.2.2.1, hh _ _ h.2.2.2⟩
      · exact h.elim
    · split at h
      · exact ⟨h.1, h.2.1, h.2.2.1, h.2.2.2.1, hh _ _ h.2.2.2.2⟩
      · exact h.elim
    · obtain ⟨h0, h⟩ := h
      refine ⟨h0, ?_⟩
      split at h
      · split at h
        · split at h
          · exact ⟨h.1, h.2.1, h.2.2.1, h.2.2.2.1, hh _ _ h.2.2.2.2⟩
          · exact h.elim
        · exact ⟨h.1, h.2.1, h.2.2.1, h.2.2.2.1, hh _ _ h.2.2.2.2⟩
        · exact h.elim
      · exact h.elim
    · exact h.elim
  · split at h
    · rename_i hm
      rw [if_pos hm]
      split at h
      · split at h
        · split at h
          · obtain ⟨h1, h2, h3, h4, h5, h⟩ := h
            exact ⟨h1, h2, h3, h4, h5, hh _ _ h⟩
          · exact h.elim
        · exact h.elim
      · exact h.elim
    rename_i hm
    rw [if_neg hm]
    split at h
    · split at h
      · obtain ⟨h1, h2, h3, h4, h⟩ := h
        refine ⟨h1, h2, h3, h4, ?_⟩
        split at h
        · exact ⟨h.1, hh _ _ h.2⟩
        · exact h.elim
      · exact h.elim
    · exact h.elim
  · split at h
    · rename_i hm
      rw [if_pos hm]
      split at h
      · exact hh _ _ h
      · exact hh _ _ h
      · exact hh _ _ h
      · exact hh _ _ h
      · split at h
        · exact ⟨fun hl => hh _ _ (h.1 hl), fun hl b => hh _ _ (h.2 hl b)⟩
        · exact h.elim
      · split at h
        · exact ⟨fun hl => hh _ _ (h.1 hl), fun hl b => hh _ _ (h.2 hl b)⟩
        · exact h.elim
      · exact h.elim
    · rename_i hm
      rw [if_neg hm]
      split at h
      · exact hh _ _ h
      · exact h.elim
  · split at h
    · exact hh _ _ h
    · split at h
      · exact hh _ _ h
      · exact h.elim
  · split at h
    · split at h
      · rename_i hm
        rw [if_pos hm]
        unfold HandQ at h ⊢
        split at h
        · split at h
          · obtain ⟨r, h1, h2, h3, h4, hK⟩ := h
            exact ⟨r, h1, h2, h3, h4, hh _ _ hK⟩
          · exact h.elim
        · exact h.elim
      rename_i hm
      rw [if_neg hm]
      split at h
      · obtain ⟨r, H', hc, hK⟩ := h
        exact ⟨r, H', hc, hh _ _ hK⟩
      · exact h.elim
    · split at h
      · rename_i hm
        rw [if_pos hm]
        unfold PendQ at h ⊢
        split at h
        · split at h
          · split at h
            · split at h
              · obtain ⟨h1, h2, h3, h4, h5, h6, h7, h⟩ := h
                exact ⟨h1, h2, h3, h4, h5, h6, h7, fun k o => hh _ _ (h k o)⟩
              · exact h.elim
            · exact h.elim
          · exact h.elim
        · exact h.elim
      rename_i hp0
      rw [if_neg hp0]
      split at h
      · rename_i hm
        rw [if_pos hm]
        unfold ZerosQ at h ⊢
        split at h
        · split at h
          · split at h
            · obtain ⟨h1, h2, h3, h4, h5, h6, h⟩ := h
              exact ⟨h1, h2, h3, h4, h5, h6, hh _ _ h⟩
            · exact h.elim
          · exact h.elim
        · exact h.elim
      rename_i hz0
      rw [if_neg hz0]
      split at h
      · rename_i hm
        rw [if_pos hm]
        split at h
        · split at h
          · split at h
            · split at h
              · obtain ⟨hr, h⟩ := h
                refine ⟨hr, ?_⟩
                split at h
                · obtain ⟨h1, h2, h3, h4, h5, h6, h7, h8, h9, h⟩ := h
                  exact ⟨h1, h2, h3, h4, h5, h6, h7, h8, h9, hh _ _ h⟩
                · exact h.elim
              · split at h
                · rename_i hrw
                  rw [if_pos hrw]
                  obtain ⟨h1, h⟩ := h
                  refine ⟨h1, ?_⟩
                  split at h
                  · rename_i hre
                    rw [if_pos hre]
                    obtain ⟨h3, h4, h5, h6, h⟩ := h
                    exact ⟨h3, h4, h5, h6, hh _ _ h⟩
                  rename_i hre
                  rw [if_neg hre]
                  obtain ⟨h3, h4, h5, h6, h7, h8, h⟩ := h
                  exact ⟨h3, h4, h5, h6, h7, h8, hh _ _ h⟩
                rename_i hrw
                rw [if_neg hrw]
                split at h
                · rename_i hbx
                  rw [if_pos hbx]
                  obtain ⟨h1, h2, h3, h4, h5, h6, h7, h8, h⟩ := h
                  exact ⟨h1, h2, h3, h4, h5, h6, h7, h8, hh _ _ h⟩
                · rename_i hbx
                  rw [if_neg hbx]
                  obtain ⟨h1, h2, h3, h4, h5, h6, h7, h⟩ := h
                  exact ⟨h1, h2, h3, h4, h5, h6, h7, hh _ _ h⟩
              · obtain ⟨h1, h2, h3, h4, h⟩ := h
                refine ⟨h1, h2, h3, h4, ?_⟩
                unfold MoveQ at h ⊢
                split at h
                · split at h
                  · split at h
                    · rename_i hcp
                      rw [if_pos hcp]
                      obtain ⟨p1, p2, p3, p4, h⟩ := h
                      refine ⟨p1, p2, p3, p4, ?_⟩
                      split at h
                      · split at h
                        · exact ⟨h.1, h.2.1, hh _ _ h.2.2⟩
                        · exact h.elim
                      · exact h.elim
                    rename_i hcp
                    rw [if_neg hcp]
                    obtain ⟨p1, p2, p3, p4, p5, h⟩ := h
                    refine ⟨p1, p2, p3, p4, p5, ?_⟩
                    split at h
                    · exact ⟨h.1, h.2.1, hh _ _ h.2.2⟩
                    · split at h
                      · obtain ⟨p1, p2, p3, p4, p5, h⟩ := h
                        exact ⟨p1, p2, p3, p4, p5, hh _ _ h⟩
                      · exact h.elim
                    · exact h.elim
                  · exact h.elim
                · exact h.elim
              · exact h.elim
            · exact h.elim
          · exact h.elim
        · exact h.elim
      · rename_i hm
        rw [if_neg hm]
        split at h
        · rename_i hc
          rw [if_pos hc]
          split at h
          · split at h
            · split at h
              · obtain ⟨h1, h2, h3, h⟩ := h
                exact ⟨h1, h2, h3, hh _ _ h⟩
              · exact h.elim
            · exact hh _ _ h
            · exact h.elim
          · exact h.elim
        · rename_i hc
          rw [if_neg hc]
          split at h
          · exact hh _ _ h
          · exact h.elim
    · exact h.elim
  · split at h
    · exact hh _ _ h
    · exact h.elim
theorem wpOps_mono' {C : Ctx} {nt : Nat} {mv : List Nat} {call : Nat → FuncId → List FV → Heap → FV → Heap → Prop} {ops : Array Oper} {K K' : Env → Heap → Prop} (hh : ∀ e H, K e H → K' e H) : ∀ {l : List Oper} {e : Env} {H : Heap}, wpOps C nt mv call ops l e H K → wpOps C nt mv call ops l e H K'
  | [], e, H, h => hh e H h
  | o :: l, e, H, h => by
    unfold wpOps at h ⊢
    split at h
    · exact wpOp_mono' (fun e H h => wpOps_mono' hh h) h
    · exact wpOps_mono' hh h
    · exact h.elim
theorem iterP_mono {step : Env → Heap → (Ex → Env → Heap → Prop) → Prop} (hm : ∀ e H Q Q', (∀ x e H, Q x e H → Q' x e H) → step e H Q → step e H Q') {Q Q' : Ex → Env → Heap → Prop} (hh : ∀ x e H, Q x e H → Q' x e H) : ∀ {k : Nat} {e : Env} {H : Heap}, iterP step k e H Q → iterP step k e H Q'
  | 0, _, _, h => h
  | k + 1, e, H, h => by
    unfold iterP at h ⊢
    refine hm _ _ _ _ (fun x e' H' h => ?_) h
    cases x with
    | normal => exact iterP_mono hm hh h
    | exit i => exact hh _ _ _ h
    | ret => exact hh _ _ _ h
theorem wpC_mono {C : Ctx} {nt : Nat} {mv vars : List Nat} : ∀ (c : Code) (e : Env) (H : Heap) (Q Q' : Ex → Env → Heap → Prop), (∀ x e H, Q x e H → Q' x e H) → wpC C nt mv vars c e H Q → wpC C nt mv vars c e H Q' := by
  intro c
  induction c with
  | skip => exact fun e H Q Q' hh h => hh _ _ _ h
  | label l => exact fun e H Q Q' hh h => hh _ _ _ h
  | exit id => exact fun e H Q Q' hh h => hh _ _ _ h
  | ret => exact fun e H Q Q' hh h => hh _ _ _ h
  | region id ops draw =>
    intro e H Q Q' hh h
    cases draw with
    | false => exact wpOps_mono' (fun e H h => hh _ _ _ h) (l := ops.toList) h
    | true =>
      refine ⟨h.1, ?_⟩
      have h := h.2
      revert h
      cases ordersOf mv id with
      | nil => exact fun h => wpOps_mono' (fun e H h => hh _ _ _ h) h
      | cons l R => exact fun ⟨ρ, h⟩ => ⟨ρ, fun r hr => wpOps_mono' (fun e H h => hh _ _ _ h) (h r hr)⟩
  | seq a b iha ihb =>
    intro e H Q Q' hh h
    refine iha _ _ _ _ (fun x e H h => ?_) h
    cases x with
    | normal => exact ihb _ _ _ _ hh h
    | exit i => exact hh _ _ _ h
    | ret => exact hh _ _ _ h
  | cond c a b iha ihb =>
    intro e H Q Q' hh h
    unfold wpC at h ⊢
    split at h
    · exact ⟨fun ht => iha _ _ _ _ hh (h.1 ht), fun ht => ihb _ _ _ _ hh (h.2 ht)⟩
    · exact h.elim
  | block id c ih =>
    intro e H Q Q' hh h
    refine ih _ _ _ _ (fun x e H h => ?_) h
    cases x with
    | normal => exact hh _ _ _ h
    | ret => exact hh _ _ _ h
    | exit i =>
      simp only at h ⊢
      split
      · rename_i hi; rw [if_pos hi] at h; exact hh _ _ _ h
      · rename_i hi; rw [if_neg hi] at h; exact hh _ _ _ h
  | loop c ih =>
    intro e H Q Q' hh h
    obtain ⟨k, hk⟩ := h
    exact ⟨k, iterP_mono ih hh hk⟩
  | scope c ih => exact fun e H Q Q' hh h => ih _ _ _ _ hh h
  | rangeFunc => exact fun e H Q Q' _ h => h.elim
  | goto => exact fun e H Q Q' _ h => h.elim
  | refuse => exact fun e H Q Q' _ h => h.elim
def KLoop (I : Nat → Env → Heap → Prop) (d : Nat) (Q : Ex → Env → Heap → Prop) : Ex → Env → Heap → Prop := fun x e H => match x with
  | .normal => ∃ d', d' < d ∧ I d' e H
  | x => Q x e H
theorem KLoop_normal {I : Nat → Env → Heap → Prop} {d : Nat} {Q : Ex → Env → Heap → Prop} {e : Env} {H : Heap} : KLoop I d Q .normal e H = ∃ d', d' < d ∧ I d' e H := rfl
theorem KLoop_exit {I : Nat → Env → Heap → Prop} {d : Nat} {Q : Ex → Env → Heap → Prop} {e : Env} {H : Heap} {i : Nat} : KLoop I d Q (.exit i) e H = Q (.exit i) e H := rfl
theorem KLoop_ret {I : Nat → Env → Heap → Prop} {d : Nat} {Q : Ex → Env → Heap → Prop} {e : Env} {H : Heap} : KLoop I d Q .ret e H = Q .ret e H := rfl
attribute [simp] KLoop_normal KLoop_exit KLoop_ret
theorem loopC {C : Ctx} {nt : Nat} {mv vars : List Nat} {c : Code} {Q : Ex → Env → Heap → Prop} (I : Nat → Env → Heap → Prop) {d : Nat} {e : Env} {H : Heap} (h0 : I d e H)
    (round : ∀ d e H, I d e H → wpC C nt mv vars c e H (KLoop I d Q)) : LoopC C nt mv vars c e H Q :=
  loop_of (wpC_mono c) I (fun d e H h => wpC_mono c _ _ _ _ (fun x e H h => by cases x <;> exact h) (round d e H h)) d e H h0
theorem seq_cut {C : Ctx} {nt : Nat} {mv vars : List Nat} {a b : Code} {e E : Env} {H H₁ : Heap} {Q : Ex → Env → Heap → Prop} (h : wpC C nt mv vars a e H fun x e' H' => x = .normal ∧ e' = E ∧ H' = H₁) (hK : wpC C nt mv vars b E H₁ Q) : wpC C nt mv vars (.seq a b) e H Q := by
  rw [wpC_seq]
  refine wpC_mono a e H _ _ (fun x e' H' hh => ?_) h
  obtain ⟨rfl, rfl, rfl⟩ := hh
  exact hK
end Go.Proofs.YtlbjfjaleefiiaaDoor.Ev
end
section
namespace Go.Proofs.YtlbjfjaleefiiaaDoor.Ev
open Go
theorem heap_at {H L : List (List FV)} {k : Nat} : (H ++ L)[H.length + k]? = L[k]? := by
  rw [List.getElem?_append_right (by omega)]; congr 1; omega
theorem heap_at0 {H L : List (List FV)} : (H ++ L)[H.length]? = L[0]? := heap_at (k := 0)
theorem heap_set {H L : List (List FV)} {k : Nat} {x : List FV} : (H ++ L).set (H.length + k) x = H ++ L.set k x := by
  have := List.set_append_right (s := H) (t := L) (H.length + k) x (by omega)
  rw [this]; congr 2; omega
theorem heap_set0 {H L : List (List FV)} {x : List FV} : (H ++ L).set H.length x = H ++ L.set 0 x := heap_set (k := 0)
attribute [simp] heap_at heap_at0 heap_set heap_set0 List.append_assoc
theorem wrap64 {n : Int} (h0 : -9223372036854775808 ≤ n) (h1 : n ≤ 9223372036854775807) : IntKind.i64.wrap n = n := by
  simp only [IntKind.wrap, IntKind.signed, IntKind.bits]
  simp
  omega
structure Glyph where
  r : Int
  s : Int
  deriving DecidableEq
def Glyph.pv (g : Glyph) : PV := .agg [.int .i32 g.r, .int .u8 g.s]
def gl (l : List Glyph) : PV := .sl (l.map Glyph.pv)
def sumBy {α : Type} (f : α → Nat) : List α → Nat
  | [] => 0
  | x :: l => f x + sumBy f l
theorem sumBy_append {α : Type} (f : α → Nat) (l m : List α) : sumBy f (l ++ m) = sumBy f l + sumBy f m := by
  induction l with
  | nil => simp [sumBy]
  | cons x l ih => rw [List.cons_append, sumBy, sumBy, ih]; omega
theorem sumBy_take {α : Type} (f : α → Nat) {l : List α} {i : Nat} (h : i < l.length) : sumBy f (l.take (i + 1)) = sumBy f (l.take i) + f l[i] := by
  rw [List.take_succ_eq_append_getElem h, sumBy_append]; simp [sumBy]
theorem sumBy_take_le {α : Type} (f : α → Nat) (l : List α) (i : Nat) : sumBy f (l.take i) ≤ sumBy f l := by
  conv => rhs; rw [← List.take_append_drop i l, sumBy_append]
  congr 1; omega
end Go.Proofs.YtlbjfjaleefiiaaDoor.Ev
end
section
namespace Go.Proofs.YtlbjfjaleefiiaaDoor.Ev
open Go
theorem take_succ_eq {α : Type} {a b : List α} {i : Nat} (ha : i < a.length) (hb : i < b.length) : a.take (i + 1) = b.take (i + 1) ↔ a.take i = b.take i ∧ a[i] = b[i] := by
  rw [List.take_succ_eq_append_getElem ha, List.take_succ_eq_append_getElem hb]
  constructor
  · intro h
    obtain ⟨h1, h2⟩ := List.append_inj h (by simp; omega)
    exact ⟨h1, by simpa using h2⟩
  · rintro ⟨h1, h2⟩; rw [h1, h2]
end Go.Proofs.YtlbjfjaleefiiaaDoor.Ev
end
section
namespace Go.Proofs.YtlbjfjaleefiiaaDoor.Ev
open Go
theorem wrapInc {i : Nat} (h : i < 4611686018427387904) : IntKind.i64.wrap ((i : Int) + 1) = ((i + 1 : Nat) : Int) := by
  rw [wrap64 (by omega) (by omega)]; omega
set_option maxRecDepth 20000 in
theorem refSame (a b : List Glyph) (ha : a.length ≤ 4611686018427387904) : PCon C0 13 [.sc (gl a), .sc (gl b)] (.sc (.bool (decide (a = b)))) := by
  refine penter13 ?_
  simp [Tryd.f13, gl]
  refine CondC.mk (fun h => ?_) (fun h => ?_)
  · simp at h
    simp
    intro hab; subst hab; exact h rfl
  · simp at h
    simp
    refine loopC (fun d e H => ∃ i x14 x25, d = a.length - i ∧ i ≤ a.length ∧ a.take i = b.take i ∧ e = [(0, FV.sc (PV.sl (List.map Glyph.pv a))), (1, FV.sc (PV.sl (List.map Glyph.pv b))), (4, FV.sc (PV.bool false)),
      (5, FV.sc (.int .i64 (i : Nat))), (10, FV.sc (PV.bool !decide ((a.length : Int) = b.length))), (14, x14), (25, x25)]) (d := a.length) ⟨0, .undef, .undef, ?_⟩ ?_
    · simp [h]
    · rintro d e H ⟨i, x14, x25, rfl, hi, heq, rfl⟩
      simp
      refine CondC.mk (fun hlt => ?_) (fun hlt => ?_)
      · simp at hlt
        have hib : i < b.length := by omega
        simp [hlt, hib, Glyph.pv]
        refine CondC.mk (fun hne => ?_) (fun hne => ?_)
        · simp at hne
          simp
          intro hab; subst hab
          simp at hne
        · simp at hne
          simp [wrapInc (i := i) (by omega)]
          refine ⟨a.length - (i + 1), by omega, i + 1, rfl, by omega, (take_succ_eq hlt hib).2 ⟨heq, ?_⟩, by simp⟩
          cases hx : a[i]; cases hy : b[i]; simp_all
      · simp at hlt
        simp
        rw [List.take_of_length_le hlt, List.take_of_length_le (by omega)] at heq
        exact heq
set_option maxRecDepth 20000 in
theorem refSameRows (a b : List (List Glyph)) (ha : a.length ≤ 4611686018427387904) (hs : ∀ x ∈ a, x.length ≤ 4611686018427387904) : PCon C0 52 [.sc (.sl (a.map gl)), .sc (.sl (b.map gl))] (.sc (.bool (decide (a = b)))) := by
  refine penter52 ?_
  simp [Tryd.f52]
  refine CondC.mk (fun h => ?_) (fun h => ?_)
  · simp at h
    simp
    intro hab; subst hab; exact h rfl
  · simp at h
    simp
    refine loopC (fun d e H => ∃ i x14 x26, d = a.length - i ∧ i ≤ a.length ∧ a.take i = b.take i ∧ e = [(0, FV.sc (PV.sl (List.map gl a))), (1, FV.sc (PV.sl (List.map gl b))), (4, FV.sc (PV.bool false)),
      (5, FV.sc (.int .i64 (i : Nat))), (10, FV.sc (PV.bool !decide ((a.length : Int) = b.length))), (14, x14), (26, x26)]) (d := a.length) ⟨0, .undef, .undef, ?_⟩ ?_
    · simp [h]
    · rintro d e H ⟨i, x14, x26, rfl, hi, heq, rfl⟩
      simp
      refine CondC.mk (fun hlt => ?_) (fun hlt => ?_)
      · simp at hlt
        have hib : i < b.length := by omega
        simp [hlt, hib]
        refine CallQ.mk (CallP.pure callable13 (by simp) (by simp) (refSame a[i] b[i] (hs _ (List.getElem_mem hlt)))) ?_
        simp
        refine CondC.mk (fun hne => ?_) (fun hne => ?_)
        · simp at hne
          simp
          intro hab; subst hab
          simp at hne
        · simp at hne
          simp [wrapInc (i := i) (by omega)]
          exact ⟨a.length - (i + 1), by omega, i + 1, rfl, by omega, (take_succ_eq hlt hib).2 ⟨heq, hne⟩, by simp⟩
      · simp at hlt
        simp
        rw [List.take_of_length_le hlt, List.take_of_length_le (by omega)] at heq
        exact heq
end Go.Proofs.YtlbjfjaleefiiaaDoor.Ev
end
section
namespace Go.Proofs.YtlbjfjaleefiiaaDoor.Ev
open Go
structure TRow where
  rule : Bool
  cells : List (List Glyph)
deriving DecidableEq
def TRow.pv (x : TRow) : PV := .agg [.bool x.rule, .sl (x.cells.map gl)]
def TRow.ok (x : TRow) : Prop := x.cells.length ≤ 4611686018427387904 ∧ ∀ c ∈ x.cells, c.length ≤ 4611686018427387904
end Go.Proofs.YtlbjfjaleefiiaaDoor.Ev
end
section
namespace Go.Proofs.YtlbjfjaleefiiaaDoor.Ev
open Go
structure Tbl where
  cols : ByteArray
  rows : List TRow
  box : Bool
  all : Bool
deriving DecidableEq
def Tbl.pv (t : Tbl) : PV := .agg [.str t.cols, .sl (t.rows.map TRow.pv), .bool t.box, .bool t.all]
def Tbl.ok (t : Tbl) : Prop := t.rows.length ≤ 4611686018427387904 ∧ ∀ c ∈ t.rows, c.ok
set_option maxRecDepth 20000 in
theorem refTableSame (a b : Tbl) (ha : a.ok) : PCon C0 53 [a.pv.toFV, b.pv.toFV] (.sc (.bool (decide (a = b)))) := by
  refine penter53 ?_
  by_cases h1 : a.cols = b.cols
  · cases h2 : a.box == b.box
    · have hn : a ≠ b := by intro h; subst h; simp at h2
      simp [Tryd.f53, Tbl.pv, h1, h2, hn]
    · cases h3 : a.all == b.all
      · have hn : a ≠ b := by intro h; subst h; simp at h3
        simp [Tryd.f53, Tbl.pv, h1, h2, h3, hn]
      · by_cases h4 : (a.rows.length : Int) = b.rows.length
        · simp [Tryd.f53, Tbl.pv, h1, h2, h3, h4]
          refine loopC (fun d e H => ∃ i x0 x1 x33 x38 x69, d = a.rows.length - i ∧ i ≤ a.rows.length ∧ a.rows.take i = b.rows.take i ∧
            H = [[FV.sc (PV.str b.cols), FV.sc (PV.sl (List.map TRow.pv a.rows)), FV.sc (PV.bool a.box), FV.sc (PV.bool a.all)], [FV.sc (PV.str b.cols), FV.sc (PV.sl (List.map TRow.pv b.rows)), FV.sc (PV.bool b.box), FV.sc (PV.bool b.all)]] ∧
            e = [(0, x0), (1, x1), (2, FV.ptr 0 0), (3, FV.ptr 1 0), (4, FV.sc (PV.bool false)), (5, FV.sc (.int .i64 (i : Nat))), (33, x33), (38, x38), (69, x69)]) (d := a.rows.length) ⟨0, _, _, _, _, _, rfl, by omega, rfl, rfl, rfl⟩ ?_
          rintro d e H ⟨i, x0, x1, x33, x38, x69, rfl, hi, heq, rfl, rfl⟩
          simp
          refine CondC.mk (fun hlt => ?_) (fun hlt => ?_)
          · simp at hlt
            have hib : i < b.rows.length := by omega
            cases hr : a.rows[i].rule == b.rows[i].rule
            · have hn : a ≠ b := by intro h; subst h; simp at hr
              simp [hlt, hib, TRow.pv, hr, hn]
            · simp [hlt, hib, TRow.pv, hr]
              have hok := ha.2 _ (List.getElem_mem hlt)
              refine CallQ.mk (CallP.pure callable52 (by simp) (by simp) (refSameRows a.rows[i].cells b.rows[i].cells hok.1 hok.2)) ?_
              simp
              refine CondC.mk (fun hne => ?_) (fun hne => ?_)
              · have hn : a ≠ b := by intro h; subst h; simp at hne
                simp [hn]
              · simp at hne
                simp [wrapInc (i := i) (by have := ha.1; omega)]
                refine ⟨a.rows.length - (i + 1), by omega, i + 1, rfl, by omega, (take_succ_eq hlt hib).2 ⟨heq, ?_⟩, by simp⟩
                cases hx : a.rows[i]; cases hy : b.rows[i]; simp_all
          · simp at hlt
            simp
            rw [List.take_of_length_le hlt, List.take_of_length_le (by omega)] at heq
            cases a; cases b; simp_all
        · have hn : a ≠ b := by intro h; subst h; simp at h4
          simp [Tryd.f53, Tbl.pv, h1, h2, h3, h4, hn]
  · have hn : a ≠ b := by intro h; subst h; simp at h1
    simp [Tryd.f53, Tbl.pv, h1, hn]
end Go.Proofs.YtlbjfjaleefiiaaDoor.Ev
end
section
namespace Go.Proofs.YtlbjfjaleefiiaaDoor.Ev
open Go
inductive Node where
  | mk (kind line n : Int) (text : List Glyph) (kids : List Node) (rows : List (List Glyph)) (grid : Tbl)
namespace Node
def kind : Node → Int | mk k _ _ _ _ _ _ => k
def line : Node → Int | mk _ k _ _ _ _ _ => k
def n : Node → Int | mk _ _ k _ _ _ _ => k
def text : Node → List Glyph | mk _ _ _ k _ _ _ => k
def kids : Node → List Node | mk _ _ _ _ k _ _ => k
def rows : Node → List (List Glyph) | mk _ _ _ _ _ k _ => k
def grid : Node → Tbl | mk _ _ _ _ _ _ k => k
@[simp] theorem kind_mk {k l m : Int} {t : List Glyph} {c : List Node} {r : List (List Glyph)} {g : Tbl} : (mk k l m t c r g).kind = k := rfl
@[simp] theorem line_mk {k l m : Int} {t : List Glyph} {c : List Node} {r : List (List Glyph)} {g : Tbl} : (mk k l m t c r g).line = l := rfl
@[simp] theorem n_mk {k l m : Int} {t : List Glyph} {c : List Node} {r : List (List Glyph)} {g : Tbl} : (mk k l m t c r g).n = m := rfl
@[simp] theorem text_mk {k l m : Int} {t : List Glyph} {c : List Node} {r : List (List Glyph)} {g : Tbl} : (mk k l m t c r g).text = t := rfl
@[simp] theorem kids_mk {k l m : Int} {t : List Glyph} {c : List Node} {r : List (List Glyph)} {g : Tbl} : (mk k l m t c r g).kids = c := rfl
@[simp] theorem rows_mk {k l m : Int} {t : List Glyph} {c : List Node} {r : List (List Glyph)} {g : Tbl} : (mk k l m t c r g).rows = r := rfl
@[simp] theorem grid_mk {k l m : Int} {t : List Glyph} {c : List Node} {r : List (List Glyph)} {g : Tbl} : (mk k l m t c r g).grid = g := rfl
mutual
def pv : Node → PV
  | mk kind line n text kids rows grid => .agg [.int .i64 kind, .int .i64 line, .int .i64 n, gl text, .sl (pvs kids), .sl (rows.map gl), .str grid.cols, .sl (grid.rows.map TRow.pv), .bool grid.box, .bool grid.all]
def pvs : List Node → List PV
  | [] => []
  | x :: l => x.pv :: pvs l
end
theorem pvs_eq (l : List Node) : pvs l = l.map pv := by
  induction l with
  | nil => rw [pvs]; rfl
  | cons x l ih => rw [pvs, ih]; rfl
theorem pv_eq (x : Node) : x.pv = .agg [.int .i64 x.kind, .int .i64 x.line, .int .i64 x.n, gl x.text, .sl (x.kids.map pv), .sl (x.rows.map gl), .str x.grid.cols, .sl (x.grid.rows.map TRow.pv), .bool x.grid.box, .bool x.grid.all] := by
  cases x; rw [pv, pvs_eq]; rfl
inductive Ok : Node → Prop
  | mk {kind line n : Int} {text : List Glyph} {kids : List Node} {rows : List (List Glyph)} {grid : Tbl}
    (ht : text.length ≤ 4611686018427387904) (hk : kids.length ≤ 4611686018427387904) (hks : ∀ x ∈ kids, Ok x) (hr : rows.length ≤ 4611686018427387904) (hrs : ∀ x ∈ rows, x.length ≤ 4611686018427387904) (hg : grid.ok) : Ok (.mk kind line n text kids rows grid)
end Node
noncomputable instance : DecidableEq Node := fun _ _ => Classical.propDecidable _
end Go.Proofs.YtlbjfjaleefiiaaDoor.Ev
end
section
namespace Go.Proofs.YtlbjfjaleefiiaaDoor.Ev
open Go
theorem Node.ext' {x y : Node} (h1 : x.kind = y.kind) (h2 : x.line = y.line) (h3 : x.n = y.n) (h4 : x.text = y.text) (h5 : x.rows = y.rows) (h6 : x.grid = y.grid) (h7 : x.kids = y.kids) : x = y := by
  cases x; cases y; simp_all
end Go.Proofs.YtlbjfjaleefiiaaDoor.Ev
end
section
namespace Go.Proofs.YtlbjfjaleefiiaaDoor.Ev
open Go
theorem Node.Ok.all {x : Node} (h : x.Ok) : x.text.length ≤ 4611686018427387904 ∧ x.kids.length ≤ 4611686018427387904 ∧ (∀ y ∈ x.kids, y.Ok) ∧ x.rows.length ≤ 4611686018427387904 ∧ (∀ y ∈ x.rows, y.length ≤ 4611686018427387904) ∧ x.grid.ok := by
  cases h; exact ⟨by assumption, by assumption, by assumption, by assumption, by assumption, by assumption⟩
theorem Node.kids_lt {x : Node} {l : List Node} (h : x ∈ l) : SizeOf.sizeOf x.kids < SizeOf.sizeOf l := by
  have h1 := List.sizeOf_lt_of_mem h
  have h2 : SizeOf.sizeOf x.kids < SizeOf.sizeOf x := by cases x; simp only [kids_mk, mk.sizeOf_spec]; omega
  omega
set_option maxRecDepth 20000 in
set_option maxHeartbeats 4000000 in
theorem refNodesSame : ∀ (n : Nat) (a : List Node), SizeOf.sizeOf a < n → a.length ≤ 4611686018427387904 → (∀ x ∈ a, x.Ok) → ∀ b : List Node, PCon C0 30 [.sc (.sl (a.map Node.pv)), .sc (.sl (b.map Node.pv))] (.sc (.bool (decide (a = b)))) := by
  intro n
  induction n with
  | zero => intro a h; omega
  | succ n ih =>
    intro a hn hl hok b
    refine penter30 ?_
    simp [Tryd.f30]
    refine CondC.mk (fun h => ?_) (fun h => ?_)
    · simp at h
      simp
      intro hab; subst hab; exact h rfl
    · simp at h
      simp
      refine loopC (fun d e H => ∃ i x6 x7 x12 x16 x77, d = a.length - i ∧ i ≤ a.length ∧ a.take i = b.take i ∧
        e = [(0, FV.sc (PV.sl (List.map Node.pv a))), (1, FV.sc (PV.sl (List.map Node.pv b))), (4, FV.sc (PV.bool false)), (5, FV.sc (.int .i64 (i : Nat))), (6, x6), (7, x7), (12, x12), (16, x16), (77, x77)]) (d := a.length) ⟨0, _, _, _, _, _, rfl, by omega, rfl, rfl⟩ ?_
      rintro d e H ⟨i, x6, x7, x12, x16, x77, rfl, hi, heq, rfl⟩
      simp
      refine CondC.mk (fun hlt => ?_) (fun hlt => ?_)
      · simp at hlt
        have hib : i < b.length := by omega
        have ea := Node.pv_eq a[i]
        have eb := Node.pv_eq b[i]
        have hx := (hok _ (List.getElem_mem hlt)).all
        have hk := ih a[i].kids (by have := Node.kids_lt (List.getElem_mem hlt); omega) hx.2.1 hx.2.2.1 b[i].kids
        have ht := refSame a[i].text b[i].text hx.1
        have hr := refSameRows a[i].rows b[i].rows hx.2.2.2.1 hx.2.2.2.2.1
        have hg := refTableSame a[i].grid b[i].grid hx.2.2.2.2.2
        by_cases h1 : a[i].kind = b[i].kind
        · by_cases h2 : a[i].line = b[i].line
          · by_cases h3 : a[i].n = b[i].n
            · simp [hlt, hib, ea, eb, h1, h2, h3, gl]
              refine CallQ.mk (Call.pure callable13 (by simp) (by simp) ht) ?_
              by_cases h4 : a[i].text = b[i].text
              · simp [h4]
                refine CallQ.mk (Call.pure callable52 (by simp) (by simp) hr) ?_
                by_cases h5 : a[i].rows = b[i].rows
                · simp [h5]
                  refine CallQ.mk (Call.pure callable53 (by simp) (by simp) hg) ?_
                  by_cases h6 : a[i].grid = b[i].grid
                  · simp [h6]
                    refine CallQ.mk (Call.pure callable30 (by simp) (by simp) hk) ?_
                    by_cases h7 : a[i].kids = b[i].kids
                    · simp [h7, wrapInc (i := i) (by omega)]
                      exact ⟨a.length - (i + 1), by omega, i + 1, rfl, by omega, (take_succ_eq hlt hib).2 ⟨heq, Node.ext' h1 h2 h3 h4 h5 h6 h7⟩, by simp⟩
                    · have hn : a ≠ b := by intro h; subst h; exact h7 rfl
                      simp [h7, hn]
                  · have hn : a ≠ b := by intro h; subst h; exact h6 rfl
                    simp [h6, hn]
                · have hn : a ≠ b := by intro h; subst h; exact h5 rfl
                  simp [h5, hn]
              · have hn : a ≠ b := by intro h; subst h; exact h4 rfl
                simp [h4, hn]
            · have hn : a ≠ b := by intro h; subst h; exact h3 rfl
              simp [hlt, hib, ea, eb, h1, h2, h3, hn, gl]
          · have hn : a ≠ b := by intro h; subst h; exact h2 rfl
            simp [hlt, hib, ea, eb, h1, h2, hn, gl]
        · have hn : a ≠ b := by intro h; subst h; exact h1 rfl
          simp [hlt, hib, ea, eb, h1, hn, gl]
      · simp at hlt
        simp
        rw [List.take_of_length_le hlt, List.take_of_length_le (by omega)] at heq
        exact heq
end Go.Proofs.YtlbjfjaleefiiaaDoor.Ev
end
section
namespace Go.Proofs.YtlbjfjaleefiiaaDoor.Ev
open Go
namespace Node
mutual
def deep : Node → Nat
  | mk _ _ _ _ kids _ _ => 1 + deeps kids
def deeps : List Node → Nat
  | [] => 0
  | x :: l => max x.deep (deeps l)
end
theorem deep_eq (x : Node) : x.deep = 1 + deeps x.kids := by cases x; rw [deep]; rfl
theorem deeps_append (l m : List Node) : deeps (l ++ m) = max (deeps l) (deeps m) := by
  induction l with
  | nil => simp [deeps]
  | cons x l ih => rw [List.cons_append, deeps, deeps, ih]; omega
end Node
theorem wrapL {k : IntKind} {a b : Int} : k.wrap (k.wrap a + b) = k.wrap (a + b) := by
  cases k <;> simp [IntKind.wrap, IntKind.signed, IntKind.bits] <;> (try split) <;> (try split) <;> omega
theorem wrapR {k : IntKind} {a b : Int} : k.wrap (a + k.wrap b) = k.wrap (a + b) := by rw [Int.add_comm, wrapL, Int.add_comm]
namespace Node
mutual
def deepW : Node → Int
  | mk _ _ _ _ kids _ _ => IntKind.i64.wrap (1 + deepsW kids)
def deepsW : List Node → Int
  | [] => 0
  | x :: l => max (deepW x) (deepsW l)
end
theorem deepW_eq (x : Node) : x.deepW = IntKind.i64.wrap (1 + deepsW x.kids) := by cases x; rw [deepW]; rfl
theorem deepsW_nn (l : List Node) : 0 ≤ deepsW l := by
  induction l with
  | nil => simp [deepsW]
  | cons x l ih => rw [deepsW]; omega
theorem deepsW_append (l m : List Node) : deepsW (l ++ m) = max (deepsW l) (deepsW m) := by
  induction l with
  | nil => have := deepsW_nn m; simp [deepsW]; omega
  | cons x l ih => rw [List.cons_append, deepsW, deepsW, ih]; omega
theorem deepsW_take {l : List Node} {i : Nat} (h : i < l.length) : deepsW (l.take (i + 1)) = max (deepsW (l.take i)) (IntKind.i64.wrap (1 + deepsW l[i].kids)) := by
  have := deepsW_nn (l.take i)
  rw [List.take_succ_eq_append_getElem h, deepsW_append, deepsW, deepW_eq, deepsW]; omega
end Node
set_option maxRecDepth 20000 in
set_option maxHeartbeats 4000000 in
theorem refDeep : ∀ (n : Nat) (a : List Node), SizeOf.sizeOf a < n → a.length ≤ 4611686018427387904 → (∀ x ∈ a, x.Ok) → PCon C0 50 [.sc (.sl (a.map Node.pv))] (.sc (.int .i64 (Node.deepsW a))) := by
  intro n
  induction n with
  | zero => intro a h; omega
  | succ n ih =>
    intro a hn hl hok
    refine penter50 ?_
    simp [Tryd.f50]
    refine loopC (fun d e H => ∃ i x2 x8, d = a.length - i ∧ i ≤ a.length ∧
      e = [(0, FV.sc (PV.sl (List.map Node.pv a))), (2, x2), (3, FV.sc (.int .i64 (Node.deepsW (a.take i)))), (4, FV.sc (.int .i64 (i : Nat))), (8, x8)]) (d := a.length) ⟨0, _, _, rfl, by omega, rfl⟩ ?_
    rintro d e H ⟨i, x2, x8, rfl, hi, rfl⟩
    simp
    refine CondC.mk (fun hlt => ?_) (fun hlt => ?_)
    · simp at hlt
      have ea := Node.pv_eq a[i]
      have hx := (hok _ (List.getElem_mem hlt)).all
      have hk := ih a[i].kids (by have := Node.kids_lt (List.getElem_mem hlt); omega) hx.2.1 hx.2.2.1
      simp [hlt, ea, gl]
      refine CallQ.mk (Call.pure callable50 (by simp) (by simp) hk) ?_
      simp [wrapInc (i := i) (by omega)]
      refine ⟨a.length - (i + 1), by omega, i + 1, rfl, by omega, ?_, by omega⟩
      rw [Node.deepsW_take hlt]
      split <;> omega
    · simp at hlt
      simp [List.take_of_length_le hlt]
end Go.Proofs.YtlbjfjaleefiiaaDoor.Ev
end
section
namespace Go.Proofs.YtlbjfjaleefiiaaDoor.Ev
open Go
def rowsLong (l : List (List Glyph)) : Nat := sumBy (fun r => 1 + r.length) l
def trowLong (r : TRow) : Nat := 1 + r.cells.length + sumBy List.length r.cells
namespace Node
mutual
def long : Node → Nat
  | mk _ _ _ text kids rows grid => 3 + text.length + grid.cols.size + longs kids + rowsLong rows + sumBy trowLong grid.rows
def longs : List Node → Nat
  | [] => 0
  | x :: l => x.long + longs l
end
theorem longs_eq (l : List Node) : longs l = sumBy long l := by
  induction l with
  | nil => rw [longs]; rfl
  | cons x l ih => rw [longs, ih]; rfl
theorem long_eq (x : Node) : x.long = 3 + x.text.length + x.grid.cols.size + sumBy long x.kids + rowsLong x.rows + sumBy trowLong x.grid.rows := by cases x; rw [long, longs_eq]; rfl
end Node
set_option maxRecDepth 20000 in
set_option maxHeartbeats 4000000 in
theorem refLong : ∀ (n : Nat) (a : List Node), SizeOf.sizeOf a < n → (∀ x ∈ a, x.Ok) → a.length ≤ 4611686018427387904 → PCon C0 23 [.sc (.sl (a.map Node.pv))] (.sc (.int .i64 (IntKind.i64.wrap (sumBy Node.long a : Nat)))) := by
  intro n
  induction n with
  | zero => intro a h; omega
  | succ n ih =>
    intro a hn hok hla
    refine penter23 ?_
    simp [Tryd.f23]
    refine loopC (fun d e H => ∃ i x2 x5 x6 x7 x8 x12 x46 x69 x90, d = a.length - i ∧ i ≤ a.length ∧
      e = [(0, FV.sc (PV.sl (List.map Node.pv a))), (2, x2), (3, FV.sc (.int .i64 (IntKind.i64.wrap (sumBy Node.long (a.take i) : Nat)))), (4, FV.sc (.int .i64 (i : Nat))), (5, x5), (6, x6), (7, x7), (8, x8), (12, x12), (46, x46), (69, x69), (90, x90)]) (d := a.length) ⟨0, _, _, _, _, _, _, _, _, _, rfl, by omega, rfl⟩ ?_
    rintro d e H ⟨i, x2, x5, x6, x7, x8, x12, x46, x69, x90, rfl, hi, rfl⟩
    simp
    refine CondC.mk (fun hlt => ?_) (fun hlt => ?_)
    · simp at hlt
      have ea := Node.pv_eq a[i]
      have hx := (hok _ (List.getElem_mem hlt)).all
      have ht := sumBy_take Node.long hlt
      rw [Node.long_eq a[i]] at ht
      have hk := ih a[i].kids (by have := Node.kids_lt (List.getElem_mem hlt); omega) hx.2.2.1 hx.2.1
      simp [hlt, ea, gl]
      refine CallQ.mk (CallP.pure callable23 (by simp) (by simp) hk) ?_
      generalize hS : sumBy Node.long (List.take i a) = S at *
      generalize hK : sumBy Node.long a[i].kids = K at *
      simp [wrapL, wrapR]
      obtain ⟨B, hB⟩ : ∃ B : Nat, B = S + 3 + a[i].text.length + a[i].grid.cols.size + K := ⟨_, rfl⟩
      have hB' : (S : Int) + 3 + a[i].text.length + a[i].grid.cols.size + K = B := by omega
      rw [hB']
      refine loopC (fun d e H => ∃ k x2 x6 x7 x8 x12 x46 x69 x90, d = a[i].rows.length - k ∧ k ≤ a[i].rows.length ∧
        e = [(0, FV.sc (PV.sl (List.map Node.pv a))), (2, x2), (3, FV.sc (.int .i64 (IntKind.i64.wrap (B + rowsLong (a[i].rows.take k) : Nat)))), (4, FV.sc (.int .i64 (i : Nat))), (5, FV.sc (.int .i64 (k : Nat))), (6, x6), (7, x7), (8, x8), (12, x12), (46, x46), (69, x69), (90, x90)]) (d := a[i].rows.length) ⟨0, x2, x6, x7, x8, .sc (.bool true), x46, x69, x90, rfl, by omega, by simp [rowsLong, sumBy]⟩ ?_
      rintro d e H ⟨k, x2, x6, x7, x8, x12, x46, x69, x90, rfl, hk', rfl⟩
      simp [hlt, ea, gl]
      refine CondC.mk (fun hlk => ?_) (fun hlk => ?_)
      · simp at hlk
        have hr' := sumBy_take (fun r : List Glyph => 1 + r.length) hlk
        have hrl := hx.2.2.2.1
        change rowsLong _ = rowsLong _ + _ at hr'
        generalize hR : rowsLong (List.take k a[i].rows) = R at *
        simp [hlt, ea, gl, hlk, wrapL, wrapR, wrapInc (i := k) (by omega)]
        refine ⟨a[i].rows.length - (k + 1), by omega, k + 1, rfl, by omega, ?_, by omega⟩
        congr 1; omega
      · simp at hlk
        simp [List.take_of_length_le hlk]
        clear hk' hlk
        have hgl := hx.2.2.2.2.2
        obtain ⟨D, hD⟩ : ∃ D : Nat, D = B + rowsLong a[i].rows := ⟨_, rfl⟩
        have hD' : (B : Int) + (rowsLong a[i].rows : Nat) = D := by omega
        rw [hD']
        refine loopC (fun d e H => ∃ k x2 x5 x7 x8 x12 x46 x69 x90, d = a[i].grid.rows.length - k ∧ k ≤ a[i].grid.rows.length ∧
          e = [(0, FV.sc (PV.sl (List.map Node.pv a))), (2, x2), (3, FV.sc (.int .i64 (IntKind.i64.wrap (D + sumBy trowLong (a[i].grid.rows.take k) : Nat)))), (4, FV.sc (.int .i64 (i : Nat))), (5, x5), (6, FV.sc (.int .i64 (k : Nat))), (7, x7), (8, x8), (12, x12), (46, x46), (69, x69), (90, x90)]) (d := a[i].grid.rows.length) ⟨0, x2, .sc (.int .i64 k), x7, x8, x12, .sc (.bool (decide (k < a[i].rows.length))), x69, x90, rfl, by omega, by simp [sumBy]⟩ ?_
        rintro d e H ⟨k, x2, x5, x7, x8, x12, x46, x69, x90, rfl, hk', rfl⟩
        simp [hlt, ea, gl]
        refine CondC.mk (fun hlk => ?_) (fun hlk => ?_)
        · simp at hlk
          have hr' := sumBy_take trowLong hlk
          have hc := hgl.2 _ (List.getElem_mem hlk)
          generalize hR : sumBy trowLong (List.take k a[i].grid.rows) = R at *
          simp only [trowLong] at hr'
          simp [hlt, ea, gl, hlk, TRow.pv, wrapL, wrapR]
          obtain ⟨M, hM⟩ : ∃ M : Nat, M = D + R + 1 + a[i].grid.rows[k].cells.length := ⟨_, rfl⟩
          have hM' : (D : Int) + R + 1 + a[i].grid.rows[k].cells.length = M := by omega
          rw [hM']
          refine loopC (fun d e H => ∃ j x2 x5 x12 x46 x69 x90, d = a[i].grid.rows[k].cells.length - j ∧ j ≤ a[i].grid.rows[k].cells.length ∧
            e = [(0, FV.sc (PV.sl (List.map Node.pv a))), (2, x2), (3, FV.sc (.int .i64 (IntKind.i64.wrap (M + sumBy List.length (a[i].grid.rows[k].cells.take j) : Nat)))), (4, FV.sc (.int .i64 (i : Nat))), (5, x5), (6, FV.sc (.int .i64 (k : Nat))), (7, FV.sc (PV.sl (List.map gl a[i].grid.rows[k].cells))), (8, FV.sc (.int .i64 (j : Nat))), (12, x12), (46, x46), (69, x69), (90, x90)]) (d := a[i].grid.rows[k].cells.length) ⟨0, x2, x5, x12, x46, .sc (.bool true), x90, rfl, by omega, by simp [sumBy]⟩ ?_
          rintro d e H ⟨j, x2, x5, x12, x46, x69, x90, rfl, hj', rfl⟩
          simp
          refine CondC.mk (fun hlj => ?_) (fun hlj => ?_)
          · simp at hlj
            have hs' := sumBy_take List.length hlj
            generalize hT : sumBy List.length (List.take j a[i].grid.rows[k].cells) = T at *
            simp [gl, hlj, wrapL, wrapR, wrapInc (i := j) (by have := hc.1; omega)]
            refine ⟨a[i].grid.rows[k].cells.length - (j + 1), by omega, j + 1, rfl, by omega, ?_, by omega⟩
            congr 1; omega
          · simp at hlj
            simp [List.take_of_length_le hlj, wrapInc (i := k) (by have := hgl.1; omega)]
            refine ⟨a[i].grid.rows.length - (k + 1), by omega, k + 1, rfl, by omega, ?_, by omega⟩
            congr 1; omega
        · simp at hlk
          simp [List.take_of_length_le hlk, wrapInc (i := i) (by omega)]
          refine ⟨a.length - (i + 1), by omega, i + 1, rfl, by omega, ?_, by omega⟩
          congr 1; omega
    · simp at hlt
      simp [List.take_of_length_le hlt]
end Go.Proofs.YtlbjfjaleefiiaaDoor.Ev
end
section
namespace Go.Proofs.YtlbjfjaleefiiaaDoor.Ev
open Go
theorem len_le_long (a : List Node) : a.length ≤ sumBy Node.long a := by
  induction a with
  | nil => simp
  | cons x l ih => rw [sumBy, Node.long_eq, List.length_cons]; omega
end Go.Proofs.YtlbjfjaleefiiaaDoor.Ev
end
section
namespace Go.Proofs.YtlbjfjaleefiiaaDoor.Ev
open Go
def hasText (k : Int) : Bool := decide (1 ≤ k) && decide (k ≤ 4)
def hasKids (k : Int) : Bool := decide (k = 1) || decide (k = 2) || decide (k = 4) || decide (k = 5)
def hasN (k : Int) : Bool := decide (k = 4) || decide (k = 5)
def standsIn (k i : Int) : Bool := if k = 1 then decide (i = 0) else if k = 2 then decide (i = 1) else decide (3 ≤ k) && decide (k ≤ 7)
set_option maxRecDepth 20000 in
set_option maxHeartbeats 4000000 in
theorem treeStands (k i : Int) : PCon C0 69 [.sc (.int .i64 k), .sc (.int .i64 i)] (.sc (.bool (standsIn k i))) := by
  refine penter69 ?_
  by_cases h1 : k = 1
  · simp [Tryd.f69, standsIn, h1]
  · by_cases h2 : k = 2
    · simp [Tryd.f69, standsIn, h1, h2]
    · by_cases h3 : 3 ≤ k
      · simp [Tryd.f69, standsIn, h1, h2, h3]
      · simp [Tryd.f69, standsIn, h1, h2, h3]
set_option maxRecDepth 20000 in
set_option maxHeartbeats 4000000 in
theorem treeFull (k : Int) : PCon C0 72 [.sc (.int .i64 k)] (.tup [.sc (.bool (hasText k)), .sc (.bool (hasKids k)), .sc (.bool (decide (k = 6))), .sc (.bool (decide (k = 7))), .sc (.bool (hasN k))]) := by
  refine penter72 ?_
  by_cases h4 : k = 4
  · simp [Tryd.f72, h4, hasText, hasKids, hasN]
  · by_cases h1 : k = 1
    · simp [Tryd.f72, h1, hasText, hasKids, hasN]
    · by_cases h2 : k = 2
      · simp [Tryd.f72, h2, hasText, hasKids, hasN]
      · by_cases h3 : k = 3
        · simp [Tryd.f72, h3, hasText, hasKids, hasN]
        · by_cases h5 : k = 5
          · simp [Tryd.f72, h5, hasText, hasKids, hasN]
          · by_cases h6 : k = 6
            · simp [Tryd.f72, h6, hasText, hasKids, hasN]
            · by_cases h7 : k = 7
              · simp [Tryd.f72, h7, hasText, hasKids, hasN]
              · have ht : ¬ (1 ≤ k ∧ k ≤ 4) := by omega
                simp [Tryd.f72, h1, h2, h3, h4, h5, h6, h7, hasText, hasKids, hasN]
                omega
end Go.Proofs.YtlbjfjaleefiiaaDoor.Ev
end
section
namespace Go.Proofs.YtlbjfjaleefiiaaDoor.Ev
open Go
def sqStep (s : List Glyph × Bool) (g : Glyph) : List Glyph × Bool :=
  if g.r = 32 then (s.1, true) else ((if s.2 = true ∧ s.1 ≠ [] then s.1 ++ [⟨32, 0⟩] else s.1) ++ [g], false)
def sqAll (l : List Glyph) : List Glyph × Bool := l.foldl sqStep ([], false)
def squeeze (l : List Glyph) : List Glyph := (sqAll l).1
theorem sqAll_take {l : List Glyph} {i : Nat} (h : i < l.length) : sqAll (l.take (i + 1)) = sqStep (sqAll (l.take i)) l[i] := by
  rw [List.take_succ_eq_append_getElem h, sqAll, List.foldl_append]; rfl
theorem sqAll_len (l : List Glyph) : (sqAll l).1.length ≤ 2 * l.length := by
  have : ∀ (l : List Glyph) (s : List Glyph × Bool), (l.foldl sqStep s).1.length ≤ s.1.length + 2 * l.length := by
    intro l
    induction l with
    | nil => intro s; simp
    | cons g l ih =>
      intro s
      have h1 := ih (sqStep s g)
      have h2 : (sqStep s g).1.length ≤ s.1.length + 2 := by
        unfold sqStep; split
        · simp
        · split <;> simp
      rw [List.foldl_cons, List.length_cons]; omega
  have := this l ([], false)
  simpa [sqAll] using this
set_option maxRecDepth 20000 in
set_option maxHeartbeats 4000000 in
theorem treeSqueeze (l : List Glyph) (hl : l.length ≤ 1073741824) : PCon C0 77 [.sc (gl l)] (.own ((squeeze l).map Glyph.pv)) := by
  refine penter77 ?_
  simp [Tryd.f77, gl]
  refine loopC (fun d e H => ∃ i x2 x6 x10 x17 x23, d = l.length - i ∧ i ≤ l.length ∧
    e = [(0, FV.sc (PV.sl (List.map Glyph.pv l))), (2, x2), (3, FV.own ((sqAll (l.take i)).1.map Glyph.pv)), (4, FV.sc (PV.bool (sqAll (l.take i)).2)), (6, x6), (7, FV.sc (PV.sl (List.map Glyph.pv l))), (8, FV.sc (PV.int IntKind.i64 l.length)),
      (9, FV.sc (PV.int IntKind.i64 (i : Nat))), (10, x10), (17, x17), (23, x23)]) (d := l.length) ⟨0, .own [], .undef, .undef, .undef, .undef, rfl, by omega, by simp [sqAll]⟩ ?_
  rintro d e H ⟨i, x2, x6, x10, x17, x23, rfl, hi, rfl⟩
  simp
  refine CondC.mk (fun hlt => ?_) (fun hlt => ?_)
  · simp at hlt
    have hlen := sqAll_len (l.take i)
    have ht := sqAll_take hlt
    generalize hS : sqAll (l.take i) = S at *
    obtain ⟨out, wants⟩ := S
    simp [hlt, Glyph.pv]
    have hout : out.length ≤ 2147483648 := by
      simp only [List.length_take] at hlen; omega
    have fin : ∀ (o : List Glyph) (w : Bool) (q : List PV), sqStep (out, wants) l[i] = (o, w) → q = o.map Glyph.pv → ∃ d', d' < l.length - i ∧ ∃ k, d' = l.length - k ∧ k ≤ l.length ∧
        q = List.map Glyph.pv (sqAll (List.take k l)).fst ∧ (sqAll (List.take k l)).snd = w ∧ (i : Int) + 1 = (k : Nat) := by
      intro o w q ho hq
      refine ⟨l.length - (i + 1), by omega, i + 1, rfl, by omega, ?_, ?_, by omega⟩
      · rw [ht, ho, hq]
      · rw [ht, ho]
    refine CondC.mk (fun h32 => ?_) (fun h32 => ?_)
    · simp at h32
      simp [wrapInc (i := i) (by omega)]
      exact fin out true _ (by simp [sqStep, h32]) rfl
    · simp at h32
      cases wants
      · simp [wrapInc (i := i) (by omega), Sized]
        refine ⟨fun g _ => rfl, by unfold lenMax; omega, fin (out ++ [l[i]]) false _ (by simp [sqStep, h32]) (by simp [Glyph.pv])⟩
      · by_cases ho : out = []
        · subst ho
          simp [wrapInc (i := i) (by omega), Sized]
          exact ⟨by unfold lenMax; omega, fin [l[i]] false _ (by simp [sqStep, h32]) (by simp [Glyph.pv])⟩
        · have hp : 0 < out.length := List.length_pos_iff.2 ho
          simp [wrapInc (i := i) (by omega), Sized, hp]
          refine ⟨fun g _ => rfl, by unfold lenMax; omega, ?_, by unfold lenMax; omega, fin (out ++ [⟨32, 0⟩] ++ [l[i]]) false _ (by simp [sqStep, h32, ho]) (by simp [Glyph.pv])⟩
          rintro p (⟨g, _, rfl⟩ | rfl) <;> rfl
  · simp at hlt
    simp [List.take_of_length_le hlt, squeeze]
end Go.Proofs.YtlbjfjaleefiiaaDoor.Ev
end
section
namespace Go.Proofs.YtlbjfjaleefiiaaDoor.Ev
open Go
def wholeN (x : Node) : Bool :=
  if x.kind = 1 ∨ x.kind = 2 ∨ x.kind = 3 then !x.text.isEmpty
  else if x.kind = 5 then !x.kids.isEmpty
  else if x.kind = 6 then !x.rows.isEmpty
  else if x.kind = 7 then !x.grid.rows.isEmpty
  else decide (x.kind = 4)
theorem len_pos {α : Type} (l : List α) : decide (0 < (l.length : Int)) = !l.isEmpty := by
  cases l <;> simp
set_option maxRecDepth 20000 in
set_option maxHeartbeats 4000000 in
theorem treeWhole (x : Node) : PCon C0 71 [x.pv.toFV] (.sc (.bool (wholeN x))) := by
  refine penter71 ?_
  rw [Node.pv_eq]
  by_cases h1 : x.kind = 1
  · simp [Tryd.f71, h1, gl, wholeN, ← len_pos]
  · by_cases h2 : x.kind = 2
    · simp [Tryd.f71, h2, gl, wholeN, ← len_pos]
    · by_cases h3 : x.kind = 3
      · simp [Tryd.f71, h3, gl, wholeN, ← len_pos]
      · by_cases h5 : x.kind = 5
        · simp [Tryd.f71, h5, gl, wholeN, ← len_pos]
        · by_cases h6 : x.kind = 6
          · simp [Tryd.f71, h6, gl, wholeN, ← len_pos]
          · by_cases h7 : x.kind = 7
            · simp [Tryd.f71, h7, gl, wholeN, ← len_pos]
            · simp [Tryd.f71, h1, h2, h3, h5, h6, h7, gl, wholeN]
end Go.Proofs.YtlbjfjaleefiiaaDoor.Ev
end
section
namespace Go.Proofs.YtlbjfjaleefiiaaDoor.Ev
open Go
def clamp (m n : Int) : Int := if 0 < (if m < n then m else n) then (if m < n then m else n) else 0
def isSide (b : UInt8) : Bool := b == 108 || b == 99 || b == 114
def mendCols (c : ByteArray) : ByteArray := ⟨(if (c.data.toList.filter isSide).take 20 = [] then [108] else (c.data.toList.filter isSide).take 20).toArray⟩
def mendRow (n : Nat) (r : TRow) : TRow := ⟨r.rule, if r.rule = true then [] else (List.range n).map fun k => if k < r.cells.length then squeeze (r.cells.getD k []) else []⟩
def mendT (t : Tbl) : Tbl := ⟨mendCols t.cols, t.rows.map (mendRow (mendCols t.cols).size), t.box, t.all && t.box⟩
def noTbl : Tbl := ⟨ByteArray.empty, [], false, false⟩
def ownN (x : Node) (k : Int) : Node := .mk k (clamp 1099511627775 x.line) (if hasN k = true then clamp 200 x.n else 0) (if hasText k = true then squeeze x.text else []) [] (if k = 6 then x.rows else []) (if k = 7 then mendT x.grid else noTbl)
set_option maxRecDepth 20000 in
set_option maxHeartbeats 4000000 in
theorem treeOwn5 (x : Node) (k : Int) (hk : 1 ≤ k ∧ k ≤ 5) (hx : x.text.length ≤ 1073741824) : PCon C0 70 [x.pv.toFV, .sc (.int .i64 k)] (ownN x k).pv.toFV := by
  refine penter70 ?_
  rw [Node.pv_eq]
  have cf := treeFull k
  have h6 : ¬ k = 6 := by omega
  have h7 : ¬ k = 7 := by omega
  simp [h6, h7] at cf
  simp [Tryd.f70, gl]
  refine CallQ.mk (Call.pure callable72 (by simp) (by simp) cf) ?_
  simp
  have sq := treeSqueeze x.text hx
  cases ht : hasText k <;> cases hn : hasN k
  · simp [Node.pv_eq, gl, ownN, ht, hn, clamp, h6, h7, noTbl]
  · simp [Node.pv_eq, gl, ownN, ht, hn, clamp, h6, h7, noTbl]
  · simp
    refine CallQ.mk (Call.pure callable77 (by simp) (by simp) sq) ?_
    simp [Node.pv_eq, gl, ownN, ht, hn, clamp, h6, h7, noTbl]
  · simp
    refine CallQ.mk (Call.pure callable77 (by simp) (by simp) sq) ?_
    simp [Node.pv_eq, gl, ownN, ht, hn, clamp, h6, h7, noTbl]
end Go.Proofs.YtlbjfjaleefiiaaDoor.Ev
end
section
namespace Go.Proofs.YtlbjfjaleefiiaaDoor.Ev
open Go
def below (n : Nat) : Root → Bool
  | .box i => decide (i < n)
  | _ => true
theorem only_some {W : Wd} {p : Root → Bool} {b : Nat} {q : Root} {k : Nat} (h : W.o b = some (q, k)) (hp : p q = true) : (W.only p).o b = some (q, k) := by
  simp [Wd.only, h, hp]
theorem only_of {W : Wd} {p : Root → Bool} {b : Nat} {q : Root} {k : Nat} (h : (W.only p).o b = some (q, k)) : W.o b = some (q, k) := by
  simp only [Wd.only] at h
  split at h
  · rename_i q' k' hq
    split at h
    · rw [hq]; exact h
    · simp at h
  · simp at h
def FV.und0 (n : Nat) : FV → Bool
  | .sc _ | .own _ | .emp | .ea _ | .nilp => true
  | .ptr b _ | .bs b _ _ | .gr b _ _ _ | .gp b _ _ => decide (b < n)
  | .fn _ [] [] => true
  | _ => false
def FV.und1 (n : Nat) : FV → Bool
  | .agg l => l.all (FV.und0 n)
  | .fn _ a b => a.all (FV.und0 n) && b.all (FV.und0 n)
  | .sc _ | .own _ | .emp | .ea _ | .nilp => true
  | .ptr b _ | .bs b _ _ | .gr b _ _ _ | .gp b _ _ => decide (b < n)
  | _ => false
def FV.under (n : Nat) : FV → Bool
  | .tup l => l.all (FV.und1 n)
  | .oagg l => l.all (FV.und0 n)
  | .agg l => l.all (FV.und0 n)
  | .fn _ a b => a.all (FV.und0 n) && b.all (FV.und0 n)
  | .sc _ | .own _ | .emp | .ea _ | .nilp => true
  | .ptr b _ | .bs b _ _ | .gr b _ _ _ | .gp b _ _ => decide (b < n)
  | _ => false
theorem FV.und_np {n : Nat} {f : FV} (h : f.np0 = true) : f.und0 n = true := by
  cases f with
  | fn f a b => cases a <;> cases b <;> simp_all [FV.np0, FV.und0]
  | _ => simp_all [FV.np0, FV.und0]
section
variable {A B : Wd} {r r' : Root} {n : Nat} (hc : ∀ b off, off < A.lim b → B.w.cell? ⟨b, off, none⟩ = A.w.cell? ⟨b, off, none⟩) (hl : ∀ b, A.lim b ≤ B.lim b)
    (hs : ∀ (b : Nat) (c : Array Value) (T : TypeId) (fz : Nat × Nat), A.w.heap[b]? = some (Obj.cells c T fz) → ∃ c' : Array Value, B.w.heap[b]? = some (Obj.cells c' T fz) ∧ c'.size = c.size)
    (hb : ∀ b i, i < n → A.o b = some (.box i, 0) → A.β i = b → B.β i = b ∧ B.o b = some (.box i, 0))
    (hw : ∀ i, i < n → A.gen i ≤ B.gen i ∧ (B.gen i = A.gen i → A.o (A.β i) = some (.box i, 1) → B.β i = A.β i ∧ B.o (A.β i) = some (.box i, 1)))
include hc hl hs hb hw
theorem FRep.und0 {q : Option Root} (hh : q = some r → ∀ b i, A.o b = some (r, i) → B.o b = some (r', i) ∧ B.lim b = A.lim b) {i : Nat} {f : FV} {v : Value} (h : FRep A q i f v) (hq : q = none ∨ q = some r) (hn : f.und0 n = true) : FRep B (q.map fun _ => r') i f v := by
  by_cases h0 : f.np0 = true
  · exact h.np0 hc hl hs hh hq h0
  cases h with
  | ptr h1 =>
    obtain ⟨q1, q2⟩ := hb _ _ (by simpa [FV.und0] using hn) h1 rfl
    rw [← q1]
    exact .ptr (by rw [q1]; exact q2)
  | bs h1 h2 =>
    obtain ⟨q1, q2⟩ := hb _ _ (by simpa [FV.und0] using hn) h1 rfl
    rw [← q1]
    exact .bs (by rw [q1]; exact q2) h2
  | @gr _ _ b g z n' cap A' hg hnn hcc =>
    obtain ⟨h1, h2⟩ := hw b (by simpa [FV.und0] using hn)
    refine .gr (Nat.le_trans hg h1) hnn fun hB => ?_
    have hA := Nat.le_antisymm (hB ▸ h1) hg
    obtain ⟨q1, q2, c, T, fz, q3, q4⟩ := hcc hA
    obtain ⟨h3, h4⟩ := h2 (hB.trans hA.symm) q2
    obtain ⟨c', hc', hsz⟩ := hs _ _ _ _ q3
    exact ⟨by rw [h3]; exact q1, by rw [h3]; exact h4, c', T, fz, by rw [h3]; exact hc', by rw [hsz]; exact q4⟩
  | @gp _ _ b g off A' hg hcc =>
    obtain ⟨h1, h2⟩ := hw b (by simpa [FV.und0] using hn)
    refine .gp (Nat.le_trans hg h1) fun hB => ?_
    have hA := Nat.le_antisymm (hB ▸ h1) hg
    obtain ⟨q1, q2⟩ := hcc hA
    obtain ⟨h3, h4⟩ := h2 (hB.trans hA.symm) q2
    exact ⟨by rw [h3]; exact q1, by rw [h3]; exact h4⟩
  | nilp => exact .nilp
  | sc => simp [FV.np0] at h0
  | own => simp [FV.np0] at h0
  | emp => simp [FV.np0] at h0
  | ea => simp [FV.np0] at h0
  | @fn _ _ f first cap fs cs a b c d => cases first <;> cases cap <;> simp_all [FV.np0, FV.und0]
  | undef => simp [FV.und0] at hn
  | ext => simp [FV.und0] at hn
  | exr => simp [FV.und0] at hn
  | exq => simp [FV.und0] at hn
  | agg => simp [FV.und0] at hn
  | tup => simp [FV.und0] at hn
  | oagg => simp [FV.und0] at hn
theorem FRep.und1 {q : Option Root} (hh : q = some r → ∀ b i, A.o b = some (r, i) → B.o b = some (r', i) ∧ B.lim b = A.lim b) {i : Nat} {f : FV} {v : Value} (h : FRep A q i f v) (hq : q = none ∨ q = some r) (hn : f.und1 n = true) : FRep B (q.map fun _ => r') i f v := by
  by_cases h0 : f.und0 n = true
  · exact h.und0 hc hl hs hb hw hh hq h0
  cases h with
  | agg a b =>
    refine .agg a fun j g u hg hu => ?_
    have := List.all_eq_true.1 hn g (List.mem_of_getElem? hg)
    exact (b j g u hg hu).und0 (r := r) (r' := r') hc hl hs hb hw (by simp) (.inl rfl) this
  | @fn _ _ f first cap fs cs a b c d =>
    simp only [FV.und1, Bool.and_eq_true] at hn
    refine .fn a b (fun j g u hg hu => ?_) (fun j g u hg hu => ?_)
    · exact (c j g u hg hu).und0 (r := r) (r' := r') hc hl hs hb hw (by simp) (.inl rfl) (List.all_eq_true.1 hn.1 g (List.mem_of_getElem? hg))
    · exact (d j g u hg hu).und0 (r := r) (r' := r') hc hl hs hb hw (by simp) (.inl rfl) (List.all_eq_true.1 hn.2 g (List.mem_of_getElem? hg))
  | _ => simp_all [FV.und1, FV.und0]
theorem FRep.under {q : Option Root} (hh : q = some r → ∀ b i, A.o b = some (r, i) → B.o b = some (r', i) ∧ B.lim b = A.lim b) {i : Nat} {f : FV} {v : Value} (h : FRep A q i f v) (hq : q = none ∨ q = some r) (hn : f.under n = true) : FRep B (q.map fun _ => r') i f v := by
  by_cases h0 : f.und1 n = true
  · exact h.und1 hc hl hs hb hw hh hq h0
  cases h with
  | tup a b =>
    refine .tup a fun j g u hg hu => ?_
    have := List.all_eq_true.1 hn g (List.mem_of_getElem? hg)
    exact (b j g u hg hu).und1 hc hl hs hb hw hh hq this
  | oagg a b =>
    refine .oagg a fun j g u hg hu => ?_
    have := List.all_eq_true.1 hn g (List.mem_of_getElem? hg)
    exact (b j g u hg hu).und0 hc hl hs hb hw hh hq this
  | _ => simp_all [FV.under, FV.und1]
end
theorem GenOk.congr {A B : Wd} {b : Nat} {fs : List FV} (hg : B.gen b = A.gen b) (h : GenOk A b fs) : GenOk B b fs := by
  rcases kind_cases fs with ⟨_, _, k⟩ | ⟨g, l, rfl⟩
  · exact k _ _
  · exact hg.trans h
def Wd.forget (W : Wd) (n : Nat) : Wd := { W.only (below n) with gen := fun b => if b < n then W.gen b else 0 }
theorem forget_o {W : Wd} {n b : Nat} : (W.forget n).o b = (W.only (below n)).o b := rfl
theorem HInv.trim {C : Ctx} {H : Heap} {W : Wd} {n : Nat} (h : HInv C H W) (hp : ∀ fs ∈ H.take n, ∀ f ∈ body fs, f.und0 n = true) : HInv C (H.take n) (W.forget n) := by
  refine ⟨fun b fs hfs => ?_, h.laid, fun b hb => ⟨(h.fresh b hb).1, ?_⟩, fun b i k hb => ?_, fun b hb => ?_, h.kept.same rfl fun b hb => only_none fun q k hq => by rw [hb] at hq; simp at hq⟩
  · have hm := List.mem_of_getElem? hfs
    have hbn : b < n := by
      have := (List.getElem?_eq_some_iff.1 hfs).1
      simp at this; omega
    have hfs' : H[b]? = some fs := by
      rw [List.getElem?_take, if_pos hbn] at hfs
      exact hfs
    obtain ⟨h1, h2, c, T, fz, h3, h4, h5, h6⟩ := h.box b fs hfs'
    refine ⟨⟨only_some h1.1 (by simp [below, hbn]), h1.2.congr (by simp [Wd.forget, hbn])⟩, h2, c, T, fz, h3, h4, h5, fun i f v hf hv => ⟨(h6 i f v hf hv).1, ?_⟩⟩
    exact (h6 i f v hf hv).2.und0 (A := W) (r := .leaf b i) (r' := .leaf b i) (n := n) (B := W.forget n) (fun _ _ _ => rfl) (fun _ => Nat.le_refl _) (fun _ c _ _ h => ⟨c, h, rfl⟩) (fun b' i' hi hb' hβ => ⟨hβ, only_some hb' (by simp [below, hi])⟩) (fun i' hi => ⟨by simp [Wd.forget, hi], fun _ ho => ⟨rfl, only_some ho (by simp [below, hi])⟩⟩) (fun _ b' i' hb' => ⟨only_some hb' rfl, rfl⟩) (.inr rfl) (hp fs hm f (List.mem_of_getElem? hf))
  · exact only_none fun q k hq => by rw [(h.fresh b hb).2] at hq; simp at hq
  · have h1 := only_of hb
    have h2 : below n (.box i) = true := by
      rw [forget_o] at hb
      simp only [Wd.only, h1] at hb
      split at hb
      · assumption
      · simp at hb
    have h3 := h.boxes b i k h1
    simp [below] at h2
    simp; omega
  · simp only [Wd.forget]
    split
    · exact h.gen0 b (by simp at hb; omega)
    · rfl
theorem Evo.forget {C : Ctx} {H : Heap} {W W' : Wd} (hH : HInv C H W) (h : Evo W W' (fun _ _ => False)) : Evo W (W'.forget H.length) (fun _ _ => False) := by
  refine Evo.of h.os h.tape h.output h.size h.cell h.lim h.shape (fun _ _ _ _ hk => hk.elim) (fun b i hbi hβ => ?_) (fun i => ?_) (fun b hlt hbo => ?_)
  · obtain ⟨q1, q2⟩ := h.beta b i hbi hβ
    exact ⟨q1, only_some q2 (by simp [below]; exact hH.boxes b i 0 hbi)⟩
  · obtain ⟨q1, q2⟩ := h.row i
    by_cases hi : i < H.length
    · have hg : (W'.forget H.length).gen i = W'.gen i := by simp [Wd.forget, hi]
      rw [hg]
      refine ⟨q1, fun hq ho => ?_⟩
      obtain ⟨q3, q4⟩ := q2 hq ho
      exact ⟨q3, only_some q4 (by simp [below, hi])⟩
    · refine ⟨by rw [hH.gen0 i (by omega)]; exact Nat.zero_le _, fun _ ho => absurd (hH.boxes _ i 1 ho) hi⟩
  · obtain ⟨q1, q2, q3⟩ := h.away b hlt hbo
    exact ⟨q1, q2, only_none fun q k hq => by rw [q3] at hq; simp at hq⟩
theorem body_np {H' : Heap} {n : Nat} (hp : ∀ fs ∈ H', ∀ f ∈ fs, f.np0 = true) : ∀ fs ∈ H', ∀ f ∈ body fs, f.und0 n = true := fun fs hfs f hf => by
  rcases kind_cases fs with ⟨_, k, _⟩ | ⟨g, l, rfl⟩
  · rw [k] at hf; exact FV.und_np (hp fs hfs f hf)
  · have := hp _ hfs (.row g l) (by simp)
    simp [FV.np0] at this
section
variable {C : Ctx} {f : FuncId} {fn : Func} {c : Code} {args : List FV} {H H' : Heap} {r : FV} {mv vars : List Nat} (hf : C.P.funcs[f]? = some fn) (hb : fn.body = some c) (hn : (resTmps fn.results.toList).Nodup) (hmix : C.P.follows .mixedOrders = true) (hk : codeOk mv c = true)
include hf hb hn hmix hk
theorem con_trimU (hr : r.under H.length = true) (hp : ∀ fs ∈ H', ∀ f ∈ body fs, f.und0 H.length = true)
    (h : wpC C fn.ntmps mv vars c (argsEnv 0 args) H fun x e H₁ => (match x with | .exit _ => False | _ => True) ∧ resultOf C e H₁ fn.results.toList = some r ∧ H₁.take H.length = H') : Con C f args H r H' :=
  fun vs W hl hargs hH _ => (con_gen (G := fun H₁ => H₁.take H.length = H') hf hb hn hmix hk h vs W hl hargs hH).mono fun _ _ ⟨v, W', H₁, h1, h2, h3, h4, h5, h6⟩ => by
    refine ⟨v, W'.forget H.length, h1, h2, ?_, h3 ▸ h5.trim (h3 ▸ hp), h6.forget hH⟩
    exact h4.under (A := W') (B := W'.forget H.length) (r := .res) (r' := .res) (n := H.length) (fun _ _ _ => rfl) (fun _ => Nat.le_refl _) (fun _ c _ _ h => ⟨c, h, rfl⟩) (fun b' i' hi hb' hβ => ⟨hβ, only_some hb' (by simp [below, hi])⟩) (fun i' hi => ⟨by simp [Wd.forget, hi], fun _ ho => ⟨rfl, only_some ho (by simp [below, hi])⟩⟩) (fun _ b' i' hb' => ⟨only_some hb' rfl, rfl⟩) (.inr rfl) hr
theorem con_trim (hr : r.noPtr = true) (hp : ∀ fs ∈ H', ∀ f ∈ fs, f.np0 = true)
    (h : wpC C fn.ntmps mv vars c (argsEnv 0 args) H fun x e H₁ => (match x with | .exit _ => False | _ => True) ∧ resultOf C e H₁ fn.results.toList = some r ∧ H₁.take H.length = H') : Con C f args H r H' :=
  fun vs W hl hargs hH _ => (con_gen (G := fun H₁ => H₁.take H.length = H') hf hb hn hmix hk h vs W hl hargs hH).mono fun _ _ ⟨v, W', H₁, h1, h2, h3, h4, h5, h6⟩ => by
    have key : HInv C H' (W'.forget H.length) := h3 ▸ h5.trim (h3 ▸ body_np hp)
    refine ⟨v, W'.forget H.length, h1, h2, ?_, key, h6.forget hH⟩
    exact h4.np (A := W') (B := W'.forget H.length) (r := .res) (r' := .res) (fun _ _ _ => rfl) (fun _ => Nat.le_refl _) (fun _ c _ _ h => ⟨c, h, rfl⟩) (fun _ b' i' hb' => ⟨only_some hb' rfl, rfl⟩) (.inr rfl) hr
end
def Wd.hand (W : Wd) (n b : Nat) : Wd := { W with
  β := fun i => if i = n then W.β b else W.β i
  gen := fun i => if i < n then W.gen i else 0
  o := fun x => match W.o x with
    | some (.box i, k) => if i < n then some (.box i, k) else if i = b then some (.box n, k) else none
    | some (.leaf i j, k) => if i < n then some (.leaf i j, k) else if i = b then some (.leaf n j, k) else none
    | q => q }
section
variable {W : Wd} {n b : Nat}
theorem hand_box {x i k : Nat} (h : W.o x = some (.box i, k)) (hi : i < n) : (W.hand n b).o x = some (.box i, k) := by simp [Wd.hand, h, hi]
theorem hand_leaf {x i j k : Nat} (h : W.o x = some (.leaf i j, k)) (hi : i < n) : (W.hand n b).o x = some (.leaf i j, k) := by simp [Wd.hand, h, hi]
theorem hand_box' {x k : Nat} (hn : n ≤ b) (h : W.o x = some (.box b, k)) : (W.hand n b).o x = some (.box n, k) := by simp [Wd.hand, h, show ¬ b < n by omega]
theorem hand_leaf' {x j k : Nat} (hn : n ≤ b) (h : W.o x = some (.leaf b j, k)) : (W.hand n b).o x = some (.leaf n j, k) := by simp [Wd.hand, h, show ¬ b < n by omega]
theorem hand_none {x : Nat} (h : W.o x = none) : (W.hand n b).o x = none := by simp [Wd.hand, h]
theorem hand_β {i : Nat} (hi : i < n) : (W.hand n b).β i = W.β i := by simp only [Wd.hand]; rw [if_neg (by omega)]
theorem hand_gen {i : Nat} (hi : i < n) : (W.hand n b).gen i = W.gen i := by simp [Wd.hand, hi]
theorem FRep.hand {r r' : Root} {q : Option Root} (hh : q = some r → ∀ x k, W.o x = some (r, k) → (W.hand n b).o x = some (r', k)) {i : Nat} {f : FV} {v : Value} (h : FRep W q i f v) (hq : q = none ∨ q = some r) (hn : f.und0 n = true) : FRep (W.hand n b) (q.map fun _ => r') i f v :=
  h.und0 (A := W) (r := r) (r' := r') (n := n) (B := W.hand n b) (fun _ _ _ => rfl) (fun _ => Nat.le_refl _) (fun _ c _ _ h => ⟨c, h, rfl⟩) (fun b' i' hi hb' hβ => ⟨by rw [hand_β hi]; exact hβ, hand_box hb' hi⟩) (fun i' hi => ⟨by rw [hand_gen hi]; exact Nat.le_refl _, fun _ ho => ⟨hand_β hi, hand_box ho hi⟩⟩) (fun h x k hx => ⟨hh h x k hx, rfl⟩) hq hn
theorem HInv.hand {C : Ctx} {H : Heap} (h : HInv C H W) (hn : n ≤ b) {g : Nat} {cells : List FV} (hrow : H[b]? = some [.row g cells]) (hp : ∀ fs ∈ H.take n, ∀ f ∈ body fs, f.und0 n = true) (hq : ∀ f ∈ cells, f.und0 n = true) : HInv C (H.take n ++ [[.row 0 cells]]) (W.hand n b) := by
  have hbl : b < H.length := (List.getElem?_eq_some_iff.1 hrow).1
  have htl : (H.take n).length = n := by simp; omega
  refine ⟨fun x fs hfs => ?_, fun g ls hls j q hq' => ?_, fun x hx => ⟨(h.fresh x hx).1, hand_none (h.fresh x hx).2⟩, fun x i k hx => ?_, fun x hx => ?_, h.kept.same rfl fun x hx => hand_none hx⟩
  · rcases Nat.lt_or_ge x n with hx | hx
    · rw [List.getElem?_append_left (by omega), List.getElem?_take, if_pos hx] at hfs
      have hm : fs ∈ H.take n := List.mem_of_getElem? (i := x) (by rw [List.getElem?_take, if_pos hx]; exact hfs)
      obtain ⟨h1, h2, c, T, fz, h3, h4, h5, h6⟩ := h.box x fs hfs
      refine ⟨⟨by rw [hand_β hx]; exact hand_box h1.1 hx, h1.2.congr (hand_gen hx)⟩, by rw [hand_β hx]; exact h2, c, T, fz, by rw [hand_β hx]; exact h3, h4, h5, fun i f v hf hv => ⟨(h6 i f v hf hv).1, ?_⟩⟩
      exact (h6 i f v hf hv).2.hand (r := .leaf x i) (r' := .leaf x i) (fun _ y k hy => hand_leaf hy hx) (.inr rfl) (hp fs hm f (List.mem_of_getElem? hf))
    · have hxn : x = n := by
        have := (List.getElem?_eq_some_iff.1 hfs).1
        simp at this; omega
      subst hxn
      rw [List.getElem?_append_right (by omega), htl] at hfs
      simp only [Nat.sub_self, List.getElem?_cons_zero, Option.some.injEq] at hfs
      subst hfs
      obtain ⟨h1, h2, c, T, fz, h3, h4, h5, h6⟩ := h.box b _ hrow
      have hβ : (W.hand x b).β x = W.β b := by simp [Wd.hand]
      refine ⟨⟨by rw [hβ]; exact hand_box' hn h1.1, by simp [GenOk, Wd.hand]⟩, by rw [hβ]; exact h2, c, T, fz, by rw [hβ]; exact h3, h4, h5, fun i f v hf hv => ⟨(h6 i f v hf hv).1, ?_⟩⟩
      exact (h6 i f v hf hv).2.hand (r := .leaf b i) (r' := .leaf x i) (fun _ y k hy => hand_leaf' hn hy) (.inr rfl) (hq f (List.mem_of_getElem? hf))
  · exact h.laid g ls hls j q hq'
  · simp only [List.length_append, htl, List.length_singleton]
    simp only [Wd.hand] at hx
    split at hx
    · rename_i i' k' ho
      split at hx
      · simp at hx; omega
      · split at hx
        · simp at hx; omega
        · simp at hx
    · split at hx
      · simp at hx
      · split at hx <;> simp at hx
    · rename_i hne _
      exact absurd hx (by intro hx; exact hne i k hx)
  · simp only [List.length_append, htl, List.length_singleton] at hx
    simp only [Wd.hand]
    rw [if_neg (by omega)]
end
theorem con_hand {C : Ctx} {f : FuncId} {fn : Func} {c : Code} {args : List FV} {H H' : Heap} {mv vars : List Nat} (hf : C.P.funcs[f]? = some fn) (hb : fn.body = some c) (hn : (resTmps fn.results.toList).Nodup) (hmix : C.P.follows .mixedOrders = true) (hk : codeOk mv c = true)
    {z k : Nat} {cells : List FV} (hp : ∀ fs ∈ H', ∀ f ∈ body fs, f.und0 H.length = true) (hq : ∀ f ∈ cells, f.und0 H.length = true)
    (h : wpC C fn.ntmps mv vars c (argsEnv 0 args) H fun x e H₁ => (match x with | .exit _ => False | _ => True) ∧ ∃ b g, resultOf C e H₁ fn.results.toList = some (.gr b g z k) ∧ H.length ≤ b ∧ H₁.take H.length = H' ∧ H₁[b]? = some [.row g cells]) : Con C f args H (.gr H.length 0 z k) (H' ++ [[.row 0 cells]]) :=
  fun vs W hl hargs hH _ => (con_gen2 (G := fun r H₁ => ∃ b g, r = .gr b g z k ∧ H.length ≤ b ∧ H₁.take H.length = H' ∧ H₁[b]? = some [.row g cells]) hf hb hn hmix hk (wpC_mono _ _ _ _ _ (fun _ _ _ ⟨h1, b, g, h2, h3⟩ => ⟨h1, _, h2, b, g, rfl, h3⟩) h) vs W hl hargs hH).mono fun _ _ ⟨v, W', H₁, r, h1, h2, ⟨b, g, h3, h7, h8, h9⟩, h4, h5, h6⟩ => by
    subst h3
    have h8' := h8
    refine ⟨v, W'.hand H.length b, h1, h2, ?_, h8 ▸ h5.hand h7 h9 (h8 ▸ hp) hq, ?_⟩
    · obtain ⟨m1, m2, c, T, fz, m3, m4, m5, m6⟩ := h5.box b _ h9
      have hβ : (W'.hand H.length b).β H.length = W'.β b := by simp [Wd.hand]
      generalize hv : v = v' at h4
      cases h4 with
      | @gr _ _ _ _ _ _ cap A a1 a2 a3 =>
        subst hv
        obtain ⟨q1, q2, q3⟩ := a3 m1.2
        refine .gr (Nat.zero_le _) a2 fun _ => ⟨by rw [hβ]; exact q1, by rw [hβ]; exact hand_box' h7 q2, by rw [hβ]; exact q3⟩
    · refine Evo.of h6.os h6.tape h6.output h6.size h6.cell h6.lim h6.shape (fun _ _ _ _ hk => hk.elim) (fun x i hbi hβ => ?_) (fun i => ?_) (fun x hlt hbo => ?_)
      · obtain ⟨q1, q2⟩ := h6.beta x i hbi hβ
        have hi := hH.boxes x i 0 hbi
        exact ⟨by rw [hand_β hi]; exact q1, hand_box q2 hi⟩
      · obtain ⟨q1, q2⟩ := h6.row i
        by_cases hi : i < H.length
        · rw [hand_gen hi]
          refine ⟨q1, fun hq ho => ?_⟩
          obtain ⟨q3, q4⟩ := q2 hq ho
          exact ⟨by rw [hand_β hi]; exact q3, hand_box q4 hi⟩
        · exact ⟨by rw [hH.gen0 i (by omega)]; exact Nat.zero_le _, fun _ ho => absurd (hH.boxes _ i 1 ho) hi⟩
      · obtain ⟨q1, q2, q3⟩ := h6.away x hlt hbo
        exact ⟨q1, q2, hand_none q3⟩
theorem heap_old {H L : List (List FV)} {b : Nat} (h : b < H.length) : (H ++ L)[b]? = H[b]? := List.getElem?_append_left h
theorem heap_old_set {H L : List (List FV)} {b : Nat} {x : List FV} (h : b < H.length) : (H ++ L).set b x = H.set b x ++ L := List.set_append_left b x h
end Go.Proofs.YtlbjfjaleefiiaaDoor.Ev
end
section
namespace Go.Proofs.YtlbjfjaleefiiaaDoor.Ev
open Go
def Node.withKids (x : Node) (l : List Node) : Node := .mk x.kind x.line x.n x.text l x.rows x.grid
def Node.zero : Node := .mk 0 0 0 [] [] [] noTbl
mutual
def tidyN (inn deep : Int) (left : Nat) : Node → List Node × Nat
  | .mk kind line n text kids rows grid =>
    let x := Node.mk kind line n text kids rows grid
    if (kind = 1 ∨ kind = 2) ∧ standsIn kind inn = false then
      ((if wholeN (ownN x 3) = true then [ownN x 3] else []) ++ (tidyL inn deep (left - 1) kids).1, (tidyL inn deep (left - 1) kids).2)
    else if hasKids kind = true then
      let r := if wholeN ((ownN x kind).withKids [Node.zero]) = true then tidyL kind (deep + 1) (left - 1) kids else tidyL inn deep (left - 1) kids
      (if wholeN ((ownN x kind).withKids r.1) = true then [(ownN x kind).withKids r.1] else r.1, r.2)
    else (if wholeN (ownN x kind) = true then [ownN x kind] else [], left - 1)
def tidyL (inn deep : Int) (left : Nat) : List Node → List Node × Nat
  | [] => ([], left)
  | x :: l => if left = 0 then ([], 0) else if 20 ≤ deep then tidyL inn deep left l
    else ((tidyN inn deep left x).1 ++ (tidyL inn deep (tidyN inn deep left x).2 l).1, (tidyL inn deep (tidyN inn deep left x).2 l).2)
end
theorem tidyN_eq (inn deep : Int) (left : Nat) (x : Node) : tidyN inn deep left x =
    if (x.kind = 1 ∨ x.kind = 2) ∧ standsIn x.kind inn = false then
      ((if wholeN (ownN x 3) = true then [ownN x 3] else []) ++ (tidyL inn deep (left - 1) x.kids).1, (tidyL inn deep (left - 1) x.kids).2)
    else if hasKids x.kind = true then
      let r := if wholeN ((ownN x x.kind).withKids [Node.zero]) = true then tidyL x.kind (deep + 1) (left - 1) x.kids else tidyL inn deep (left - 1) x.kids
      (if wholeN ((ownN x x.kind).withKids r.1) = true then [(ownN x x.kind).withKids r.1] else r.1, r.2)
    else (if wholeN (ownN x x.kind) = true then [ownN x x.kind] else [], left - 1) := by
  cases x; rw [tidyN]; rfl
theorem tidyL_count : ∀ (n : Nat) (l : List Node), SizeOf.sizeOf l < n → ∀ inn deep left, (tidyL inn deep left l).1.length + (tidyL inn deep left l).2 ≤ left := by
  intro n
  induction n with
  | zero => intro l h; omega
  | succ n ih =>
    intro l hn inn deep left
    cases l with
    | nil => rw [tidyL]; simp
    | cons x l =>
      have hx : SizeOf.sizeOf x.kids < n ∧ SizeOf.sizeOf l < n := by
        cases x; simp at hn ⊢; omega
      rw [tidyL]
      split
      · simp
      · split
        · exact ih l hx.2 _ _ _
        · rename_i h0 _
          have h1 : (tidyN inn deep left x).1.length + (tidyN inn deep left x).2 ≤ left := by
            rw [tidyN_eq]
            have h1 := ih x.kids hx.1 inn deep (left - 1)
            have h2 := ih x.kids hx.1 x.kind (deep + 1) (left - 1)
            split
            · split <;> simp <;> omega
            · split
              · simp only
                split <;> split <;> simp <;> omega
              · split <;> simp <;> omega
          have h2 := ih l hx.2 inn deep (tidyN inn deep left x).2
          simp; omega
end Go.Proofs.YtlbjfjaleefiiaaDoor.Ev
end
section
namespace Go.Proofs.YtlbjfjaleefiiaaDoor.Ev
open Go
structure Fit (P : Node → Prop) : Prop where
  own : ∀ x, P x → PCon C0 70 [x.pv.toFV, .sc (.int .i64 x.kind)] (ownN x x.kind).pv.toFV
  para : ∀ x, P x → PCon C0 70 [x.pv.toFV, .sc (.int .i64 3)] (ownN x 3).pv.toFV
  kids : ∀ x, P x → ∀ y ∈ x.kids, P y
  len : ∀ x, P x → x.kids.length ≤ 4611686018427387904
section
variable {H L : Heap} {b k : Nat} {v w : List FV}
theorem hs_b (h : b < H.length) : (H.set b v ++ L)[b]? = some v := by rw [List.getElem?_append_left (by simpa using h)]; simp [h]
theorem hs_set (h : b < H.length) : (H.set b v ++ L).set b w = H.set b w ++ L := by rw [List.set_append_left _ _ (by simpa using h)]; simp
theorem hs_at : (H.set b v ++ L)[H.length + k]? = L[k]? := by
  have := heap_at (H := H.set b v) (L := L) (k := k)
  simpa only [List.length_set] using this
theorem hs_at0 : (H.set b v ++ L)[H.length]? = L[0]? := hs_at (k := 0)
theorem hs_put : (H.set b v ++ L).set (H.length + k) w = H.set b v ++ L.set k w := by
  have := heap_set (H := H.set b v) (L := L) (k := k) (x := w)
  simpa only [List.length_set] using this
theorem hs_put0 : (H.set b v ++ L).set H.length w = H.set b v ++ L.set 0 w := hs_put (k := 0)
end
theorem Node.zero_pv : Node.zero.pv = .agg [.int .i64 0, .int .i64 0, .int .i64 0, .sl [], .sl [], .sl [], .str ByteArray.empty, .sl [], .bool false, .bool false] := rfl
section
variable (x : Node) (l : List Node)
@[simp] theorem Node.kind_wk : (x.withKids l).kind = x.kind := rfl
@[simp] theorem Node.line_wk : (x.withKids l).line = x.line := rfl
@[simp] theorem Node.n_wk : (x.withKids l).n = x.n := rfl
@[simp] theorem Node.text_wk : (x.withKids l).text = x.text := rfl
@[simp] theorem Node.kids_wk : (x.withKids l).kids = l := rfl
@[simp] theorem Node.rows_wk : (x.withKids l).rows = x.rows := rfl
@[simp] theorem Node.grid_wk : (x.withKids l).grid = x.grid := rfl
end
theorem sizedN (l : List Node) : Sized 10 (l.map Node.pv) := by
  intro p hp
  obtain ⟨x, _, rfl⟩ := List.mem_map.1 hp
  rw [Node.pv_eq]; rfl
theorem sized1 {a b c d e f g h i j : PV} : Sized 10 [PV.agg [a, b, c, d, e, f, g, h, i, j]] := by
  intro p hp
  rw [List.mem_singleton.1 hp]; rfl
theorem sized_app {n : Nat} {l m : List PV} : Sized n (l ++ m) ↔ Sized n l ∧ Sized n m := by
  simp only [Sized, List.mem_append]
  exact ⟨fun h => ⟨fun p hp => h p (.inl hp), fun p hp => h p (.inr hp)⟩, fun h p hp => hp.elim (h.1 p) (h.2 p)⟩
theorem set_same {α : Type} {H : List α} {b : Nat} {x : α} (h : H[b]? = some x) : H.set b x = H := by
  obtain ⟨hb, rfl⟩ := List.getElem?_eq_some_iff.1 h
  exact List.set_getElem_self hb
def NP (H : Heap) : Prop := ∀ fs ∈ H, ∀ f ∈ fs, f.np0 = true
theorem np_nil : NP [] := fun _ h => by simp at h
theorem np_cons {x : List FV} {L : Heap} (hx : ∀ f ∈ x, f.np0 = true) (h : NP L) : NP (x :: L) := fun fs hfs => by
  rcases List.mem_cons.1 hfs with e | e
  · subst e; exact hx
  · exact h fs e
theorem np_app {H L : Heap} (h : NP H) (h' : NP L) : NP (H ++ L) := fun fs hfs => by
  rcases List.mem_append.1 hfs with e | e
  · exact h fs e
  · exact h' fs e
set_option linter.unusedSimpArgs false in
set_option maxRecDepth 20000 in
set_option maxHeartbeats 4000000 in
theorem treeNodes {P : Node → Prop} (hP : Fit P) : ∀ (n : Nat) (a : List Node), SizeOf.sizeOf a < n → (∀ x ∈ a, P x) → a.length ≤ 4611686018427387904 → ∀ (H : Heap) (b : Nat) (inn d : Int) (left : Nat), 0 ≤ d → d ≤ 20 → left ≤ 1073741824 →
    H[b]? = some [.sc (.int .i64 left)] → NP H →
    Con C0 56 [.ptr b 0, .sc (.sl (a.map Node.pv)), .sc (.int .i64 inn), .sc (.int .i64 d)] H (.own ((tidyL inn d left a).1.map Node.pv)) (H.set b [.sc (.int .i64 (tidyL inn d left a).2)]) := by
  intro n
  induction n with
  | zero => intro a h; omega
  | succ n ih =>
    intro a hn hall hla H b inn d left hd0 hd1 hleft hb hp
    have hbl : b < H.length := (List.getElem?_eq_some_iff.1 hb).1
    refine con_trim (C := C0) (fn := Tryd.f56) Tryd.func56 rfl (by decide) mixed (mv := [60, 64, 80, 81, 82, 83, 84, 109, 113, 118]) (vars := [0, 1, 2, 3, 8, 9, 11, 12, 13, 14, 16, 20, 21, 22, 23, 30, 32, 55, 59, 85, 90, 108]) (c := Tryd.f56.body.getD .skip) rfl rfl ?_ ?_
    · intro fs hfs f hf
      rcases List.mem_or_eq_of_mem_set hfs with h | h
      · exact hp fs h f hf
      · subst h; simp at hf; subst hf; rfl
    simp [Tryd.f56]
    refine loopC (fun dd e H' => ∃ (i : Nat) (out : List Node) (k : Nat) (X : Heap) (x11 x12 x13 x14 x16 x23 x30 x32 x55 x59 x85 x90 x108 : FV), dd = a.length - i ∧ i ≤ a.length ∧ H' = H.set b [.sc (.int .i64 k)] ++ X ∧ NP X ∧ k ≤ left ∧ out.length + k ≤ left ∧
        ((tidyL inn d left a).1 = out ++ (tidyL inn d k (a.drop i)).1 ∧ (tidyL inn d left a).2 = (tidyL inn d k (a.drop i)).2) ∧
        e = [(0, FV.ptr b 0), (1, .sc (.sl (a.map Node.pv))), (2, .sc (.int .i64 inn)), (3, .sc (.int .i64 d)), (8, FV.own []), (9, FV.own (out.map Node.pv)), (11, x11), (12, x12), (13, x13), (14, x14), (16, x16), (20, .sc (.sl (a.map Node.pv))), (21, .sc (.int .i64 a.length)), (22, .sc (.int .i64 i)), (23, x23), (30, x30), (32, x32), (55, x55), (59, x59), (85, x85), (90, x90), (108, x108)]) (d := a.length)
        ⟨0, [], left, [], .undef, .undef, .undef, .undef, .undef, .undef, .undef, .undef, .undef, .undef, .undef, .undef, .undef, by omega, by omega, ?_, np_nil, by omega, by simp, by simp, by simp⟩ ?_
    · rw [List.append_nil, set_same hb]
    · rintro dd e H' ⟨i, out, k, X, x11, x12, x13, x14, x16, x23, x30, x32, x55, x59, x85, x90, x108, rfl, hi, rfl, hX, hk, hout, ⟨ho1, ho2⟩, rfl⟩
      have hbs : b < (H.set b [FV.sc (.int .i64 k)]).length := by simpa using hbl
      have hbg : (H.set b [FV.sc (.int .i64 k)])[b]? = some [FV.sc (.int .i64 k)] := by simp [hbl]
      simp
      refine CondC.mk (fun hlt => ?_) (fun hlt => ?_)
      · simp at hlt
        have ea := Node.pv_eq a[i]
        simp [hlt, ea, gl, hs_b hbl, hs_at, hs_at0]
        refine CondC.mk (fun h0 => ?_) (fun h0 => ?_)
        · simp at h0
          simp
          have hdrop : a.drop i = a[i] :: a.drop (i + 1) := List.drop_eq_getElem_cons hlt
          rw [hdrop, tidyL, if_pos h0] at ho1 ho2
          simp at ho1 ho2
          exact ⟨by rw [ho1], by rw [ho2, h0]⟩
        · simp at h0
          simp
          refine CondC.mk (fun h20 => ?_) (fun h20 => ?_)
          · simp at h20
            simp
            have hdrop : a.drop i = a[i] :: a.drop (i + 1) := List.drop_eq_getElem_cons hlt
            rw [hdrop, tidyL, if_neg (by omega), if_pos h20] at ho1 ho2
            exact ⟨a.length - (i + 1), by omega, i + 1, rfl, by omega, out, k, _, rfl, np_app hX (np_cons (by simp) np_nil), hk, hout, ⟨ho1, ho2⟩, rfl, by rw [wrap64 (by omega) (by omega)]; omega⟩
          · simp at h20
            have hm : a[i] ∈ a := List.getElem_mem hlt
            have hPx := hall _ hm
            have own := hP.own _ hPx
            have para := hP.para _ hPx
            have st := treeStands a[i].kind inn
            have fl := treeFull a[i].kind
            have w1 : IntKind.i64.wrap ((k : Int) - 1) = ((k - 1 : Nat) : Int) := by rw [wrap64 (by omega) (by omega)]; omega
            have hrec := fun (G : Heap) (inn d : Int) (hd0 : 0 ≤ d) (hd1 : d ≤ 20) (hG : G[b]? = some [.sc (.int .i64 (k - 1 : Nat))]) hp => ih a[i].kids (by have := Node.kids_lt hm; omega) (hP.kids _ hPx) (hP.len _ hPx) G b inn d (k - 1) hd0 hd1 (by omega) hG hp
            rw [ea] at own para
            generalize hy : ownN a[i] a[i].kind = y at own
            generalize hy3 : ownN a[i] 3 = y3 at para
            rw [Node.pv_eq] at own para
            simp [gl] at own para
            have hset : ∀ m : Int, NP (H.set b [.sc (.int .i64 m)]) := fun m fs hfs f hf => by
              rcases List.mem_or_eq_of_mem_set hfs with h | h
              · exact hp fs h f hf
              · subst h; simp at hf; subst hf; rfl
            have wh3 := treeWhole y3
            rw [Node.pv_eq] at wh3
            simp [gl] at wh3
            have hdrop : a.drop i = a[i] :: a.drop (i + 1) := List.drop_eq_getElem_cons hlt
            rw [hdrop, tidyL, if_neg (by omega), if_neg (by omega)] at ho1 ho2
            have fin : ∀ (o : List Node) (k' : Nat) (X' : Heap), tidyN inn d k a[i] = (o, k') → NP X' → ∀ q, q = (out ++ o).map Node.pv → ∃ d', d' < a.length - i ∧ ∃ i', d' = a.length - i' ∧ i' ≤ a.length ∧ ∃ x x_1 x_2,
                H.set b [FV.sc (PV.int IntKind.i64 (k' : Nat))] ++ X' = H.set b [FV.sc (PV.int IntKind.i64 (x_1 : Nat))] ++ x_2 ∧ NP x_2 ∧ x_1 ≤ left ∧ x.length + x_1 ≤ left ∧
                ((tidyL inn d left a).1 = x ++ (tidyL inn d x_1 (a.drop i')).1 ∧ (tidyL inn d left a).2 = (tidyL inn d x_1 (a.drop i')).2) ∧ q = x.map Node.pv ∧ IntKind.i64.wrap (i + 1) = (i' : Nat) := by
              intro o k' X' he hX' q hq
              have hc := tidyL_count (SizeOf.sizeOf [a[i]] + 1) [a[i]] (by omega) inn d k
              rw [tidyL, if_neg (by omega), if_neg (by omega), tidyL] at hc
              simp [he] at hc ho1 ho2
              exact ⟨a.length - (i + 1), by omega, i + 1, rfl, by omega, out ++ o, k', X', rfl, hX', by omega, by simp; omega, ⟨by simp [ho1], ho2⟩, hq, by rw [wrap64 (by omega) (by omega)]; omega⟩
            have hn' := tidyN_eq inn d k a[i]
            rw [hy, hy3] at hn'
            obtain ⟨t1, hk1⟩ : ∃ t : Bool, (a[i].kind = 1) = (t = true) := ⟨decide (a[i].kind = 1), by simp⟩
            obtain ⟨t2, hk2⟩ : ∃ t : Bool, (a[i].kind = 2) = (t = true) := ⟨decide (a[i].kind = 2), by simp⟩
            have hlm : lenMax ≥ 2147483648 := by unfold lenMax; omega
            have hcr := tidyL_count _ a[i].kids (Nat.lt_succ_self _) inn d (k - 1)
            have hcr2 := tidyL_count _ a[i].kids (Nat.lt_succ_self _) a[i].kind (d + 1) (k - 1)
            by_cases hA : (a[i].kind = 1 ∨ a[i].kind = 2) ∧ standsIn a[i].kind inn = false
            · have hs := hA.2
              rw [if_pos hA] at hn'
              replace hA := hA.1
              rw [hk1, hk2] at hA
              cases t1 <;> cases t2
              · simp at hA
              rotate_right
              · simp at hk1 hk2; omega
              all_goals
                simp [hs_b hbl, hs_set hbl, hs_at, hs_at0, hk1, hk2, w1]
                refine CallQ.mk (Call.pure callable69 (by simp) (by simp) st) ?_
                simp [hs]
                refine CallQ.mk (Call.pure callable70 (by simp) (by simp) para) ?_
                simp [hs_at, hs_at0]
                refine CallQ.mk (Call.pure callable71 (by simp) (by simp) wh3) ?_
                simp
                cases hw : wholeN y3
                · simp [hs_at, hs_at0]
                  refine CallQ.mk (Call.shared callable56 (hrec _ inn d hd0 hd1 (hs_b hbl) ?_)) ?_
                  · exact np_app (hset _) (np_app hX (np_cons (by simp) (np_cons (by simp) np_nil)))
                  simp [hs_set hbl, sizedN]
                  exact ⟨by omega, fin _ _ _ (by rw [hn', hw]) (np_app hX (np_cons (by simp) (np_cons (by simp) np_nil))) _ (by simp)⟩
                · simp [hs_at, hs_at0, sizedN, sized1, -List.cons_append]
                  refine ⟨by omega, CallQ.mk (Call.shared callable56 (hrec _ inn d hd0 hd1 (hs_b hbl) ?_)) ?_⟩
                  · exact np_app (hset _) (np_app hX (np_cons (by simp) (np_cons (by simp) np_nil)))
                  simp [hs_set hbl, sizedN, sized1, sized_app]
                  exact ⟨by omega, fin _ _ _ (by rw [hn', hw]) (np_app hX (np_cons (by simp) (np_cons (by simp) np_nil))) _ (by simp [Node.pv_eq y3, gl])⟩
            · rw [if_neg hA] at hn'
              have hA' : t1 = true ∨ t2 = true → standsIn a[i].kind inn = true := by
                rw [hk1, hk2] at hA
                intro h
                cases hs : standsIn a[i].kind inn
                · exact absurd ⟨h, hs⟩ hA
                · rfl
              have hyk : y.kids = [] := by rw [← hy]; rfl
              have wh := treeWhole y
              rw [Node.pv_eq] at wh
              simp [gl] at wh
              have wh0 := treeWhole (y.withKids [Node.zero])
              rw [Node.pv_eq] at wh0
              simp [gl, Node.zero_pv] at wh0
              have wd1 : IntKind.i64.wrap (d + 1) = d + 1 := wrap64 (by omega) (by omega)
              cases t1 <;> cases t2
              all_goals
                simp at hA'
                simp [hs_b hbl, hs_set hbl, hs_at, hs_at0, hk1, hk2, w1, wd1]
                try
                  refine CallQ.mk (Call.pure callable69 (by simp) (by simp) st) ?_
                  simp [hA', hs_at, hs_at0]
                refine CallQ.mk (Call.pure callable70 (by simp) (by simp) own) ?_
                simp [hs_at, hs_at0]
                refine CallQ.mk (Call.pure callable72 (by simp) (by simp) fl) ?_
                simp
                cases hkd : hasKids a[i].kind
                · simp [hs_at, hs_at0]
                  refine CallQ.mk (Call.pure callable71 (by simp) (by simp) wh) ?_
                  simp
                  cases hw : wholeN y
                  · simp [hs_at, hs_at0, sizedN]
                    exact ⟨by rw [hyk, List.length_nil]; omega, fin _ _ _ (by rw [hn', hkd, hw]; rfl) (np_app hX (np_cons (by simp) (np_cons (by simp) np_nil))) _ (by simp [hyk])⟩
                  · simp [hs_at, hs_at0, sizedN, sized1, sized_app]
                    exact ⟨by omega, fin _ _ _ (by rw [hn', hkd, hw]; rfl) (np_app hX (np_cons (by simp) (np_cons (by simp) np_nil))) _ (by simp [Node.pv_eq y, gl])⟩
                · simp [hs_at, hs_at0, sized1]
                  refine CallQ.mk (Call.pure callable71 (by simp) (by simp) wh0) ?_
                  simp
                  cases hw : wholeN (y.withKids [Node.zero])
                  · simp [hs_at, hs_at0]
                    refine CallQ.mk (Call.shared callable56 (hrec _ inn d hd0 hd1 (hs_b hbl) ?_)) ?_
                    · exact np_app (hset _) (np_app hX (np_cons (by simp) (np_cons (by simp) np_nil)))
                    generalize hr : tidyL inn d (k - 1) a[i].kids = r at *
                    obtain ⟨rl, rk⟩ := r
                    have wh1 := treeWhole (y.withKids rl)
                    rw [Node.pv_eq] at wh1
                    simp [gl] at wh1
                    simp at hcr
                    simp [hs_set hbl, hs_at, hs_at0, hs_put, hs_put0, sizedN]
                    refine CallQ.mk (Call.pure callable71 (by simp) (by simp) wh1) ?_
                    simp
                    cases hw1 : wholeN (y.withKids rl)
                    · simp [hs_at, hs_at0, sizedN]
                      exact ⟨by omega, fin rl rk _ (by rw [hn', hkd, if_pos rfl, hw]; simp [hw1]) (np_app hX (np_cons (by simp) (np_cons (by simp) np_nil))) _ (by simp)⟩
                    · simp [hs_at, hs_at0, sizedN, sized1, sized_app]
                      exact ⟨by omega, fin [y.withKids rl] rk _ (by rw [hn', hkd, if_pos rfl, hw]; simp [hw1]) (np_app hX (np_cons (by simp) (np_cons (by simp) np_nil))) _ (by simp [Node.pv_eq (y.withKids rl), gl])⟩
                  · simp [hs_at, hs_at0, wd1]
                    refine CallQ.mk (Call.shared callable56 (hrec _ a[i].kind (d + 1) (by omega) (by omega) (hs_b hbl) ?_)) ?_
                    · exact np_app (hset _) (np_app hX (np_cons (by simp) (np_cons (by simp) np_nil)))
                    generalize hr : tidyL a[i].kind (d + 1) (k - 1) a[i].kids = r at *
                    obtain ⟨rl, rk⟩ := r
                    have wh1 := treeWhole (y.withKids rl)
                    rw [Node.pv_eq] at wh1
                    simp [gl] at wh1
                    simp at hcr2
                    simp [hs_set hbl, hs_at, hs_at0, hs_put, hs_put0, sizedN]
                    refine CallQ.mk (Call.pure callable71 (by simp) (by simp) wh1) ?_
                    simp
                    cases hw1 : wholeN (y.withKids rl)
                    · simp [hs_at, hs_at0, sizedN]
                      exact ⟨by omega, fin rl rk _ (by rw [hn', hkd, if_pos rfl, hw]; simp [hw1]) (np_app hX (np_cons (by simp) (np_cons (by simp) np_nil))) _ (by simp)⟩
                    · simp [hs_at, hs_at0, sizedN, sized1, sized_app]
                      exact ⟨by omega, fin [y.withKids rl] rk _ (by rw [hn', hkd, if_pos rfl, hw]; simp [hw1]) (np_app hX (np_cons (by simp) (np_cons (by simp) np_nil))) _ (by simp [Node.pv_eq (y.withKids rl), gl])⟩
      · simp at hlt
        simp
        rw [List.drop_eq_nil_of_le hlt, tidyL] at ho1 ho2
        simp at ho1 ho2
        exact ⟨by rw [ho1], by rw [ho2]⟩
end Go.Proofs.YtlbjfjaleefiiaaDoor.Ev
end
section
namespace Go.Proofs.YtlbjfjaleefiiaaDoor.Ev
open Go
structure Doc where
  name : ByteArray
  part : ByteArray
  date : ByteArray
  source : ByteArray
  kids : List Node
def Doc.pv (d : Doc) : PV := .agg [.str d.name, .str d.part, .str d.date, .str d.source, .sl (d.kids.map Node.pv)]
def tidyD (d : Doc) : Doc := { d with kids := (tidyL 0 0 20000 d.kids).1 }
set_option linter.unusedSimpArgs false in
set_option maxRecDepth 20000 in
set_option maxHeartbeats 4000000 in
theorem treeTidy {P : Node → Prop} (hP : Fit P) (d : Doc) (hall : ∀ x ∈ d.kids, P x) (hl : d.kids.length ≤ 4611686018427387904) : PCon C0 36 [d.pv.toFV] (tidyD d).pv.toFV := by
  refine penter36 ?_
  simp [Tryd.f36, Doc.pv]
  refine CallQ.mk (Call.shared callable56 (treeNodes hP _ d.kids (Nat.lt_succ_self _) hall hl _ 2 0 0 20000 (by omega) (by omega) (by omega) rfl ?_)) ?_
  · exact np_cons (by simp) (np_cons (by simp) (np_cons (by simp) np_nil))
  simp [tidyD]
theorem treeTidy' {P : Node → Prop} (hP : Fit P) (d : Doc) (hall : ∀ x ∈ d.kids, P x) (hl : d.kids.length ≤ 4611686018427387904) : PCon C0 36 [.agg [.sc (.str d.name), .sc (.str d.part), .sc (.str d.date), .sc (.str d.source), .sc (.sl (d.kids.map Node.pv))]]
    (.agg [.sc (.str d.name), .sc (.str d.part), .sc (.str d.date), .sc (.str d.source), .sc (.sl ((tidyL 0 0 20000 d.kids).1.map Node.pv))]) := by
  have := treeTidy hP d hall hl
  simpa [Doc.pv, tidyD] using this
end Go.Proofs.YtlbjfjaleefiiaaDoor.Ev
end
section
namespace Go.Proofs.YtlbjfjaleefiiaaDoor.Ev
open Go
def Wd.freeze (W : Wd) (b n : Nat) : Wd := { W with lim := fun x => if x = b then n else W.lim x }
theorem flat_at {s : Nat} : ∀ {l : List PV} {x y : Nat} {e q : PV}, Sized s l → l[x]? = some e → e.leaves[y]? = some q → (l.flatMap PV.leaves)[x * s + y]? = some q
  | [], x, y, e, q, _, he, _ => by simp at he
  | p :: l, 0, y, e, q, _, he, hq => by
    simp at he; subst he
    rw [List.flatMap_cons, Nat.zero_mul, Nat.zero_add, List.getElem?_append_left (List.getElem?_eq_some_iff.1 hq).1]
    exact hq
  | p :: l, x + 1, y, e, q, hz, he, hq => by
    have hps : p.leaves.length = s := hz p (by simp)
    rw [List.flatMap_cons, List.getElem?_append_right (by rw [hps, Nat.succ_mul]; omega), hps, show (x + 1) * s + y - s = x * s + y by rw [Nat.succ_mul]; omega]
    exact flat_at (fun z hz' => hz z (by simp [hz'])) (by simpa using he) hq
theorem freeze_evo {W : Wd} {B n : Nat} (h0 : W.lim B = 0) (hB : W.o B = none) : Evo0 W (W.freeze B n) (fun _ _ => True) :=
  { cell := fun _ _ _ => rfl
    lim := fun x => by
      simp only [Wd.freeze]
      split
      · rename_i h; rw [h, h0]; exact Nat.zero_le _
      · exact Nat.le_refl _
    shape := fun _ c _ _ h => ⟨c, h, rfl⟩
    hold := fun x q i ho _ => ⟨ho, by
      simp only [Wd.freeze]
      split
      · rename_i h; rw [h, hB] at ho; simp at ho
      · rfl⟩
    beta := fun x i ho hb => ⟨hb, ho⟩
    row := fun i => ⟨Nat.le_refl _, fun _ h => ⟨rfl, h⟩⟩ }
theorem HInv.freeze {C : Ctx} {H : Heap} {W : Wd} {B n : Nat} (h : HInv C H W) (h0 : W.lim B = 0) (hB : W.o B = none) (hlt : B < W.w.heap.size) : HInv C H (W.freeze B n) := by
  have hE0 := freeze_evo (n := n) h0 hB
  refine ⟨fun x gs hgs => ?_, fun g ls hls j q hq => ?_, fun x hx => ?_, fun x i k hx => h.boxes x i k hx, h.gen0, h.kept.same rfl fun _ h => h⟩
  · obtain ⟨m1, m2, c₂, T₂, fz₂, m3, m4, m5, m6⟩ := h.box x gs hgs
    refine ⟨⟨m1.1, m1.2.congr rfl⟩, ?_, c₂, T₂, fz₂, m3, m4, m5, fun i g v hg hv => ⟨(m6 i g v hg hv).1, (m6 i g v hg hv).2.mono0 hE0 (fun _ _ _ => trivial)⟩⟩
    simp only [Wd.freeze]
    split
    · rename_i hh
      have q := m1.1
      have : W.β x = B := hh
      rw [this, hB] at q; simp at q
    · exact m2
  · obtain ⟨m1, m2, v, m3, m4⟩ := h.laid g ls hls j q hq
    exact ⟨m1, Nat.lt_of_lt_of_le m2 (hE0.lim g), v, m3, m4.mono (fun _ _ _ => rfl) hE0.lim⟩
  · obtain ⟨m1, m2⟩ := h.fresh x hx
    refine ⟨?_, m2⟩
    simp only [Wd.freeze]
    rw [if_neg (by intro h; subst h; exact absurd hlt (Nat.not_lt.2 hx))]
    exact m1
theorem HInv.lt {C : Ctx} {H : Heap} {W : Wd} (h : HInv C H W) {b : Nat} {fs : List FV} (hb : H[b]? = some fs) : W.β b < W.w.heap.size := by
  obtain ⟨k1, _⟩ := h.box b fs hb
  rcases Nat.lt_or_ge (W.β b) W.w.heap.size with h' | h'
  · exact h'
  · have := k1.1
    rw [(h.fresh _ h').2] at this; simp at this
theorem forget_none {W : Wd} {n b x k : Nat} (hn : n ≤ b) (h : W.o x = some (.box b, k)) : (W.forget n).o x = none := by
  have : below n (.box b) = false := by simp [below]; omega
  rw [forget_o]
  simp [Wd.only, h, this]
theorem frozen_row {W W₁ : Wd} {B off s cap : Nat} {cs : Array Value} {T : TypeId} {fz : Nat × Nat} {fs : List FV} {b : Nat} {l : List PV} (hs : 0 < s) (hl : Sized s l) (k3 : W.w.heap[B]? = some (.cells cs T fz)) (k4 : fs.length ≤ cs.size) (k6 : ∀ (i : Nat) (f : FV) (v : Value), fs[i]? = some f → cs[i]? = some v → f.isLeaf = true ∧ FRep W (some (.leaf b i)) 0 f v)
    (h8 : ∀ k q, (l.flatMap PV.leaves)[k]? = some q → ∃ f, fs[off + k]? = some f ∧ f.leafPV = some q) (hw : W₁.w = W.w) (hlim : ∀ x, W.lim x ≤ W₁.lim x) (hB : cs.size ≤ W₁.lim B) (hcap : l.length ≤ cap) : Rep W₁.w W₁.lim (.sl l) (.slice (some ⟨B, off, none⟩) l.length cap) := by
  have hcell : ∀ x y, x < l.length → ∀ e q, l[x]? = some e → e.leaves[y]? = some q → ∃ u, W.w.cell? ⟨B, off + (x * s + y), none⟩ = some u ∧ off + (x * s + y) < cs.size ∧ q.isLeaf = true ∧ Rep W.w W.lim q u := by
    intro x y hx e q he hq
    have hk : (l.flatMap PV.leaves)[x * s + y]? = some q := flat_at hl he hq
    obtain ⟨f, hfs, hfq⟩ := h8 _ _ hk
    have hlt : off + (x * s + y) < fs.length := (List.getElem?_eq_some_iff.1 hfs).1
    have hcl : off + (x * s + y) < cs.size := by omega
    obtain ⟨m1, m2⟩ := k6 _ _ cs[off + (x * s + y)] hfs (Array.getElem?_eq_getElem hcl)
    obtain ⟨m3, m4⟩ := leafPV_rep m2 hfq
    exact ⟨cs[off + (x * s + y)], by rw [cell_of_heap k3]; exact Array.getElem?_eq_getElem hcl, hcl, m3, m4⟩
  by_cases hl0 : l = []
  · subst hl0; exact .nil
  refine .sl (fun x y => (W.w.cell? ⟨B, off + (x * s + y), none⟩).getD default) (sz := s) rfl rfl hs (fun x e he => hl e (List.mem_of_getElem? he)) (fun x y e q he hq => ?_) (fun x y e q he hq => ?_) (fun x y e q he hq => ?_) (fun x y e q he hq => ?_) hcap
  all_goals
    obtain ⟨u, q1, q2, q3, q4⟩ := hcell x y (List.getElem?_eq_some_iff.1 he).1 e q he hq
  · exact Nat.lt_of_lt_of_le q2 hB
  · rw [hw, q1]; rfl
  · exact q3
  · simp only [q1, Option.getD_some]
    exact q4.mono (fun _ _ _ => by rw [hw]) hlim
section
variable {C : Ctx} {f : FuncId} {fn : Func} {c : Code} {args : List FV} {H H' : Heap} {mv vars : List Nat} (hf : C.P.funcs[f]? = some fn) (hb : fn.body = some c) (hn : (resTmps fn.results.toList).Nodup) (hmix : C.P.follows .mixedOrders = true) (hk : codeOk mv c = true)
    (l : List PV) (s : Nat) (hs : 0 < s) (hl : Sized s l)
include hf hb hn hmix hk hs hl
theorem con_freezeR (hp : ∀ fs ∈ H', ∀ f ∈ body fs, f.und0 H.length = true)
    (h : wpC C fn.ntmps mv vars c (argsEnv 0 args) H fun x e H₁ => (match x with | .exit _ => False | _ => True) ∧ ∃ (b g : Nat) (cells : List FV), resultOf C e H₁ fn.results.toList = some (.gr b g s l.length) ∧ H.length ≤ b ∧ H₁.take H.length = H' ∧ H₁[b]? = some [.row g cells] ∧ ∀ (k : Nat) (q : PV), (l.flatMap PV.leaves)[k]? = some q → ∃ f : FV, cells[k]? = some f ∧ f.leafPV = some q) : Con C f args H (.sc (.sl l)) H' :=
  fun vs W hlen hargs hH _ => (con_gen2 (G := fun r H₁ => ∃ (b g : Nat) (cells : List FV), r = .gr b g s l.length ∧ H.length ≤ b ∧ H₁.take H.length = H' ∧ H₁[b]? = some [.row g cells] ∧ ∀ (k : Nat) (q : PV), (l.flatMap PV.leaves)[k]? = some q → ∃ f : FV, cells[k]? = some f ∧ f.leafPV = some q) hf hb hn hmix hk (wpC_mono _ _ _ _ _ (fun _ _ _ ⟨h1, b, g, cells, h2, h3⟩ => ⟨h1, _, h2, b, g, cells, rfl, h3⟩) h) vs W hlen hargs hH).mono fun _ _ ⟨v, W', H₁, r, h1, h2, ⟨b, g, cells, hr, hbn, h3, h7, h8⟩, h4, h5, h6⟩ => by
    subst hr
    have hbl := (List.getElem?_eq_some_iff.1 h7).1
    obtain ⟨k1, k2, cs, T, fz, k3, k4, k5, k6⟩ := h5.box b _ h7
    generalize hv : v = v' at h4
    cases h4 with
    | @gr _ _ _ _ _ _ cap A a1 a2 a3 =>
      subst hv
      obtain ⟨q1, q2, q3⟩ := a3 k1.2
      subst q1
      have hlt := h5.lt h7
      have hbx := h5.trim (n := H.length) (h3 ▸ hp)
      rw [h3] at hbx
      have hBo := forget_none hbn q2
      have hE0 := freeze_evo (W := W'.forget H.length) (n := cs.size) (B := W'.β b) k2 hBo
      refine ⟨_, (W'.forget H.length).freeze (W'.β b) cs.size, h1, h2, ?_, hbx.freeze k2 hBo hlt, ?_⟩
      · refine .sc rfl (frozen_row (W := W') (off := 0) hs hl k3 k4 k6 (fun k q hkq => by rw [Nat.zero_add]; exact h8 k q hkq) rfl hE0.lim ?_ a2)
        simp [Wd.freeze]
      · have h6' := h6.forget hH
        refine Evo.of h6'.os h6'.tape h6'.output h6'.size h6'.cell (fun x => Nat.le_trans (h6'.lim x) (hE0.lim x)) h6'.shape (fun _ _ _ _ hk => hk.elim) h6'.beta h6'.row (fun x hxl hxo => ?_)
        obtain ⟨p1, p2, p3⟩ := h6.away x hxl hxo
        refine ⟨p1, ?_, (h6'.away x hxl hxo).2.2⟩
        simp only [Wd.freeze]
        rw [if_neg (by intro h; subst h; rw [q2] at p3; simp at p3)]
        exact p2
end
end Go.Proofs.YtlbjfjaleefiiaaDoor.Ev
end
section
namespace Go.Proofs.YtlbjfjaleefiiaaDoor.Ev
open Go
section
variable {C : Ctx} {f : FuncId} {fn : Func} {c : Code} {args : List FV} {H : Heap} {mv vars : List Nat} {t n : Nat} {ty : TypeId} (hf : C.P.funcs[f]? = some fn) (hb : fn.body = some c) (hrs : fn.results.toList = [.cell t ty]) (ha : aggOf C.P ty = some true) (hn : szOf C.P ty = some n)
  (hmix : C.P.follows .mixedOrders = true) (hk : codeOk mv c = true)
include hf hb hrs ha hn hmix hk
theorem con_genO {G : List FV → Heap → Prop} (h : wpC C fn.ntmps mv vars c (argsEnv 0 args) H fun x e H₁ => (match x with | .exit _ => False | _ => True) ∧ ∃ b, e.get t = .ptr b 0 ∧ (H₁.getD b []).length = n ∧ G (H₁.getD b []) (H₁.set b ((H₁.getD b []).map demote)))
    (vs : List Value) (W : Wd) (hlen : vs.length = args.length) (hargs : ∀ (j : Nat) (g : FV) (v : Value), args[j]? = some g → vs[j]? = some v → FRep W none 0 g v) (hH : HInv C H W) :
    Calls C.P f vs.toArray W.w fun x w' => ∃ v W' H₂ cells, x = .returned v ∧ W'.w = w' ∧ G cells H₂ ∧ FRep W' (some .res) 0 (.oagg cells) v ∧ HInv C H₂ W' ∧ Evo W W' (fun _ _ => False) := by
  refine calls_of_wp hf hb ?_
  have hi : Inv C fn.ntmps (argsEnv 0 args) H { tmps := vs.toArray ++ Array.replicate (fn.ntmps - vs.toArray.size) undef, defers := [] } W := by
    refine ⟨hH, fun t => ?_, by simp; omega, rfl⟩
    rw [argsEnv_get]
    simp only [Nat.zero_le, if_true, Nat.sub_zero]
    cases hg : args[t]? with
    | none => exact .undef
    | some g =>
      have hlt : t < vs.length := by
        rw [hlen]
        rcases Nat.lt_or_ge t args.length with h' | h'
        · exact h'
        · simp [List.getElem?_eq_none h'] at hg
      have hv := List.getElem?_eq_getElem hlt
      have : (vs.toArray ++ Array.replicate (fn.ntmps - vs.toArray.size) undef).getD t undef = vs[t] := by
        simp [Array.getElem?_append, hlt]
      rw [this]
      exact (hargs t g _ hg hv).weaken rfl
  refine wp_mono (wpC_sound hmix c hk _ _ _ _ _ h hi) ?_
  rintro x a' w' ⟨y, e', H₁, W', rfl, rfl, ⟨hy, b, hbt, hl, hG⟩, hi', hE⟩
  have hi2 : Inv C a'.tmps.size e' H₁ a' W' := ⟨hi'.heap, hi'.env, Nat.le_refl _, hi'.defers⟩
  have hr := hi'.env t
  rw [hbt] at hr
  have htl : t < a'.tmps.size := by
    rcases Nat.lt_or_ge t a'.tmps.size with h' | h'
    · exact h'
    · rw [Array.getD_eq_getD_getElem?, Array.getElem?_eq_none h'] at hr
      have hr' : FRep W' (some (.tmp t)) 0 (.ptr b 0) undef := hr
      cases hr'
  obtain ⟨W₂, v, h1, h2, h3, h4⟩ := step_loadmvAgg hi2 htl (x := .tmp t) (b := b) (off := 0) (by simp [rd, hbt]) ha hn (by rw [hl]; omega)
  have hv : (results fn a'.tmps).run C.P W'.w = .ok v W'.w := by
    have h5 : (resSem a'.tmps (.cell t ty)).run C.P W'.w = .ok v W'.w := by
      have hev : a'.eval (.tmp t) = a'.tmps.getD t undef := rfl
      rw [hev] at h2
      simp only [resSem]
      generalize a'.tmps.getD t undef = u at h2 hr
      cases hr with
      | ptr =>
        simp only [asAddr, Sem.run_bind, Sem.run_pure, Result.andThen_ok]
        simpa [Instr.loadAt, Instr.sureAddr] using h2
    have h6 : (fn.results.mapM (resSem a'.tmps)).run C.P W'.w = .ok #[v] W'.w := by
      rw [Array.mapM_eq_mapM_toList, Sem.run_map, hrs]
      simp only [List.mapM_cons, List.mapM_nil, Sem.run_bind, h5, Result.andThen_ok, Sem.run_pure]
    rw [results_eq]
    simp only [Sem.run_bind, h6, Result.andThen_ok]
    rfl
  have hdrop : ((H₁.getD b []).drop 0).take n = H₁.getD b [] := by rw [List.drop_zero, ← hl, List.take_length]
  have hspl : splice (H₁.getD b []) 0 ((H₁.getD b []).map demote) = (H₁.getD b []).map demote := by
    unfold splice; simp
  rw [hdrop, hspl] at h3
  have hst := h3.env t
  rw [tmps_put (dst := some t) htl (Nat.le_refl _), get_put, if_pos rfl, if_pos rfl] at hst
  have hE2 : Evo W₂ (W₂.out [.tmp t]) (fun q _ => q.heap = true) := Evo.of rfl rfl rfl (Nat.le_refl _) (fun _ _ _ => rfl) (fun _ => Nat.le_refl _) (fun _ c _ _ h => ⟨c, h, rfl⟩) (fun b q i hb hq => ⟨by
      simp only [Wd.out, hb]
      cases q <;> simp_all [Root.heap], rfl⟩) (fun b i hb hβ => ⟨hβ, by simp only [Wd.out, hb]⟩) (fun i => ⟨Nat.le_refl _, fun _ h => ⟨rfl, by simp only [Wd.out, h]⟩⟩) (fun b _ hb => ⟨rfl, rfl, by simp only [Wd.out, hb]⟩)
  have hH' : HInv C (H₁.set b ((H₁.getD b []).map demote)) (W₂.out [.tmp t]) := h3.heap.evo hE2.toEvo0 (fun _ _ _ _ => rfl) rfl rfl rfl (fun b hb => by simp only [Wd.out, (h3.heap.fresh b hb).2]) (fun b i k hb => by
    simp only [Wd.out] at hb
    split at hb
    · split at hb <;> simp at hb
    · exact h3.heap.boxes b i k hb) (fun b hb => by simp only [Wd.out, hb])
  have hrep : FRep (W₂.out [.tmp t]) (some .res) 0 (.oagg (H₁.getD b [])) v := hst.carry (A := W₂) (B := W₂.out [.tmp t]) (r := .tmp t) (r' := .res) (fun _ _ _ => rfl) (fun _ => Nat.le_refl _) (fun _ c _ _ h => ⟨c, h, rfl⟩) (fun b i hb => ⟨by simp [Wd.out, hb, resIdx], rfl⟩) (fun b i hb hβ => ⟨hβ, by simp only [Wd.out, hb]⟩) (fun i => ⟨Nat.le_refl _, fun _ h => ⟨rfl, by simp only [Wd.out, h]⟩⟩) (.inr rfl)
  have hfin : ∃ v' W'' H₂ cells, Ending.returned v = .returned v' ∧ W''.w = W'.w ∧ G cells H₂ ∧ FRep W'' (some .res) 0 (.oagg cells) v' ∧ HInv C H₂ W'' ∧ Evo W W'' (fun _ _ => False) :=
    ⟨v, W₂.out [.tmp t], _, _, rfl, h1, hG, hrep, hH', (hE.trans0 h4).trans0 (hE2.weaken (by simp))⟩
  cases y with
  | exit i => exact hy.elim
  | normal => exact ⟨hi'.defers, v, hv, hfin⟩
  | ret => exact ⟨hi'.defers, v, hv, hfin⟩
end
theorem pcon_cellO {C : Ctx} {f : FuncId} {fn : Func} {c : Code} {args cells : List FV} {mv vars : List Nat} {t n : Nat} {ty : TypeId} (hf : C.P.funcs[f]? = some fn) (hb : fn.body = some c) (hrs : fn.results.toList = [.cell t ty]) (ha : aggOf C.P ty = some true) (hn : szOf C.P ty = some n)
    (hmix : C.P.follows .mixedOrders = true) (hk : codeOk mv c = true) (h : wpC C fn.ntmps mv vars c (argsEnv 0 args) [] fun x e H₁ => (match x with | .exit _ => False | _ => True) ∧ ∃ b, e.get t = .ptr b 0 ∧ (H₁.getD b []).length = n ∧ H₁.getD b [] = cells) : PCon C f args (.oagg cells) :=
  fun vs W hlen hargs hH _ => (con_genO (G := fun l _ => l = cells) hf hb hrs ha hn hmix hk h vs W hlen hargs hH).mono fun _ _ ⟨v, W', H₂, l, h1, h2, h3, h4, h5, h6⟩ => ⟨v, W', H₂, h1, h2, h3 ▸ h4, h5, h6⟩
theorem con_trimO {C : Ctx} {f : FuncId} {fn : Func} {c : Code} {args cells : List FV} {H H' : Heap} {mv vars : List Nat} {t n : Nat} {ty : TypeId} (hf : C.P.funcs[f]? = some fn) (hb : fn.body = some c) (hrs : fn.results.toList = [.cell t ty]) (ha : aggOf C.P ty = some true) (hn : szOf C.P ty = some n)
    (hmix : C.P.follows .mixedOrders = true) (hk : codeOk mv c = true) (hr : (FV.oagg cells).under H.length = true) (hp : ∀ fs ∈ H', ∀ f ∈ body fs, f.und0 H.length = true)
    (h : wpC C fn.ntmps mv vars c (argsEnv 0 args) H fun x e H₁ => (match x with | .exit _ => False | _ => True) ∧ ∃ b, e.get t = .ptr b 0 ∧ (H₁.getD b []).length = n ∧ H₁.getD b [] = cells ∧ H.length ≤ b ∧ H₁.take H.length = H') : Con C f args H (.oagg cells) H' :=
  fun vs W hl hargs hH _ => (con_genO (G := fun l H₂ => l = cells ∧ H₂.take H.length = H') hf hb hrs ha hn hmix hk (wpC_mono _ _ _ _ _ (fun x e H₁ ⟨h1, b, h2, h3, h4, h5, h6⟩ => ⟨h1, b, h2, h3, h4, by rw [List.take_set_of_le h5]; exact h6⟩) h) vs W hl hargs hH).mono fun _ _ ⟨v, W', H₂, l, h1, h2, ⟨h3, h3'⟩, h4, h5, h6⟩ => by
    subst h3
    refine ⟨v, W'.forget H.length, h1, h2, ?_, h3' ▸ h5.trim (h3' ▸ hp), h6.forget hH⟩
    exact h4.under (A := W') (B := W'.forget H.length) (r := .res) (r' := .res) (n := H.length) (fun _ _ _ => rfl) (fun _ => Nat.le_refl _) (fun _ c _ _ h => ⟨c, h, rfl⟩) (fun b' i' hi hb' hβ => ⟨hβ, only_some hb' (by simp [below, hi])⟩) (fun i' hi => ⟨by simp [Wd.forget, hi], fun _ ho => ⟨rfl, only_some ho (by simp [below, hi])⟩⟩) (fun _ b' i' hb' => ⟨only_some hb' rfl, rfl⟩) (.inr rfl) hr
end Go.Proofs.YtlbjfjaleefiiaaDoor.Ev
end
section
namespace Go.Proofs.YtlbjfjaleefiiaaDoor.Ev
open Go
theorem HInv.below {C : Ctx} {H : Heap} {W : Wd} (h : HInv C H W) {w' : World} (hb : RowKit.Below W.w.heap.size W.w w') : Evo W { W with w := w' } (fun _ _ => True) ∧ HInv C H { W with w := w' } := by
  have hlt : ∀ b off, off < W.lim b → b < W.w.heap.size := fun b off ho => by
    rcases Nat.lt_or_ge b W.w.heap.size with h' | h'
    · exact h'
    · rw [(h.fresh b h').1] at ho; omega
  have hE : Evo W { W with w := w' } (fun _ _ => True) := by
    refine Evo.of hb.os hb.tape hb.output hb.size (fun b off ho => ?_) (fun _ => Nat.le_refl _) (fun b c T fz hc => ?_) (fun _ _ _ ho _ => ⟨ho, rfl⟩) (fun _ _ ho hβ => ⟨hβ, ho⟩) (fun _ => ⟨Nat.le_refl _, fun _ h => ⟨rfl, h⟩⟩) (fun b hbl ho => ⟨hb.block b hbl, rfl, ho⟩)
    · simp only [World.cell?]
      rw [hb.block b (hlt b off ho)]
    · have hbl := (Array.getElem?_eq_some_iff.1 hc).1
      exact ⟨c, by show w'.heap[b]? = _; rw [hb.block b hbl]; exact hc, rfl⟩
  refine ⟨hE, fun b fs hfs => ?_, fun g ls hls j q hq => ?_, fun b hbl => h.fresh b (Nat.le_trans hb.size hbl), h.boxes, h.gen0, h.kept.evo hE⟩
  · obtain ⟨h1, h2, c, T, fz, h3, h4, h5, h6⟩ := h.box b fs hfs
    have hbl := (Array.getElem?_eq_some_iff.1 h3).1
    exact ⟨h1, h2, c, T, fz, by show w'.heap[W.β b]? = _; rw [hb.block _ hbl]; exact h3, h4, h5, fun i f v hf hv => ⟨(h6 i f v hf hv).1, (h6 i f v hf hv).2.mono hE (by simp)⟩⟩
  · obtain ⟨m1, m2, v, m3, m4⟩ := h.laid g ls hls j q hq
    exact ⟨m1, m2, v, by rw [hE.cell _ _ m2]; exact m3, m4.mono hE.cell hE.lim⟩
theorem pcon_below {C : Ctx} {f : FuncId} {args : List FV} {p : PV} {v : Value} (hp : p.isLeaf = true) (hrep : ∀ w lim, Rep w lim p v)
    (h : ∀ (vs : List Value) (W : Wd), vs.length = args.length → (∀ (j : Nat) (g : FV) (u : Value), args[j]? = some g → vs[j]? = some u → FRep W none 0 g u) → HInv C [] W → Calls C.P f vs.toArray W.w fun e w' => e = .returned v ∧ RowKit.Below W.w.heap.size W.w w') : PCon C f args (.sc p) :=
  fun vs W h1 h2 h3 _ => (h vs W h1 h2 h3).mono fun _ w' ⟨he, hb⟩ => ⟨v, { W with w := w' }, [], he, rfl, .sc hp (hrep _ _), (h3.below hb).2, (h3.below hb).1.weaken (by simp)⟩
theorem PCon.call1 {C : Ctx} {f : FuncId} {k k' : IntKind} {x y : Int} (h : PCon C f [.sc (.int k x)] (.sc (.int k' y))) {W : Wd} (hH : HInv C [] W) : Calls C.P f #[.int k x] W.w fun e w' => e = .returned (.int k' y) ∧ RowKit.Below W.w.heap.size W.w w' := by
  have h0 : HInv C [] { W with o := fun _ => none } := ⟨fun b fs hb => by simp at hb, hH.laid, fun b hb => ⟨(hH.fresh b hb).1, rfl⟩, fun b i k hb => by simp at hb, hH.gen0, hH.kept.same rfl fun _ _ => rfl⟩
  refine (h [.int k x] { W with o := fun _ => none } rfl (fun j g v hg hv => ?_) h0 (fun b q k hb => by simp at hb)).mono fun e w' ⟨v, W', J, he, hw, hr, _, hE⟩ => ?_
  · match j with
    | 0 => simp at hg hv; subst hg hv; exact .mkInt
    | j + 1 => simp at hg
  · subst he hw
    refine ⟨by rw [hr.int], hE.os, hE.tape, hE.output, hE.size, fun b hb => (hE.away b hb rfl).1⟩
theorem FRep.fn0 {W : Wd} {r : Option Root} {i : Nat} {f : FuncId} {v : Value} (h : FRep W r i (.fn f [] []) v) : v = .func (.func f) #[] #[] := by
  cases h with
  | @fn _ _ _ _ _ fs cs a b c d =>
    have e1 : fs = #[] := Array.eq_empty_of_size_eq_zero a
    have e2 : cs = #[] := Array.eq_empty_of_size_eq_zero b
    rw [e1, e2]
theorem args1 {a : FV} {vs : List Value} {W : Wd} (hl : vs.length = [a].length) (h : ∀ (j : Nat) (g : FV) (u : Value), [a][j]? = some g → vs[j]? = some u → FRep W none 0 g u) : ∃ u, vs = [u] ∧ FRep W none 0 a u := by
  match vs, hl with
  | [u], _ => exact ⟨u, rfl, h 0 a u rfl rfl⟩
theorem args2 {a b : FV} {vs : List Value} {W : Wd} (hl : vs.length = [a, b].length) (h : ∀ (j : Nat) (g : FV) (u : Value), [a, b][j]? = some g → vs[j]? = some u → FRep W none 0 g u) : ∃ u v, vs = [u, v] ∧ FRep W none 0 a u ∧ FRep W none 0 b v := by
  match vs, hl with
  | [u, v], _ => exact ⟨u, v, rfl, h 0 a u rfl rfl, h 1 b v rfl rfl⟩
end Go.Proofs.YtlbjfjaleefiiaaDoor.Ev
end
section
namespace Go.Proofs.YtlbjfjaleefiiaaDoor.Ev
open Go
theorem Con.pcon {C : Ctx} {f : FuncId} {args : List FV} {r : FV} {H' : Heap} (h : Con C f args [] r H') : PCon C f args r := fun vs W h1 h2 h3 h4 =>
  (h vs W h1 h2 h3 h4).mono fun _ _ ⟨v, W', a, b, c, d, e⟩ => ⟨v, W', H', a, b, c, d, e⟩
theorem sizedG (l : List Glyph) : Sized 2 (l.map Glyph.pv) := by
  intro p hp
  obtain ⟨x, _, rfl⟩ := List.mem_map.1 hp
  rfl
set_option linter.unusedSimpArgs false in
set_option maxRecDepth 20000 in
set_option maxHeartbeats 4000000 in
theorem cloneG (l : List Glyph) (hl : l.length ≤ lenMax) : PCon C0 54 [.sc (gl l)] (.own (l.map Glyph.pv)) := by
  refine penter54 ?_
  simp [Tryd.f54, gl]
  refine NilQ.mk (fun h => ?_) (fun h b => ?_)
  · simp at h
    simp [sizedG]
    exact ⟨fun _ h => by simp at h, hl⟩
  · simp at h
    subst h
    cases b <;> simp [Sized]
end Go.Proofs.YtlbjfjaleefiiaaDoor.Ev
end
section
namespace Go.Proofs.YtlbjfjaleefiiaaDoor.Ev
open Go
def Glyph.blank (g : Glyph) : Bool := decide (g.r = 32)
def idxB : List Glyph → Nat
  | [] => 0
  | g :: l => if g.blank = true then 0 else idxB l + 1
def idxOf (l : List Glyph) : Int := if idxB l < l.length then (idxB l : Int) else -1
end Go.Proofs.YtlbjfjaleefiiaaDoor.Ev
end
section
namespace Go.Proofs.YtlbjfjaleefiiaaDoor.Ev
open Go
namespace Node
mutual
def cnt : Node → Nat
  | mk _ _ _ _ kids _ _ => 1 + cntL kids
def cntL : List Node → Nat
  | [] => 0
  | x :: l => x.cnt + cntL l
end
theorem cnt_eq (x : Node) : x.cnt = 1 + cntL x.kids := by cases x; rw [cnt]; rfl
theorem kids_size {x : Node} {l : List Node} {n : Nat} (hn : SizeOf.sizeOf (x :: l) < n + 1) : SizeOf.sizeOf x.kids < n ∧ SizeOf.sizeOf l < n := by
  cases x; simp at hn ⊢; omega
theorem cnt_long : ∀ (n : Nat) (l : List Node), SizeOf.sizeOf l < n → cntL l ≤ sumBy long l := by
  intro n
  induction n with
  | zero => intro l h; omega
  | succ n ih =>
    intro l hn
    cases l with
    | nil => rw [cntL]; omega
    | cons x l =>
      obtain ⟨h1, h2⟩ := kids_size hn
      have := ih _ h1; have := ih _ h2
      rw [cntL, cnt_eq, sumBy, long_eq]; omega
theorem deeps_cnt : ∀ (n : Nat) (l : List Node), SizeOf.sizeOf l < n → deeps l ≤ cntL l := by
  intro n
  induction n with
  | zero => intro l h; omega
  | succ n ih =>
    intro l hn
    cases l with
    | nil => rw [deeps]; omega
    | cons x l =>
      obtain ⟨h1, h2⟩ := kids_size hn
      have := ih _ h1; have := ih _ h2
      rw [cntL, cnt_eq, deeps, deep_eq]; omega
theorem deepsW_eq : ∀ (n : Nat) (l : List Node), SizeOf.sizeOf l < n → deeps l ≤ 4611686018427387904 → deepsW l = deeps l := by
  intro n
  induction n with
  | zero => intro l h; omega
  | succ n ih =>
    intro l hn hd
    cases l with
    | nil => rw [deepsW, deeps]; rfl
    | cons x l =>
      obtain ⟨h1, h2⟩ := kids_size hn
      rw [deeps, deep_eq] at hd
      have e1 := ih _ h1 (by omega); have e2 := ih _ h2 (by omega)
      rw [deepsW, deepW_eq, deeps, deep_eq, e1, e2, wrap64 (by omega) (by omega)]; omega
end Node
end Go.Proofs.YtlbjfjaleefiiaaDoor.Ev
end
section
namespace Go.Proofs.YtlbjfjaleefiiaaDoor.Ev
open Go
theorem long_mem {l : List Node} {x : Node} (hx : x ∈ l) : x.long ≤ sumBy Node.long l := by
  induction l with
  | nil => cases hx
  | cons y l ih =>
    rw [sumBy]
    rcases List.mem_cons.1 hx with rfl | h
    · omega
    · have := ih h; omega
end Go.Proofs.YtlbjfjaleefiiaaDoor.Ev
end
section
namespace Go.Proofs.YtlbjfjaleefiiaaDoor.Ev
open Go
abbrev vars5 : List Nat := [0, 1, 3, 4, 5, 6, 7, 8, 9, 10, 11, 12, 13, 21, 27, 51, 67]
abbrev mv12 : List Nat := [47, 70, 5000052, 6053052, 2000075, 9000000000000000000000000000000000000000000000000000000000000000000000000000000000000000000098072048987800627512492171328, 9000000000000000000000000000000000000000000000000000000000000000000000000000000000000000000093139938671381303301468069952, 9000000000000000000000000000000000000000000000000000000000000000000000000000000000000000000093043531635726338798482366528, 14000000000000000000000000000000000000000000000000000000000000000000000000000000000000000000000023329313775742927122473024, 14000000000000000000000000000000000000000000000000000000000000000000000000000000000000000000000022427416717412624331710528, 14000000000000000000000000000000000000000000000000000000000000000000000000000000000000000000000022408602227407742214873152]
abbrev vars12 : List Nat := [0, 2, 3, 5, 7, 9, 37, 38, 39, 40, 61, 62, 63, 64, 87]
abbrev mv19 : List Nat := []
abbrev vars19 : List Nat := [0, 1, 4, 6, 8, 12, 13, 14, 15, 21]
abbrev mv21 : List Nat := []
abbrev vars21 : List Nat := [0, 1, 2, 3, 4]
abbrev mv24 : List Nat := []
abbrev vars24 : List Nat := [0, 1, 3, 5]
abbrev mv30 : List Nat := []
abbrev vars30 : List Nat := [0, 1, 4, 5, 6, 7, 12, 16, 77]
abbrev mv33 : List Nat := [28, 50, 60, 5000032, 6035032, 5000064, 6065064, 4000000000000000000000000000000000000000000000000000000000000000000000000000000000000000000000000000000000000000017571904, 4000000000000000000000000000000000000000000000000000000000000000000000000000000000000000000000000000000000000000017567872, 5000000000000000000000000000000000000000000000000000000000000000000000000000000007257985400367590466857001956851541876800, 8000000000000000000000000000000000000000000000000000000000000000000000000000000000000000000001512725923540966070360481856, 8000000000000000000000000000000000000000000000000000000000000000000000000000000000000000000001435661699846914129563230272, 8000000000000000000000000000000000000000000000000000000000000000000000000000000000000000000001434155339914805309204078656]
abbrev vars33 : List Nat := [0, 1, 3, 4, 11, 13, 29, 30, 32]
abbrev mv34 : List Nat := [37, 51, 75, 84, 91]
abbrev vars34 : List Nat := [0, 1, 2, 3, 4, 5, 7, 9, 11, 12, 14, 30, 31, 32, 33, 44, 45, 46, 47, 58, 59, 60, 61, 68, 69, 70, 71]
abbrev mv35 : List Nat := []
abbrev vars35 : List Nat := [0, 2, 3]
abbrev mv55 : List Nat := [31, 35, 2000033]
abbrev vars55 : List Nat := [0, 2, 3, 5, 6, 8, 9, 10, 11, 12, 20, 25, 26, 27, 28]
end Go.Proofs.YtlbjfjaleefiiaaDoor.Ev
end
section
namespace Go.Proofs.YtlbjfjaleefiiaaDoor.Ev
open Go
theorem sized_gl (l : List Glyph) : Sized 2 (l.map Glyph.pv) := fun p hp => by
  simp only [List.mem_map] at hp; obtain ⟨x, _, rfl⟩ := hp; rfl
theorem cells_gl (l : List Glyph) : (l.map Glyph.pv).flatMap PV.leaves = l.flatMap fun g => [PV.int .i32 g.r, PV.int .u8 g.s] := by
  induction l with
  | nil => rfl
  | cons g l ih => simp only [List.map_cons, List.flatMap_cons, ih]; rfl
def rowG (l : List Glyph) : List FV := ((l.map Glyph.pv).flatMap PV.leaves).map .sc
theorem rowG_len (l : List Glyph) : (rowG l).length = l.length * 2 := by
  unfold rowG; rw [List.length_map, cells_gl]
  induction l with
  | nil => rfl
  | cons g l ih => simp at ih ⊢; omega
theorem rowG_app (a b : List Glyph) : rowG (a ++ b) = rowG a ++ rowG b := by simp [rowG]
set_option linter.unusedSimpArgs false in
set_option maxRecDepth 20000 in
theorem conGrow (n : Nat) (h0 : 0 < n) (hn : n ≤ 1073741824) (H : Heap) :
    Con C0 68 [.emp, .sc (.int .i64 n)] H (.gr H.length 0 2 0) (H ++ [[.row 0 []]]) := by
  refine enter68 ?_
  have w0 : IntKind.i64.wrap 0 = 0 := by decide
  have w1 : IntKind.i64.wrap (n : Int) = n := wrap64 (by omega) (by omega)
  have n0 : ¬ (n : Int) < 0 := by omega
  have n1 : (0 : Int) < n := by omega
  have n2 : (n : Int) ≤ 137438953472 := by omega
  simp [Tryd.f68, w0, w1, n0, n1, h0, n2, lenMax, hn]
def catG (l : List (List Glyph)) : List Glyph := l.flatten
theorem catG_take {l : List (List Glyph)} {i : Nat} (h : i < l.length) : catG (l.take (i + 1)) = catG (l.take i) ++ l[i] := by
  rw [List.take_succ_eq_append_getElem h]; unfold catG; rw [List.flatten_append]; simp
theorem catG_len (l : List (List Glyph)) (i : Nat) : (catG (l.take i)).length ≤ (catG l).length := by
  conv => rhs; rw [← List.take_append_drop i l]
  unfold catG; rw [List.flatten_append, List.length_append]; omega
set_option linter.unusedSimpArgs false in
set_option maxRecDepth 20000 in
set_option maxHeartbeats 8000000 in
theorem conConcat (l : List (List Glyph)) (h0 : 0 < (catG l).length) (hn : (catG l).length ≤ 1073741824) (hl : l.length ≤ 1073741824) :
    Con C0 55 [.sc (.sl (l.map gl))] [] (.sc (.sl ((catG l).map Glyph.pv))) [] := by
  refine con_freezeR (C := C0) (s := 2) (l := (catG l).map Glyph.pv) (fn := Tryd.f55) Tryd.func55 rfl (by decide) mixed (mv := mv55) (vars := vars55) (c := Tryd.f55.body.getD .skip) rfl ?_ ?_ ?_ ?_
  · decide
  · exact sized_gl (catG l)
  · intro fs h; simp at h
  simp [Tryd.f55]
  refine loopC (fun d e H' => ∃ (i : Nat) (x5 x12 x20 : FV), H' = [] ∧ d = l.length - i ∧ i ≤ l.length ∧ e = [(0, .sc (.sl (l.map gl))), (2, .own []), (3, .sc (.int .i64 (catG (l.take i)).length)), (5, x5), (6, .undef), (8, .undef), (9, .sc (.sl (l.map gl))), (10, .sc (.int .i64 l.length)), (11, .sc (.int .i64 i)), (12, x12), (20, x20), (25, .undef), (26, .undef), (27, .undef), (28, .undef)]) (d := l.length) ⟨0, .undef, .undef, .undef, rfl, rfl, Nat.zero_le _, ?_⟩ ?_
  · simp [catG]
  · rintro d e H' ⟨i, x5, x12, x20, rfl, rfl, hi, rfl⟩
    simp
    refine CondC.mk (fun hlt => ?_) (fun hlt => ?_)
    · simp at hlt
      have hw : IntKind.i64.wrap ((i : Int) + 1) = ((i + 1 : Nat) : Int) := by rw [wrap64 (by omega) (by omega)]; omega
      have hq : (l.map gl)[i]? = some (gl l[i]) := by simp [hlt]
      have ht := catG_take hlt
      have hle := catG_len l (i + 1)
      have hl2 : (catG (l.take (i + 1))).length = (catG (l.take i)).length + l[i].length := by rw [ht, List.length_append]
      have w1 : IntKind.i64.wrap (((catG (l.take i)).length : Int) + (l[i].length : Int)) = ((catG (l.take (i + 1))).length : Int) := by rw [wrap64 (by omega) (by omega)]; omega
      have n0 : ¬ ((catG (l.take (i + 1))).length : Int) < 0 := by omega
      simp [hq, gl, w1, n0, hw]
      exact ⟨l.length - (i + 1), by omega, i + 1, rfl, by omega, rfl, by omega⟩
    · simp at hlt
      obtain rfl : i = l.length := by omega
      rw [List.take_length]
      simp
      refine CallQ.mk (Call.shared callable68 (conGrow (catG l).length h0 hn [])) ?_
      simp
      refine loopC (fun d e H' => ∃ (i : Nat) (x8 x28 : FV), H' = [[.row i (rowG (catG (l.take i)))]] ∧ d = l.length - i ∧ i ≤ l.length ∧ e = [(0, .sc (.sl (l.map gl))), (2, .own []), (3, .sc (.int .i64 (catG l).length)), (5, x5), (6, .gr 0 i 2 (catG (l.take i)).length), (8, x8), (9, .sc (.sl (l.map gl))), (10, .sc (.int .i64 l.length)), (11, .sc (.int .i64 l.length)), (12, .sc (.bool false)), (20, x20), (25, .sc (.sl (l.map gl))), (26, .sc (.int .i64 l.length)), (27, .sc (.int .i64 i)), (28, x28)]) (d := l.length) ⟨0, .undef, .undef, rfl, rfl, Nat.zero_le _, ?_⟩ ?_
      · simp [catG]
      · rintro d e H'2 ⟨i, x8, x28, rfl, rfl, hi2, rfl⟩
        simp
        refine CondC.mk (fun hlt2 => ?_) (fun hlt2 => ?_)
        · simp at hlt2
          have hw : IntKind.i64.wrap ((i : Int) + 1) = ((i + 1 : Nat) : Int) := by rw [wrap64 (by omega) (by omega)]; omega
          have hq : (l.map gl)[i]? = some (gl l[i]) := by simp [hlt2]
          have ht := catG_take hlt2
          have hle := catG_len l (i + 1)
          have hl2 : (catG (l.take (i + 1))).length = (catG (l.take i)).length + l[i].length := by rw [ht, List.length_append]
          have ol := rowG_len (catG (l.take i))
          have tk : (rowG (catG (l.take i))).take ((catG (l.take i)).length * 2) = rowG (catG (l.take i)) := List.take_of_length_le (by omega)
          have sl := sized_gl l[i]
          simp [hq, gl, hw, ol, tk, sl, lenMax]
          exact ⟨by omega, l.length - (i + 1), by omega, i + 1, ⟨rfl, by rw [ht, rowG_app]; rfl⟩, rfl, by omega, ⟨rfl, by omega⟩, by omega⟩
        · simp at hlt2
          obtain rfl : i = l.length := by omega
          rw [List.take_length]
          simp
          refine ⟨0, l.length, ⟨rfl, rfl⟩, rowG (catG l), rfl, ?_⟩
          intro k q hq
          refine ⟨.sc q, ?_, rfl⟩
          unfold rowG
          rw [List.getElem?_map]
          simp only [hq, Option.map_some]
theorem PCon.demote {C : Ctx} {f : FuncId} {args : List FV} {l : List PV} (h : PCon C f args (.own l)) : PCon C f args (.sc (.sl l)) :=
  fun vs W a b c d => (h vs W a b c d).mono fun _ _ ⟨v, W', J, h1, h2, h3, h4, h5⟩ => ⟨v, W', J, h1, h2, by cases h3 with | own r _ => exact .sc rfl r, h4, h5⟩
def joinS (a b : List Glyph) : List Glyph := if a = [] then b else if b = [] then a else a ++ ⟨32, 0⟩ :: b
theorem joinS_len (a b : List Glyph) : (joinS a b).length ≤ a.length + b.length + 1 := by
  unfold joinS
  split
  · subst_vars; simp
  · split
    · subst_vars; simp
    · simp; omega
set_option linter.unusedSimpArgs false in
set_option maxRecDepth 20000 in
set_option maxHeartbeats 4000000 in
theorem conJoinS (a b : List Glyph) (hn : a.length + b.length ≤ 536870912) : PCon C0 31 [.sc (gl a), .sc (gl b)] (.sc (gl (joinS a b))) := by
  by_cases ha : a = []
  · subst ha
    refine PCon.demote ?_
    refine penter31 ?_
    simp [Tryd.f31, gl]
    refine CallQ.mk (Call.pure callable54 (by simp) (by simp) (cloneG b (by show b.length ≤ 137438953472; omega))) ?_
    simp [joinS]
  have ha0 : ¬ (a.length : Int) = 0 := by have := List.length_pos_iff.2 ha; omega
  by_cases hb : b = []
  · subst hb
    refine PCon.demote ?_
    refine penter31 ?_
    simp [Tryd.f31, gl, ha]
    refine CallQ.mk (Call.pure callable54 (by simp) (by simp) (cloneG a (by show a.length ≤ 137438953472; omega))) ?_
    simp [joinS, ha]
  refine penter31 ?_
  have hc : catG [a, [⟨32, 0⟩], b] = a ++ ⟨32, 0⟩ :: b := by simp [catG]
  have cc := conConcat [a, [⟨32, 0⟩], b] (by rw [hc]; simp; omega) (by rw [hc]; simp; omega) (by simp)
  rw [hc] at cc
  simp [Tryd.f31, gl, ha, hb]
  refine ⟨sized_gl [⟨32, 0⟩], rfl, fun p hp => ?_, ?_⟩
  · simp at hp; rcases hp with rfl | rfl | rfl <;> rfl
  refine CallQ.mk (Call.pure callable55 (by simp) (by simp) cc.pcon) ?_
  simp [joinS, ha, hb]
end Go.Proofs.YtlbjfjaleefiiaaDoor.Ev
end
section
namespace Go.Proofs.YtlbjfjaleefiiaaDoor.Ev
open Go
structure Block where
  kind : Int
  line : Int
  inn : Int
  gap : Bool
  room : Int
  tag : List Glyph
  text : List Glyph
  rows : List (List Glyph)
  grid : Tbl
end Go.Proofs.YtlbjfjaleefiiaaDoor.Ev
end
section
namespace Go.Proofs.YtlbjfjaleefiiaaDoor.Ev
open Go
theorem con_handA {C : Ctx} {f : FuncId} {fn : Func} {c : Code} {args : List FV} {H H' : Heap} {mv vars : List Nat} (hf : C.P.funcs[f]? = some fn) (hb : fn.body = some c) (hn : (resTmps fn.results.toList).Nodup) (hmix : C.P.follows .mixedOrders = true) (hk : codeOk mv c = true)
    {z k : Nat} {cells pre : List FV} (hpre : ∀ f ∈ pre, f.np0 = true) (hp : ∀ fs ∈ H', ∀ f ∈ body fs, f.und0 H.length = true) (hq : ∀ f ∈ cells, f.und0 H.length = true)
    (h : wpC C fn.ntmps mv vars c (argsEnv 0 args) H fun x e H₁ => (match x with | .exit _ => False | _ => True) ∧ ∃ b g, resultOf C e H₁ fn.results.toList = some (.agg (pre ++ [.gr b g z k])) ∧ H.length ≤ b ∧ H₁.take H.length = H' ∧ H₁[b]? = some [.row g cells]) : Con C f args H (.agg (pre ++ [.gr H.length 0 z k])) (H' ++ [[.row 0 cells]]) :=
  fun vs W hl hargs hH _ => (con_gen2 (G := fun r H₁ => ∃ b g, r = .agg (pre ++ [.gr b g z k]) ∧ H.length ≤ b ∧ H₁.take H.length = H' ∧ H₁[b]? = some [.row g cells]) hf hb hn hmix hk (wpC_mono _ _ _ _ _ (fun _ _ _ ⟨h1, b, g, h2, h3⟩ => ⟨h1, _, h2, b, g, rfl, h3⟩) h) vs W hl hargs hH).mono fun _ _ ⟨v, W', H₁, r, h1, h2, ⟨b, g, h3, h7, h8, h9⟩, h4, h5, h6⟩ => by
    subst h3
    have h8' := h8
    refine ⟨v, W'.hand H.length b, h1, h2, ?_, h8 ▸ h5.hand h7 h9 (h8 ▸ hp) hq, ?_⟩
    · obtain ⟨m1, m2, c, T, fz, m3, m4, m5, m6⟩ := h5.box b _ h9
      have hβ : (W'.hand H.length b).β H.length = W'.β b := by simp [Wd.hand]
      generalize hv : v = v' at h4
      cases h4 with
      | @agg _ _ _ cs a1 a2 =>
        subst hv
        refine .agg (by rw [a1]; simp) fun j q u hq' hu => ?_
        by_cases hj : j < pre.length
        · rw [List.getElem?_append_left hj] at hq'
          have hm : q ∈ pre := List.mem_of_getElem? hq'
          have := a2 j q u (by rw [List.getElem?_append_left hj]; exact hq') hu
          exact this.hand (r := .res) (r' := .res) (by simp) (.inl rfl) (FV.und_np (hpre q hm))
        · have hjl : j = pre.length := by
            have := (List.getElem?_eq_some_iff.1 hq').1
            simp at this; omega
          subst hjl
          rw [List.getElem?_append_right (Nat.le_refl _), Nat.sub_self] at hq'
          simp only [List.getElem?_cons_zero, Option.some.injEq] at hq'
          subst hq'
          have h4 := a2 pre.length (.gr b g z k) u (by rw [List.getElem?_append_right (Nat.le_refl _), Nat.sub_self]; rfl) hu
          cases h4 with
          | @gr _ _ _ _ _ _ cap A b1 b2 b3 =>
            obtain ⟨q1, q2, q3⟩ := b3 m1.2
            refine .gr (Nat.zero_le _) b2 fun _ => ⟨by rw [hβ]; exact q1, by rw [hβ]; exact hand_box' h7 q2, by rw [hβ]; exact q3⟩
    · refine Evo.of h6.os h6.tape h6.output h6.size h6.cell h6.lim h6.shape (fun _ _ _ _ hk => hk.elim) (fun x i hbi hβ => ?_) (fun i => ?_) (fun x hlt hbo => ?_)
      · obtain ⟨q1, q2⟩ := h6.beta x i hbi hβ
        have hi := hH.boxes x i 0 hbi
        exact ⟨by rw [hand_β hi]; exact q1, hand_box q2 hi⟩
      · obtain ⟨q1, q2⟩ := h6.row i
        by_cases hi : i < H.length
        · rw [hand_gen hi]
          refine ⟨q1, fun hq ho => ?_⟩
          obtain ⟨q3, q4⟩ := q2 hq ho
          exact ⟨by rw [hand_β hi]; exact q3, hand_box q4 hi⟩
        · exact ⟨by rw [hH.gen0 i (by omega)]; exact Nat.zero_le _, fun _ ho => absurd (hH.boxes _ i 1 ho) hi⟩
      · obtain ⟨q1, q2, q3⟩ := h6.away x hlt hbo
        exact ⟨q1, q2, hand_none q3⟩
end Go.Proofs.YtlbjfjaleefiiaaDoor.Ev
end
