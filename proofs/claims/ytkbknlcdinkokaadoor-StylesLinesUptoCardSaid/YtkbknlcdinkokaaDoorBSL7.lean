/- Of what the law StylesLines needs: part 7. -/
import Derived.Test.YtkbknlcdinkokaaDoorBSL4
import Derived.Test.YtkbknlcdinkokaaDoorBSL6
set_option linter.unusedSimpArgs false
set_option linter.unusedVariables false
section
namespace Go.Proofs.YtkbknlcdinkokaaDoor.Ev
open Go
noncomputable def C0 : Ctx := { P := Tryd.prog, laid := fun g => if g = 0 then some [.int .i32 32, .int .u8 0] else if g = 1 then some [.mp 1] else if g = 2 then some [.mp 2] else none, keep := fun w => GL w, mapT := 99, maps := tabs, mapsOk := GL.mapsOk }
theorem C0_mapT : C0.mapT = 99 := rfl
theorem C0_maps : C0.maps = tabs := rfl
theorem laid1 : C0.laid 1 = some [.mp 1] := rfl
theorem laid2 : C0.laid 2 = some [.mp 2] := rfl
theorem C0_P : C0.P = Tryd.prog := rfl
theorem laid0 : C0.laid 0 = some [.int .i32 32, .int .u8 0] := rfl
theorem mixed : C0.P.follows .mixedOrders = true := by kernel_rfl
theorem sz3 : szOf Tryd.prog 3 = some 1 := by kernel_rfl
theorem zero3 : zeroOf Tryd.prog 3 = some (.int .i64 0) := by kernel_rfl
theorem bytes3 : bytesOf Tryd.prog 3 = some 8 := by kernel_rfl
theorem sz4 : szOf Tryd.prog 4 = some 1 := by kernel_rfl
theorem zero4 : zeroOf Tryd.prog 4 = some (.bool false) := by kernel_rfl
theorem bytes4 : bytesOf Tryd.prog 4 = some 1 := by kernel_rfl
theorem sz5 : szOf Tryd.prog 5 = some 1 := by kernel_rfl
theorem zero5 : zeroOf Tryd.prog 5 = some (.int .u8 0) := by kernel_rfl
theorem bytes5 : bytesOf Tryd.prog 5 = some 1 := by kernel_rfl
theorem sz9 : szOf Tryd.prog 9 = some 1 := by kernel_rfl
theorem zero9 : zeroOf Tryd.prog 9 = some (.string ByteArray.empty) := by kernel_rfl
theorem bytes9 : bytesOf Tryd.prog 9 = some 16 := by kernel_rfl
theorem sz20 : szOf Tryd.prog 20 = some 1 := by kernel_rfl
theorem zero20 : zeroOf Tryd.prog 20 = some (.nilIface) := by kernel_rfl
theorem bytes20 : bytesOf Tryd.prog 20 = some 16 := by kernel_rfl
theorem sz21 : szOf Tryd.prog 21 = some 1 := by kernel_rfl
theorem zero21 : zeroOf Tryd.prog 21 = some (.int .i32 0) := by kernel_rfl
theorem bytes21 : bytesOf Tryd.prog 21 = some 4 := by kernel_rfl
theorem sz23 : szOf Tryd.prog 23 = some 2 := by kernel_rfl
theorem zero23 : zeroOf Tryd.prog 23 = some (.agg #[.int .u8 0, .int .u8 0]) := by kernel_rfl
theorem bytes23 : bytesOf Tryd.prog 23 = some 2 := by kernel_rfl
theorem tags23 : tagsOf Tryd.prog 23 = some [.int, .int] := by kernel_rfl
theorem sz24 : szOf Tryd.prog 24 = some 1 := by kernel_rfl
theorem zero24 : zeroOf Tryd.prog 24 = some (.slice none 0 0) := by kernel_rfl
theorem bytes24 : bytesOf Tryd.prog 24 = some 24 := by kernel_rfl
theorem sz26 : szOf Tryd.prog 26 = some 1 := by kernel_rfl
theorem zero26 : zeroOf Tryd.prog 26 = some (.slice none 0 0) := by kernel_rfl
theorem bytes26 : bytesOf Tryd.prog 26 = some 24 := by kernel_rfl
theorem sz30 : szOf Tryd.prog 30 = some 1 := by kernel_rfl
theorem zero30 : zeroOf Tryd.prog 30 = some (.nilFunc) := by kernel_rfl
theorem bytes30 : bytesOf Tryd.prog 30 = some 8 := by kernel_rfl
theorem sz31 : szOf Tryd.prog 31 = some 1 := by kernel_rfl
theorem zero31 : zeroOf Tryd.prog 31 = some (.slice none 0 0) := by kernel_rfl
theorem bytes31 : bytesOf Tryd.prog 31 = some 24 := by kernel_rfl
theorem sz35 : szOf Tryd.prog 35 = some 2 := by kernel_rfl
theorem zero35 : zeroOf Tryd.prog 35 = some (.agg #[.int .i32 0, .int .u8 0]) := by kernel_rfl
theorem bytes35 : bytesOf Tryd.prog 35 = some 8 := by kernel_rfl
theorem tags35 : tagsOf Tryd.prog 35 = some [.int, .int] := by kernel_rfl
theorem sz39 : szOf Tryd.prog 39 = some 1 := by kernel_rfl
theorem zero39 : zeroOf Tryd.prog 39 = some (.slice none 0 0) := by kernel_rfl
theorem bytes39 : bytesOf Tryd.prog 39 = some 24 := by kernel_rfl
theorem sz41 : szOf Tryd.prog 41 = some 3 := by kernel_rfl
theorem zero41 : zeroOf Tryd.prog 41 = some (.agg #[.slice none 0 0, .bool false, .bool false]) := by kernel_rfl
theorem bytes41 : bytesOf Tryd.prog 41 = some 32 := by kernel_rfl
theorem sz44 : szOf Tryd.prog 44 = some 1 := by kernel_rfl
theorem zero44 : zeroOf Tryd.prog 44 = some (.slice none 0 0) := by kernel_rfl
theorem bytes44 : bytesOf Tryd.prog 44 = some 24 := by kernel_rfl
theorem sz52 : szOf Tryd.prog 52 = some 2 := by kernel_rfl
theorem zero52 : zeroOf Tryd.prog 52 = some (.agg #[.int .i64 0, .int .i32 0]) := by kernel_rfl
theorem bytes52 : bytesOf Tryd.prog 52 = some 16 := by kernel_rfl
theorem tags52 : tagsOf Tryd.prog 52 = some [.int, .int] := by kernel_rfl
theorem sz57 : szOf Tryd.prog 57 = some 1 := by kernel_rfl
theorem zero57 : zeroOf Tryd.prog 57 = some (.nilFunc) := by kernel_rfl
theorem bytes57 : bytesOf Tryd.prog 57 = some 8 := by kernel_rfl
theorem sz58 : szOf Tryd.prog 58 = some 1 := by kernel_rfl
theorem zero58 : zeroOf Tryd.prog 58 = some (.pointer none) := by kernel_rfl
theorem bytes58 : bytesOf Tryd.prog 58 = some 8 := by kernel_rfl
theorem sz60 : szOf Tryd.prog 60 = some 4 := by kernel_rfl
theorem zero60 : zeroOf Tryd.prog 60 = some (.agg #[.slice none 0 0, .slice none 0 0, .string ByteArray.empty, .int .i64 0]) := by kernel_rfl
theorem bytes60 : bytesOf Tryd.prog 60 = some 72 := by kernel_rfl
theorem sz65 : szOf Tryd.prog 65 = some 1 := by kernel_rfl
theorem zero65 : zeroOf Tryd.prog 65 = some (.slice none 0 0) := by kernel_rfl
theorem bytes65 : bytesOf Tryd.prog 65 = some 24 := by kernel_rfl
theorem sz67 : szOf Tryd.prog 67 = some 2 := by kernel_rfl
theorem zero67 : zeroOf Tryd.prog 67 = some (.agg #[.int .u8 0, .int .u8 0]) := by kernel_rfl
theorem bytes67 : bytesOf Tryd.prog 67 = some 2 := by kernel_rfl
theorem sz69 : szOf Tryd.prog 69 = some 1 := by kernel_rfl
theorem zero69 : zeroOf Tryd.prog 69 = some (.nilFunc) := by kernel_rfl
theorem bytes69 : bytesOf Tryd.prog 69 = some 8 := by kernel_rfl
theorem sz70 : szOf Tryd.prog 70 = some 1 := by kernel_rfl
theorem zero70 : zeroOf Tryd.prog 70 = some (.pointer none) := by kernel_rfl
theorem bytes70 : bytesOf Tryd.prog 70 = some 8 := by kernel_rfl
theorem sz71 : szOf Tryd.prog 71 = some 1 := by kernel_rfl
theorem zero71 : zeroOf Tryd.prog 71 = some (.slice none 0 0) := by kernel_rfl
theorem bytes71 : bytesOf Tryd.prog 71 = some 24 := by kernel_rfl
theorem sz74 : szOf Tryd.prog 74 = some 4 := by kernel_rfl
theorem zero74 : zeroOf Tryd.prog 74 = some (.agg #[.slice none 0 0, .int .i64 0, .slice none 0 0, .slice none 0 0]) := by kernel_rfl
theorem bytes74 : bytesOf Tryd.prog 74 = some 80 := by kernel_rfl
theorem sz79 : szOf Tryd.prog 79 = some 1 := by kernel_rfl
theorem zero79 : zeroOf Tryd.prog 79 = some (.slice none 0 0) := by kernel_rfl
theorem bytes79 : bytesOf Tryd.prog 79 = some 24 := by kernel_rfl
theorem sz89 : szOf Tryd.prog 89 = some 3 := by kernel_rfl
theorem zero89 : zeroOf Tryd.prog 89 = some (.agg #[.int .i64 0, .int .i64 0, .int .i64 0]) := by kernel_rfl
theorem bytes89 : bytesOf Tryd.prog 89 = some 24 := by kernel_rfl
theorem tags89 : tagsOf Tryd.prog 89 = some [.int, .int, .int] := by kernel_rfl
theorem sz96 : szOf Tryd.prog 96 = some 1 := by kernel_rfl
theorem zero96 : zeroOf Tryd.prog 96 = some (.nilFunc) := by kernel_rfl
theorem bytes96 : bytesOf Tryd.prog 96 = some 8 := by kernel_rfl
theorem sz99 : szOf Tryd.prog 99 = some 1 := by kernel_rfl
theorem zero99 : zeroOf Tryd.prog 99 = some (.map none) := by kernel_rfl
theorem bytes99 : bytesOf Tryd.prog 99 = some 8 := by kernel_rfl
theorem sz104 : szOf Tryd.prog 104 = some 1 := by kernel_rfl
theorem zero104 : zeroOf Tryd.prog 104 = some (.int .u32 0) := by kernel_rfl
theorem bytes104 : bytesOf Tryd.prog 104 = some 4 := by kernel_rfl
attribute [simp] C0_P C0_mapT C0_maps laid1 laid2 laid0 sz3 zero3 bytes3 sz4 zero4 bytes4 sz5 zero5 bytes5 sz9 zero9 bytes9 sz20 zero20 bytes20 sz21 zero21 bytes21 sz23 zero23 bytes23 tags23 sz24 zero24 bytes24 sz26 zero26 bytes26 sz30 zero30 bytes30 sz31 zero31 bytes31 sz35 zero35 bytes35 tags35 sz39 zero39 bytes39 sz41 zero41 bytes41 sz44 zero44 bytes44 sz52 zero52 bytes52 tags52 sz57 zero57 bytes57 sz58 zero58 bytes58 sz60 zero60 bytes60 sz65 zero65 bytes65 sz67 zero67 bytes67 sz69 zero69 bytes69 sz70 zero70 bytes70 sz71 zero71 bytes71 sz74 zero74 bytes74 sz79 zero79 bytes79 sz89 zero89 bytes89 tags89 sz96 zero96 bytes96 sz99 zero99 bytes99 sz104 zero104 bytes104 Tryd.underlying0 Tryd.underlying3 Tryd.underlying4 Tryd.underlying5 Tryd.underlying9 Tryd.underlying20 Tryd.underlying21 Tryd.underlying23 Tryd.underlying24 Tryd.underlying26 Tryd.underlying27 Tryd.underlying30 Tryd.underlying31 Tryd.underlying32 Tryd.underlying35 Tryd.underlying39 Tryd.underlying41 Tryd.underlying44 Tryd.underlying46 Tryd.underlying49 Tryd.underlying52 Tryd.underlying53 Tryd.underlying57 Tryd.underlying58 Tryd.underlying60 Tryd.underlying63 Tryd.underlying65 Tryd.underlying67 Tryd.underlying69 Tryd.underlying70 Tryd.underlying71 Tryd.underlying74 Tryd.underlying79 Tryd.underlying85 Tryd.underlying89 Tryd.underlying94 Tryd.underlying96 Tryd.underlying97 Tryd.underlying99 Tryd.underlying104 Tryd.underlying105
theorem penter3 {args : List FV} {r : FV} (h : wpC C0 172 [33, 36, 43, 44, 49, 50, 55, 56, 95, 96, 97] [0, 1, 2, 3, 4, 8, 9, 10, 11, 12, 13, 14, 15, 16, 17, 18, 19, 20, 31, 67, 71, 89, 101, 147] (Tryd.f3.body.getD .skip) (argsEnv 0 args) [] fun x e H₁ => (match x with | .exit _ => False | _ => True) ∧ resultOf C0 e H₁ Tryd.f3.results.toList = some r ∧ True) : PCon C0 3 args r :=
  pcon_of (C := C0) (fn := Tryd.f3) Tryd.func3 rfl (by decide) mixed (by kernel_rfl) h
theorem penter7 {args : List FV} {r : FV} (h : wpC C0 18 [6, 7] [0, 1, 2] (Tryd.f7.body.getD .skip) (argsEnv 0 args) [] fun x e H₁ => (match x with | .exit _ => False | _ => True) ∧ resultOf C0 e H₁ Tryd.f7.results.toList = some r ∧ True) : PCon C0 7 args r :=
  pcon_of (C := C0) (fn := Tryd.f7) Tryd.func7 rfl (by decide) mixed rfl h
theorem callable7 : callable C0.P 7 = true := by kernel_rfl
theorem penter8 {args : List FV} {r : FV} (h : wpC C0 42 [19, 29, 40] [0, 1, 2, 4, 5, 6, 8, 9, 10, 11, 12, 16, 17, 27, 33] (Tryd.f8.body.getD .skip) (argsEnv 0 args) [] fun x e H₁ => (match x with | .exit _ => False | _ => True) ∧ resultOf C0 e H₁ Tryd.f8.results.toList = some r ∧ True) : PCon C0 8 args r :=
  pcon_of (C := C0) (fn := Tryd.f8) Tryd.func8 rfl (by decide) mixed (by kernel_rfl) h
theorem callable8 : callable C0.P 8 = true := by kernel_rfl
theorem penter9 {args : List FV} {r : FV} (h : wpC C0 26 [] [0, 1, 4, 5, 10, 14, 25] (Tryd.f9.body.getD .skip) (argsEnv 0 args) [] fun x e H₁ => (match x with | .exit _ => False | _ => True) ∧ resultOf C0 e H₁ Tryd.f9.results.toList = some r ∧ True) : PCon C0 9 args r :=
  pcon_of (C := C0) (fn := Tryd.f9) Tryd.func9 rfl (by decide) mixed (by kernel_rfl) h
theorem callable9 : callable C0.P 9 = true := by kernel_rfl
theorem penter10 {args : List FV} {r : FV} (h : wpC C0 12 [6, 9] [0, 1, 4, 5] (Tryd.f10.body.getD .skip) (argsEnv 0 args) [] fun x e H₁ => (match x with | .exit _ => False | _ => True) ∧ resultOf C0 e H₁ Tryd.f10.results.toList = some r ∧ True) : PCon C0 10 args r :=
  pcon_of (C := C0) (fn := Tryd.f10) Tryd.func10 rfl (by decide) mixed rfl h
theorem callable10 : callable C0.P 10 = true := by kernel_rfl
theorem penter11 {args : List FV} {r : FV} (h : wpC C0 24 [13, 14, 19, 20, 21, 23] [0, 1, 2, 4, 5, 6, 7, 8, 9] (Tryd.f11.body.getD .skip) (argsEnv 0 args) [] fun x e H₁ => (match x with | .exit _ => False | _ => True) ∧ resultOf C0 e H₁ Tryd.f11.results.toList = some r ∧ True) : PCon C0 11 args r :=
  pcon_of (C := C0) (fn := Tryd.f11) Tryd.func11 rfl (by decide) mixed (by kernel_rfl) h
theorem callable11 : callable C0.P 11 = true := by kernel_rfl
theorem penter12 {args : List FV} {r : FV} (h : wpC C0 24 [] [0, 1, 2, 4, 6, 17] (Tryd.f12.body.getD .skip) (argsEnv 0 args) [] fun x e H₁ => (match x with | .exit _ => False | _ => True) ∧ resultOf C0 e H₁ Tryd.f12.results.toList = some r ∧ True) : PCon C0 12 args r :=
  pcon_of (C := C0) (fn := Tryd.f12) Tryd.func12 rfl (by decide) mixed rfl h
theorem callable12 : callable C0.P 12 = true := by kernel_rfl
theorem callable19 : callable C0.P 19 = true := by kernel_rfl
theorem penter20 {args : List FV} {r : FV} (h : wpC C0 25 [] [0, 1, 2, 4, 5, 6, 8, 11] (Tryd.f20.body.getD .skip) (argsEnv 0 args) [] fun x e H₁ => (match x with | .exit _ => False | _ => True) ∧ resultOf C0 e H₁ Tryd.f20.results.toList = some r ∧ True) : PCon C0 20 args r :=
  pcon_of (C := C0) (fn := Tryd.f20) Tryd.func20 rfl (by decide) mixed rfl h
theorem callable20 : callable C0.P 20 = true := by kernel_rfl
theorem penter21 {args : List FV} {r : FV} (h : wpC C0 74 [] [0, 2, 3, 4, 5, 6, 21, 43, 48, 51, 59] (Tryd.f21.body.getD .skip) (argsEnv 0 args) [] fun x e H₁ => (match x with | .exit _ => False | _ => True) ∧ resultOf C0 e H₁ Tryd.f21.results.toList = some r ∧ True) : PCon C0 21 args r :=
  pcon_of (C := C0) (fn := Tryd.f21) Tryd.func21 rfl (by decide) mixed (by kernel_rfl) h
theorem callable21 : callable C0.P 21 = true := by kernel_rfl
theorem enter29 {args : List FV} {H H' : Heap} {r : FV} (h : wpC C0 45 [32, 33, 34, 39, 43, 36, 3000036] [0, 1, 2, 6, 7, 8, 9, 10, 11, 12, 13, 15, 16, 17, 18, 19] (Tryd.f29.body.getD .skip) (argsEnv 0 args) H fun x e H₁ => (match x with | .exit _ => False | _ => True) ∧ resultOf C0 e H₁ Tryd.f29.results.toList = some r ∧ H₁ = H') : Con C0 29 args H r H' :=
  con_of (C := C0) (fn := Tryd.f29) Tryd.func29 rfl (by decide) mixed rfl h
theorem callable29 : callable C0.P 29 = true := by kernel_rfl
theorem enter30 {args : List FV} {H H' : Heap} {r : FV} (h : wpC C0 8 [] [0, 1, 3] (Tryd.f30.body.getD .skip) (argsEnv 0 args) H fun x e H₁ => (match x with | .exit _ => False | _ => True) ∧ resultOf C0 e H₁ Tryd.f30.results.toList = some r ∧ H₁ = H') : Con C0 30 args H r H' :=
  con_of (C := C0) (fn := Tryd.f30) Tryd.func30 rfl (by decide) mixed rfl h
theorem callable30 : callable C0.P 30 = true := by kernel_rfl
theorem enter31 {args : List FV} {H H' : Heap} {r : FV} (h : wpC C0 8 [5, 2000007] [0, 1, 4] (Tryd.f31.body.getD .skip) (argsEnv 0 args) H fun x e H₁ => (match x with | .exit _ => False | _ => True) ∧ resultOf C0 e H₁ Tryd.f31.results.toList = some r ∧ H₁ = H') : Con C0 31 args H r H' :=
  con_of (C := C0) (fn := Tryd.f31) Tryd.func31 rfl (by decide) mixed rfl h
theorem callable31 : callable C0.P 31 = true := by kernel_rfl
theorem penter32 {args : List FV} {r : FV} (h : wpC C0 22 [12, 13, 14, 21] [0, 2, 3, 4, 5, 8] (Tryd.f32.body.getD .skip) (argsEnv 0 args) [] fun x e H₁ => (match x with | .exit _ => False | _ => True) ∧ resultOf C0 e H₁ Tryd.f32.results.toList = some r ∧ True) : PCon C0 32 args r :=
  pcon_of (C := C0) (fn := Tryd.f32) Tryd.func32 rfl (by decide) mixed rfl h
theorem callable32 : callable C0.P 32 = true := by kernel_rfl
theorem enter33 {args : List FV} {H H' : Heap} {r : FV} (h : wpC C0 18 [10] [0, 1, 2] (Tryd.f33.body.getD .skip) (argsEnv 0 args) H fun x e H₁ => (match x with | .exit _ => False | _ => True) ∧ resultOf C0 e H₁ Tryd.f33.results.toList = some r ∧ H₁ = H') : Con C0 33 args H r H' :=
  con_of (C := C0) (fn := Tryd.f33) Tryd.func33 rfl (by decide) mixed rfl h
theorem callable33 : callable C0.P 33 = true := by kernel_rfl
theorem enter34 {args : List FV} {H H' : Heap} {r : FV} (h : wpC C0 92 [] [0, 1, 4, 5, 15, 36, 40, 45, 51, 55, 60, 66, 72, 74, 87] (Tryd.f34.body.getD .skip) (argsEnv 0 args) H fun x e H₁ => (match x with | .exit _ => False | _ => True) ∧ resultOf C0 e H₁ Tryd.f34.results.toList = some r ∧ H₁ = H') : Con C0 34 args H r H' :=
  con_of (C := C0) (fn := Tryd.f34) Tryd.func34 rfl (by decide) mixed (by kernel_rfl) h
theorem callable34 : callable C0.P 34 = true := by kernel_rfl
theorem penter35 {args : List FV} {r : FV} (h : wpC C0 21 [] [0, 2, 3, 16] (Tryd.f35.body.getD .skip) (argsEnv 0 args) [] fun x e H₁ => (match x with | .exit _ => False | _ => True) ∧ resultOf C0 e H₁ Tryd.f35.results.toList = some r ∧ True) : PCon C0 35 args r :=
  pcon_of (C := C0) (fn := Tryd.f35) Tryd.func35 rfl (by decide) mixed rfl h
theorem callable35 : callable C0.P 35 = true := by kernel_rfl
theorem enter36 {args : List FV} {H H' : Heap} {r : FV} (h : wpC C0 19 [10] [0, 1, 2] (Tryd.f36.body.getD .skip) (argsEnv 0 args) H fun x e H₁ => (match x with | .exit _ => False | _ => True) ∧ resultOf C0 e H₁ Tryd.f36.results.toList = some r ∧ H₁ = H') : Con C0 36 args H r H' :=
  con_of (C := C0) (fn := Tryd.f36) Tryd.func36 rfl (by decide) mixed rfl h
theorem callable36 : callable C0.P 36 = true := by kernel_rfl
theorem penter43 {args : List FV} {r : FV} (h : wpC C0 75 [73, 74] [0, 2, 3, 4, 5, 6, 8, 12, 17, 24, 31, 45, 48, 49, 50, 51, 56, 72] (Tryd.f43.body.getD .skip) (argsEnv 0 args) [] fun x e H₁ => (match x with | .exit _ => False | _ => True) ∧ resultOf C0 e H₁ Tryd.f43.results.toList = some r ∧ True) : PCon C0 43 args r :=
  pcon_of (C := C0) (fn := Tryd.f43) Tryd.func43 rfl (by decide) mixed rfl h
theorem callable43 : callable C0.P 43 = true := by kernel_rfl
theorem enter44 {args : List FV} {H H' : Heap} {r : FV} (h : wpC C0 39 [17, 18, 29, 30] [0, 1, 2, 6, 7, 8, 9, 10, 11, 12, 20, 24, 31] (Tryd.f44.body.getD .skip) (argsEnv 0 args) H fun x e H₁ => (match x with | .exit _ => False | _ => True) ∧ resultOf C0 e H₁ Tryd.f44.results.toList = some r ∧ H₁ = H') : Con C0 44 args H r H' :=
  con_of (C := C0) (fn := Tryd.f44) Tryd.func44 rfl (by decide) mixed rfl h
theorem callable44 : callable C0.P 44 = true := by kernel_rfl
theorem penter48 {args : List FV} {r : FV} (h : wpC C0 17 [] [0, 2] (Tryd.f48.body.getD .skip) (argsEnv 0 args) [] fun x e H₁ => (match x with | .exit _ => False | _ => True) ∧ resultOf C0 e H₁ Tryd.f48.results.toList = some r ∧ True) : PCon C0 48 args r :=
  pcon_of (C := C0) (fn := Tryd.f48) Tryd.func48 rfl (by decide) mixed rfl h
theorem callable48 : callable C0.P 48 = true := by kernel_rfl
theorem penter49 {args : List FV} {r : FV} (h : wpC C0 12 [] [0, 2, 3, 6, 9] (Tryd.f49.body.getD .skip) (argsEnv 0 args) [] fun x e H₁ => (match x with | .exit _ => False | _ => True) ∧ resultOf C0 e H₁ Tryd.f49.results.toList = some r ∧ True) : PCon C0 49 args r :=
  pcon_of (C := C0) (fn := Tryd.f49) Tryd.func49 rfl (by decide) mixed rfl h
theorem callable49 : callable C0.P 49 = true := by kernel_rfl
theorem enter50 {args : List FV} {H H' : Heap} {r : FV} (h : wpC C0 104 [103] [0, 1, 4, 5, 6, 7, 8, 9, 19, 23, 28, 36, 78] (Tryd.f50.body.getD .skip) (argsEnv 0 args) H fun x e H₁ => (match x with | .exit _ => False | _ => True) ∧ resultOf C0 e H₁ Tryd.f50.results.toList = some r ∧ H₁ = H') : Con C0 50 args H r H' :=
  con_of (C := C0) (fn := Tryd.f50) Tryd.func50 rfl (by decide) mixed (by kernel_rfl) h
theorem callable50 : callable C0.P 50 = true := by kernel_rfl
theorem penter51 {args : List FV} {r : FV} (h : wpC C0 55 [14, 15, 17, 42, 43, 54] [0, 2, 3, 4, 5, 6, 7, 8, 9, 16, 30, 34, 45, 53] (Tryd.f51.body.getD .skip) (argsEnv 0 args) [] fun x e H₁ => (match x with | .exit _ => False | _ => True) ∧ resultOf C0 e H₁ Tryd.f51.results.toList = some r ∧ True) : PCon C0 51 args r :=
  pcon_of (C := C0) (fn := Tryd.f51) Tryd.func51 rfl (by decide) mixed rfl h
theorem callable51 : callable C0.P 51 = true := by kernel_rfl
theorem penter52 {args : List FV} {r : FV} (h : wpC C0 14 [10, 11, 12, 13] [0, 2, 3, 4, 5] (Tryd.f52.body.getD .skip) (argsEnv 0 args) [] fun x e H₁ => (match x with | .exit _ => False | _ => True) ∧ resultOf C0 e H₁ Tryd.f52.results.toList = some r ∧ True) : PCon C0 52 args r :=
  pcon_of (C := C0) (fn := Tryd.f52) Tryd.func52 rfl (by decide) mixed rfl h
theorem callable52 : callable C0.P 52 = true := by kernel_rfl
theorem penter54 {args : List FV} {r : FV} (h : wpC C0 19 [17] [0, 1, 4, 5, 7, 8, 9, 16] (Tryd.f54.body.getD .skip) (argsEnv 0 args) [] fun x e H₁ => (match x with | .exit _ => False | _ => True) ∧ resultOf C0 e H₁ Tryd.f54.results.toList = some r ∧ True) : PCon C0 54 args r :=
  pcon_of (C := C0) (fn := Tryd.f54) Tryd.func54 rfl (by decide) mixed rfl h
theorem callable54 : callable C0.P 54 = true := by kernel_rfl
theorem penter55 {args : List FV} {r : FV} (h : wpC C0 25 [] [0, 2, 3, 4, 14] (Tryd.f55.body.getD .skip) (argsEnv 0 args) [] fun x e H₁ => (match x with | .exit _ => False | _ => True) ∧ resultOf C0 e H₁ Tryd.f55.results.toList = some r ∧ True) : PCon C0 55 args r :=
  pcon_of (C := C0) (fn := Tryd.f55) Tryd.func55 rfl (by decide) mixed rfl h
theorem callable55 : callable C0.P 55 = true := by kernel_rfl
theorem penter56 {args : List FV} {r : FV} (h : wpC C0 11 [10] [0, 2, 9] (Tryd.f56.body.getD .skip) (argsEnv 0 args) [] fun x e H₁ => (match x with | .exit _ => False | _ => True) ∧ resultOf C0 e H₁ Tryd.f56.results.toList = some r ∧ True) : PCon C0 56 args r :=
  pcon_of (C := C0) (fn := Tryd.f56) Tryd.func56 rfl (by decide) mixed rfl h
theorem callable56 : callable C0.P 56 = true := by kernel_rfl
end Go.Proofs.YtkbknlcdinkokaaDoor.Ev
end
section
namespace Go.Proofs.YtkbknlcdinkokaaDoor.Ev
open Go
section
variable {C : Ctx} {nt : Nat} {mv vars : List Nat} {call : FuncId → List FV → Heap → FV → Heap → Prop} {ops : Array Oper}
def KSeq (C : Ctx) (nt : Nat) (mv vars : List Nat) (b : Code) (Q : Ex → Env → Heap → Prop) : Ex → Env → Heap → Prop := fun x e H => match x with
  | .normal => wpC C nt mv vars b e H Q
  | x => Q x e H
def KBlock (id : Nat) (Q : Ex → Env → Heap → Prop) : Ex → Env → Heap → Prop := fun x e H => match x with
  | .exit i => if i = id then Q .normal e H else Q (.exit i) e H
  | x => Q x e H
def KEnd (vars : List Nat) (Q : Ex → Env → Heap → Prop) : Env → Heap → Prop := fun e H => Q .normal (keep vars e) H
def KRest (C : Ctx) (nt : Nat) (mv : List Nat) (call : FuncId → List FV → Heap → FV → Heap → Prop) (ops : Array Oper) (l : List Oper) (K : Env → Heap → Prop) : Env → Heap → Prop := fun e H => wpOps C nt mv call ops l e H K
def CondC (C : Ctx) (nt : Nat) (mv vars : List Nat) (t : Bool) (a b : Code) (e : Env) (H : Heap) (Q : Ex → Env → Heap → Prop) : Prop := Cond t (wpC C nt mv vars a e H Q) (wpC C nt mv vars b e H Q)
def LoopC (C : Ctx) (nt : Nat) (mv vars : List Nat) (c : Code) (e : Env) (H : Heap) (Q : Ex → Env → Heap → Prop) : Prop := Loop (wpC C nt mv vars c) e H Q
theorem KSeq_normal {b : Code} {Q : Ex → Env → Heap → Prop} {e : Env} {H : Heap} : KSeq C nt mv vars b Q .normal e H = wpC C nt mv vars b e H Q := rfl
theorem KSeq_exit {b : Code} {Q : Ex → Env → Heap → Prop} {e : Env} {H : Heap} {i : Nat} : KSeq C nt mv vars b Q (.exit i) e H = Q (.exit i) e H := rfl
theorem KSeq_ret {b : Code} {Q : Ex → Env → Heap → Prop} {e : Env} {H : Heap} : KSeq C nt mv vars b Q .ret e H = Q .ret e H := rfl
theorem KBlock_normal {id : Nat} {Q : Ex → Env → Heap → Prop} {e : Env} {H : Heap} : KBlock id Q .normal e H = Q .normal e H := rfl
theorem KBlock_ret {id : Nat} {Q : Ex → Env → Heap → Prop} {e : Env} {H : Heap} : KBlock id Q .ret e H = Q .ret e H := rfl
theorem KBlock_exit {id i : Nat} {Q : Ex → Env → Heap → Prop} {e : Env} {H : Heap} : KBlock id Q (.exit i) e H = if i = id then Q .normal e H else Q (.exit i) e H := rfl
theorem KEnd_apply {Q : Ex → Env → Heap → Prop} {e : Env} {H : Heap} : KEnd vars Q e H = Q .normal (keep vars e) H := rfl
theorem KRest_apply {l : List Oper} {K : Env → Heap → Prop} {e : Env} {H : Heap} : KRest C nt mv call ops l K e H = wpOps C nt mv call ops l e H K := rfl
theorem KCall_apply {e : Env} {dst : Option Nat} {K : Env → Heap → Prop} {r : FV} {H : Heap} : KCall e dst K r H = K (e.put dst r.home) H := rfl
theorem CondC_true {a b : Code} {e : Env} {H : Heap} {Q : Ex → Env → Heap → Prop} : CondC C nt mv vars true a b e H Q = wpC C nt mv vars a e H Q := by simp [CondC, Cond]
theorem CondC_false {a b : Code} {e : Env} {H : Heap} {Q : Ex → Env → Heap → Prop} : CondC C nt mv vars false a b e H Q = wpC C nt mv vars b e H Q := by simp [CondC, Cond]
theorem CondC.mk {t : Bool} {a b : Code} {e : Env} {H : Heap} {Q : Ex → Env → Heap → Prop} (h1 : t = true → wpC C nt mv vars a e H Q) (h2 : t = false → wpC C nt mv vars b e H Q) : CondC C nt mv vars t a b e H Q := ⟨h1, h2⟩
section
variable {e : Env} {H : Heap} {Q : Ex → Env → Heap → Prop} {K : Env → Heap → Prop}
theorem wpC_skip : wpC C nt mv vars .skip e H Q = Q .normal e H := rfl
theorem wpC_label {l : Nat} : wpC C nt mv vars (.label l) e H Q = Q .normal e H := rfl
theorem wpC_exit {i : Nat} : wpC C nt mv vars (.exit i) e H Q = Q (.exit i) e H := rfl
theorem wpC_ret : wpC C nt mv vars .ret e H Q = Q .ret e H := rfl
theorem wpC_seq {a b : Code} : wpC C nt mv vars (.seq a b) e H Q = wpC C nt mv vars a e H (KSeq C nt mv vars b Q) := rfl
theorem wpC_block {id : Nat} {a : Code} : wpC C nt mv vars (.block id a) e H Q = wpC C nt mv vars a e H (KBlock id Q) := rfl
theorem wpC_scope {a : Code} : wpC C nt mv vars (.scope a) e H Q = wpC C nt mv vars a e H Q := rfl
theorem wpC_loop {a : Code} : wpC C nt mv vars (.loop a) e H Q = LoopC C nt mv vars a e H Q := rfl
theorem wpC_cond {c : Operand} {a b : Code} : wpC C nt mv vars (.cond c a b) e H Q = match rd C e c with
    | some (.sc (.bool t)) => CondC C nt mv vars t a b e H Q
    | _ => False := rfl
theorem wpC_region {id : Nat} {ops : Array Oper} : wpC C nt mv vars (.region id ops false) e H Q = wpOps C nt mv (Call C) ops ops.toList e H (KEnd vars Q) := rfl
theorem wpC_regionD {id : Nat} {ops : Array Oper} : wpC C nt mv vars (.region id ops true) e H Q = (barred mv id = false ∧ DrawC C nt mv ops e H (KEnd vars Q) (ordersOf mv id)) := rfl
theorem DrawC_nil : DrawC C nt mv ops e H K [] = wpOps C nt mv (CallP C) ops ops.toList e H K := rfl
theorem wpOps_nil : wpOps C nt mv call ops [] e H K = K e H := rfl
def WantC (C : Ctx) (nt : Nat) (mv : List Nat) (call : FuncId → List FV → Heap → FV → Heap → Prop) (ops : Array Oper) (o : Oper) (l : List Oper) (e : Env) (H : Heap) (K : Env → Heap → Prop) : Option Bool → Prop
  | some true => wpOp C nt mv call o e H (KRest C nt mv call ops l K)
  | some false => KRest C nt mv call ops l K (e.put o.dst (.tup [])) H
  | none => False
theorem WantC_true {o : Oper} {l : List Oper} : WantC C nt mv call ops o l e H K (some true) = wpOp C nt mv call o e H (KRest C nt mv call ops l K) := rfl
theorem WantC_false {o : Oper} {l : List Oper} : WantC C nt mv call ops o l e H K (some false) = KRest C nt mv call ops l K (e.put o.dst (.tup [])) H := rfl
theorem WantC_none {o : Oper} {l : List Oper} : WantC C nt mv call ops o l e H K none = False := rfl
theorem wpOps_cons {o : Oper} {l : List Oper} : wpOps C nt mv call ops (o :: l) e H K = WantC C nt mv call ops o l e H K (wanted nt ops e o) := by
  unfold wpOps WantC
  rcases wanted nt ops e o with _ | t
  · rfl
  · cases t <;> rfl
end
end
attribute [simp] DrawC_nil ordersOf decOrd opersOf WantC_true WantC_false WantC_none isClear boxed rowed rowOf body rowCells MoveQ ZerosQ zeroed stripO demote0 located pended pendSlots PendQ setBody barred bytesConv strOf bytesFrom byteOf wpC_skip wpC_label wpC_exit wpC_ret wpC_seq wpC_block wpC_scope wpC_loop wpC_cond wpC_region wpC_regionD wpOps_nil wpOps_cons KSeq_normal KSeq_exit KSeq_ret KBlock_normal KBlock_ret KBlock_exit KEnd_apply KRest_apply KCall_apply CondC_true CondC_false
  argsEnv dstOk wanted wpOp give rd FV.ofValue Env.put keep Env.get FV.home FV.homeE empd nilArg mvOf valOp demote demote1 FV.asRow FV.asList Value.cells rdAll rdParts rdo resultOf resAll resOf strip
  nilRow isAppend binOf intBin strBin unOf convOf lenOf foldMin foldMax minFrom maxFrom sliceOf loOf hiOf partOf fieldOf aggOf buildOf fillOf fieldPlaces FV.cells FV.ofValues FV.toPV FV.leafPV allPV PV.toFV PV.leaves
  FV.isLeaf PV.isLeaf FV.noPtr FV.np0 FV.np1 splice eqAll
theorem CallQ.mk {call : FuncId → List FV → Heap → FV → Heap → Prop} {f : FuncId} {args : List FV} {H H' : Heap} {r : FV} {K : FV → Heap → Prop} (h : call f args H r H') (hK : K r H') : CallQ call f args H K := ⟨r, H', h, hK⟩
theorem Call.pure {C : Ctx} {f : FuncId} {args : List FV} {H : Heap} {r : FV} (hc : callable C.P f = true) (ha : args.all FV.noPtr = true) (hr : r.noPtr = true) (h : PCon C f args r) : Call C f args H r H :=
  ⟨hc, .inl ⟨rfl, ha, hr, h⟩⟩
theorem CallP.pure {C : Ctx} {f : FuncId} {args : List FV} {H : Heap} {r : FV} (hc : callable C.P f = true) (ha : args.all FV.noPtr = true) (hr : r.noPtr = true) (h : PCon C f args r) : CallP C f args H r H :=
  ⟨hc, rfl, ha, hr, h⟩
theorem Call.shared {C : Ctx} {f : FuncId} {args : List FV} {H : Heap} {r : FV} {H' : Heap} (hc : callable C.P f = true) (h : Con C f args H r H') : Call C f args H r H' := ⟨hc, .inr h⟩
theorem loop_of {step : Env → Heap → (Ex → Env → Heap → Prop) → Prop} {Q : Ex → Env → Heap → Prop} (hm : ∀ e H Q Q', (∀ x e H, Q x e H → Q' x e H) → step e H Q → step e H Q') (I : Nat → Env → Heap → Prop)
    (round : ∀ d e H, I d e H → step e H fun x e' H' => match x with | .normal => ∃ d' < d, I d' e' H' | x => Q x e' H') : ∀ d e H, I d e H → Loop step e H Q := by
  have key : ∀ n d e H, d ≤ n → I d e H → iterP step (n + 1) e H Q := by
    intro n
    induction n with
    | zero =>
      intro d e H hd hI
      refine hm _ _ _ _ (fun x e' H' h => ?_) (round d e H hI)
      cases x with
      | normal => obtain ⟨d', h1, _⟩ := h; omega
      | exit i => exact h
      | ret => exact h
    | succ n ih =>
      intro d e H hd hI
      refine hm _ _ _ _ (fun x e' H' h => ?_) (round d e H hI)
      cases x with
      | normal => obtain ⟨d', h1, h2⟩ := h; exact ih d' e' H' (by omega) h2
      | exit i => exact h
      | ret => exact h
  exact fun d e H h => ⟨d + 1, key d d e H (Nat.le_refl _) h⟩
theorem wpOp_mono' {C : Ctx} {nt : Nat} {mv : List Nat} {call : FuncId → List FV → Heap → FV → Heap → Prop} {o : Oper} {e : Env} {H : Heap} {K K' : Env → Heap → Prop} (hh : ∀ e H, K e H → K' e H) (h : wpOp C nt mv call o e H K) : wpOp C nt mv call o e H K' := by
  unfold wpOp at h ⊢
  refine ⟨h.1, ?_⟩
  have h := h.2
  split at h
  · split at h
    · exact hh _ _ h
    · exact h.elim
  · split at h
    · rename_i hm
      rw [if_pos hm]
      split at h
      · exact hh _ _ h
      · exact h.elim
    · rename_i hm
      rw [if_neg hm]
      split at h
      · exact hh _ _ h
      · exact h.elim
  · split at h
    · rename_i hm
      rw [if_pos hm]
      split at h
      · split at h
        · exact hh _ _ h
        · exact h.elim
      · exact h.elim
    · rename_i hm
      rw [if_neg hm]
      split at h
      · exact hh _ _ h
      · exact h.elim
  · split at h
    · rename_i hm
      rw [if_pos hm]
      split at h
      · split at h
        · exact hh _ _ h
        · exact h.elim
      · split at h
        · exact ⟨h.1, hh _ _ h.2⟩
        · exact h.elim
      · split at h
        · obtain ⟨h1, h⟩ := h
          refine ⟨h1, ?_⟩
          split at h
          · exact hh _ _ h
          · exact h.elim
        · exact h.elim
      · exact h.elim
    · rename_i hm
      rw [if_neg hm]
      split at h
      · exact hh _ _ h
      · exact h.elim
  · split at h
    · split at h
      · exact hh _ _ h
      · exact h.elim
    · exact h.elim
  · split at h
    · split at h
      · exact ⟨h.1, hh _ _ h.2⟩
      · exact h.elim
    · exact h.elim
  · split at h
    · split at h
      · exact ⟨h.1, h.2.1, h.2.2.1, hh _ _ h.2.2.2⟩
      · exact h.elim
    · split at h
      · exact ⟨h.1, h.2.1, h.2.2.1, h.2.2.2.1, hh _ _ h.2.2.2.2⟩
      · exact h.elim
    · obtain ⟨h0, h⟩ := h
      refine ⟨h0, ?_⟩
      split at h
      · split at h
        · split at h
          · exact ⟨h.1, h.2.1, h.2.2.1, h.2.2.2.1, hh _ _ h.2.2.2.2⟩
          · exact h.elim
        · exact ⟨h.1, h.2.1, h.2.2.1, h.2.2.2.1, hh _ _ h.2.2.2.2⟩
        · exact h.elim
      · exact h.elim
    · exact h.elim
  · split at h
    · rename_i hm
      rw [if_pos hm]
      split at h
      · split at h
        · split at h
          · obtain ⟨h1, h2, h3, h4, h5, h⟩ := h
            exact ⟨h1, h2, h3, h4, h5, hh _ _ h⟩
          · exact h.elim
        · exact h.elim
      · exact h.elim
    rename_i hm
    rw [if_neg hm]
    split at h
    · split at h
      · obtain ⟨h1, h2, h3, h4, h⟩ := h
        refine ⟨h1, h2, h3, h4, ?_⟩
        split at h
        · exact ⟨h.1, hh _ _ h.2⟩
        · exact h.elim
      · exact h.elim
    · exact h.elim
  · split at h
    · rename_i hm
      rw [if_pos hm]
      split at h
      · exact hh _ _ h
      · exact hh _ _ h
      · exact hh _ _ h
      · exact hh _ _ h
      · split at h
        · exact ⟨fun hl => hh _ _ (h.1 hl), fun hl b => hh _ _ (h.2 hl b)⟩
        · exact h.elim
      · split at h
        · exact ⟨fun hl => hh _ _ (h.1 hl), fun hl b => hh _ _ (h.2 hl b)⟩
        · exact h.elim
      · exact h.elim
    · rename_i hm
      rw [if_neg hm]
      split at h
      · exact hh _ _ h
      · exact h.elim
  · split at h
    · exact hh _ _ h
    · split at h
      · exact hh _ _ h
      · exact h.elim
  · split at h
    · split at h
      · obtain ⟨r, H', hc, hK⟩ := h
        exact ⟨r, H', hc, hh _ _ hK⟩
      · exact h.elim
    · split at h
      · rename_i hm
        rw [if_pos hm]
        unfold PendQ at h ⊢
        split at h
        · split at h
          · split at h
            · split at h
              · obtain ⟨h1, h2, h3, h4, h5, h6, h7, h⟩ := h
                exact ⟨h1, h2, h3, h4, h5, h6, h7, fun k o => hh _ _ (h k o)⟩
              · exact h.elim
            · exact h.elim
          · exact h.elim
        · exact h.elim
      rename_i hp0
      rw [if_neg hp0]
      split at h
      · rename_i hm
        rw [if_pos hm]
        unfold ZerosQ at h ⊢
        split at h
        · split at h
          · split at h
            · obtain ⟨h1, h2, h3, h4, h5, h6, h⟩ := h
              exact ⟨h1, h2, h3, h4, h5, h6, hh _ _ h⟩
            · exact h.elim
          · exact h.elim
        · exact h.elim
      rename_i hz0
      rw [if_neg hz0]
      split at h
      · rename_i hm
        rw [if_pos hm]
        split at h
        · split at h
          · split at h
            · split at h
              · obtain ⟨hr, h⟩ := h
                refine ⟨hr, ?_⟩
                split at h
                · obtain ⟨h1, h2, h3, h4, h5, h6, h7, h8, h9, h⟩ := h
                  exact ⟨h1, h2, h3, h4, h5, h6, h7, h8, h9, hh _ _ h⟩
                · exact h.elim
              · split at h
                · rename_i hrw
                  rw [if_pos hrw]
                  obtain ⟨h1, h2, h3, h4, h5, h6, h7, h8, h⟩ := h
                  exact ⟨h1, h2, h3, h4, h5, h6, h7, h8, hh _ _ h⟩
                rename_i hrw
                rw [if_neg hrw]
                split at h
                · rename_i hbx
                  rw [if_pos hbx]
                  obtain ⟨h1, h2, h3, h4, h5, h6, h7, h8, h⟩ := h
                  exact ⟨h1, h2, h3, h4, h5, h6, h7, h8, hh _ _ h⟩
                · rename_i hbx
                  rw [if_neg hbx]
                  obtain ⟨h1, h2, h3, h4, h5, h6, h7, h⟩ := h
                  exact ⟨h1, h2, h3, h4, h5, h6, h7, hh _ _ h⟩
              · obtain ⟨h1, h2, h3, h4, h⟩ := h
                refine ⟨h1, h2, h3, h4, ?_⟩
                unfold MoveQ at h ⊢
                split at h
                · split at h
                  · obtain ⟨p1, p2, p3, p4, p5, h⟩ := h
                    refine ⟨p1, p2, p3, p4, p5, ?_⟩
                    split at h
                    · exact ⟨h.1, h.2.1, hh _ _ h.2.2⟩
                    · split at h
                      · obtain ⟨p1, p2, p3, p4, p5, h⟩ := h
                        exact ⟨p1, p2, p3, p4, p5, hh _ _ h⟩
                      · exact h.elim
                    · exact h.elim
                  · exact h.elim
                · exact h.elim
              · exact h.elim
            · exact h.elim
          · exact h.elim
        · exact h.elim
      · rename_i hm
        rw [if_neg hm]
        split at h
        · rename_i hc
          rw [if_pos hc]
          split at h
          · split at h
            · split at h
              · obtain ⟨h1, h2, h3, h⟩ := h
                exact ⟨h1, h2, h3, hh _ _ h⟩
              · exact h.elim
            · exact hh _ _ h
            · exact h.elim
          · exact h.elim
        · rename_i hc
          rw [if_neg hc]
          split at h
          · exact hh _ _ h
          · exact h.elim
    · exact h.elim
  · split at h
    · exact hh _ _ h
    · exact h.elim
theorem wpOps_mono' {C : Ctx} {nt : Nat} {mv : List Nat} {call : FuncId → List FV → Heap → FV → Heap → Prop} {ops : Array Oper} {K K' : Env → Heap → Prop} (hh : ∀ e H, K e H → K' e H) : ∀ {l : List Oper} {e : Env} {H : Heap}, wpOps C nt mv call ops l e H K → wpOps C nt mv call ops l e H K'
  | [], e, H, h => hh e H h
  | o :: l, e, H, h => by
    unfold wpOps at h ⊢
    split at h
    · exact wpOp_mono' (fun e H h => wpOps_mono' hh h) h
    · exact wpOps_mono' hh h
    · exact h.elim
theorem iterP_mono {step : Env → Heap → (Ex → Env → Heap → Prop) → Prop} (hm : ∀ e H Q Q', (∀ x e H, Q x e H → Q' x e H) → step e H Q → step e H Q') {Q Q' : Ex → Env → Heap → Prop} (hh : ∀ x e H, Q x e H → Q' x e H) : ∀ {k : Nat} {e : Env} {H : Heap}, iterP step k e H Q → iterP step k e H Q'
  | 0, _, _, h => h
  | k + 1, e, H, h => by
    unfold iterP at h ⊢
    refine hm _ _ _ _ (fun x e' H' h => ?_) h
    cases x with
    | normal => exact iterP_mono hm hh h
    | exit i => exact hh _ _ _ h
    | ret => exact hh _ _ _ h
theorem wpC_mono {C : Ctx} {nt : Nat} {mv vars : List Nat} : ∀ (c : Code) (e : Env) (H : Heap) (Q Q' : Ex → Env → Heap → Prop), (∀ x e H, Q x e H → Q' x e H) → wpC C nt mv vars c e H Q → wpC C nt mv vars c e H Q' := by
  intro c
  induction c with
  | skip => exact fun e H Q Q' hh h => hh _ _ _ h
  | label l => exact fun e H Q Q' hh h => hh _ _ _ h
  | exit id => exact fun e H Q Q' hh h => hh _ _ _ h
  | ret => exact fun e H Q Q' hh h => hh _ _ _ h
  | region id ops draw =>
    intro e H Q Q' hh h
    cases draw with
    | false => exact wpOps_mono' (fun e H h => hh _ _ _ h) (l := ops.toList) h
    | true =>
      refine ⟨h.1, ?_⟩
      have h := h.2
      revert h
      cases ordersOf mv id with
      | nil => exact fun h => wpOps_mono' (fun e H h => hh _ _ _ h) h
      | cons l R => exact fun ⟨ρ, h⟩ => ⟨ρ, fun r hr => wpOps_mono' (fun e H h => hh _ _ _ h) (h r hr)⟩
  | seq a b iha ihb =>
    intro e H Q Q' hh h
    refine iha _ _ _ _ (fun x e H h => ?_) h
    cases x with
    | normal => exact ihb _ _ _ _ hh h
    | exit i => exact hh _ _ _ h
    | ret => exact hh _ _ _ h
  | cond c a b iha ihb =>
    intro e H Q Q' hh h
    unfold wpC at h ⊢
    split at h
    · exact ⟨fun ht => iha _ _ _ _ hh (h.1 ht), fun ht => ihb _ _ _ _ hh (h.2 ht)⟩
    · exact h.elim
  | block id c ih =>
    intro e H Q Q' hh h
    refine ih _ _ _ _ (fun x e H h => ?_) h
    cases x with
    | normal => exact hh _ _ _ h
    | ret => exact hh _ _ _ h
    | exit i =>
      simp only at h ⊢
      split
      · rename_i hi; rw [if_pos hi] at h; exact hh _ _ _ h
      · rename_i hi; rw [if_neg hi] at h; exact hh _ _ _ h
  | loop c ih =>
    intro e H Q Q' hh h
    obtain ⟨k, hk⟩ := h
    exact ⟨k, iterP_mono ih hh hk⟩
  | scope c ih => exact fun e H Q Q' hh h => ih _ _ _ _ hh h
  | rangeFunc => exact fun e H Q Q' _ h => h.elim
  | goto => exact fun e H Q Q' _ h => h.elim
  | refuse => exact fun e H Q Q' _ h => h.elim
def KLoop (I : Nat → Env → Heap → Prop) (d : Nat) (Q : Ex → Env → Heap → Prop) : Ex → Env → Heap → Prop := fun x e H => match x with
  | .normal => ∃ d', d' < d ∧ I d' e H
  | x => Q x e H
theorem KLoop_normal {I : Nat → Env → Heap → Prop} {d : Nat} {Q : Ex → Env → Heap → Prop} {e : Env} {H : Heap} : KLoop I d Q .normal e H = ∃ d', d' < d ∧ I d' e H := rfl
theorem KLoop_exit {I : Nat → Env → Heap → Prop} {d : Nat} {Q : Ex → Env → Heap → Prop} {e : Env} {H : Heap} {i : Nat} : KLoop I d Q (.exit i) e H = Q (.exit i) e H := rfl
theorem KLoop_ret {I : Nat → Env → Heap → Prop} {d : Nat} {Q : Ex → Env → Heap → Prop} {e : Env} {H : Heap} : KLoop I d Q .ret e H = Q .ret e H := rfl
attribute [simp] KLoop_normal KLoop_exit KLoop_ret
theorem loopC {C : Ctx} {nt : Nat} {mv vars : List Nat} {c : Code} {Q : Ex → Env → Heap → Prop} (I : Nat → Env → Heap → Prop) {d : Nat} {e : Env} {H : Heap} (h0 : I d e H)
    (round : ∀ d e H, I d e H → wpC C nt mv vars c e H (KLoop I d Q)) : LoopC C nt mv vars c e H Q :=
  loop_of (wpC_mono c) I (fun d e H h => wpC_mono c _ _ _ _ (fun x e H h => by cases x <;> exact h) (round d e H h)) d e H h0
end Go.Proofs.YtkbknlcdinkokaaDoor.Ev
end
section
namespace Go.Proofs.YtkbknlcdinkokaaDoor.Ev
open Go
theorem heap_at {H L : List (List FV)} {k : Nat} : (H ++ L)[H.length + k]? = L[k]? := by
  rw [List.getElem?_append_right (by omega)]; congr 1; omega
theorem heap_at0 {H L : List (List FV)} : (H ++ L)[H.length]? = L[0]? := heap_at (k := 0)
theorem heap_set {H L : List (List FV)} {k : Nat} {x : List FV} : (H ++ L).set (H.length + k) x = H ++ L.set k x := by
  have := List.set_append_right (s := H) (t := L) (H.length + k) x (by omega)
  rw [this]; congr 2; omega
theorem heap_set0 {H L : List (List FV)} {x : List FV} : (H ++ L).set H.length x = H ++ L.set 0 x := heap_set (k := 0)
attribute [simp] heap_at heap_at0 heap_set heap_set0 List.append_assoc
theorem wrap64 {n : Int} (h0 : -9223372036854775808 ≤ n) (h1 : n ≤ 9223372036854775807) : IntKind.i64.wrap n = n := by
  simp only [IntKind.wrap, IntKind.signed, IntKind.bits]
  simp
  omega
structure Glyph where
  r : Int
  s : Int
  deriving DecidableEq
def Glyph.pv (g : Glyph) : PV := .agg [.int .i32 g.r, .int .u8 g.s]
def gl (l : List Glyph) : PV := .sl (l.map Glyph.pv)
def sumBy {α : Type} (f : α → Nat) : List α → Nat
  | [] => 0
  | x :: l => f x + sumBy f l
end Go.Proofs.YtkbknlcdinkokaaDoor.Ev
end
section
namespace Go.Proofs.YtkbknlcdinkokaaDoor.Ev
open Go
theorem take_succ_eq {α : Type} {a b : List α} {i : Nat} (ha : i < a.length) (hb : i < b.length) : a.take (i + 1) = b.take (i + 1) ↔ a.take i = b.take i ∧ a[i] = b[i] := by
  rw [List.take_succ_eq_append_getElem ha, List.take_succ_eq_append_getElem hb]
  constructor
  · intro h
    obtain ⟨h1, h2⟩ := List.append_inj h (by simp; omega)
    exact ⟨h1, by simpa using h2⟩
  · rintro ⟨h1, h2⟩; rw [h1, h2]
end Go.Proofs.YtkbknlcdinkokaaDoor.Ev
end
section
namespace Go.Proofs.YtkbknlcdinkokaaDoor.Ev
open Go
theorem wrapInc {i : Nat} (h : i < 4611686018427387904) : IntKind.i64.wrap ((i : Int) + 1) = ((i + 1 : Nat) : Int) := by
  rw [wrap64 (by omega) (by omega)]; omega
set_option maxRecDepth 20000 in
theorem refSame (a b : List Glyph) (ha : a.length ≤ 4611686018427387904) : PCon C0 9 [.sc (gl a), .sc (gl b)] (.sc (.bool (decide (a = b)))) := by
  refine penter9 ?_
  simp [Tryd.f9, gl]
  refine CondC.mk (fun h => ?_) (fun h => ?_)
  · simp at h
    simp
    intro hab; subst hab; exact h rfl
  · simp at h
    simp
    refine loopC (fun d e H => ∃ i x14 x25, d = a.length - i ∧ i ≤ a.length ∧ a.take i = b.take i ∧ e = [(0, FV.sc (PV.sl (List.map Glyph.pv a))), (1, FV.sc (PV.sl (List.map Glyph.pv b))), (4, FV.sc (PV.bool false)),
      (5, FV.sc (.int .i64 (i : Nat))), (10, FV.sc (PV.bool !decide ((a.length : Int) = b.length))), (14, x14), (25, x25)]) (d := a.length) ⟨0, .undef, .undef, ?_⟩ ?_
    · simp [h]
    · rintro d e H ⟨i, x14, x25, rfl, hi, heq, rfl⟩
      simp
      refine CondC.mk (fun hlt => ?_) (fun hlt => ?_)
      · simp at hlt
        have hib : i < b.length := by omega
        simp [hlt, hib, Glyph.pv]
        refine CondC.mk (fun hne => ?_) (fun hne => ?_)
        · simp at hne
          simp
          intro hab; subst hab
          simp at hne
        · simp at hne
          simp [wrapInc (i := i) (by omega)]
          refine ⟨a.length - (i + 1), by omega, i + 1, rfl, by omega, (take_succ_eq hlt hib).2 ⟨heq, ?_⟩, by simp⟩
          cases hx : a[i]; cases hy : b[i]; simp_all
      · simp at hlt
        simp
        rw [List.take_of_length_le hlt, List.take_of_length_le (by omega)] at heq
        exact heq
end Go.Proofs.YtkbknlcdinkokaaDoor.Ev
end
section
namespace Go.Proofs.YtkbknlcdinkokaaDoor.Ev
open Go
structure TRow where
  rule : Bool
  cells : List (List Glyph)
deriving DecidableEq
end Go.Proofs.YtkbknlcdinkokaaDoor.Ev
end
section
namespace Go.Proofs.YtkbknlcdinkokaaDoor.Ev
open Go
structure Tbl where
  cols : ByteArray
  rows : List TRow
  box : Bool
  all : Bool
deriving DecidableEq
end Go.Proofs.YtkbknlcdinkokaaDoor.Ev
end
section
namespace Go.Proofs.YtkbknlcdinkokaaDoor.Ev
open Go
inductive Node where
  | mk (kind line n : Int) (text : List Glyph) (kids : List Node) (rows : List (List Glyph)) (grid : Tbl)
end Go.Proofs.YtkbknlcdinkokaaDoor.Ev
end
section
namespace Go.Proofs.YtkbknlcdinkokaaDoor.Ev
open Go
def below (n : Nat) : Root → Bool
  | .box i => decide (i < n)
  | _ => true
theorem only_some {W : Wd} {p : Root → Bool} {b : Nat} {q : Root} {k : Nat} (h : W.o b = some (q, k)) (hp : p q = true) : (W.only p).o b = some (q, k) := by
  simp [Wd.only, h, hp]
theorem only_of {W : Wd} {p : Root → Bool} {b : Nat} {q : Root} {k : Nat} (h : (W.only p).o b = some (q, k)) : W.o b = some (q, k) := by
  simp only [Wd.only] at h
  split at h
  · rename_i q' k' hq
    split at h
    · rw [hq]; exact h
    · simp at h
  · simp at h
def FV.und0 (n : Nat) : FV → Bool
  | .sc _ | .own _ | .emp | .ea _ | .nilp => true
  | .ptr b _ | .bs b _ _ | .gr b _ _ _ | .gp b _ _ => decide (b < n)
  | .fn _ [] [] => true
  | _ => false
section
variable {A B : Wd} {r r' : Root} {n : Nat} (hc : ∀ b off, off < A.lim b → B.w.cell? ⟨b, off, none⟩ = A.w.cell? ⟨b, off, none⟩) (hl : ∀ b, A.lim b ≤ B.lim b)
    (hs : ∀ (b : Nat) (c : Array Value) (T : TypeId) (fz : Nat × Nat), A.w.heap[b]? = some (Obj.cells c T fz) → ∃ c' : Array Value, B.w.heap[b]? = some (Obj.cells c' T fz) ∧ c'.size = c.size)
    (hb : ∀ b i, i < n → A.o b = some (.box i, 0) → A.β i = b → B.β i = b ∧ B.o b = some (.box i, 0))
    (hw : ∀ i, i < n → A.gen i ≤ B.gen i ∧ (B.gen i = A.gen i → A.o (A.β i) = some (.box i, 1) → B.β i = A.β i ∧ B.o (A.β i) = some (.box i, 1)))
include hc hl hs hb hw
theorem FRep.und0 {q : Option Root} (hh : q = some r → ∀ b i, A.o b = some (r, i) → B.o b = some (r', i) ∧ B.lim b = A.lim b) {i : Nat} {f : FV} {v : Value} (h : FRep A q i f v) (hq : q = none ∨ q = some r) (hn : f.und0 n = true) : FRep B (q.map fun _ => r') i f v := by
  by_cases h0 : f.np0 = true
  · exact h.np0 hc hl hs hh hq h0
  cases h with
  | ptr h1 =>
    obtain ⟨q1, q2⟩ := hb _ _ (by simpa [FV.und0] using hn) h1 rfl
    rw [← q1]
    exact .ptr (by rw [q1]; exact q2)
  | bs h1 h2 =>
    obtain ⟨q1, q2⟩ := hb _ _ (by simpa [FV.und0] using hn) h1 rfl
    rw [← q1]
    exact .bs (by rw [q1]; exact q2) h2
  | @gr _ _ b g z n' cap A' hg hnn hcc =>
    obtain ⟨h1, h2⟩ := hw b (by simpa [FV.und0] using hn)
    refine .gr (Nat.le_trans hg h1) hnn fun hB => ?_
    have hA := Nat.le_antisymm (hB ▸ h1) hg
    obtain ⟨q1, q2, c, T, fz, q3, q4⟩ := hcc hA
    obtain ⟨h3, h4⟩ := h2 (hB.trans hA.symm) q2
    obtain ⟨c', hc', hsz⟩ := hs _ _ _ _ q3
    exact ⟨by rw [h3]; exact q1, by rw [h3]; exact h4, c', T, fz, by rw [h3]; exact hc', by rw [hsz]; exact q4⟩
  | @gp _ _ b g off A' hg hcc =>
    obtain ⟨h1, h2⟩ := hw b (by simpa [FV.und0] using hn)
    refine .gp (Nat.le_trans hg h1) fun hB => ?_
    have hA := Nat.le_antisymm (hB ▸ h1) hg
    obtain ⟨q1, q2⟩ := hcc hA
    obtain ⟨h3, h4⟩ := h2 (hB.trans hA.symm) q2
    exact ⟨by rw [h3]; exact q1, by rw [h3]; exact h4⟩
  | nilp => exact .nilp
  | sc => simp [FV.np0] at h0
  | own => simp [FV.np0] at h0
  | emp => simp [FV.np0] at h0
  | ea => simp [FV.np0] at h0
  | @fn _ _ f first cap fs cs a b c d => cases first <;> cases cap <;> simp_all [FV.np0, FV.und0]
  | undef => simp [FV.und0] at hn
  | ext => simp [FV.und0] at hn
  | exr => simp [FV.und0] at hn
  | exq => simp [FV.und0] at hn
  | agg => simp [FV.und0] at hn
  | tup => simp [FV.und0] at hn
  | oagg => simp [FV.und0] at hn
end
theorem GenOk.congr {A B : Wd} {b : Nat} {fs : List FV} (hg : B.gen b = A.gen b) (h : GenOk A b fs) : GenOk B b fs := by
  rcases kind_cases fs with ⟨_, _, k⟩ | ⟨g, l, rfl⟩
  · exact k _ _
  · exact hg.trans h
def Wd.forget (W : Wd) (n : Nat) : Wd := { W.only (below n) with gen := fun b => if b < n then W.gen b else 0 }
theorem forget_o {W : Wd} {n b : Nat} : (W.forget n).o b = (W.only (below n)).o b := rfl
theorem HInv.trim {C : Ctx} {H : Heap} {W : Wd} {n : Nat} (h : HInv C H W) (hp : ∀ fs ∈ H.take n, ∀ f ∈ body fs, f.und0 n = true) : HInv C (H.take n) (W.forget n) := by
  refine ⟨fun b fs hfs => ?_, h.laid, fun b hb => ⟨(h.fresh b hb).1, ?_⟩, fun b i k hb => ?_, fun b hb => ?_, h.kept.same rfl fun b hb => only_none fun q k hq => by rw [hb] at hq; simp at hq⟩
  · have hm := List.mem_of_getElem? hfs
    have hbn : b < n := by
      have := (List.getElem?_eq_some_iff.1 hfs).1
      simp at this; omega
    have hfs' : H[b]? = some fs := by
      rw [List.getElem?_take, if_pos hbn] at hfs
      exact hfs
    obtain ⟨h1, h2, c, T, fz, h3, h4, h5, h6⟩ := h.box b fs hfs'
    refine ⟨⟨only_some h1.1 (by simp [below, hbn]), h1.2.congr (by simp [Wd.forget, hbn])⟩, h2, c, T, fz, h3, h4, h5, fun i f v hf hv => ⟨(h6 i f v hf hv).1, ?_⟩⟩
    exact (h6 i f v hf hv).2.und0 (A := W) (r := .leaf b i) (r' := .leaf b i) (n := n) (B := W.forget n) (fun _ _ _ => rfl) (fun _ => Nat.le_refl _) (fun _ c _ _ h => ⟨c, h, rfl⟩) (fun b' i' hi hb' hβ => ⟨hβ, only_some hb' (by simp [below, hi])⟩) (fun i' hi => ⟨by simp [Wd.forget, hi], fun _ ho => ⟨rfl, only_some ho (by simp [below, hi])⟩⟩) (fun _ b' i' hb' => ⟨only_some hb' rfl, rfl⟩) (.inr rfl) (hp fs hm f (List.mem_of_getElem? hf))
  · exact only_none fun q k hq => by rw [(h.fresh b hb).2] at hq; simp at hq
  · have h1 := only_of hb
    have h2 : below n (.box i) = true := by
      rw [forget_o] at hb
      simp only [Wd.only, h1] at hb
      split at hb
      · assumption
      · simp at hb
    have h3 := h.boxes b i k h1
    simp [below] at h2
    simp; omega
  · simp only [Wd.forget]
    split
    · exact h.gen0 b (by simp at hb; omega)
    · rfl
theorem Evo.forget {C : Ctx} {H : Heap} {W W' : Wd} (hH : HInv C H W) (h : Evo W W' (fun _ _ => False)) : Evo W (W'.forget H.length) (fun _ _ => False) := by
  refine Evo.of h.os h.tape h.output h.size h.cell h.lim h.shape (fun _ _ _ _ hk => hk.elim) (fun b i hbi hβ => ?_) (fun i => ?_) (fun b hlt hbo => ?_)
  · obtain ⟨q1, q2⟩ := h.beta b i hbi hβ
    exact ⟨q1, only_some q2 (by simp [below]; exact hH.boxes b i 0 hbi)⟩
  · obtain ⟨q1, q2⟩ := h.row i
    by_cases hi : i < H.length
    · have hg : (W'.forget H.length).gen i = W'.gen i := by simp [Wd.forget, hi]
      rw [hg]
      refine ⟨q1, fun hq ho => ?_⟩
      obtain ⟨q3, q4⟩ := q2 hq ho
      exact ⟨q3, only_some q4 (by simp [below, hi])⟩
    · refine ⟨by rw [hH.gen0 i (by omega)]; exact Nat.zero_le _, fun _ ho => absurd (hH.boxes _ i 1 ho) hi⟩
  · obtain ⟨q1, q2, q3⟩ := h.away b hlt hbo
    exact ⟨q1, q2, only_none fun q k hq => by rw [q3] at hq; simp at hq⟩
end Go.Proofs.YtkbknlcdinkokaaDoor.Ev
end
section
namespace Go.Proofs.YtkbknlcdinkokaaDoor.Ev
open Go
def Wd.freeze (W : Wd) (b n : Nat) : Wd := { W with lim := fun x => if x = b then n else W.lim x }
theorem flat_at {s : Nat} : ∀ {l : List PV} {x y : Nat} {e q : PV}, Sized s l → l[x]? = some e → e.leaves[y]? = some q → (l.flatMap PV.leaves)[x * s + y]? = some q
  | [], x, y, e, q, _, he, _ => by simp at he
  | p :: l, 0, y, e, q, _, he, hq => by
    simp at he; subst he
    rw [List.flatMap_cons, Nat.zero_mul, Nat.zero_add, List.getElem?_append_left (List.getElem?_eq_some_iff.1 hq).1]
    exact hq
  | p :: l, x + 1, y, e, q, hz, he, hq => by
    have hps : p.leaves.length = s := hz p (by simp)
    rw [List.flatMap_cons, List.getElem?_append_right (by rw [hps, Nat.succ_mul]; omega), hps, show (x + 1) * s + y - s = x * s + y by rw [Nat.succ_mul]; omega]
    exact flat_at (fun z hz' => hz z (by simp [hz'])) (by simpa using he) hq
theorem freeze_evo {W : Wd} {B n : Nat} (h0 : W.lim B = 0) (hB : W.o B = none) : Evo0 W (W.freeze B n) (fun _ _ => True) :=
  { cell := fun _ _ _ => rfl
    lim := fun x => by
      simp only [Wd.freeze]
      split
      · rename_i h; rw [h, h0]; exact Nat.zero_le _
      · exact Nat.le_refl _
    shape := fun _ c _ _ h => ⟨c, h, rfl⟩
    hold := fun x q i ho _ => ⟨ho, by
      simp only [Wd.freeze]
      split
      · rename_i h; rw [h, hB] at ho; simp at ho
      · rfl⟩
    beta := fun x i ho hb => ⟨hb, ho⟩
    row := fun i => ⟨Nat.le_refl _, fun _ h => ⟨rfl, h⟩⟩ }
theorem HInv.freeze {C : Ctx} {H : Heap} {W : Wd} {B n : Nat} (h : HInv C H W) (h0 : W.lim B = 0) (hB : W.o B = none) (hlt : B < W.w.heap.size) : HInv C H (W.freeze B n) := by
  have hE0 := freeze_evo (n := n) h0 hB
  refine ⟨fun x gs hgs => ?_, fun g ls hls j q hq => ?_, fun x hx => ?_, fun x i k hx => h.boxes x i k hx, h.gen0, h.kept.same rfl fun _ h => h⟩
  · obtain ⟨m1, m2, c₂, T₂, fz₂, m3, m4, m5, m6⟩ := h.box x gs hgs
    refine ⟨⟨m1.1, m1.2.congr rfl⟩, ?_, c₂, T₂, fz₂, m3, m4, m5, fun i g v hg hv => ⟨(m6 i g v hg hv).1, (m6 i g v hg hv).2.mono0 hE0 (fun _ _ _ => trivial)⟩⟩
    simp only [Wd.freeze]
    split
    · rename_i hh
      have q := m1.1
      have : W.β x = B := hh
      rw [this, hB] at q; simp at q
    · exact m2
  · obtain ⟨m1, m2, v, m3, m4⟩ := h.laid g ls hls j q hq
    exact ⟨m1, Nat.lt_of_lt_of_le m2 (hE0.lim g), v, m3, m4.mono (fun _ _ _ => rfl) hE0.lim⟩
  · obtain ⟨m1, m2⟩ := h.fresh x hx
    refine ⟨?_, m2⟩
    simp only [Wd.freeze]
    rw [if_neg (by intro h; subst h; exact absurd hlt (Nat.not_lt.2 hx))]
    exact m1
theorem HInv.lt {C : Ctx} {H : Heap} {W : Wd} (h : HInv C H W) {b : Nat} {fs : List FV} (hb : H[b]? = some fs) : W.β b < W.w.heap.size := by
  obtain ⟨k1, _⟩ := h.box b fs hb
  rcases Nat.lt_or_ge (W.β b) W.w.heap.size with h' | h'
  · exact h'
  · have := k1.1
    rw [(h.fresh _ h').2] at this; simp at this
theorem forget_none {W : Wd} {n b x k : Nat} (hn : n ≤ b) (h : W.o x = some (.box b, k)) : (W.forget n).o x = none := by
  have : below n (.box b) = false := by simp [below]; omega
  rw [forget_o]
  simp [Wd.only, h, this]
theorem frozen_row {W W₁ : Wd} {B off s cap : Nat} {cs : Array Value} {T : TypeId} {fz : Nat × Nat} {fs : List FV} {b : Nat} {l : List PV} (hs : 0 < s) (hl : Sized s l) (k3 : W.w.heap[B]? = some (.cells cs T fz)) (k4 : fs.length ≤ cs.size) (k6 : ∀ (i : Nat) (f : FV) (v : Value), fs[i]? = some f → cs[i]? = some v → f.isLeaf = true ∧ FRep W (some (.leaf b i)) 0 f v)
    (h8 : ∀ k q, (l.flatMap PV.leaves)[k]? = some q → ∃ f, fs[off + k]? = some f ∧ f.leafPV = some q) (hw : W₁.w = W.w) (hlim : ∀ x, W.lim x ≤ W₁.lim x) (hB : cs.size ≤ W₁.lim B) (hcap : l.length ≤ cap) : Rep W₁.w W₁.lim (.sl l) (.slice (some ⟨B, off, none⟩) l.length cap) := by
  have hcell : ∀ x y, x < l.length → ∀ e q, l[x]? = some e → e.leaves[y]? = some q → ∃ u, W.w.cell? ⟨B, off + (x * s + y), none⟩ = some u ∧ off + (x * s + y) < cs.size ∧ q.isLeaf = true ∧ Rep W.w W.lim q u := by
    intro x y hx e q he hq
    have hk : (l.flatMap PV.leaves)[x * s + y]? = some q := flat_at hl he hq
    obtain ⟨f, hfs, hfq⟩ := h8 _ _ hk
    have hlt : off + (x * s + y) < fs.length := (List.getElem?_eq_some_iff.1 hfs).1
    have hcl : off + (x * s + y) < cs.size := by omega
    obtain ⟨m1, m2⟩ := k6 _ _ cs[off + (x * s + y)] hfs (Array.getElem?_eq_getElem hcl)
    obtain ⟨m3, m4⟩ := leafPV_rep m2 hfq
    exact ⟨cs[off + (x * s + y)], by rw [cell_of_heap k3]; exact Array.getElem?_eq_getElem hcl, hcl, m3, m4⟩
  by_cases hl0 : l = []
  · subst hl0; exact .nil
  refine .sl (fun x y => (W.w.cell? ⟨B, off + (x * s + y), none⟩).getD default) (sz := s) rfl rfl hs (fun x e he => hl e (List.mem_of_getElem? he)) (fun x y e q he hq => ?_) (fun x y e q he hq => ?_) (fun x y e q he hq => ?_) (fun x y e q he hq => ?_) hcap
  all_goals
    obtain ⟨u, q1, q2, q3, q4⟩ := hcell x y (List.getElem?_eq_some_iff.1 he).1 e q he hq
  · exact Nat.lt_of_lt_of_le q2 hB
  · rw [hw, q1]; rfl
  · exact q3
  · simp only [q1, Option.getD_some]
    exact q4.mono (fun _ _ _ => by rw [hw]) hlim
section
variable {C : Ctx} {f : FuncId} {fn : Func} {c : Code} {args : List FV} {H H' : Heap} {mv vars : List Nat} (hf : C.P.funcs[f]? = some fn) (hb : fn.body = some c) (hn : (resTmps fn.results.toList).Nodup) (hmix : C.P.follows .mixedOrders = true) (hk : codeOk mv c = true)
    (l : List PV) (s : Nat) (hs : 0 < s) (hl : Sized s l)
include hf hb hn hmix hk hs hl
theorem con_freezeT {p2 : PV} (hp : ∀ fs ∈ H', ∀ f ∈ body fs, f.und0 H.length = true)
    (h : wpC C fn.ntmps mv vars c (argsEnv 0 args) H fun x e H₁ => (match x with | .exit _ => False | _ => True) ∧ ∃ (b g : Nat) (cells : List FV), resultOf C e H₁ fn.results.toList = some (.tup [.gr b g s l.length, .sc p2]) ∧ H.length ≤ b ∧ H₁.take H.length = H' ∧ H₁[b]? = some [.row g cells] ∧ ∀ (k : Nat) (q : PV), (l.flatMap PV.leaves)[k]? = some q → ∃ f : FV, cells[k]? = some f ∧ f.leafPV = some q) : Con C f args H (.tup [.sc (.sl l), .sc p2]) H' :=
  fun vs W hlen hargs hH _ => (con_gen2 (G := fun r H₁ => ∃ (b g : Nat) (cells : List FV), r = .tup [.gr b g s l.length, .sc p2] ∧ H.length ≤ b ∧ H₁.take H.length = H' ∧ H₁[b]? = some [.row g cells] ∧ ∀ (k : Nat) (q : PV), (l.flatMap PV.leaves)[k]? = some q → ∃ f : FV, cells[k]? = some f ∧ f.leafPV = some q) hf hb hn hmix hk (wpC_mono _ _ _ _ _ (fun _ _ _ ⟨h1, b, g, cells, h2, h3⟩ => ⟨h1, _, h2, b, g, cells, rfl, h3⟩) h) vs W hlen hargs hH).mono fun _ _ ⟨v, W', H₁, r, h1, h2, ⟨b, g, cells, hr, hbn, h3, h7, h8⟩, h4, h5, h6⟩ => by
    subst hr
    have hbl := (List.getElem?_eq_some_iff.1 h7).1
    obtain ⟨k1, k2, cs, T, fz, k3, k4, k5, k6⟩ := h5.box b _ h7
    generalize hv : v = v' at h4
    cases h4 with
    | @tup _ _ _ vs' n1 n2 =>
      obtain ⟨u1, u2, hu⟩ : ∃ u1 u2, vs' = #[u1, u2] := by
        match hq : vs'.toList, n1 with
        | [x, y], _ => exact ⟨x, y, Array.toList_inj.1 (by simpa using hq)⟩
        | [], hh => rw [← Array.length_toList, hq] at hh; simp at hh
        | [x], hh => rw [← Array.length_toList, hq] at hh; simp at hh
        | x :: y :: z :: m, hh => rw [← Array.length_toList, hq] at hh; simp at hh
      subst hu
      have g1 := n2 0 _ u1 rfl rfl
      have g2 := n2 1 _ u2 rfl rfl
      cases g2 with
      | sc z1 z2 =>
      cases g1 with
      | @gr _ _ _ _ _ _ cap A a1 a2 a3 =>
        subst hv
        obtain ⟨q1, q2, q3⟩ := a3 k1.2
        subst q1
        have hlt := h5.lt h7
        have hbx := h5.trim (n := H.length) (h3 ▸ hp)
        rw [h3] at hbx
        have hBo := forget_none hbn q2
        have hE0 := freeze_evo (W := W'.forget H.length) (n := cs.size) (B := W'.β b) k2 hBo
        have e1 : FRep ((W'.forget H.length).freeze (W'.β b) cs.size) (some .res) 0 (.sc (.sl l)) _ := .sc rfl (frozen_row (W := W') (off := 0) hs hl k3 k4 k6 (fun k q hkq => by rw [Nat.zero_add]; exact h8 k q hkq) rfl hE0.lim (by simp [Wd.freeze]) a2)
        have e2 : FRep ((W'.forget H.length).freeze (W'.β b) cs.size) (some .res) 1 (.sc p2) u2 := .sc z1 (z2.mono (fun b' o' h' => rfl) hE0.lim)
        refine ⟨_, (W'.forget H.length).freeze (W'.β b) cs.size, h1, h2, .tup rfl (fun j f v hf hv => ?_), hbx.freeze k2 hBo hlt, ?_⟩
        · match j, hf, hv with
          | 0, hf, hv => simp at hf hv; subst hf hv; exact e1
          | 1, hf, hv => simp at hf hv; subst hf hv; exact e2
        · have h6' := h6.forget hH
          refine Evo.of h6'.os h6'.tape h6'.output h6'.size h6'.cell (fun x => Nat.le_trans (h6'.lim x) (hE0.lim x)) h6'.shape (fun _ _ _ _ hk => hk.elim) h6'.beta h6'.row (fun x hxl hxo => ?_)
          obtain ⟨p1, p2, p3⟩ := h6.away x hxl hxo
          refine ⟨p1, ?_, (h6'.away x hxl hxo).2.2⟩
          simp only [Wd.freeze]
          rw [if_neg (by intro h; subst h; rw [q2] at p3; simp at p3)]
          exact p2
end
end Go.Proofs.YtkbknlcdinkokaaDoor.Ev
end
section
namespace Go.Proofs.YtkbknlcdinkokaaDoor.Ev
open Go
abbrev mv19 : List Nat := [15, 16]
abbrev vars19 : List Nat := [0, 1, 2, 6, 7, 8]
end Go.Proofs.YtkbknlcdinkokaaDoor.Ev
end
section
namespace Go.Proofs.YtkbknlcdinkokaaDoor.Ev
open Go
theorem seq_cutP {C : Ctx} {nt : Nat} {mv vars : List Nat} {a b : Code} {e : Env} {H : Heap} {Q : Ex → Env → Heap → Prop} (P : Env → Heap → Prop) (h : wpC C nt mv vars a e H fun x e' H' => x = .normal ∧ P e' H') (hK : ∀ e' H', P e' H' → wpC C nt mv vars b e' H' Q) : wpC C nt mv vars (.seq a b) e H Q := by
  rw [wpC_seq]
  refine wpC_mono a e H _ _ (fun x e' H' hh => ?_) h
  obtain ⟨rfl, hp⟩ := hh
  exact hK e' H' hp
def validR (r : Int) : Bool := decide (0 ≤ r) && (decide (r ≤ 1114111) && (decide (r < 55296) || decide (57343 < r)))
def controlR (r : Int) : Bool := (decide (0 ≤ r) && decide (r < 32)) || (decide (127 ≤ r) && decide (r ≤ 159)) || decide (r = 8232) || decide (r = 8233)
def safeR (r : Int) : Int := if validR r = true ∧ controlR r = false then r else 65533
def sizeR (r : Int) : Int := if r < 128 then 1 else if r < 2048 then 2 else if r < 65536 then 3 else 4
theorem conValidR (r : Int) : PCon C0 48 [.sc (.int .i32 r)] (.sc (.bool (validR r))) := by
  refine penter48 ?_
  by_cases h1 : 0 ≤ r <;> by_cases h2 : r ≤ 1114111 <;> by_cases h3 : r < 55296 <;> by_cases h4 : 57343 < r <;> simp [Tryd.f48, validR, h1, h2, h3, h4]
theorem conSize (r : Int) : PCon C0 49 [.sc (.int .i32 r)] (.sc (.int .i64 (sizeR r))) := by
  refine penter49 ?_
  by_cases h1 : r < 128 <;> by_cases h2 : r < 2048 <;> by_cases h3 : r < 65536 <;> simp [Tryd.f49, sizeR, h1, h2, h3]
set_option maxHeartbeats 2000000 in
theorem conControl (r : Int) : PCon C0 35 [.sc (.int .i32 r)] (.sc (.bool (controlR r))) := by
  refine penter35 ?_
  by_cases h1 : 0 ≤ r
  · by_cases h2 : r < 32
    · simp [Tryd.f35, controlR, h1, h2]
    · by_cases h3 : 127 ≤ r
      · by_cases h4 : r ≤ 159
        · simp [Tryd.f35, controlR, h1, h2, h3, h4]
        · by_cases h5 : r = 8232
          · subst h5; simp [Tryd.f35, controlR]
          · by_cases h6 : r = 8233
            · subst h6; simp [Tryd.f35, controlR]
            · simp [Tryd.f35, controlR, h1, h2, h3, h4, h5, h6]
      · have h5 : ¬ r = 8232 := by omega
        have h6 : ¬ r = 8233 := by omega
        simp [Tryd.f35, controlR, h1, h2, h3, h5, h6]
  · have h3 : ¬ 127 ≤ r := by omega
    have h5 : ¬ r = 8232 := by omega
    have h6 : ¬ r = 8233 := by omega
    simp [Tryd.f35, controlR, h1, h3, h5, h6]
theorem conSafe (r : Int) : PCon C0 56 [.sc (.int .i32 r)] (.sc (.int .i32 (safeR r))) := by
  refine penter56 ?_
  simp [Tryd.f56]
  refine CallQ.mk (Call.pure callable48 (by simp) (by simp) (conValidR r)) ?_
  cases hv : validR r
  · simp [safeR, hv]
  · simp
    refine CallQ.mk (Call.pure callable35 (by simp) (by simp) (conControl r)) ?_
    cases hc : controlR r <;> simp [safeR, hv, hc]
def andB (a b : Int) : Int := IntKind.u8.wrap (BitVec.ofInt IntKind.u8.bits a &&& BitVec.ofInt IntKind.u8.bits b).toNat
def orR (a b : Int) : Int := IntKind.i32.wrap (BitVec.ofInt IntKind.i32.bits a ||| BitVec.ofInt IntKind.i32.bits b).toNat
def headR (c : Int) : Int × Nat :=
  if andB c 224 = 192 then (IntKind.i32.wrap (andB c 31), 2) else if andB c 240 = 224 then (IntKind.i32.wrap (andB c 15), 3) else if andB c 248 = 240 then (IntKind.i32.wrap (andB c 7), 4) else (0, 0)
theorem bin_and {P : Program} {t : TypeId} {a b : Int} : binOf P .and t (.sc (.int .u8 a)) (.sc (.int .u8 b)) = some (.sc (.int .u8 (andB a b))) := rfl
theorem bin_or {P : Program} {t : TypeId} {a b : Int} : binOf P .or t (.sc (.int .i32 a)) (.sc (.int .i32 b)) = some (.sc (.int .i32 (orR a b))) := rfl
theorem bin_shl6 {P : Program} {t : TypeId} {a : Int} : binOf P .shl t (.sc (.int .i32 a)) (.sc (.int .u64 6)) = some (.sc (.int .i32 (IntKind.i32.wrap (a * 64)))) := rfl
theorem bin_shl4 {P : Program} {t : TypeId} {a : Int} : binOf P .shl t (.sc (.int .i32 a)) (.sc (.int .u64 4)) = some (.sc (.int .i32 (IntKind.i32.wrap (a * 16)))) := rfl
attribute [simp ↓ high] bin_and bin_or bin_shl6 bin_shl4
def stepR (r c : Int) : Int := orR (IntKind.i32.wrap (r * 64)) (IntKind.i32.wrap (andB c 63))
def moreR : Int → List Int → Option Int
  | r, [] => some r
  | r, c :: l => if andB c 192 = 128 then moreR (stepR r c) l else none
def firstR : List Int → Int × Nat
  | [] => (65533, 1)
  | c :: l => if c < 128 then (IntKind.i32.wrap c, 1) else if (headR c).2 = 0 ∨ l.length + 1 < (headR c).2 then (65533, 1) else match moreR (headR c).1 (l.take ((headR c).2 - 1)) with
    | none => (65533, 1)
    | some r => if validR r = true ∧ sizeR r = (headR c).2 then (r, (headR c).2) else (65533, 1)
theorem headR_le (c : Int) : (headR c).2 ≤ 4 := by
  unfold headR
  split
  · simp
  · split
    · simp
    · split <;> simp
theorem firstR_pos (l : List Int) : 1 ≤ (firstR l).2 := by
  unfold firstR
  split
  · simp
  · split
    · simp
    · split
      · simp
      · split
        · simp
        · split
          · rename_i h _ _ _ _
            simp only [not_or] at h
            simp only; omega
          · simp
theorem firstR_le {l : List Int} (h : l ≠ []) : (firstR l).2 ≤ l.length := by
  cases l with
  | nil => exact absurd rfl h
  | cons c l =>
    simp only [firstR, List.length_cons]
    split
    · simp
    · split
      · simp
      · split
        · simp
        · split
          · rename_i h _ _ _ _
            simp only [not_or] at h
            simp only; omega
          · simp
def decR : Nat → List Int → List Int
  | 0, _ => []
  | k + 1, l => if l = [] then [] else (firstR l).1 :: decR k (l.drop (firstR l).2)
def bytesI (l : List Int) : List PV := l.map (PV.int .u8)
def runesI (l : List Int) : List PV := l.map (PV.int .i32)
end Go.Proofs.YtkbknlcdinkokaaDoor.Ev
end
section
namespace Go.Proofs.YtkbknlcdinkokaaDoor.Ev
open Go
theorem moreR_snoc {r : Int} {l : List Int} {c : Int} : moreR r (l ++ [c]) = (moreR r l).bind fun q => if andB c 192 = 128 then some (stepR q c) else none := by
  induction l generalizing r with
  | nil => simp [moreR]
  | cons x l ih =>
    simp only [List.cons_append, moreR]
    split
    · exact ih
    · rfl
theorem sized_bytes {l : List Int} : sizedB 1 (bytesI l) = true := by simp [sizedB, bytesI, PV.leaves]
set_option linter.unusedSimpArgs false in
set_option maxRecDepth 20000 in
set_option maxHeartbeats 4000000 in
theorem conFirst (l : List Int) (hl : l ≠ []) (hn : l.length ≤ lenMax) : PCon C0 43 [.sc (.sl (bytesI l))] (.tup [.sc (.int .i32 (firstR l).1), .sc (.int .i64 (firstR l).2)]) := by
  have hlm : l.length ≤ 137438953472 := hn
  cases l with
  | nil => exact absurd rfl hl
  | cons c l =>
  refine penter43 ?_
  have hz : sizedB 1 (bytesI (c :: l)) = true := sized_bytes
  have e0 : bytesI (c :: l) = .int .u8 c :: bytesI l := rfl
  have hlen : (bytesI l).length = l.length := by simp [bytesI]
  by_cases h0 : c < 128
  · simp [Tryd.f43, e0, firstR, h0]
  have h1 : (c :: l).length = l.length + 1 := rfl
  have hn0 : (headR c).2 ≤ 4 := headR_le c
  simp [Tryd.f43, e0, h0, -KSeq_normal]
  rw [KSeq_normal]
  simp [-KSeq_normal]
  rw [KSeq_normal]
  refine seq_cutP (fun e' H' => ∃ x12 x17 x24 x31 : FV, H' = [] ∧ e' = [(0, .sc (.sl (bytesI (c :: l)))), (2, .sc (.int .i32 0)), (3, .sc (.int .i64 0)), (4, .sc (.int .i64 (headR c).2)), (5, .sc (.int .i32 (headR c).1)), (6, .sc (.int .u8 c)), (8, .undef), (12, x12), (17, x17), (24, x24), (31, x31), (45, .undef), (48, .undef), (49, .undef), (50, .undef), (51, .undef), (56, .undef), (72, .undef)]) ?_ ?_
  · by_cases a1 : andB c 224 = 192
    · simp [e0, h0, a1, headR]
    · by_cases a2 : andB c 240 = 224
      · simp [e0, h0, a1, a2, headR]
      · by_cases a3 : andB c 248 = 240
        · simp [e0, h0, a1, a2, a3, headR]
        · simp [e0, h0, a1, a2, a3, headR]
  · rintro e' H' ⟨x12, x17, x24, x31, rfl, rfl⟩
    generalize hh : headR c = hd at hn0
    obtain ⟨r0, n⟩ := hd
    simp only at hn0
    by_cases hz0 : n = 0
    · subst hz0
      simp [firstR, h0, hh]
    by_cases hlt : l.length + 1 < n
    · have hlt' : (l.length : Int) + 1 < n := by omega
      simp [firstR, h0, hh, hz0, hlt, hlt', hlen, e0]
    obtain ⟨k, rfl⟩ : ∃ k, n = k + 1 := ⟨n - 1, by omega⟩
    have hlt' : ¬ ((l.length : Int) + 1 < ((k : Int) + 1)) := by omega
    have hkl : (l.take k).length = k := by simp; omega
    have hk3 : ¬ l.length < k := by omega
    have s1 : (0 : Int) ≤ (k : Int) + 1 := by omega
    have s2 : (k : Int) + 1 ≤ (l.length : Int) + 1 := by omega
    have s3 : (1 : Int) ≤ (k : Int) + 1 := by omega
    have s4 : ((k : Int) + 1).toNat = k + 1 := by omega
    have tk : List.take k (bytesI l) = bytesI (l.take k) := by simp [bytesI]
    have tl : (bytesI (l.take k)).length = k := by simp [bytesI]; omega
    have hz1 : sizedB 1 (PV.int IntKind.u8 c :: bytesI l) = true := by rw [← e0]; exact sized_bytes
    have hz2 : ¬ ((k : Int) + 1 = 0) := by omega
    simp [hz2, hlt', hlen, e0, -KSeq_normal]
    simp [hz1, s1, s2, s3, s4, hlen, tk, tl]
    refine loopC (fun d e H' => ∃ (i : Nat) (r : Int) (x8 x51 x56 : FV), H' = [] ∧ d = k - i ∧ i ≤ k ∧ moreR r0 (l.take i) = some r ∧ e = [(0, .sc (.sl (PV.int IntKind.u8 c :: bytesI l))), (2, .sc (.int .i32 0)), (3, .sc (.int .i64 0)), (4, .sc (.int .i64 ((k : Int) + 1))), (5, .sc (.int .i32 r)), (6, .sc (.int .u8 c)), (8, x8), (12, x12), (17, x17), (24, x24), (31, x31), (45, .sc (.bool false)), (48, .sc (.sl (bytesI (l.take k)))), (49, .sc (.int .i64 k)), (50, .sc (.int .i64 i)), (51, x51), (56, x56), (72, .undef)]) (d := k) ⟨0, r0, .undef, .undef, .undef, rfl, rfl, Nat.zero_le _, rfl, ?_⟩ ?_
    · simp
    · rintro d e H' ⟨i, r, x8, x51, x56, rfl, rfl, hik, hmr, rfl⟩
      simp
      refine CondC.mk (fun hlt => ?_) (fun hlt => ?_)
      · simp at hlt
        have hil : i < l.length := by omega
        have ht : (bytesI (l.take k))[i]? = some (.int .u8 l[i]) := by simp [bytesI, List.getElem?_take, hlt, hil]
        have hsn : moreR r0 (l.take (i + 1)) = if andB l[i] 192 = 128 then some (stepR r l[i]) else none := by
          rw [List.take_succ_eq_append_getElem hil, moreR_snoc, hmr]; rfl
        have hw : IntKind.i64.wrap ((i : Int) + 1) = ((i + 1 : Nat) : Int) := by rw [wrap64 (by omega) (by omega)]; omega
        simp [ht]
        by_cases hb : andB l[i] 192 = 128
        · rw [if_pos hb] at hsn
          simp [hb, hw]
          exact ⟨k - (i + 1), by omega, i + 1, rfl, by omega, stepR r l[i], hsn, rfl, by omega⟩
        · rw [if_neg hb] at hsn
          have hno : moreR r0 (l.take k) = none := by
            have e1 : l.take k = l.take (i + 1) ++ (l.take k).drop (i + 1) := by
              have : l.take (i + 1) = (l.take k).take (i + 1) := by rw [List.take_take]; congr 1; omega
              rw [this, List.take_append_drop]
            rw [e1]
            have : ∀ (a b : List Int) (q : Int), moreR q a = none → moreR q (a ++ b) = none := by
              intro a
              induction a with
              | nil => intro b q h; simp [moreR] at h
              | cons x a ih =>
                intro b q h
                simp only [List.cons_append, moreR] at h ⊢
                split
                · rename_i hx; rw [if_pos hx] at h; exact ih b _ h
                · rfl
            exact this _ _ _ hsn
          simp [hb, firstR, h0, hh, hlt', hno, hk3]
      · simp at hlt
        obtain rfl : i = k := by omega
        simp
        refine CallQ.mk (Call.pure callable48 (by simp) (by simp) (conValidR r)) ?_
        by_cases hv : validR r = true
        · simp [hv]
          refine CallQ.mk (Call.pure callable49 (by simp) (by simp) (conSize r)) ?_
          by_cases hs : sizeR r = ((i : Int) + 1)
          · simp [hs, firstR, h0, hh, hlt', hmr, hv, hk3]
          · simp [hs, firstR, h0, hh, hlt', hmr, hv, hk3]
        · simp [hv, firstR, h0, hh, hlt', hmr, hk3]
theorem decR_drop {k : Nat} {l : List Int} (h : l ≠ []) : decR (k + 1) l = (firstR l).1 :: decR k (l.drop (firstR l).2) := by rw [decR, if_neg h]
theorem decR_fuel : ∀ {k j : Nat} {l : List Int}, l.length ≤ k → l.length ≤ j → decR k l = decR j l
  | 0, j, l, h, _ => by
    have : l = [] := List.length_eq_zero_iff.1 (by omega)
    subst this
    cases j <;> simp [decR]
  | k + 1, 0, l, _, h => by
    have : l = [] := List.length_eq_zero_iff.1 (by omega)
    subst this
    simp [decR]
  | k + 1, j + 1, l, h, h' => by
    rw [decR, decR]
    split
    · rfl
    · rename_i hl
      have := firstR_pos l
      have := firstR_le hl
      have : l.length ≠ 0 := fun h => hl (List.length_eq_zero_iff.1 h)
      rw [decR_fuel (k := k) (j := j) (by simp; omega) (by simp; omega)]
theorem decR_len : ∀ {k : Nat} {l : List Int}, (decR k l).length ≤ l.length
  | 0, l => by simp [decR]
  | k + 1, l => by
    rw [decR]
    split
    · simp
    · rename_i hl
      have := firstR_pos l
      have := firstR_le hl
      have := decR_len (k := k) (l := l.drop (firstR l).2)
      simp at this ⊢
      omega
def dec (l : List Int) : List Int := decR l.length l
set_option linter.unusedSimpArgs false in
set_option maxRecDepth 20000 in
set_option maxHeartbeats 4000000 in
theorem conDecode (l : List Int) (hn : l.length ≤ lenMax) : PCon C0 32 [.sc (.sl (bytesI l))] (.own (runesI (dec l))) := by
  have hlm : l.length ≤ 137438953472 := hn
  refine penter32 ?_
  simp [Tryd.f32]
  refine loopC (fun d e H' => ∃ (m out : List Int) (x4 x5 x8 : FV), H' = [] ∧ d = m.length ∧ m.length ≤ l.length ∧ out.length + m.length ≤ l.length ∧ out ++ dec m = dec l ∧ e = [(0, .sc (.sl (bytesI m))), (2, .own []), (3, .own (runesI out)), (4, x4), (5, x5), (8, x8)]) (d := l.length) ⟨l, [], .undef, .undef, .undef, rfl, rfl, Nat.le_refl _, by simp, rfl, ?_⟩ ?_
  · simp [runesI]
  · rintro d e H' ⟨m, out, x4, x5, x8, rfl, rfl, hml, hol, hd, rfl⟩
    simp
    have hbl : (bytesI m).length = m.length := by simp [bytesI]
    refine CondC.mk (fun hlt => ?_) (fun hlt => ?_)
    · simp [hbl] at hlt
      have hm : m ≠ [] := fun h => by rw [h] at hlt; simp at hlt
      have h1 := firstR_pos m
      have h2 := firstR_le hm
      simp
      refine CallQ.mk (Call.pure callable43 (by simp) (by simp) (conFirst m hm (by show m.length ≤ 137438953472; omega))) ?_
      have hz : sizedB 1 (bytesI m) = true := sized_bytes
      have s1 : ((firstR m).2 : Int) ≤ (m.length : Int) := by omega
      have dr : (bytesI m).drop (firstR m).2 = bytesI (m.drop (firstR m).2) := by simp [bytesI]
      have tk : (bytesI m).take m.length = bytesI m := by rw [← hbl, List.take_length]
      have so : Sized 1 (runesI out) := fun p hp => by simp only [runesI, List.mem_map] at hp; obtain ⟨x, _, rfl⟩ := hp; rfl
      have ol : (runesI out).length = out.length := by simp [runesI]
      have sone : Sized 1 [PV.int IntKind.i32 (firstR m).1] := fun p hp => by simp at hp; subst hp; rfl
      simp [hz, s1, dr, hbl, tk, so, ol, sone, lenMax]
      refine ⟨by omega, (m.drop (firstR m).2).length, by simp; omega, m.drop (firstR m).2, rfl, by simp; omega, out ++ [(firstR m).1], by simp; omega, ?_, rfl, by simp [runesI]⟩
      rw [← hd]
      have : dec m = (firstR m).1 :: dec (m.drop (firstR m).2) := by
        unfold dec
        obtain ⟨k, hk⟩ : ∃ k, m.length = k + 1 := ⟨m.length - 1, by omega⟩
        rw [hk, decR_drop hm]
        rw [decR_fuel (j := (m.drop (firstR m).2).length) (by simp; omega) (Nat.le_refl _)]
      rw [this]; simp
    · simp [hbl] at hlt
      subst hlt
      simp [dec, decR] at hd
      simp [hd, dec]
end Go.Proofs.YtkbknlcdinkokaaDoor.Ev
end
section
namespace Go.Proofs.YtkbknlcdinkokaaDoor.Ev
open Go
structure Tok where
  kind : Int
  r : Int
  deriving DecidableEq
def Tok.pv (t : Tok) : PV := .agg [.int .i64 t.kind, .int .i32 t.r]
structure Dg where
  kind : Int
  line : Int
  col : Int
  deriving DecidableEq
def Dg.pv (t : Dg) : PV := .agg [.int .i64 t.kind, .int .i64 t.line, .int .i64 t.col]
def digitE (c : Int) : Int × Bool := if 48 ≤ c ∧ c ≤ 57 then (IntKind.i32.wrap (IntKind.u8.wrap (c - 48)), true) else if 65 ≤ c ∧ c ≤ 70 then (IntKind.i32.wrap (IntKind.i32.wrap (IntKind.u8.wrap (c - 65)) + 10), true) else (0, false)
theorem conDigit (c : Int) : PCon C0 55 [.sc (.int .u8 c)] (.tup [.sc (.int .i32 (digitE c).1), .sc (.bool (digitE c).2)]) := by
  refine penter55 ?_
  by_cases h1 : 48 ≤ c
  · by_cases h2 : c ≤ 57
    · simp [Tryd.f55, digitE, h1, h2]
    · by_cases h3 : 65 ≤ c
      · by_cases h4 : c ≤ 70 <;> simp [Tryd.f55, digitE, h1, h2, h3, h4]
      · simp [Tryd.f55, digitE, h1, h2, h3]
  · have h3 : ¬ 65 ≤ c := by omega
    simp [Tryd.f55, digitE, h1, h3]
def hexE : Int → List Int → Option Int
  | r, [] => some r
  | r, c :: l => if (digitE c).2 = true then hexE (orR (IntKind.i32.wrap (r * 16)) (digitE c).1) l else none
theorem hexE_snoc {r : Int} {l : List Int} {c : Int} : hexE r (l ++ [c]) = (hexE r l).bind fun q => if (digitE c).2 = true then some (orR (IntKind.i32.wrap (q * 16)) (digitE c).1) else none := by
  induction l generalizing r with
  | nil => simp [hexE]
  | cons x l ih =>
    simp only [List.cons_append, hexE]
    split
    · exact ih
    · rfl
theorem hexE_none {a b : List Int} {q : Int} (h : hexE q a = none) : hexE q (a ++ b) = none := by
  induction a generalizing q with
  | nil => simp [hexE] at h
  | cons x a ih =>
    simp only [List.cons_append, hexE] at h ⊢
    split
    · rename_i hx; rw [if_pos hx] at h; exact ih h
    · rfl
def bI (s : ByteArray) : List Int := s.data.toList.map fun b => (b.toNat : Int)
def nameR (s : ByteArray) : Int × Bool := match look namesT s with
  | some r => (r, true)
  | none => if (bI s).length < 5 ∨ 7 < (bI s).length ∨ (bI s)[0]? ≠ some 117 then (0, false) else match hexE 0 ((bI s).drop 1) with
    | none => (0, false)
    | some r => if safeR r = r then (r, true) else (0, false)
def fontR (s : ByteArray) : Int × Bool := ((look fontsT s).getD 0, (look fontsT s).isSome)
theorem conFont (s : ByteArray) (hs : s.size ≤ 9223372036854775807) : PCon C0 52 [.sc (.str s)] (.tup [.sc (.int .i32 (fontR s).1), .sc (.bool (fontR s).2)]) := by
  refine penter52 ?_
  simp [Tryd.f52, tabs, hs, fontR]
theorem bI_len (s : ByteArray) : (bI s).length = s.size := by simp [bI]
theorem bI_get {s : ByteArray} {i : Nat} (h : i < s.size) : ∃ b : UInt8, s.data[i]? = some b ∧ (bI s)[i]? = some (b.toNat : Int) := by
  have : i < s.data.size := h
  have e : s.data[i]? = some s.data[i] := Array.getElem?_eq_getElem this
  refine ⟨s.data[i], e, ?_⟩
  rw [bI, List.getElem?_map, Array.getElem?_toList, e]
  rfl
set_option linter.unusedSimpArgs false in
set_option maxRecDepth 20000 in
set_option maxHeartbeats 4000000 in
theorem conName (s : ByteArray) (hs : s.size ≤ 1099511627776) : PCon C0 51 [.sc (.str s)] (.tup [.sc (.int .i32 (nameR s).1), .sc (.bool (nameR s).2)]) := by
  have hs' : s.size ≤ 9223372036854775807 := by omega
  refine penter51 ?_
  cases hl : look namesT s with
  | some r => simp [Tryd.f51, tabs, hs', hl, nameR]
  | none =>
    have hb := bI_len s
    by_cases h1 : s.size < 5
    · have h1' : (s.size : Int) < 5 := by omega
      simp [Tryd.f51, tabs, hs', hl, nameR, h1, h1', hb]
    have h1' : ¬ ((s.size : Int) < 5) := by omega
    by_cases h2 : 7 < s.size
    · have h2' : (7 : Int) < s.size := by omega
      simp [Tryd.f51, tabs, hs', hl, nameR, h1, h1', h2, h2', hb]
    have h2' : ¬ ((7 : Int) < s.size) := by omega
    obtain ⟨b0, g0, g0'⟩ := bI_get (s := s) (i := 0) (by omega)
    by_cases h3 : (b0.toNat : Int) = 117
    rotate_left
    · simp [Tryd.f51, tabs, hs', hl, nameR, h1, h1', h2, h2', hb, g0, g0', h3]
    simp [Tryd.f51, tabs, hs', hl, h1', h2', g0, h3]
    refine loopC (fun d e H' => ∃ (i : Nat) (r : Int) (x8 x9 x34 x45 : FV), H' = [] ∧ d = s.size - i ∧ 1 ≤ i ∧ i ≤ s.size ∧ hexE 0 (((bI s).drop 1).take (i - 1)) = some r ∧ e = [(0, .sc (.str s)), (2, .sc (.int .i32 0)), (3, .sc (.bool false)), (4, .sc (.int .i32 0)), (5, .sc (.bool false)), (6, .sc (.int .i32 r)), (7, .sc (.int .i64 i)), (8, x8), (9, x9), (16, .sc (.bool false)), (30, .sc (.bool false)), (34, x34), (45, x45), (53, .undef)]) (d := s.size - 1) ⟨1, 0, .undef, .undef, .undef, .undef, rfl, rfl, Nat.le_refl _, by omega, rfl, ?_⟩ ?_
    · simp
    · rintro d e H' ⟨i, r, x8, x9, x34, x45, rfl, rfl, hi1, hi, hr, rfl⟩
      simp
      refine CondC.mk (fun hlt => ?_) (fun hlt => ?_)
      · simp at hlt
        obtain ⟨bi, gi, gi'⟩ := bI_get (s := s) (i := i) hlt
        have hsn : hexE 0 (((bI s).drop 1).take (i + 1 - 1)) = if (digitE bi.toNat).2 = true then some (orR (IntKind.i32.wrap (r * 16)) (digitE bi.toNat).1) else none := by
          obtain ⟨j, rfl⟩ : ∃ j, i = j + 1 := ⟨i - 1, by omega⟩
          simp only [Nat.add_sub_cancel] at hr ⊢
          have hj : j < ((bI s).drop 1).length := by simp; omega
          have ej : ((bI s).drop 1)[j] = (bi.toNat : Int) := by
            have : ((bI s).drop 1)[j]? = some (bi.toNat : Int) := by rw [List.getElem?_drop, Nat.add_comm]; exact gi'
            rw [List.getElem?_eq_getElem hj] at this
            exact Option.some.inj this
          rw [List.take_succ_eq_append_getElem hj, hexE_snoc, hr, ej]; rfl
        have hw : IntKind.i64.wrap ((i : Int) + 1) = ((i + 1 : Nat) : Int) := by rw [wrap64 (by omega) (by omega)]; omega
        simp [gi]
        refine CallQ.mk (Call.pure callable55 (by simp) (by simp) (conDigit _)) ?_
        by_cases hd : (digitE bi.toNat).2 = true
        · rw [if_pos hd] at hsn
          simp [hd, hw]
          exact ⟨s.size - (i + 1), by omega, i + 1, rfl, by omega, by omega, _, by simpa using hsn, rfl, by omega⟩
        · rw [if_neg hd] at hsn
          have hno : hexE 0 ((bI s).drop 1) = none := by
            rw [← List.take_append_drop (i + 1 - 1) ((bI s).drop 1)]
            exact hexE_none hsn
          simp at hd
          simp only [List.drop_one] at hno
          simp [hd, nameR, hl, hb, h1, h2, g0', h3, hno]
      · simp at hlt
        obtain rfl : i = s.size := by omega
        have hr' : hexE 0 ((bI s).drop 1) = some r := by
          rw [← hr, List.take_of_length_le (by simp; omega)]
        simp
        refine CallQ.mk (Call.pure callable56 (by simp) (by simp) (conSafe r)) ?_
        simp only [List.drop_one] at hr'
        by_cases hsf : safeR r = r
        · simp [hsf, nameR, hl, hb, h1, h2, g0', h3, hr']
        · simp [hsf, nameR, hl, hb, h1, h2, g0', h3, hr']
def rdC (l : List Int) (p : Nat) (out : List Tok) (bad : List Dg) : List FV := [.sc (.sl (runesI l)), .sc (.int .i64 p), .own (out.map Tok.pv), .own (bad.map Dg.pv)]
theorem sized_tok (l : List Tok) : Sized 2 (l.map Tok.pv) := fun p hp => by
  simp only [List.mem_map] at hp; obtain ⟨x, _, rfl⟩ := hp; rfl
theorem sized_dg (l : List Dg) : Sized 3 (l.map Dg.pv) := fun p hp => by
  simp only [List.mem_map] at hp; obtain ⟨x, _, rfl⟩ := hp; rfl
theorem hset_b {H : Heap} {b : Nat} (h : b < H.length) {x : List FV} : (H.set b x)[b]? = some x := List.getElem?_set_self h
theorem conSay {l : List Int} {p : Nat} {out : List Tok} {bad : List Dg} (k x : Int) (ho : out.length < lenMax) (H : Heap) (b : Nat) (hb : H[b]? = some (rdC l p out bad)) :
    Con C0 33 [.ptr b 0, .sc (.int .i64 k), .sc (.int .i32 x)] H (.tup []) (H.set b (rdC l p (out ++ [⟨k, x⟩]) bad)) := by
  have hlm : out.length < 137438953472 := ho
  have hlt := (List.getElem?_eq_some_iff.1 hb).1
  refine enter33 ?_
  have so := sized_tok out
  have s1 : Sized 2 [PV.agg [PV.int .i64 k, PV.int .i32 x]] := sized_tok [⟨k, x⟩]
  have hb' := hb
  simp only [rdC] at hb'
  simp [Tryd.f33, hb', rdC, so, s1, lenMax, hset_b hlt]
  exact ⟨by omega, rfl⟩
theorem conTell {l : List Int} {p : Nat} {out : List Tok} {bad : List Dg} (k x : Int) (ho : bad.length < lenMax) (H : Heap) (b : Nat) (hb : H[b]? = some (rdC l p out bad)) :
    Con C0 36 [.ptr b 0, .sc (.int .i64 k), .sc (.int .i64 x)] H (.tup []) (H.set b (rdC l p out (bad ++ [⟨k, 0, IntKind.i64.wrap (x + 1)⟩]))) := by
  have hlm : bad.length < 137438953472 := ho
  have hlt := (List.getElem?_eq_some_iff.1 hb).1
  refine enter36 ?_
  have so := sized_dg bad
  have s1 : Sized 3 [PV.agg [PV.int .i64 k, PV.int .i64 0, PV.int .i64 (IntKind.i64.wrap (x + 1))]] := sized_dg [⟨k, 0, IntKind.i64.wrap (x + 1)⟩]
  have hb' := hb
  simp only [rdC] at hb'
  simp [Tryd.f36, hb', rdC, so, s1, lenMax, hset_b hlt]
  exact ⟨by omega, rfl⟩
def idxE (l : List Int) (x : Int) : Int := if l.findIdx (fun y => decide (x = y)) < l.length then ((l.findIdx (fun y => decide (x = y)) : Nat) : Int) else -1
theorem conIndexR (l : List Int) (x : Int) (hl : l.length ≤ lenMax) : PCon C0 54 [.sc (.sl (runesI l)), .sc (.int .i32 x)] (.sc (.int .i64 (idxE l x))) := by
  have hlm : l.length ≤ 137438953472 := hl
  refine penter54 ?_
  have hrl : (runesI l).length = l.length := by simp [runesI]
  simp [Tryd.f54, hrl]
  refine loopC (fun d e H' => ∃ (i : Nat) (x5 x9 x16 : FV), H' = [] ∧ d = l.length - i ∧ i ≤ l.length ∧ (∀ j (hj : j < l.length), j < i → ¬ x = l[j]) ∧ e = [(0, .sc (.sl (runesI l))), (1, .sc (.int .i32 x)), (4, .sc (.int .i64 0)), (5, x5), (7, .sc (.int .i64 l.length)), (8, .sc (.int .i64 i)), (9, x9), (16, x16)]) (d := l.length) ⟨0, .undef, .undef, .undef, rfl, rfl, Nat.zero_le _, fun j _ h => by omega, ?_⟩ ?_
  · simp
  · rintro d e H' ⟨i, x5, x9, x16, rfl, rfl, hi, hno, rfl⟩
    simp
    refine CondC.mk (fun hlt => ?_) (fun hlt => ?_)
    · simp at hlt
      have ht : (runesI l)[i]? = some (.int .i32 l[i]) := by simp [runesI, hlt]
      have hw : IntKind.i64.wrap ((i : Int) + 1) = ((i + 1 : Nat) : Int) := by rw [wrap64 (by omega) (by omega)]; omega
      simp [ht]
      by_cases hx : x = l[i]
      · have hf : l.findIdx (fun y => decide (x = y)) = i := by
          refine (List.findIdx_eq hlt).2 ⟨by simpa using hx, fun j hj => ?_⟩
          simpa using hno j (by omega) hj
        have hfi : idxE l x = i := by unfold idxE; rw [hf, if_pos hlt]
        simp [hx, hfi]
        rw [← hx]; exact hfi.symm
      · simp [hx, hw]
        exact ⟨l.length - (i + 1), by omega, i + 1, rfl, by omega, fun j h1 h2 => by
          by_cases hj : j = i
          · subst hj; exact hx
          · exact hno j h1 (by omega), by omega⟩
    · simp at hlt
      have hf : ¬ l.findIdx (fun y => decide (x = y)) < l.length := fun h => by
        have := List.findIdx_getElem (w := h)
        simp at this
        exact hno _ h (by omega) this
      simp [idxE, hf]
end Go.Proofs.YtkbknlcdinkokaaDoor.Ev
end
section
namespace Go.Proofs.YtkbknlcdinkokaaDoor.Ev
open Go
theorem set_sameX {H : Heap} {b : Nat} {x : List FV} (h : H[b]? = some x) : H.set b x = H := by
  have hlt := (List.getElem?_eq_some_iff.1 h).1
  have he := (List.getElem?_eq_some_iff.1 h).2
  rw [← he, List.set_getElem_self]
theorem runesOf_I (l : List Int) : runesOf (runesI l) = some l := by
  induction l with
  | nil => rfl
  | cons x l ih => simp only [runesI, List.map_cons, runesOf] at ih ⊢; rw [ih]; rfl
theorem runesI_take (l : List Int) (n : Nat) : (runesI l).take n = runesI (l.take n) := by simp [runesI]
theorem runesI_drop (l : List Int) (n : Nat) : (runesI l).drop n = runesI (l.drop n) := by simp [runesI]
theorem runesI_len (l : List Int) : (runesI l).length = l.length := by simp [runesI]
theorem runesI_cons (x : Int) (l : List Int) : runesI (x :: l) = .int .i32 x :: runesI l := rfl
theorem runesI_nil : runesI [] = [] := rfl
theorem sized_runes (l : List Int) : sizedB 1 (runesI l) = true := by simp [sizedB, runesI, PV.leaves]
def nameE (l : List Int) (p : Nat) (one : Bool) : ByteArray × Bool × Nat :=
  match l.drop p with
  | [] => (⟨#[]⟩, false, p)
  | c :: m => if c = 91 then (if idxE (c :: m) 93 < 0 then (⟨#[]⟩, false, p) else (runesBytes (((c :: m).take (idxE (c :: m) 93).toNat).drop 1), true, p + ((idxE (c :: m) 93).toNat + 1)))
    else if c = 40 then (if l.length < p + 3 then (⟨#[]⟩, false, p + 1) else (runesBytes ((l.take (p + 3)).drop (p + 1)), true, p + 3))
    else if one = true then (runesBytes ((l.take (p + 1)).drop p), true, p + 1) else (⟨#[]⟩, false, p)
theorem idxE_lt (l : List Int) (x : Int) : idxE l x < l.length := by
  unfold idxE; split <;> omega
theorem idxE_pos {c x : Int} {m : List Int} (h : c ≠ x) (h0 : ¬ idxE (c :: m) x < 0) : 1 ≤ idxE (c :: m) x := by
  unfold idxE at h0 ⊢
  split at h0
  · rename_i hl
    rw [if_pos hl]
    have : ¬ (c :: m).findIdx (fun y => decide (x = y)) = 0 := by
      rw [List.findIdx_cons]
      simp [Ne.symm h]
    omega
  · simp at h0
theorem nameE_le {l : List Int} {p : Nat} {one : Bool} (hp : p ≤ l.length) : p ≤ (nameE l p one).2.2 ∧ (nameE l p one).2.2 ≤ l.length := by
  unfold nameE
  split
  · exact ⟨Nat.le_refl _, hp⟩
  · rename_i c m hd
    have hlen : l.length = p + (m.length + 1) := by
      have := congrArg List.length hd
      simp at this; omega
    split
    · split
      · exact ⟨Nat.le_refl _, hp⟩
      · have := idxE_lt (c :: m) 93
        simp at this
        simp only; omega
    · split
      · split <;> simp only <;> omega
      · split <;> simp only <;> omega
set_option linter.unusedSimpArgs false in
set_option maxRecDepth 20000 in
set_option maxHeartbeats 4000000 in
theorem conNm {l : List Int} {p : Nat} {out : List Tok} {bad : List Dg} (one : Bool) (hl : l.length ≤ 1073741824) (hp : p ≤ l.length) (H : Heap) (b : Nat) (hb : H[b]? = some (rdC l p out bad)) :
    Con C0 50 [.ptr b 0, .sc (.bool one)] H (.tup [.sc (.str (nameE l p one).1), .sc (.bool (nameE l p one).2.1)]) (H.set b (rdC l (nameE l p one).2.2 out bad)) := by
  have hlt := (List.getElem?_eq_some_iff.1 hb).1
  have hb' := hb
  simp only [rdC] at hb'
  have hz := sized_runes l
  have hrl := runesI_len l
  have p0 : (0 : Int) ≤ (p : Int) := by omega
  have p1 : (p : Int) ≤ (l.length : Int) := by omega
  have hsame : H.set b [.sc (.sl (runesI l)), .sc (.int .i64 p), .own (out.map Tok.pv), .own (bad.map Dg.pv)] = H := set_sameX hb'
  have tkl : (runesI l).take l.length = runesI l := by rw [← hrl, List.take_length]
  refine enter50 ?_
  cases hd : l.drop p with
  | nil => simp [Tryd.f50, hb', hz, hrl, p0, p1, runesI_drop, tkl, hd, nameE, rdC, hsame, runesI_nil]
  | cons c m =>
    have hml : l.length = p + (m.length + 1) := by
      have := congrArg List.length hd
      simp at this; omega
    have n0 : ¬ ((m.length : Int) + 1 = 0) := by omega
    have hrm := runesI_len m
    by_cases h91 : c = 91
    · subst h91
      have hc : (runesI m).length + 1 = m.length + 1 := by rw [hrm]
      have ci := conIndexR (91 :: m) 93 (by simp only [List.length_cons, lenMax]; omega)
      simp [Tryd.f50, hb', hz, hrl, p0, p1, runesI_drop, tkl, hd, runesI_cons, hrm, n0]
      refine CallQ.mk (Call.pure callable54 (by simp) (by simp) ci) ?_
      by_cases hneg : idxE (91 :: m) 93 < 0
      · simp [hneg, nameE, hd, rdC, hsame]
      · have i1 : 1 ≤ idxE (91 :: m) 93 := idxE_pos (by decide) hneg
        have i2 := idxE_lt (91 :: m) 93
        simp only [List.length_cons] at i2
        obtain ⟨i, hi⟩ : ∃ i : Nat, idxE (91 :: m) 93 = i := ⟨(idxE (91 :: m) 93).toNat, by omega⟩
        rw [hi] at i1 i2 hneg ⊢
        have w1 : IntKind.i64.wrap ((i : Int) + 1) = (i : Int) + 1 := wrap64 (by omega) (by omega)
        have w2 : IntKind.i64.wrap ((p : Int) + ((i : Int) + 1)) = ((p + (i + 1) : Nat) : Int) := by rw [wrap64 (by omega) (by omega)]; omega
        have i3 : (i : Int) ≤ (m.length : Int) + 1 := by omega
        have i0 : (0 : Int) ≤ (i : Int) := by omega
        obtain ⟨j, rfl⟩ : ∃ j, i = j + 1 := ⟨i - 1, by omega⟩
        have hz1 : sizedB 1 (PV.int .i32 91 :: runesI m) = true := sized_runes (91 :: m)
        have i4 : ¬ ((j : Int) + 1 < 0) := by omega
        have i5 : (j : Int) + 1 ≤ (m.length : Int) + 1 := by omega
        have i6 : (j : Int) ≤ (m.length : Int) := by omega
        have w1' : IntKind.i64.wrap ((j : Int) + 1 + 1) = (j : Int) + 1 + 1 := by simpa using w1
        have w2' : IntKind.i64.wrap ((p : Int) + ((j : Int) + 1 + 1)) = ((p + (j + 1 + 1) : Nat) : Int) := by simpa using w2
        have tt : ((j : Int) + 1).toNat = j + 1 := by omega
        have i7 : (0 : Int) ≤ (j : Int) + 1 := by omega
        have i8 : (1 : Int) ≤ (j : Int) + 1 := by omega
        have i9 : (0 : Int) ≤ (j : Int) := by omega
        simp [hneg, hb', w1', w2', hset_b hlt, hz1, hrm, i0, i1, i3, i4, i5, i6, i7, i8, i9, tt, runesI_take, runesOf_I, nameE, hd, hi, rdC]
        done
    · by_cases h40 : c = 40
      · subst h40
        have w1 : IntKind.i64.wrap ((p : Int) + 1) = ((p + 1 : Nat) : Int) := by rw [wrap64 (by omega) (by omega)]; omega
        have w1' : IntKind.i64.wrap ((p : Int) + 1) = (p : Int) + 1 := by rw [wrap64 (by omega) (by omega)]
        have wr2 : IntKind.i64.wrap 2 = 2 := by decide
        have w2' : IntKind.i64.wrap ((p : Int) + 1 + 2) = ((p + 3 : Nat) : Int) := by rw [wrap64 (by omega) (by omega)]; omega
        have e1 : [FV.sc (.sl (runesI l)), .sc (.int .i64 (((p + 1 : Nat)) : Int)), .own (out.map Tok.pv), .own (bad.map Dg.pv)] = rdC l (p + 1) out bad := rfl
        have q0 : (0 : Int) ≤ (p : Int) + 1 := by omega
        have q2 : (p : Int) + 1 ≤ (p : Int) + 3 := by omega
        have t1 : ((p : Int) + 1).toNat = p + 1 := by omega
        have t3 : ((p : Int) + 3).toNat = p + 3 := by omega
        by_cases hlong : l.length < p + 3
        · have q3 : (l.length : Int) < (p : Int) + 3 := by omega
          cases one <;> simp [wr2, Tryd.f50, hb', hz, hrl, p0, p1, runesI_drop, tkl, hd, runesI_cons, hrm, n0, w1', w2', hset_b hlt, hlong, q3, nameE, rdC]
        · have q3 : ¬ (l.length : Int) < (p : Int) + 3 := by omega
          have q4 : (p : Int) + 3 ≤ (l.length : Int) := by omega
          have q5 : (0 : Int) ≤ (p : Int) + 3 := by omega
          cases one <;> simp [wr2, Tryd.f50, hb', hz, hrl, p0, p1, runesI_drop, tkl, hd, runesI_cons, hrm, n0, w1', w2', hset_b hlt, hlong, q3, q4, q5, q0, q2, t1, t3, runesI_take, runesOf_I, nameE, rdC]
      · have w1' : IntKind.i64.wrap ((p : Int) + 1) = (p : Int) + 1 := by rw [wrap64 (by omega) (by omega)]
        have q3 : ¬ (l.length : Int) < (p : Int) + 1 := by omega
        have q4 : (p : Int) + 1 ≤ (l.length : Int) := by omega
        have q0 : (0 : Int) ≤ (p : Int) + 1 := by omega
        have q2 : (p : Int) ≤ (p : Int) + 1 := by omega
        have t1 : ((p : Int) + 1).toNat = p + 1 := by omega
        cases one
        · simp [Tryd.f50, hb', hz, hrl, p0, p1, runesI_drop, tkl, hd, runesI_cons, hrm, n0, h91, h40, nameE, rdC, hsame]
        · simp [Tryd.f50, hb', hz, hrl, p0, p1, runesI_drop, tkl, hd, runesI_cons, hrm, n0, h91, h40, w1', q3, q4, q0, q2, t1, runesI_take, runesOf_I, hset_b hlt, nameE, rdC]
end Go.Proofs.YtkbknlcdinkokaaDoor.Ev
end
section
namespace Go.Proofs.YtkbknlcdinkokaaDoor.Ev
open Go
structure Rd where
  on : Bool
  p : Nat
  out : List Tok
  bad : List Dg
def namedE (l : List Int) (p : Nat) (out : List Tok) (bad : List Dg) (font : Bool) (fr : Int) : Rd :=
  if (nameE l p font).2.1 = true then
    (if (if font = true then fontR (nameE l p font).1 else nameR (nameE l p font).1).2 = true then
      ⟨true, (nameE l p font).2.2, out ++ [⟨if font = true then 3 else 1, (if font = true then fontR (nameE l p font).1 else nameR (nameE l p font).1).1⟩], bad⟩
    else ⟨true, (nameE l p font).2.2, out, bad ++ [⟨2, 0, IntKind.i64.wrap (fr + 1)⟩]⟩)
  else ⟨false, (nameE l p font).2.2, out, bad ++ [⟨1, 0, IntKind.i64.wrap (fr + 1)⟩]⟩
theorem nameE_size (l : List Int) (p : Nat) (one : Bool) : (nameE l p one).1.size ≤ 4 * l.length := by
  unfold nameE
  have hz : (⟨#[]⟩ : ByteArray).size = 0 := rfl
  split
  · simp [hz]
  · rename_i c m hd
    have hlen : l.length = p + (m.length + 1) := by
      have := congrArg List.length hd
      simp at this; omega
    have key : ∀ (x : List Int), x.length ≤ l.length → (runesBytes x).size ≤ 4 * l.length := fun x hx => by
      have := runesBytes_size_le x; omega
    repeat' split
    all_goals first
      | (rw [show (⟨#[]⟩ : ByteArray).size = 0 from rfl]; exact Nat.zero_le _)
      | (refine key _ ?_; simp only [List.length_drop, List.length_take, List.length_cons]; omega)
set_option maxRecDepth 20000 in
set_option maxHeartbeats 4000000 in
theorem conNamed {l : List Int} {p : Nat} {out : List Tok} {bad : List Dg} (font : Bool) (fr : Int) (hl : l.length ≤ 1073741824) (hp : p ≤ l.length) (ho : out.length < lenMax) (hd : bad.length < lenMax) (H : Heap) (b : Nat) (hb : H[b]? = some (rdC l p out bad)) :
    Con C0 44 [.ptr b 0, .sc (.bool font), .sc (.int .i64 fr)] H (.sc (.bool (namedE l p out bad font fr).on)) (H.set b (rdC l (namedE l p out bad font fr).p (namedE l p out bad font fr).out (namedE l p out bad font fr).bad)) := by
  have hlt := (List.getElem?_eq_some_iff.1 hb).1
  have hsz := nameE_size l p font
  refine enter44 ?_
  simp [Tryd.f44]
  refine CallQ.mk (Call.shared callable50 (conNm font hl hp H b hb)) ?_
  generalize hne : nameE l p font = ne at hsz ⊢
  obtain ⟨s, ok, q⟩ := ne
  simp only at hsz ⊢
  cases ok
  · simp
    refine CallQ.mk (Call.shared callable36 (conTell 1 fr hd _ b (hset_b hlt))) ?_
    simp [namedE, hne]
  · cases font
    · simp
      refine CallQ.mk (Call.pure callable51 (by simp) (by simp) (conName s (by omega))) ?_
      cases hx : (nameR s).2
      · simp
        refine CallQ.mk (Call.shared callable36 (conTell 2 fr hd _ b (hset_b hlt))) ?_
        simp [namedE, hne, hx]
      · simp
        refine CallQ.mk (Call.shared callable33 (conSay 1 _ ho _ b (hset_b hlt))) ?_
        simp [namedE, hne, hx]
    · simp
      refine CallQ.mk (Call.pure callable52 (by simp) (by simp) (conFont s (by omega))) ?_
      cases hx : (fontR s).2
      · simp
        refine CallQ.mk (Call.shared callable36 (conTell 2 fr hd _ b (hset_b hlt))) ?_
        simp [namedE, hne, hx]
      · simp
        refine CallQ.mk (Call.shared callable33 (conSay 3 _ ho _ b (hset_b hlt))) ?_
        simp [namedE, hne, hx]
def escE (l : List Int) (p : Nat) (out : List Tok) (bad : List Dg) (fr : Int) : Rd :=
  match l[p]? with
  | none => ⟨false, p, out, bad ++ [⟨1, 0, IntKind.i64.wrap (fr + 1)⟩]⟩
  | some c =>
    if c = 92 ∨ c = 101 then ⟨true, p + 1, out ++ [⟨1, 92⟩], bad⟩
    else if c = 45 ∨ c = 46 then ⟨true, p + 1, out ++ [⟨1, c⟩], bad⟩
    else if c = 39 then ⟨true, p + 1, out ++ [⟨1, 180⟩], bad⟩
    else if c = 96 then ⟨true, p + 1, out ++ [⟨1, 96⟩], bad⟩
    else if c = 32 ∨ c = 126 ∨ c = 48 then ⟨true, p + 1, out ++ [⟨1, 160⟩], bad⟩
    else if c = 38 ∨ c = 37 ∨ c = 47 ∨ c = 44 ∨ c = 58 then ⟨true, p + 1, out, bad⟩
    else if c = 34 then ⟨false, p + 1, out, bad⟩
    else if c = 40 ∨ c = 91 then namedE l p out bad false fr
    else if c = 102 then namedE l (p + 1) out bad true fr
    else ⟨true, p + 1, out, bad ++ [⟨1, 0, IntKind.i64.wrap (fr + 1)⟩]⟩
set_option maxRecDepth 20000 in
set_option maxHeartbeats 4000000 in
theorem conEsc {l : List Int} {p : Nat} {out : List Tok} {bad : List Dg} (fr : Int) (hl : l.length ≤ 1073741824) (hp : p ≤ l.length) (ho : out.length < lenMax) (hd : bad.length < lenMax) (H : Heap) (b : Nat) (hb : H[b]? = some (rdC l p out bad)) :
    Con C0 34 [.ptr b 0, .sc (.int .i64 fr)] H (.sc (.bool (escE l p out bad fr).on)) (H.set b (rdC l (escE l p out bad fr).p (escE l p out bad fr).out (escE l p out bad fr).bad)) := by
  have hlt := (List.getElem?_eq_some_iff.1 hb).1
  have hb' := hb
  simp only [rdC] at hb'
  have hz := sized_runes l
  have hrl := runesI_len l
  refine enter34 ?_
  cases hc : l[p]? with
  | none =>
    have hpl : p = l.length := by
      have := List.getElem?_eq_none_iff.1 hc; omega
    subst hpl
    simp [Tryd.f34, hb', hrl]
    refine CallQ.mk (Call.shared callable36 (conTell 1 fr hd _ b hb)) ?_
    simp [escE, hc]
  | some c =>
    have hpl : p < l.length := (List.getElem?_eq_some_iff.1 hc).1
    have hne : ¬ (p : Int) = (l.length : Int) := by omega
    have hne' : ¬ p = l.length := by omega
    have hrc : (runesI l)[p]? = some (.int .i32 c) := by simp [runesI, hc]
    have w1 : IntKind.i64.wrap ((p : Int) + 1) = ((p + 1 : Nat) : Int) := by rw [wrap64 (by omega) (by omega)]; omega
    have e1 : [FV.sc (.sl (runesI l)), .sc (.int .i64 (((p + 1 : Nat)) : Int)), .own (out.map Tok.pv), .own (bad.map Dg.pv)] = rdC l (p + 1) out bad := rfl
    have w2 : IntKind.i64.wrap ((p : Int) + 1 - 1) = (p : Int) := by rw [wrap64 (by omega) (by omega)]; omega
    have w2' : IntKind.i64.wrap (p : Int) = (p : Int) := wrap64 (by omega) (by omega)
    have hsame : H.set b [.sc (.sl (runesI l)), .sc (.int .i64 p), .own (out.map Tok.pv), .own (bad.map Dg.pv)] = H := set_sameX hb'
    by_cases h92 : c = 92
    · subst h92
      simp [Tryd.f34, hb', hrl, hne, hne', hrc, w1]
      refine CallQ.mk (Call.shared callable33 (conSay (l := l) (p := p + 1) (out := out) (bad := bad) 1 92 ho _ b (by rw [hset_b hlt]; rfl))) ?_
      simp [escE, hc]
    by_cases h101 : c = 101
    · subst h101
      simp [Tryd.f34, hb', hrl, hne, hne', hrc, w1]
      refine CallQ.mk (Call.shared callable33 (conSay (l := l) (p := p + 1) (out := out) (bad := bad) 1 92 ho _ b (by rw [hset_b hlt]; rfl))) ?_
      simp [escE, hc]
    by_cases h45 : c = 45
    · subst h45
      simp [Tryd.f34, hb', hrl, hne, hne', hrc, w1]
      refine CallQ.mk (Call.shared callable33 (conSay (l := l) (p := p + 1) (out := out) (bad := bad) 1 45 ho _ b (by rw [hset_b hlt]; rfl))) ?_
      simp [escE, hc]
    by_cases h46 : c = 46
    · subst h46
      simp [Tryd.f34, hb', hrl, hne, hne', hrc, w1]
      refine CallQ.mk (Call.shared callable33 (conSay (l := l) (p := p + 1) (out := out) (bad := bad) 1 46 ho _ b (by rw [hset_b hlt]; rfl))) ?_
      simp [escE, hc]
    by_cases h39 : c = 39
    · subst h39
      simp [Tryd.f34, hb', hrl, hne, hne', hrc, w1]
      refine CallQ.mk (Call.shared callable33 (conSay (l := l) (p := p + 1) (out := out) (bad := bad) 1 180 ho _ b (by rw [hset_b hlt]; rfl))) ?_
      simp [escE, hc]
    by_cases h96 : c = 96
    · subst h96
      simp [Tryd.f34, hb', hrl, hne, hne', hrc, w1]
      refine CallQ.mk (Call.shared callable33 (conSay (l := l) (p := p + 1) (out := out) (bad := bad) 1 96 ho _ b (by rw [hset_b hlt]; rfl))) ?_
      simp [escE, hc]
    by_cases h32 : c = 32
    · subst h32
      simp [Tryd.f34, hb', hrl, hne, hne', hrc, w1]
      refine CallQ.mk (Call.shared callable33 (conSay (l := l) (p := p + 1) (out := out) (bad := bad) 1 160 ho _ b (by rw [hset_b hlt]; rfl))) ?_
      simp [escE, hc]
    by_cases h126 : c = 126
    · subst h126
      simp [Tryd.f34, hb', hrl, hne, hne', hrc, w1]
      refine CallQ.mk (Call.shared callable33 (conSay (l := l) (p := p + 1) (out := out) (bad := bad) 1 160 ho _ b (by rw [hset_b hlt]; rfl))) ?_
      simp [escE, hc]
    by_cases h48 : c = 48
    · subst h48
      simp [Tryd.f34, hb', hrl, hne, hne', hrc, w1]
      refine CallQ.mk (Call.shared callable33 (conSay (l := l) (p := p + 1) (out := out) (bad := bad) 1 160 ho _ b (by rw [hset_b hlt]; rfl))) ?_
      simp [escE, hc]
    by_cases h38 : c = 38
    · subst h38
      simp [Tryd.f34, hb', hrl, hne, hne', hrc, w1, escE, hc, rdC]
    by_cases h37 : c = 37
    · subst h37
      simp [Tryd.f34, hb', hrl, hne, hne', hrc, w1, escE, hc, rdC]
    by_cases h47 : c = 47
    · subst h47
      simp [Tryd.f34, hb', hrl, hne, hne', hrc, w1, escE, hc, rdC]
    by_cases h44 : c = 44
    · subst h44
      simp [Tryd.f34, hb', hrl, hne, hne', hrc, w1, escE, hc, rdC]
    by_cases h58 : c = 58
    · subst h58
      simp [Tryd.f34, hb', hrl, hne, hne', hrc, w1, escE, hc, rdC]
    by_cases h34 : c = 34
    · subst h34
      simp [Tryd.f34, hb', hrl, hne, hne', hrc, w1, escE, hc, rdC]
    by_cases h40 : c = 40
    · subst h40
      simp [Tryd.f34, hb', hrl, hne, hne', hrc, w1, w2, w2', hset_b hlt, hsame]
      refine CallQ.mk (Call.shared callable44 (conNamed false fr hl hp ho hd _ b hb)) ?_
      simp [escE, hc]
    by_cases h91 : c = 91
    · subst h91
      simp [Tryd.f34, hb', hrl, hne, hne', hrc, w1, w2, w2', hset_b hlt, hsame]
      refine CallQ.mk (Call.shared callable44 (conNamed false fr hl hp ho hd _ b hb)) ?_
      simp [escE, hc]
    by_cases h102 : c = 102
    · subst h102
      simp [Tryd.f34, hb', hrl, hne, hne', hrc, w1]
      refine CallQ.mk (Call.shared callable44 (conNamed (l := l) (p := p + 1) (out := out) (bad := bad) true fr hl hpl ho hd _ b (by rw [hset_b hlt]; rfl))) ?_
      simp [escE, hc]
    simp [Tryd.f34, hb', hrl, hne, hne', hrc, w1, h92, h101, h45, h46, h39, h96, h32, h126, h48, h38, h37, h47, h44, h58, h34, h40, h91, h102]
    refine CallQ.mk (Call.shared callable36 (conTell (l := l) (p := p + 1) (out := out) (bad := bad) 1 fr hd _ b (by rw [hset_b hlt]; rfl))) ?_
    simp [escE, hc, h92, h101, h45, h46, h39, h96, h32, h126, h48, h38, h37, h47, h44, h58, h34, h40, h91, h102]
end Go.Proofs.YtkbknlcdinkokaaDoor.Ev
end
section
namespace Go.Proofs.YtkbknlcdinkokaaDoor.Ev
open Go
def stepE (l : List Int) (p : Nat) (out : List Tok) (bad : List Dg) (c : Int) : Rd :=
  if c = 32 ∨ c = 9 then ⟨true, p + 1, out ++ [⟨2, 0⟩], bad⟩
  else if c = 92 then escE l (p + 1) out bad p
  else if controlR c = true then ⟨true, p + 1, out ++ [⟨1, 65533⟩], bad ++ [⟨3, 0, IntKind.i64.wrap ((p : Int) + 1)⟩]⟩
  else ⟨true, p + 1, out ++ [⟨1, c⟩], bad⟩
def scanF : Nat → List Int → Nat → List Tok → List Dg → List Tok × List Dg
  | 0, _, _, out, bad => (out, bad)
  | n + 1, l, p, out, bad => match l[p]? with
    | none => (out, bad)
    | some c => if (stepE l p out bad c).on = true then scanF n l (stepE l p out bad c).p (stepE l p out bad c).out (stepE l p out bad c).bad else ((stepE l p out bad c).out, (stepE l p out bad c).bad)
def scanL (l : List Int) : List Tok × List Dg := scanF (l.length + 1) l 0 [] []
theorem namedE_ok {l : List Int} {p : Nat} {out : List Tok} {bad : List Dg} (font : Bool) (fr : Int) (hp : p ≤ l.length) :
    p ≤ (namedE l p out bad font fr).p ∧ (namedE l p out bad font fr).p ≤ l.length ∧ (namedE l p out bad font fr).out.length ≤ out.length + 1 ∧ (namedE l p out bad font fr).bad.length ≤ bad.length + 1 := by
  have h := nameE_le (one := font) hp
  unfold namedE
  repeat' split
  all_goals (simp only [List.length_append, List.length_singleton]; omega)
theorem escE_ok {l : List Int} {p : Nat} {out : List Tok} {bad : List Dg} (fr : Int) (hp : p ≤ l.length) :
    p ≤ (escE l p out bad fr).p ∧ (escE l p out bad fr).p ≤ l.length ∧ (escE l p out bad fr).out.length ≤ out.length + 1 ∧ (escE l p out bad fr).bad.length ≤ bad.length + 1 := by
  unfold escE
  cases hc : l[p]? with
  | none => simp; omega
  | some c =>
    have hpl : p < l.length := (List.getElem?_eq_some_iff.1 hc).1
    have n1 := namedE_ok (out := out) (bad := bad) false fr hp
    have n2 := namedE_ok (out := out) (bad := bad) true fr (p := p + 1) hpl
    simp only
    repeat' split
    all_goals first
      | exact n1
      | exact ⟨by omega, n2.2⟩
      | (simp only [List.length_append, List.length_singleton]; omega)
theorem stepE_ok {l : List Int} {p : Nat} {out : List Tok} {bad : List Dg} (c : Int) (hp : p < l.length) :
    p < (stepE l p out bad c).p ∧ (stepE l p out bad c).p ≤ l.length ∧ (stepE l p out bad c).out.length ≤ out.length + 1 ∧ (stepE l p out bad c).bad.length ≤ bad.length + 1 := by
  have e := escE_ok (out := out) (bad := bad) p (p := p + 1) hp
  unfold stepE
  repeat' split
  all_goals first
    | exact ⟨by omega, e.2⟩
    | (simp only [List.length_append, List.length_singleton]; omega)
theorem scanF_fuel {l : List Int} : ∀ {n m p : Nat} {out : List Tok} {bad : List Dg}, l.length < p + n → l.length < p + m → scanF n l p out bad = scanF m l p out bad := by
  intro n
  induction n with
  | zero =>
    intro m p out bad h1 h2
    have : l[p]? = none := List.getElem?_eq_none_iff.2 (by omega)
    cases m with
    | zero => rfl
    | succ m => simp [scanF, this]
  | succ n ih =>
    intro m p out bad h1 h2
    cases hc : l[p]? with
    | none => cases m <;> simp [scanF, hc]
    | some c =>
      have hpl : p < l.length := (List.getElem?_eq_some_iff.1 hc).1
      have h := stepE_ok (out := out) (bad := bad) c hpl
      cases m with
      | zero => omega
      | succ m =>
        simp only [scanF, hc]
        split
        · exact ih (by omega) (by omega)
        · rfl
set_option maxRecDepth 20000 in
set_option maxHeartbeats 4000000 in
theorem conScan (s : ByteArray) (hs : s.size ≤ 1073741824) :
    PCon C0 21 [.sc (.str s)] (.tup [.sc (.sl ((scanL (dec (bI s))).1.map Tok.pv)), .sc (.sl ((scanL (dec (bI s))).2.map Dg.pv))]) := by
  have eb : bytesPV s = bytesI (bI s) := by simp [bytesPV, bytesI, bI]
  have hbl := bI_len s
  have hdl : (dec (bI s)).length ≤ s.size := by rw [← hbl]; exact decR_len
  generalize hl : dec (bI s) = l at hdl ⊢
  refine penter21 ?_
  simp [Tryd.f21]
  rw [eb]
  refine CallQ.mk (Call.pure callable32 (by simp) (by simp) (conDecode (bI s) (by rw [hbl]; show s.size ≤ 137438953472; omega))) ?_
  rw [hl]
  simp
  refine loopC (fun d e H' => ∃ (p : Nat) (out : List Tok) (bad : List Dg) (x5 x6 x21 x43 x48 x51 x59 : FV), H' = [rdC l p out bad] ∧ d = l.length - p ∧ p ≤ l.length ∧ out.length ≤ p ∧ bad.length ≤ p ∧ scanF (l.length + 1 - p) l p out bad = scanL l ∧ e = [(0, .sc (.str s)), (2, .own []), (3, .own []), (4, .ptr 0 0), (5, x5), (6, x6), (21, x21), (43, x43), (48, x48), (51, x51), (59, x59)]) (d := l.length) ⟨0, [], [], .undef, .undef, .undef, .undef, .undef, .undef, .undef, rfl, rfl, Nat.zero_le _, Nat.le_refl _, Nat.le_refl _, rfl, ?_⟩ ?_
  · simp
  · rintro d e H' ⟨p, out, bad, x5, x6, x21, x43, x48, x51, x59, rfl, rfl, hp, ho, hb, hsc, rfl⟩
    have hrl := runesI_len l
    have hz := sized_runes l
    simp [rdC]
    refine CondC.mk (fun hlt => ?_) (fun hlt => ?_)
    · simp [hrl] at hlt
      have hrc : (runesI l)[p]? = some (.int .i32 l[p]) := by simp [runesI, hlt]
      have w1 : IntKind.i64.wrap ((p : Int) + 1) = ((p + 1 : Nat) : Int) := by rw [wrap64 (by omega) (by omega)]; omega
      have st := stepE_ok (out := out) (bad := bad) l[p] hlt
      have hnext : scanL l = if (stepE l p out bad l[p]).on = true then scanF (l.length + 1 - (stepE l p out bad l[p]).p) l (stepE l p out bad l[p]).p (stepE l p out bad l[p]).out (stepE l p out bad l[p]).bad else ((stepE l p out bad l[p]).out, (stepE l p out bad l[p]).bad) := by
        rw [← hsc]
        have hq : l[p]? = some l[p] := by simp [hlt]
        rw [show l.length + 1 - p = (l.length - p) + 1 from by omega, scanF, hq]
        simp only
        split
        · exact scanF_fuel (by omega) (by omega)
        · rfl
      generalize l[p] = c at hrc st hnext
      have lm : out.length < lenMax ∧ bad.length < lenMax := ⟨by show out.length < 137438953472; omega, by show bad.length < 137438953472; omega⟩
      by_cases h32 : c = 32
      · have hs : stepE l p out bad c = ⟨true, p + 1, out ++ [⟨2, 0⟩], bad⟩ := by simp [stepE, h32]
        rw [hs] at hnext st
        simp [hrl, hrc, w1, h32]
        refine CallQ.mk (Call.shared callable33 (conSay (l := l) (p := p + 1) (out := out) (bad := bad) 2 0 lm.1 _ 0 rfl)) ?_
        simp
        exact ⟨l.length - (p + 1), by omega, p + 1, _, _, rfl, rfl, hlt, Nat.le_trans st.2.2.1 (by omega), Nat.le_trans st.2.2.2 (by omega), (hnext.trans (if_pos rfl)).symm⟩
      by_cases h9 : c = 9
      · have hs : stepE l p out bad c = ⟨true, p + 1, out ++ [⟨2, 0⟩], bad⟩ := by simp [stepE, h9]
        rw [hs] at hnext st
        simp [hrl, hrc, w1, h9]
        refine CallQ.mk (Call.shared callable33 (conSay (l := l) (p := p + 1) (out := out) (bad := bad) 2 0 lm.1 _ 0 rfl)) ?_
        simp
        exact ⟨l.length - (p + 1), by omega, p + 1, _, _, rfl, rfl, hlt, Nat.le_trans st.2.2.1 (by omega), Nat.le_trans st.2.2.2 (by omega), (hnext.trans (if_pos rfl)).symm⟩
      by_cases h92 : c = 92
      · have hs : stepE l p out bad c = escE l (p + 1) out bad p := by simp [stepE, h92]
        rw [hs] at hnext st
        simp [hrl, hrc, w1, h92]
        refine CallQ.mk (Call.shared callable34 (conEsc (l := l) (p := p + 1) (out := out) (bad := bad) p (by omega) (by omega) lm.1 lm.2 _ 0 rfl)) ?_
        cases hon : (escE l (p + 1) out bad p).on
        · rw [if_neg (by rw [hon]; decide)] at hnext
          simp [hon, rdC, hnext]
        · rw [if_pos hon] at hnext
          simp [hon]
          exact ⟨l.length - (escE l (p + 1) out bad p).p, by omega, _, _, _, rfl, rfl, st.2.1, Nat.le_trans st.2.2.1 (by omega), Nat.le_trans st.2.2.2 (by omega), hnext.symm⟩
      simp [hrl, hrc, w1, h32, h9, h92]
      refine CallQ.mk (Call.pure callable35 (by simp) (by simp) (conControl c)) ?_
      cases hct : controlR c
      · have hs : stepE l p out bad c = ⟨true, p + 1, out ++ [⟨1, c⟩], bad⟩ := by simp [stepE, h32, h9, h92, hct]
        rw [hs] at hnext st
        simp
        refine CallQ.mk (Call.shared callable33 (conSay (l := l) (p := p + 1) (out := out) (bad := bad) 1 c lm.1 _ 0 rfl)) ?_
        simp
        exact ⟨l.length - (p + 1), by omega, p + 1, _, _, rfl, rfl, hlt, Nat.le_trans st.2.2.1 (by omega), Nat.le_trans st.2.2.2 (by omega), (hnext.trans (if_pos rfl)).symm⟩
      · have hs : stepE l p out bad c = ⟨true, p + 1, out ++ [⟨1, 65533⟩], bad ++ [⟨3, 0, IntKind.i64.wrap ((p : Int) + 1)⟩]⟩ := by simp [stepE, h32, h9, h92, hct]
        rw [hs] at hnext st
        simp
        refine CallQ.mk (Call.shared callable36 (conTell (l := l) (p := p + 1) (out := out) (bad := bad) 3 p lm.2 _ 0 rfl)) ?_
        simp
        refine CallQ.mk (Call.shared callable33 (conSay (l := l) (p := p + 1) (out := out) (bad := bad ++ [⟨3, 0, IntKind.i64.wrap ((p : Int) + 1)⟩]) 1 65533 lm.1 _ 0 rfl)) ?_
        simp
        exact ⟨l.length - (p + 1), by omega, p + 1, _, _, rfl, rfl, hlt, Nat.le_trans st.2.2.1 (by omega), Nat.le_trans st.2.2.2 (by omega), (hnext.trans (if_pos rfl)).symm⟩
    · simp [hrl] at hlt
      obtain rfl : p = l.length := by omega
      have hq : l[l.length]? = none := by simp
      rw [show l.length + 1 - l.length = 0 + 1 from by omega, scanF, hq] at hsc
      simp only at hsc
      simp [← hsc]
end Go.Proofs.YtkbknlcdinkokaaDoor.Ev
end
section
namespace Go.Proofs.YtkbknlcdinkokaaDoor.Ev
open Go
structure Face where
  now : Int
  was : Int
def Face.cells (f : Face) : List FV := [.sc (.int .u8 f.now), .sc (.int .u8 f.was)]
def turnF (f : Face) (n : Int) : Face := if n = 4 then ⟨f.was, f.now⟩ else if n = 0 ∨ n = 1 ∨ n = 2 ∨ n = 3 then ⟨n, f.now⟩ else f
set_option maxRecDepth 20000 in
theorem conTurn (f : Face) (n : Int) : PCon C0 20 [.agg f.cells, .sc (.int .i32 n)] (.agg (turnF f n).cells) := by
  refine penter20 ?_
  have w0 : IntKind.u8.wrap 0 = 0 := by decide
  have w1 : IntKind.u8.wrap 1 = 1 := by decide
  have w2 : IntKind.u8.wrap 2 = 2 := by decide
  have w3 : IntKind.u8.wrap 3 = 3 := by decide
  by_cases h4 : n = 4
  · simp [Tryd.f20, Face.cells, turnF, h4]
  by_cases h0 : n = 0
  · simp [Tryd.f20, Face.cells, turnF, h0, w0]
  by_cases h1 : n = 1
  · simp [Tryd.f20, Face.cells, turnF, h1, w1]
  by_cases h2 : n = 2
  · simp [Tryd.f20, Face.cells, turnF, h2, w2]
  by_cases h3 : n = 3
  · simp [Tryd.f20, Face.cells, turnF, h3, w3]
  simp [Tryd.f20, Face.cells, turnF, h0, h1, h2, h3, h4]
def setE : List Glyph × Face → Tok → List Glyph × Face := fun s t =>
  if t.kind = 1 then (s.1 ++ [⟨t.r, s.2.now⟩], s.2) else if t.kind = 2 then (s.1 ++ [⟨32, 0⟩], s.2) else if t.kind = 3 then (s.1, turnF s.2 t.r) else s
def setL (f : Face) (l : List Tok) : List Glyph × Face := l.foldl setE ([], f)
theorem setL_take {f : Face} {l : List Tok} {i : Nat} (h : i < l.length) : setL f (l.take (i + 1)) = setE (setL f (l.take i)) l[i] := by
  rw [List.take_succ_eq_append_getElem h, setL, List.foldl_append]; rfl
theorem setL_len (f : Face) (l : List Tok) : (setL f l).1.length ≤ l.length := by
  have : ∀ (l : List Tok) (s : List Glyph × Face), (l.foldl setE s).1.length ≤ s.1.length + l.length := by
    intro l
    induction l with
    | nil => intro s; simp
    | cons g l ih =>
      intro s
      have h1 := ih (setE s g)
      have h2 : (setE s g).1.length ≤ s.1.length + 1 := by
        unfold setE; split
        · simp
        · split
          · simp
          · split <;> simp
      rw [List.foldl_cons, List.length_cons]; omega
  have := this l ([], f)
  simpa [setL] using this
set_option maxRecDepth 20000 in
set_option maxHeartbeats 4000000 in
theorem conSet (f : Face) (l : List Tok) (hl : l.length ≤ 1073741824) : PCon C0 8 [.agg f.cells, .sc (.sl (l.map Tok.pv))] (.tup [.own ((setL f l).1.map Glyph.pv), .agg (setL f l).2.cells]) := by
  refine penter8 ?_
  simp [Tryd.f8, Face.cells]
  have e0 : (setL f (l.take 0)) = ([], f) := rfl
  refine loopC (fun d e H' => ∃ (i : Nat) (J : Heap) (x4 x8 x12 x16 x17 x27 x33 : FV) (ra rb : FV), H' = (setL f (l.take i)).2.cells :: [ra, rb] :: J ∧ d = l.length - i ∧ i ≤ l.length ∧ e = [(0, .agg f.cells), (1, .sc (.sl (l.map Tok.pv))), (2, .ptr 0 0), (4, x4), (5, .ptr 1 0), (6, .own ((setL f (l.take i)).1.map Glyph.pv)), (8, x8), (9, .sc (.sl (l.map Tok.pv))), (10, .sc (.int .i64 l.length)), (11, .sc (.int .i64 i)), (12, x12), (16, x16), (17, x17), (27, x27), (33, x33)]) (d := l.length) ⟨0, [], .own [], .undef, .undef, .undef, .undef, .undef, .undef, _, _, (by rw [e0]; rfl), rfl, Nat.zero_le _, ?_⟩ ?_
  · simp [setL, Face.cells]
    done
  · rintro d e H' ⟨i, J, x4, x8, x12, x16, x17, x27, x33, ra, rb, rfl, rfl, hi, rfl⟩
    simp
    refine CondC.mk (fun hlt => ?_) (fun hlt => ?_)
    · simp at hlt
      have hlen := setL_len f (l.take i)
      have ht := setL_take (f := f) hlt
      have hq : (l.map Tok.pv)[i]? = some (l[i]).pv := by simp [hlt]
      generalize hS : setL f (l.take i) = Q at *
      obtain ⟨out, fc⟩ := Q
      have hw : IntKind.i64.wrap ((i : Int) + 1) = ((i + 1 : Nat) : Int) := by rw [wrap64 (by omega) (by omega)]; omega
      have ho : out.length ≤ 1073741824 := by simp only [List.length_take] at hlen; omega
      have so : Sized 2 (out.map Glyph.pv) := fun p hp => by simp only [List.mem_map] at hp; obtain ⟨x, _, rfl⟩ := hp; rfl
      have s1 : ∀ a b : Int, Sized 2 [PV.agg [PV.int .i32 a, PV.int .u8 b]] := fun a b p hp => by simp at hp; subst hp; rfl
      generalize l[i] = t at hq ht
      have fin : ∀ (o' : List Glyph) (n' w' : Int) (q : List PV), setE (out, fc) t = (o', ⟨n', w'⟩) → q = o'.map Glyph.pv → ∃ d', d' < l.length - i ∧ ∃ k, (n' = (setL f (List.take k l)).snd.now ∧ w' = (setL f (List.take k l)).snd.was) ∧ d' = l.length - k ∧ k ≤ l.length ∧
          q = List.map Glyph.pv (setL f (List.take k l)).fst ∧ (i : Int) + 1 = (k : Nat) := by
        intro o' n' w' q h1 h2
        refine ⟨l.length - (i + 1), by omega, i + 1, ?_, rfl, by omega, ?_, by omega⟩
        · rw [ht, h1]; exact ⟨rfl, rfl⟩
        · rw [ht, h1, h2]
      by_cases h1 : t.kind = 1
      · simp [hq, Tok.pv, Face.cells, h1, so, s1, lenMax, hw]
        exact ⟨by omega, fin (out ++ [⟨t.r, fc.now⟩]) fc.now fc.was _ (by simp [setE, h1]) (by simp [Glyph.pv])⟩
      by_cases h2 : t.kind = 2
      · simp [hq, Tok.pv, Face.cells, h2, so, s1, lenMax, hw]
        exact ⟨by omega, fin (out ++ [⟨32, 0⟩]) fc.now fc.was _ (by simp [setE, h2]) (by simp [Glyph.pv])⟩
      by_cases h3 : t.kind = 3
      · simp [hq, Tok.pv, Face.cells, h3, hw]
        refine CallQ.mk (Call.pure callable20 (by simp) (by simp [Face.cells]) (conTurn fc t.r)) ?_
        simp [Face.cells, hw]
        exact fin out _ _ _ (by simp [setE, h3]) rfl
      simp [hq, Tok.pv, Face.cells, h1, h2, h3, hw]
      exact fin out fc.now fc.was _ (by simp [setE, h1, h2, h3]) rfl
    · simp at hlt
      simp [Face.cells, List.take_of_length_le hlt]
def lineG (f : Face) (s : ByteArray) : List Glyph := (setL f (scanL (dec (bI s))).1).1
def lineF (f : Face) (s : ByteArray) : Face := (setL f (scanL (dec (bI s))).1).2
def lineD (s : ByteArray) : List Dg := (scanL (dec (bI s))).2
theorem scanF_len {l : List Int} : ∀ {n p : Nat} {out : List Tok} {bad : List Dg}, p ≤ l.length → out.length ≤ p → bad.length ≤ p → (scanF n l p out bad).1.length ≤ l.length ∧ (scanF n l p out bad).2.length ≤ l.length := by
  intro n
  induction n with
  | zero => intro p out bad h h1 h2; simp only [scanF]; omega
  | succ n ih =>
    intro p out bad h h1 h2
    rw [scanF]
    cases hc : l[p]? with
    | none => simp only; omega
    | some c =>
      have hpl : p < l.length := (List.getElem?_eq_some_iff.1 hc).1
      have st := stepE_ok (out := out) (bad := bad) c hpl
      simp only
      split
      · exact ih st.2.1 (by omega) (by omega)
      · simp only; omega
theorem scan_len (s : ByteArray) : (scanL (dec (bI s))).1.length ≤ s.size ∧ (scanL (dec (bI s))).2.length ≤ s.size := by
  have h := scanF_len (l := dec (bI s)) (n := (dec (bI s)).length + 1) (p := 0) (out := []) (bad := []) (Nat.zero_le _) (Nat.le_refl _) (Nat.le_refl _)
  have hdl : (dec (bI s)).length ≤ s.size := by rw [← bI_len s]; exact decR_len
  exact ⟨Nat.le_trans h.1 hdl, Nat.le_trans h.2 hdl⟩
set_option maxRecDepth 20000 in
set_option maxHeartbeats 4000000 in
theorem conLine (f : Face) (s : ByteArray) (hs : s.size ≤ 1073741824) : PCon C0 11 [.agg f.cells, .sc (.str s)] (.tup [.sc (gl (lineG f s)), .agg (lineF f s).cells, .sc (.sl ((lineD s).map Dg.pv))]) := by
  have hl := (scan_len s).1
  refine penter11 ?_
  simp [Tryd.f11, Face.cells]
  refine CallQ.mk (Call.pure callable21 (by simp) (by simp) (conScan s hs)) ?_
  simp
  refine CallQ.mk (Call.pure callable8 (by simp [Face.cells]) (by simp [Face.cells]) (conSet f _ (by omega))) ?_
  simp
  simp [Face.cells, lineG, lineF, lineD, gl]
def ofG (s : ByteArray) (n : Int) : List Glyph := (dec (bI s)).map fun r => ⟨r, n⟩
end Go.Proofs.YtkbknlcdinkokaaDoor.Ev
end
section
namespace Go.Proofs.YtkbknlcdinkokaaDoor.Ev
open Go
theorem Con.pcon {C : Ctx} {f : FuncId} {args : List FV} {r : FV} {H' : Heap} (h : Con C f args [] r H') : PCon C f args r := fun vs W h1 h2 h3 h4 =>
  (h vs W h1 h2 h3 h4).mono fun _ _ ⟨v, W', a, b, c, d, e⟩ => ⟨v, W', H', a, b, c, d, e⟩
end Go.Proofs.YtkbknlcdinkokaaDoor.Ev
end
section
namespace Go.Proofs.YtkbknlcdinkokaaDoor.Ev
open Go
def Glyph.blank (g : Glyph) : Bool := decide (g.r = 32)
end Go.Proofs.YtkbknlcdinkokaaDoor.Ev
end
section
namespace Go.Proofs.YtkbknlcdinkokaaDoor.Ev
open Go
structure Block where
  kind : Int
  line : Int
  inn : Int
  gap : Bool
  room : Int
  tag : List Glyph
  text : List Glyph
  rows : List (List Glyph)
  grid : Tbl
end Go.Proofs.YtkbknlcdinkokaaDoor.Ev
end
