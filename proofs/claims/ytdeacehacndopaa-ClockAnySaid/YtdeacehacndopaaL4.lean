/- The program's types and functions, named, and what the walk asks of them. Printed by a program. What the statement's own inputs read as; an instance of one's own. From the row's reading of what is handed in to the library's own. What small functions of the program compute, in plain words. No conditions beyond those that each theorem names. -/
import Derived.Test.YtdeacehacndopaaL2
import Derived.Test.YtdeacehacndopaaProg
import Derived.KernelRfl
import Derived.Test.YtdeacehacndopaaL3
import Derived.Deep.Slices
import Derived.ChangeArms
import Derived.DataReads
namespace Go.Proofs.Ytdeacehacndopaa
/-- the program -/
noncomputable def Pr : Program := Try.prog
theorem Pr_mixed : Pr.follows .mixedOrders = true := by kernel_rfl

instance : TSz Pr 1 1 false := ⟨Try.sizeOf1, Try.isAgg1⟩
instance : TInfo Pr 1 1 8 [.nilFunc] := TInfo.of (z := .nilFunc) (by kernel_rfl) rfl
instance : TSz Pr 2 1 false := ⟨Try.sizeOf2, Try.isAgg2⟩
instance : TInt Pr 2 .i64 := ⟨Try.underlying2⟩
instance : TInfo Pr 2 1 8 [.int .i64 0] := TInfo.of (z := .int .i64 0) (by kernel_rfl) rfl
instance : TSz Pr 3 1 false := ⟨Try.sizeOf3, Try.isAgg3⟩
instance : TInt Pr 3 .i64 := ⟨Try.underlying3⟩
instance : TInfo Pr 3 1 8 [.int .i64 0] := TInfo.of (z := .int .i64 0) (by kernel_rfl) rfl
instance : TSz Pr 4 1 false := ⟨Try.sizeOf4, Try.isAgg4⟩
instance : TBool Pr 4 := ⟨Try.underlying4⟩
instance : TInfo Pr 4 1 1 [.bool false] := TInfo.of (z := .bool false) (by kernel_rfl) rfl
instance : TSz Pr 5 1 false := ⟨Try.sizeOf5, Try.isAgg5⟩
instance : TInt Pr 5 .u8 := ⟨Try.underlying5⟩
instance : TInfo Pr 5 1 1 [.int .u8 0] := TInfo.of (z := .int .u8 0) (by kernel_rfl) rfl
instance : TSz Pr 6 1 false := ⟨Try.sizeOf6, Try.isAgg6⟩
instance : TInt Pr 6 .u8 := ⟨Try.underlying6⟩
instance : TInfo Pr 6 1 1 [.int .u8 0] := TInfo.of (z := .int .u8 0) (by kernel_rfl) rfl
instance : TSz Pr 7 4 true := ⟨Try.sizeOf7, Try.isAgg7⟩
instance : TFld Pr 7 0 0 := TFld.mk' Try.underlying7 rfl rfl Try.sizeOf2 rfl
instance : TFld Pr 7 1 1 := TFld.mk' Try.underlying7 rfl rfl Try.sizeOf3 rfl
instance : TFld Pr 7 2 2 := TFld.mk' Try.underlying7 rfl rfl Try.sizeOf4 rfl
instance : TFld Pr 7 3 3 := TFld.mk' Try.underlying7 rfl rfl Try.sizeOf6 rfl
instance : TInfo Pr 7 4 24 [.int .i64 0, .int .i64 0, .bool false, .int .u8 0] := TInfo.of (z := .agg #[.int .i64 0, .int .i64 0, .bool false, .int .u8 0]) (by kernel_rfl) rfl
instance : TBld Pr 7 [.int .i64 0, .int .i64 0, .bool false, .int .u8 0] (fun i => ([(0, 1), (1, 1), (2, 1), (3, 1)] : List (Nat × Nat))[i]?) := TBld.struct Try.underlying7 ⟨rfl, Try.sizeOf2, rfl, Try.sizeOf3, rfl, Try.sizeOf4, rfl, Try.sizeOf6, trivial⟩
instance : TSz Pr 8 4 true := ⟨Try.sizeOf8, Try.isAgg8⟩
instance : TFld Pr 8 0 0 := TFld.mk' Try.underlying8 rfl rfl Try.sizeOf2 rfl
instance : TFld Pr 8 1 1 := TFld.mk' Try.underlying8 rfl rfl Try.sizeOf3 rfl
instance : TFld Pr 8 2 2 := TFld.mk' Try.underlying8 rfl rfl Try.sizeOf4 rfl
instance : TFld Pr 8 3 3 := TFld.mk' Try.underlying8 rfl rfl Try.sizeOf6 rfl
instance : TInfo Pr 8 4 24 [.int .i64 0, .int .i64 0, .bool false, .int .u8 0] := TInfo.of (z := .agg #[.int .i64 0, .int .i64 0, .bool false, .int .u8 0]) (by kernel_rfl) rfl
instance : TBld Pr 8 [.int .i64 0, .int .i64 0, .bool false, .int .u8 0] (fun i => ([(0, 1), (1, 1), (2, 1), (3, 1)] : List (Nat × Nat))[i]?) := TBld.struct Try.underlying8 ⟨rfl, Try.sizeOf2, rfl, Try.sizeOf3, rfl, Try.sizeOf4, rfl, Try.sizeOf6, trivial⟩
instance : TSz Pr 9 1 false := ⟨Try.sizeOf9, Try.isAgg9⟩
instance : TInfo Pr 9 1 16 [.string ByteArray.empty] := TInfo.of (z := .string ByteArray.empty) (by kernel_rfl) rfl
instance : TSz Pr 10 1 false := ⟨Try.sizeOf10, Try.isAgg10⟩
instance : TInfo Pr 10 1 16 [.string ByteArray.empty] := TInfo.of (z := .string ByteArray.empty) (by kernel_rfl) rfl
instance : TSz Pr 11 1 false := ⟨Try.sizeOf11, Try.isAgg11⟩
instance : TInfo Pr 11 1 16 [.string ByteArray.empty] := TInfo.of (z := .string ByteArray.empty) (by kernel_rfl) rfl
instance : TSz Pr 12 1 false := ⟨Try.sizeOf12, Try.isAgg12⟩
instance : TInt Pr 12 .u64 := ⟨Try.underlying12⟩
instance : TInfo Pr 12 1 8 [.int .u64 0] := TInfo.of (z := .int .u64 0) (by kernel_rfl) rfl
instance : TSz Pr 13 2 true := ⟨Try.sizeOf13, Try.isAgg13⟩
instance : TFld Pr 13 0 0 := TFld.mk' Try.underlying13 rfl rfl Try.sizeOf9 rfl
instance : TFld Pr 13 1 1 := TFld.mk' Try.underlying13 rfl rfl Try.sizeOf12 rfl
instance : TInfo Pr 13 2 24 [.string ByteArray.empty, .int .u64 0] := TInfo.of (z := .agg #[.string ByteArray.empty, .int .u64 0]) (by kernel_rfl) rfl
instance : TBld Pr 13 [.string ByteArray.empty, .int .u64 0] (fun i => ([(0, 1), (1, 1)] : List (Nat × Nat))[i]?) := TBld.struct Try.underlying13 ⟨rfl, Try.sizeOf9, rfl, Try.sizeOf12, trivial⟩
instance : TSz Pr 14 2 true := ⟨Try.sizeOf14, Try.isAgg14⟩
instance : TFld Pr 14 0 0 := TFld.mk' Try.underlying14 rfl rfl Try.sizeOf9 rfl
instance : TFld Pr 14 1 1 := TFld.mk' Try.underlying14 rfl rfl Try.sizeOf12 rfl
instance : TInfo Pr 14 2 24 [.string ByteArray.empty, .int .u64 0] := TInfo.of (z := .agg #[.string ByteArray.empty, .int .u64 0]) (by kernel_rfl) rfl
instance : TBld Pr 14 [.string ByteArray.empty, .int .u64 0] (fun i => ([(0, 1), (1, 1)] : List (Nat × Nat))[i]?) := TBld.struct Try.underlying14 ⟨rfl, Try.sizeOf9, rfl, Try.sizeOf12, trivial⟩
instance : TSz Pr 15 1 false := ⟨Try.sizeOf15, Try.isAgg15⟩
instance : TInfo Pr 15 1 8 [.pointer none] := TInfo.of (z := .pointer none) (by kernel_rfl) rfl
instance : TSz Pr 16 1 false := ⟨Try.sizeOf16, Try.isAgg16⟩
instance : TInfo Pr 16 1 8 [.pointer none] := TInfo.of (z := .pointer none) (by kernel_rfl) rfl
instance : TSz Pr 17 1 false := ⟨Try.sizeOf17, Try.isAgg17⟩
instance : TInfo Pr 17 1 8 [.pointer none] := TInfo.of (z := .pointer none) (by kernel_rfl) rfl
instance : TSz Pr 18 1 true := ⟨Try.sizeOf18, Try.isAgg18⟩
instance : TFld Pr 18 0 0 := TFld.mk' Try.underlying18 rfl rfl Try.sizeOf17 rfl
instance : TInfo Pr 18 1 8 [.pointer none] := TInfo.of (z := .agg #[.pointer none]) (by kernel_rfl) rfl
instance : TBld Pr 18 [.pointer none] (fun i => ([(0, 1)] : List (Nat × Nat))[i]?) := TBld.struct Try.underlying18 ⟨rfl, Try.sizeOf17, trivial⟩
instance : TSz Pr 19 1 true := ⟨Try.sizeOf19, Try.isAgg19⟩
instance : TFld Pr 19 0 0 := TFld.mk' Try.underlying19 rfl rfl Try.sizeOf17 rfl
instance : TInfo Pr 19 1 8 [.pointer none] := TInfo.of (z := .agg #[.pointer none]) (by kernel_rfl) rfl
instance : TBld Pr 19 [.pointer none] (fun i => ([(0, 1)] : List (Nat × Nat))[i]?) := TBld.struct Try.underlying19 ⟨rfl, Try.sizeOf17, trivial⟩
instance : TSz Pr 20 1 false := ⟨Try.sizeOf20, Try.isAgg20⟩
instance : TInfo Pr 20 1 16 [.nilIface] := TInfo.of (z := .nilIface) (by kernel_rfl) rfl
instance : TSz Pr 21 1 false := ⟨Try.sizeOf21, Try.isAgg21⟩
instance : TInt Pr 21 .i32 := ⟨Try.underlying21⟩
instance : TInfo Pr 21 1 4 [.int .i32 0] := TInfo.of (z := .int .i32 0) (by kernel_rfl) rfl
instance : TSz Pr 22 1 false := ⟨Try.sizeOf22, Try.isAgg22⟩
instance : TSl Pr 22 87 := ⟨Try.underlying22⟩
instance : TInfo Pr 22 1 24 [.slice none 0 0] := TInfo.of (z := .slice none 0 0) (by kernel_rfl) rfl
instance : TSz Pr 23 1 false := ⟨Try.sizeOf23, Try.isAgg23⟩
instance : TSl Pr 23 89 := ⟨Try.underlying23⟩
instance : TInfo Pr 23 1 24 [.slice none 0 0] := TInfo.of (z := .slice none 0 0) (by kernel_rfl) rfl
instance : TSz Pr 24 1 false := ⟨Try.sizeOf24, Try.isAgg24⟩
instance : TSl Pr 24 5 := ⟨Try.underlying24⟩
instance : TInfo Pr 24 1 24 [.slice none 0 0] := TInfo.of (z := .slice none 0 0) (by kernel_rfl) rfl
instance : TSz Pr 25 11 true := ⟨Try.sizeOf25, Try.isAgg25⟩
instance : TFld Pr 25 0 0 := TFld.mk' Try.underlying25 rfl rfl Try.sizeOf5 rfl
instance : TFld Pr 25 1 1 := TFld.mk' Try.underlying25 rfl rfl Try.sizeOf5 rfl
instance : TFld Pr 25 2 2 := TFld.mk' Try.underlying25 rfl rfl Try.sizeOf5 rfl
instance : TFld Pr 25 3 3 := TFld.mk' Try.underlying25 rfl rfl Try.sizeOf5 rfl
instance : TFld Pr 25 4 4 := TFld.mk' Try.underlying25 rfl rfl Try.sizeOf5 rfl
instance : TFld Pr 25 5 5 := TFld.mk' Try.underlying25 rfl rfl Try.sizeOf22 rfl
instance : TFld Pr 25 6 6 := TFld.mk' Try.underlying25 rfl rfl Try.sizeOf23 rfl
instance : TFld Pr 25 7 7 := TFld.mk' Try.underlying25 rfl rfl Try.sizeOf24 rfl
instance : TFld Pr 25 8 8 := TFld.mk' Try.underlying25 rfl rfl Try.sizeOf24 rfl
instance : TFld Pr 25 9 9 := TFld.mk' Try.underlying25 rfl rfl Try.sizeOf4 rfl
instance : TFld Pr 25 10 10 := TFld.mk' Try.underlying25 rfl rfl Try.sizeOf4 rfl
instance : TInfo Pr 25 11 112 [.int .u8 0, .int .u8 0, .int .u8 0, .int .u8 0, .int .u8 0, .slice none 0 0, .slice none 0 0, .slice none 0 0, .slice none 0 0, .bool false, .bool false] := TInfo.of (z := .agg #[.int .u8 0, .int .u8 0, .int .u8 0, .int .u8 0, .int .u8 0, .slice none 0 0, .slice none 0 0, .slice none 0 0, .slice none 0 0, .bool false, .bool false]) (by kernel_rfl) rfl
instance : TBld Pr 25 [.int .u8 0, .int .u8 0, .int .u8 0, .int .u8 0, .int .u8 0, .slice none 0 0, .slice none 0 0, .slice none 0 0, .slice none 0 0, .bool false, .bool false] (fun i => ([(0, 1), (1, 1), (2, 1), (3, 1), (4, 1), (5, 1), (6, 1), (7, 1), (8, 1), (9, 1), (10, 1)] : List (Nat × Nat))[i]?) := TBld.struct Try.underlying25 ⟨rfl, Try.sizeOf5, rfl, Try.sizeOf5, rfl, Try.sizeOf5, rfl, Try.sizeOf5, rfl, Try.sizeOf5, rfl, Try.sizeOf22, rfl, Try.sizeOf23, rfl, Try.sizeOf24, rfl, Try.sizeOf24, rfl, Try.sizeOf4, rfl, Try.sizeOf4, trivial⟩
instance : TSz Pr 26 11 true := ⟨Try.sizeOf26, Try.isAgg26⟩
instance : TFld Pr 26 0 0 := TFld.mk' Try.underlying26 rfl rfl Try.sizeOf5 rfl
instance : TFld Pr 26 1 1 := TFld.mk' Try.underlying26 rfl rfl Try.sizeOf5 rfl
instance : TFld Pr 26 2 2 := TFld.mk' Try.underlying26 rfl rfl Try.sizeOf5 rfl
instance : TFld Pr 26 3 3 := TFld.mk' Try.underlying26 rfl rfl Try.sizeOf5 rfl
instance : TFld Pr 26 4 4 := TFld.mk' Try.underlying26 rfl rfl Try.sizeOf5 rfl
instance : TFld Pr 26 5 5 := TFld.mk' Try.underlying26 rfl rfl Try.sizeOf22 rfl
instance : TFld Pr 26 6 6 := TFld.mk' Try.underlying26 rfl rfl Try.sizeOf23 rfl
instance : TFld Pr 26 7 7 := TFld.mk' Try.underlying26 rfl rfl Try.sizeOf24 rfl
instance : TFld Pr 26 8 8 := TFld.mk' Try.underlying26 rfl rfl Try.sizeOf24 rfl
instance : TFld Pr 26 9 9 := TFld.mk' Try.underlying26 rfl rfl Try.sizeOf4 rfl
instance : TFld Pr 26 10 10 := TFld.mk' Try.underlying26 rfl rfl Try.sizeOf4 rfl
instance : TInfo Pr 26 11 112 [.int .u8 0, .int .u8 0, .int .u8 0, .int .u8 0, .int .u8 0, .slice none 0 0, .slice none 0 0, .slice none 0 0, .slice none 0 0, .bool false, .bool false] := TInfo.of (z := .agg #[.int .u8 0, .int .u8 0, .int .u8 0, .int .u8 0, .int .u8 0, .slice none 0 0, .slice none 0 0, .slice none 0 0, .slice none 0 0, .bool false, .bool false]) (by kernel_rfl) rfl
instance : TBld Pr 26 [.int .u8 0, .int .u8 0, .int .u8 0, .int .u8 0, .int .u8 0, .slice none 0 0, .slice none 0 0, .slice none 0 0, .slice none 0 0, .bool false, .bool false] (fun i => ([(0, 1), (1, 1), (2, 1), (3, 1), (4, 1), (5, 1), (6, 1), (7, 1), (8, 1), (9, 1), (10, 1)] : List (Nat × Nat))[i]?) := TBld.struct Try.underlying26 ⟨rfl, Try.sizeOf5, rfl, Try.sizeOf5, rfl, Try.sizeOf5, rfl, Try.sizeOf5, rfl, Try.sizeOf5, rfl, Try.sizeOf22, rfl, Try.sizeOf23, rfl, Try.sizeOf24, rfl, Try.sizeOf24, rfl, Try.sizeOf4, rfl, Try.sizeOf4, trivial⟩
instance : TSz Pr 27 3 true := ⟨Try.sizeOf27, Try.isAgg27⟩
instance : TFld Pr 27 0 0 := TFld.mk' Try.underlying27 rfl rfl Try.sizeOf24 rfl
instance : TFld Pr 27 1 1 := TFld.mk' Try.underlying27 rfl rfl Try.sizeOf24 rfl
instance : TFld Pr 27 2 2 := TFld.mk' Try.underlying27 rfl rfl Try.sizeOf24 rfl
instance : TInfo Pr 27 3 72 [.slice none 0 0, .slice none 0 0, .slice none 0 0] := TInfo.of (z := .agg #[.slice none 0 0, .slice none 0 0, .slice none 0 0]) (by kernel_rfl) rfl
instance : TBld Pr 27 [.slice none 0 0, .slice none 0 0, .slice none 0 0] (fun i => ([(0, 1), (1, 1), (2, 1)] : List (Nat × Nat))[i]?) := TBld.struct Try.underlying27 ⟨rfl, Try.sizeOf24, rfl, Try.sizeOf24, rfl, Try.sizeOf24, trivial⟩
instance : TSz Pr 28 3 true := ⟨Try.sizeOf28, Try.isAgg28⟩
instance : TFld Pr 28 0 0 := TFld.mk' Try.underlying28 rfl rfl Try.sizeOf24 rfl
instance : TFld Pr 28 1 1 := TFld.mk' Try.underlying28 rfl rfl Try.sizeOf24 rfl
instance : TFld Pr 28 2 2 := TFld.mk' Try.underlying28 rfl rfl Try.sizeOf24 rfl
instance : TInfo Pr 28 3 72 [.slice none 0 0, .slice none 0 0, .slice none 0 0] := TInfo.of (z := .agg #[.slice none 0 0, .slice none 0 0, .slice none 0 0]) (by kernel_rfl) rfl
instance : TBld Pr 28 [.slice none 0 0, .slice none 0 0, .slice none 0 0] (fun i => ([(0, 1), (1, 1), (2, 1)] : List (Nat × Nat))[i]?) := TBld.struct Try.underlying28 ⟨rfl, Try.sizeOf24, rfl, Try.sizeOf24, rfl, Try.sizeOf24, trivial⟩
instance : TSz Pr 29 1 false := ⟨Try.sizeOf29, Try.isAgg29⟩
instance : TSl Pr 29 33 := ⟨Try.underlying29⟩
instance : TInfo Pr 29 1 24 [.slice none 0 0] := TInfo.of (z := .slice none 0 0) (by kernel_rfl) rfl
instance : TSz Pr 30 1 false := ⟨Try.sizeOf30, Try.isAgg30⟩
instance : TSl Pr 30 53 := ⟨Try.underlying30⟩
instance : TInfo Pr 30 1 24 [.slice none 0 0] := TInfo.of (z := .slice none 0 0) (by kernel_rfl) rfl
instance : TSz Pr 31 2 true := ⟨Try.sizeOf31, Try.isAgg31⟩
instance : TFld Pr 31 0 0 := TFld.mk' Try.underlying31 rfl rfl Try.sizeOf29 rfl
instance : TFld Pr 31 1 1 := TFld.mk' Try.underlying31 rfl rfl Try.sizeOf30 rfl
instance : TInfo Pr 31 2 48 [.slice none 0 0, .slice none 0 0] := TInfo.of (z := .agg #[.slice none 0 0, .slice none 0 0]) (by kernel_rfl) rfl
instance : TBld Pr 31 [.slice none 0 0, .slice none 0 0] (fun i => ([(0, 1), (1, 1)] : List (Nat × Nat))[i]?) := TBld.struct Try.underlying31 ⟨rfl, Try.sizeOf29, rfl, Try.sizeOf30, trivial⟩
instance : TSz Pr 32 2 true := ⟨Try.sizeOf32, Try.isAgg32⟩
instance : TFld Pr 32 0 0 := TFld.mk' Try.underlying32 rfl rfl Try.sizeOf29 rfl
instance : TFld Pr 32 1 1 := TFld.mk' Try.underlying32 rfl rfl Try.sizeOf30 rfl
instance : TInfo Pr 32 2 48 [.slice none 0 0, .slice none 0 0] := TInfo.of (z := .agg #[.slice none 0 0, .slice none 0 0]) (by kernel_rfl) rfl
instance : TBld Pr 32 [.slice none 0 0, .slice none 0 0] (fun i => ([(0, 1), (1, 1)] : List (Nat × Nat))[i]?) := TBld.struct Try.underlying32 ⟨rfl, Try.sizeOf29, rfl, Try.sizeOf30, trivial⟩
instance : TSz Pr 33 1 false := ⟨Try.sizeOf33, Try.isAgg33⟩
instance : TSl Pr 33 2 := ⟨Try.underlying33⟩
instance : TInfo Pr 33 1 24 [.slice none 0 0] := TInfo.of (z := .slice none 0 0) (by kernel_rfl) rfl
instance : TSz Pr 34 1 false := ⟨Try.sizeOf34, Try.isAgg34⟩
instance : TInfo Pr 34 1 8 [.nilFunc] := TInfo.of (z := .nilFunc) (by kernel_rfl) rfl
instance : TSz Pr 35 2 true := ⟨Try.sizeOf35, Try.isAgg35⟩
instance : TFld Pr 35 0 0 := TFld.mk' Try.underlying35 rfl rfl Try.sizeOf3 rfl
instance : TFld Pr 35 1 1 := TFld.mk' Try.underlying35 rfl rfl Try.sizeOf2 rfl
instance : TInfo Pr 35 2 16 [.int .i64 0, .int .i64 0] := TInfo.of (z := .agg #[.int .i64 0, .int .i64 0]) (by kernel_rfl) rfl
instance : TBld Pr 35 [.int .i64 0, .int .i64 0] (fun i => ([(0, 1), (1, 1)] : List (Nat × Nat))[i]?) := TBld.struct Try.underlying35 ⟨rfl, Try.sizeOf3, rfl, Try.sizeOf2, trivial⟩
instance : TSz Pr 36 2 true := ⟨Try.sizeOf36, Try.isAgg36⟩
instance : TFld Pr 36 0 0 := TFld.mk' Try.underlying36 rfl rfl Try.sizeOf3 rfl
instance : TFld Pr 36 1 1 := TFld.mk' Try.underlying36 rfl rfl Try.sizeOf2 rfl
instance : TInfo Pr 36 2 16 [.int .i64 0, .int .i64 0] := TInfo.of (z := .agg #[.int .i64 0, .int .i64 0]) (by kernel_rfl) rfl
instance : TBld Pr 36 [.int .i64 0, .int .i64 0] (fun i => ([(0, 1), (1, 1)] : List (Nat × Nat))[i]?) := TBld.struct Try.underlying36 ⟨rfl, Try.sizeOf3, rfl, Try.sizeOf2, trivial⟩
instance : TSz Pr 37 1 false := ⟨Try.sizeOf37, Try.isAgg37⟩
instance : TSl Pr 37 75 := ⟨Try.underlying37⟩
instance : TInfo Pr 37 1 24 [.slice none 0 0] := TInfo.of (z := .slice none 0 0) (by kernel_rfl) rfl
instance : TSz Pr 38 1 false := ⟨Try.sizeOf38, Try.isAgg38⟩
instance : TSl Pr 38 77 := ⟨Try.underlying38⟩
instance : TInfo Pr 38 1 24 [.slice none 0 0] := TInfo.of (z := .slice none 0 0) (by kernel_rfl) rfl
instance : TSz Pr 39 9 true := ⟨Try.sizeOf39, Try.isAgg39⟩
instance : TFld Pr 39 0 0 := TFld.mk' Try.underlying39 rfl rfl Try.sizeOf2 rfl
instance : TFld Pr 39 1 1 := TFld.mk' Try.underlying39 rfl rfl Try.sizeOf36 rfl
instance : TFld Pr 39 2 3 := TFld.mk' Try.underlying39 rfl rfl Try.sizeOf36 rfl
instance : TFld Pr 39 3 5 := TFld.mk' Try.underlying39 rfl rfl Try.sizeOf37 rfl
instance : TFld Pr 39 4 6 := TFld.mk' Try.underlying39 rfl rfl Try.sizeOf38 rfl
instance : TFld Pr 39 5 7 := TFld.mk' Try.underlying39 rfl rfl Try.sizeOf29 rfl
instance : TFld Pr 39 6 8 := TFld.mk' Try.underlying39 rfl rfl Try.sizeOf29 rfl
instance : TInfo Pr 39 9 136 [.int .i64 0, .int .i64 0, .int .i64 0, .int .i64 0, .int .i64 0, .slice none 0 0, .slice none 0 0, .slice none 0 0, .slice none 0 0] := TInfo.of (z := .agg #[.int .i64 0, .int .i64 0, .int .i64 0, .int .i64 0, .int .i64 0, .slice none 0 0, .slice none 0 0, .slice none 0 0, .slice none 0 0]) (by kernel_rfl) rfl
instance : TBld Pr 39 [.int .i64 0, .int .i64 0, .int .i64 0, .int .i64 0, .int .i64 0, .slice none 0 0, .slice none 0 0, .slice none 0 0, .slice none 0 0] (fun i => ([(0, 1), (1, 2), (3, 2), (5, 1), (6, 1), (7, 1), (8, 1)] : List (Nat × Nat))[i]?) := TBld.struct Try.underlying39 ⟨rfl, Try.sizeOf2, rfl, Try.sizeOf36, rfl, Try.sizeOf36, rfl, Try.sizeOf37, rfl, Try.sizeOf38, rfl, Try.sizeOf29, rfl, Try.sizeOf29, trivial⟩
instance : TSz Pr 40 9 true := ⟨Try.sizeOf40, Try.isAgg40⟩
instance : TFld Pr 40 0 0 := TFld.mk' Try.underlying40 rfl rfl Try.sizeOf2 rfl
instance : TFld Pr 40 1 1 := TFld.mk' Try.underlying40 rfl rfl Try.sizeOf36 rfl
instance : TFld Pr 40 2 3 := TFld.mk' Try.underlying40 rfl rfl Try.sizeOf36 rfl
instance : TFld Pr 40 3 5 := TFld.mk' Try.underlying40 rfl rfl Try.sizeOf37 rfl
instance : TFld Pr 40 4 6 := TFld.mk' Try.underlying40 rfl rfl Try.sizeOf38 rfl
instance : TFld Pr 40 5 7 := TFld.mk' Try.underlying40 rfl rfl Try.sizeOf29 rfl
instance : TFld Pr 40 6 8 := TFld.mk' Try.underlying40 rfl rfl Try.sizeOf29 rfl
instance : TInfo Pr 40 9 136 [.int .i64 0, .int .i64 0, .int .i64 0, .int .i64 0, .int .i64 0, .slice none 0 0, .slice none 0 0, .slice none 0 0, .slice none 0 0] := TInfo.of (z := .agg #[.int .i64 0, .int .i64 0, .int .i64 0, .int .i64 0, .int .i64 0, .slice none 0 0, .slice none 0 0, .slice none 0 0, .slice none 0 0]) (by kernel_rfl) rfl
instance : TBld Pr 40 [.int .i64 0, .int .i64 0, .int .i64 0, .int .i64 0, .int .i64 0, .slice none 0 0, .slice none 0 0, .slice none 0 0, .slice none 0 0] (fun i => ([(0, 1), (1, 2), (3, 2), (5, 1), (6, 1), (7, 1), (8, 1)] : List (Nat × Nat))[i]?) := TBld.struct Try.underlying40 ⟨rfl, Try.sizeOf2, rfl, Try.sizeOf36, rfl, Try.sizeOf36, rfl, Try.sizeOf37, rfl, Try.sizeOf38, rfl, Try.sizeOf29, rfl, Try.sizeOf29, trivial⟩
instance : TSz Pr 41 1 false := ⟨Try.sizeOf41, Try.isAgg41⟩
instance : TInfo Pr 41 1 8 [.nilFunc] := TInfo.of (z := .nilFunc) (by kernel_rfl) rfl
instance : TSz Pr 42 1 false := ⟨Try.sizeOf42, Try.isAgg42⟩
instance : TSl Pr 42 82 := ⟨Try.underlying42⟩
instance : TInfo Pr 42 1 24 [.slice none 0 0] := TInfo.of (z := .slice none 0 0) (by kernel_rfl) rfl
instance : TSz Pr 43 1 false := ⟨Try.sizeOf43, Try.isAgg43⟩
instance : TSl Pr 43 68 := ⟨Try.underlying43⟩
instance : TInfo Pr 43 1 24 [.slice none 0 0] := TInfo.of (z := .slice none 0 0) (by kernel_rfl) rfl
instance : TSz Pr 44 2 true := ⟨Try.sizeOf44, Try.isAgg44⟩
instance : TFld Pr 44 0 0 := TFld.mk' Try.underlying44 rfl rfl Try.sizeOf42 rfl
instance : TFld Pr 44 1 1 := TFld.mk' Try.underlying44 rfl rfl Try.sizeOf43 rfl
instance : TInfo Pr 44 2 48 [.slice none 0 0, .slice none 0 0] := TInfo.of (z := .agg #[.slice none 0 0, .slice none 0 0]) (by kernel_rfl) rfl
instance : TBld Pr 44 [.slice none 0 0, .slice none 0 0] (fun i => ([(0, 1), (1, 1)] : List (Nat × Nat))[i]?) := TBld.struct Try.underlying44 ⟨rfl, Try.sizeOf42, rfl, Try.sizeOf43, trivial⟩
instance : TSz Pr 45 2 true := ⟨Try.sizeOf45, Try.isAgg45⟩
instance : TFld Pr 45 0 0 := TFld.mk' Try.underlying45 rfl rfl Try.sizeOf42 rfl
instance : TFld Pr 45 1 1 := TFld.mk' Try.underlying45 rfl rfl Try.sizeOf43 rfl
instance : TInfo Pr 45 2 48 [.slice none 0 0, .slice none 0 0] := TInfo.of (z := .agg #[.slice none 0 0, .slice none 0 0]) (by kernel_rfl) rfl
instance : TBld Pr 45 [.slice none 0 0, .slice none 0 0] (fun i => ([(0, 1), (1, 1)] : List (Nat × Nat))[i]?) := TBld.struct Try.underlying45 ⟨rfl, Try.sizeOf42, rfl, Try.sizeOf43, trivial⟩
instance : TSz Pr 46 1 false := ⟨Try.sizeOf46, Try.isAgg46⟩
instance : TInfo Pr 46 1 8 [.nilFunc] := TInfo.of (z := .nilFunc) (by kernel_rfl) rfl
instance : TSz Pr 47 1 false := ⟨Try.sizeOf47, Try.isAgg47⟩
instance : TInt Pr 47 .i64 := ⟨Try.underlying47⟩
instance : TInfo Pr 47 1 8 [.int .i64 0] := TInfo.of (z := .int .i64 0) (by kernel_rfl) rfl
instance : TSz Pr 48 1 false := ⟨Try.sizeOf48, Try.isAgg48⟩
instance : TInfo Pr 48 1 8 [.nilFunc] := TInfo.of (z := .nilFunc) (by kernel_rfl) rfl
instance : TSz Pr 49 1 false := ⟨Try.sizeOf49, Try.isAgg49⟩
instance : TInfo Pr 49 1 8 [.nilFunc] := TInfo.of (z := .nilFunc) (by kernel_rfl) rfl
instance : TSz Pr 50 1 false := ⟨Try.sizeOf50, Try.isAgg50⟩
instance : TInfo Pr 50 1 8 [.pointer none] := TInfo.of (z := .pointer none) (by kernel_rfl) rfl
instance : TSz Pr 51 1 false := ⟨Try.sizeOf51, Try.isAgg51⟩
instance : TInfo Pr 51 1 8 [.nilFunc] := TInfo.of (z := .nilFunc) (by kernel_rfl) rfl
instance : TSz Pr 52 3 true := ⟨Try.sizeOf52, Try.isAgg52⟩
instance : TFld Pr 52 0 0 := TFld.mk' Try.underlying52 rfl rfl Try.sizeOf2 rfl
instance : TFld Pr 52 1 1 := TFld.mk' Try.underlying52 rfl rfl Try.sizeOf33 rfl
instance : TFld Pr 52 2 2 := TFld.mk' Try.underlying52 rfl rfl Try.sizeOf2 rfl
instance : TInfo Pr 52 3 40 [.int .i64 0, .slice none 0 0, .int .i64 0] := TInfo.of (z := .agg #[.int .i64 0, .slice none 0 0, .int .i64 0]) (by kernel_rfl) rfl
instance : TBld Pr 52 [.int .i64 0, .slice none 0 0, .int .i64 0] (fun i => ([(0, 1), (1, 1), (2, 1)] : List (Nat × Nat))[i]?) := TBld.struct Try.underlying52 ⟨rfl, Try.sizeOf2, rfl, Try.sizeOf33, rfl, Try.sizeOf2, trivial⟩
instance : TSz Pr 53 3 true := ⟨Try.sizeOf53, Try.isAgg53⟩
instance : TFld Pr 53 0 0 := TFld.mk' Try.underlying53 rfl rfl Try.sizeOf2 rfl
instance : TFld Pr 53 1 1 := TFld.mk' Try.underlying53 rfl rfl Try.sizeOf33 rfl
instance : TFld Pr 53 2 2 := TFld.mk' Try.underlying53 rfl rfl Try.sizeOf2 rfl
instance : TInfo Pr 53 3 40 [.int .i64 0, .slice none 0 0, .int .i64 0] := TInfo.of (z := .agg #[.int .i64 0, .slice none 0 0, .int .i64 0]) (by kernel_rfl) rfl
instance : TBld Pr 53 [.int .i64 0, .slice none 0 0, .int .i64 0] (fun i => ([(0, 1), (1, 1), (2, 1)] : List (Nat × Nat))[i]?) := TBld.struct Try.underlying53 ⟨rfl, Try.sizeOf2, rfl, Try.sizeOf33, rfl, Try.sizeOf2, trivial⟩
instance : TSz Pr 54 1 false := ⟨Try.sizeOf54, Try.isAgg54⟩
instance : TSl Pr 54 32 := ⟨Try.underlying54⟩
instance : TInfo Pr 54 1 24 [.slice none 0 0] := TInfo.of (z := .slice none 0 0) (by kernel_rfl) rfl
instance : TSz Pr 55 1 false := ⟨Try.sizeOf55, Try.isAgg55⟩
instance : TInfo Pr 55 1 8 [.nilFunc] := TInfo.of (z := .nilFunc) (by kernel_rfl) rfl
instance : TSz Pr 56 1 false := ⟨Try.sizeOf56, Try.isAgg56⟩
instance : TInfo Pr 56 1 8 [.nilFunc] := TInfo.of (z := .nilFunc) (by kernel_rfl) rfl
instance : TSz Pr 57 1 false := ⟨Try.sizeOf57, Try.isAgg57⟩
instance : TInfo Pr 57 1 8 [.nilFunc] := TInfo.of (z := .nilFunc) (by kernel_rfl) rfl
instance : TSz Pr 58 1 false := ⟨Try.sizeOf58, Try.isAgg58⟩
instance : TInfo Pr 58 1 8 [.nilFunc] := TInfo.of (z := .nilFunc) (by kernel_rfl) rfl
instance : TSz Pr 59 1 false := ⟨Try.sizeOf59, Try.isAgg59⟩
instance : TInfo Pr 59 1 8 [.nilFunc] := TInfo.of (z := .nilFunc) (by kernel_rfl) rfl
instance : TSz Pr 60 1 false := ⟨Try.sizeOf60, Try.isAgg60⟩
instance : TSl Pr 60 99 := ⟨Try.underlying60⟩
instance : TInfo Pr 60 1 24 [.slice none 0 0] := TInfo.of (z := .slice none 0 0) (by kernel_rfl) rfl
instance : TSz Pr 61 2 true := ⟨Try.sizeOf61, Try.isAgg61⟩
instance : TFld Pr 61 0 0 := TFld.mk' Try.underlying61 rfl rfl Try.sizeOf60 rfl
instance : TFld Pr 61 1 1 := TFld.mk' Try.underlying61 rfl rfl Try.sizeOf5 rfl
instance : TInfo Pr 61 2 32 [.slice none 0 0, .int .u8 0] := TInfo.of (z := .agg #[.slice none 0 0, .int .u8 0]) (by kernel_rfl) rfl
instance : TBld Pr 61 [.slice none 0 0, .int .u8 0] (fun i => ([(0, 1), (1, 1)] : List (Nat × Nat))[i]?) := TBld.struct Try.underlying61 ⟨rfl, Try.sizeOf60, rfl, Try.sizeOf5, trivial⟩
instance : TSz Pr 62 2 true := ⟨Try.sizeOf62, Try.isAgg62⟩
instance : TFld Pr 62 0 0 := TFld.mk' Try.underlying62 rfl rfl Try.sizeOf60 rfl
instance : TFld Pr 62 1 1 := TFld.mk' Try.underlying62 rfl rfl Try.sizeOf5 rfl
instance : TInfo Pr 62 2 32 [.slice none 0 0, .int .u8 0] := TInfo.of (z := .agg #[.slice none 0 0, .int .u8 0]) (by kernel_rfl) rfl
instance : TBld Pr 62 [.slice none 0 0, .int .u8 0] (fun i => ([(0, 1), (1, 1)] : List (Nat × Nat))[i]?) := TBld.struct Try.underlying62 ⟨rfl, Try.sizeOf60, rfl, Try.sizeOf5, trivial⟩
instance : TSz Pr 63 1 false := ⟨Try.sizeOf63, Try.isAgg63⟩
instance : TInfo Pr 63 1 8 [.nilFunc] := TInfo.of (z := .nilFunc) (by kernel_rfl) rfl
instance : TSz Pr 64 1 false := ⟨Try.sizeOf64, Try.isAgg64⟩
instance : TSl Pr 64 70 := ⟨Try.underlying64⟩
instance : TInfo Pr 64 1 24 [.slice none 0 0] := TInfo.of (z := .slice none 0 0) (by kernel_rfl) rfl
instance : TSz Pr 65 1 false := ⟨Try.sizeOf65, Try.isAgg65⟩
instance : TInfo Pr 65 1 8 [.nilFunc] := TInfo.of (z := .nilFunc) (by kernel_rfl) rfl
instance : TSz Pr 66 1 false := ⟨Try.sizeOf66, Try.isAgg66⟩
instance : TSl Pr 66 3 := ⟨Try.underlying66⟩
instance : TInfo Pr 66 1 24 [.slice none 0 0] := TInfo.of (z := .slice none 0 0) (by kernel_rfl) rfl
instance : TSz Pr 67 2 true := ⟨Try.sizeOf67, Try.isAgg67⟩
instance : TFld Pr 67 0 0 := TFld.mk' Try.underlying67 rfl rfl Try.sizeOf3 rfl
instance : TFld Pr 67 1 1 := TFld.mk' Try.underlying67 rfl rfl Try.sizeOf66 rfl
instance : TInfo Pr 67 2 32 [.int .i64 0, .slice none 0 0] := TInfo.of (z := .agg #[.int .i64 0, .slice none 0 0]) (by kernel_rfl) rfl
instance : TBld Pr 67 [.int .i64 0, .slice none 0 0] (fun i => ([(0, 1), (1, 1)] : List (Nat × Nat))[i]?) := TBld.struct Try.underlying67 ⟨rfl, Try.sizeOf3, rfl, Try.sizeOf66, trivial⟩
instance : TSz Pr 68 2 true := ⟨Try.sizeOf68, Try.isAgg68⟩
instance : TFld Pr 68 0 0 := TFld.mk' Try.underlying68 rfl rfl Try.sizeOf3 rfl
instance : TFld Pr 68 1 1 := TFld.mk' Try.underlying68 rfl rfl Try.sizeOf66 rfl
instance : TInfo Pr 68 2 32 [.int .i64 0, .slice none 0 0] := TInfo.of (z := .agg #[.int .i64 0, .slice none 0 0]) (by kernel_rfl) rfl
instance : TBld Pr 68 [.int .i64 0, .slice none 0 0] (fun i => ([(0, 1), (1, 1)] : List (Nat × Nat))[i]?) := TBld.struct Try.underlying68 ⟨rfl, Try.sizeOf3, rfl, Try.sizeOf66, trivial⟩
instance : TSz Pr 69 1 false := ⟨Try.sizeOf69, Try.isAgg69⟩
instance : TInt Pr 69 .u64 := ⟨Try.underlying69⟩
instance : TInfo Pr 69 1 8 [.int .u64 0] := TInfo.of (z := .int .u64 0) (by kernel_rfl) rfl
instance : TSz Pr 70 1 false := ⟨Try.sizeOf70, Try.isAgg70⟩
instance : TInt Pr 70 .u64 := ⟨Try.underlying70⟩
instance : TInfo Pr 70 1 8 [.int .u64 0] := TInfo.of (z := .int .u64 0) (by kernel_rfl) rfl
instance : TSz Pr 71 1 false := ⟨Try.sizeOf71, Try.isAgg71⟩
instance : TInfo Pr 71 1 8 [.nilFunc] := TInfo.of (z := .nilFunc) (by kernel_rfl) rfl
instance : TSz Pr 72 1 false := ⟨Try.sizeOf72, Try.isAgg72⟩
instance : TInfo Pr 72 1 8 [.nilFunc] := TInfo.of (z := .nilFunc) (by kernel_rfl) rfl
instance : TSz Pr 73 1 false := ⟨Try.sizeOf73, Try.isAgg73⟩
instance : TInfo Pr 73 1 8 [.nilFunc] := TInfo.of (z := .nilFunc) (by kernel_rfl) rfl
instance : TSz Pr 74 2 true := ⟨Try.sizeOf74, Try.isAgg74⟩
instance : TFld Pr 74 0 0 := TFld.mk' Try.underlying74 rfl rfl Try.sizeOf2 rfl
instance : TFld Pr 74 1 1 := TFld.mk' Try.underlying74 rfl rfl Try.sizeOf2 rfl
instance : TInfo Pr 74 2 16 [.int .i64 0, .int .i64 0] := TInfo.of (z := .agg #[.int .i64 0, .int .i64 0]) (by kernel_rfl) rfl
instance : TBld Pr 74 [.int .i64 0, .int .i64 0] (fun i => ([(0, 1), (1, 1)] : List (Nat × Nat))[i]?) := TBld.struct Try.underlying74 ⟨rfl, Try.sizeOf2, rfl, Try.sizeOf2, trivial⟩
instance : TSz Pr 75 2 true := ⟨Try.sizeOf75, Try.isAgg75⟩
instance : TFld Pr 75 0 0 := TFld.mk' Try.underlying75 rfl rfl Try.sizeOf2 rfl
instance : TFld Pr 75 1 1 := TFld.mk' Try.underlying75 rfl rfl Try.sizeOf2 rfl
instance : TInfo Pr 75 2 16 [.int .i64 0, .int .i64 0] := TInfo.of (z := .agg #[.int .i64 0, .int .i64 0]) (by kernel_rfl) rfl
instance : TBld Pr 75 [.int .i64 0, .int .i64 0] (fun i => ([(0, 1), (1, 1)] : List (Nat × Nat))[i]?) := TBld.struct Try.underlying75 ⟨rfl, Try.sizeOf2, rfl, Try.sizeOf2, trivial⟩
instance : TSz Pr 76 4 true := ⟨Try.sizeOf76, Try.isAgg76⟩
instance : TFld Pr 76 0 0 := TFld.mk' Try.underlying76 rfl rfl Try.sizeOf2 rfl
instance : TFld Pr 76 1 1 := TFld.mk' Try.underlying76 rfl rfl Try.sizeOf2 rfl
instance : TFld Pr 76 2 2 := TFld.mk' Try.underlying76 rfl rfl Try.sizeOf2 rfl
instance : TFld Pr 76 3 3 := TFld.mk' Try.underlying76 rfl rfl Try.sizeOf2 rfl
instance : TInfo Pr 76 4 32 [.int .i64 0, .int .i64 0, .int .i64 0, .int .i64 0] := TInfo.of (z := .agg #[.int .i64 0, .int .i64 0, .int .i64 0, .int .i64 0]) (by kernel_rfl) rfl
instance : TBld Pr 76 [.int .i64 0, .int .i64 0, .int .i64 0, .int .i64 0] (fun i => ([(0, 1), (1, 1), (2, 1), (3, 1)] : List (Nat × Nat))[i]?) := TBld.struct Try.underlying76 ⟨rfl, Try.sizeOf2, rfl, Try.sizeOf2, rfl, Try.sizeOf2, rfl, Try.sizeOf2, trivial⟩
instance : TSz Pr 77 4 true := ⟨Try.sizeOf77, Try.isAgg77⟩
instance : TFld Pr 77 0 0 := TFld.mk' Try.underlying77 rfl rfl Try.sizeOf2 rfl
instance : TFld Pr 77 1 1 := TFld.mk' Try.underlying77 rfl rfl Try.sizeOf2 rfl
instance : TFld Pr 77 2 2 := TFld.mk' Try.underlying77 rfl rfl Try.sizeOf2 rfl
instance : TFld Pr 77 3 3 := TFld.mk' Try.underlying77 rfl rfl Try.sizeOf2 rfl
instance : TInfo Pr 77 4 32 [.int .i64 0, .int .i64 0, .int .i64 0, .int .i64 0] := TInfo.of (z := .agg #[.int .i64 0, .int .i64 0, .int .i64 0, .int .i64 0]) (by kernel_rfl) rfl
instance : TBld Pr 77 [.int .i64 0, .int .i64 0, .int .i64 0, .int .i64 0] (fun i => ([(0, 1), (1, 1), (2, 1), (3, 1)] : List (Nat × Nat))[i]?) := TBld.struct Try.underlying77 ⟨rfl, Try.sizeOf2, rfl, Try.sizeOf2, rfl, Try.sizeOf2, rfl, Try.sizeOf2, trivial⟩
instance : TSz Pr 78 2 true := ⟨Try.sizeOf78, Try.isAgg78⟩
instance : TFld Pr 78 0 0 := TFld.mk' Try.underlying78 rfl rfl Try.sizeOf3 rfl
instance : TFld Pr 78 1 1 := TFld.mk' Try.underlying78 rfl rfl Try.sizeOf2 rfl
instance : TInfo Pr 78 2 16 [.int .i64 0, .int .i64 0] := TInfo.of (z := .agg #[.int .i64 0, .int .i64 0]) (by kernel_rfl) rfl
instance : TBld Pr 78 [.int .i64 0, .int .i64 0] (fun i => ([(0, 1), (1, 1)] : List (Nat × Nat))[i]?) := TBld.struct Try.underlying78 ⟨rfl, Try.sizeOf3, rfl, Try.sizeOf2, trivial⟩
instance : TSz Pr 79 2 true := ⟨Try.sizeOf79, Try.isAgg79⟩
instance : TFld Pr 79 0 0 := TFld.mk' Try.underlying79 rfl rfl Try.sizeOf3 rfl
instance : TFld Pr 79 1 1 := TFld.mk' Try.underlying79 rfl rfl Try.sizeOf2 rfl
instance : TInfo Pr 79 2 16 [.int .i64 0, .int .i64 0] := TInfo.of (z := .agg #[.int .i64 0, .int .i64 0]) (by kernel_rfl) rfl
instance : TBld Pr 79 [.int .i64 0, .int .i64 0] (fun i => ([(0, 1), (1, 1)] : List (Nat × Nat))[i]?) := TBld.struct Try.underlying79 ⟨rfl, Try.sizeOf3, rfl, Try.sizeOf2, trivial⟩
instance : TSz Pr 80 1 false := ⟨Try.sizeOf80, Try.isAgg80⟩
instance : TSl Pr 80 79 := ⟨Try.underlying80⟩
instance : TInfo Pr 80 1 24 [.slice none 0 0] := TInfo.of (z := .slice none 0 0) (by kernel_rfl) rfl
instance : TSz Pr 81 1 true := ⟨Try.sizeOf81, Try.isAgg81⟩
instance : TFld Pr 81 0 0 := TFld.mk' Try.underlying81 rfl rfl Try.sizeOf80 rfl
instance : TInfo Pr 81 1 24 [.slice none 0 0] := TInfo.of (z := .agg #[.slice none 0 0]) (by kernel_rfl) rfl
instance : TBld Pr 81 [.slice none 0 0] (fun i => ([(0, 1)] : List (Nat × Nat))[i]?) := TBld.struct Try.underlying81 ⟨rfl, Try.sizeOf80, trivial⟩
instance : TSz Pr 82 1 true := ⟨Try.sizeOf82, Try.isAgg82⟩
instance : TFld Pr 82 0 0 := TFld.mk' Try.underlying82 rfl rfl Try.sizeOf80 rfl
instance : TInfo Pr 82 1 24 [.slice none 0 0] := TInfo.of (z := .agg #[.slice none 0 0]) (by kernel_rfl) rfl
instance : TBld Pr 82 [.slice none 0 0] (fun i => ([(0, 1)] : List (Nat × Nat))[i]?) := TBld.struct Try.underlying82 ⟨rfl, Try.sizeOf80, trivial⟩
instance : TSz Pr 84 1 false := ⟨Try.sizeOf84, Try.isAgg84⟩
instance : TInfo Pr 84 1 8 [.nilFunc] := TInfo.of (z := .nilFunc) (by kernel_rfl) rfl
instance : TSz Pr 85 1 false := ⟨Try.sizeOf85, Try.isAgg85⟩
instance : TInfo Pr 85 1 8 [.nilFunc] := TInfo.of (z := .nilFunc) (by kernel_rfl) rfl
instance : TSz Pr 86 2 true := ⟨Try.sizeOf86, Try.isAgg86⟩
instance : TFld Pr 86 0 0 := TFld.mk' Try.underlying86 rfl rfl Try.sizeOf5 rfl
instance : TFld Pr 86 1 1 := TFld.mk' Try.underlying86 rfl rfl Try.sizeOf5 rfl
instance : TInfo Pr 86 2 2 [.int .u8 0, .int .u8 0] := TInfo.of (z := .agg #[.int .u8 0, .int .u8 0]) (by kernel_rfl) rfl
instance : TBld Pr 86 [.int .u8 0, .int .u8 0] (fun i => ([(0, 1), (1, 1)] : List (Nat × Nat))[i]?) := TBld.struct Try.underlying86 ⟨rfl, Try.sizeOf5, rfl, Try.sizeOf5, trivial⟩
instance : TSz Pr 87 2 true := ⟨Try.sizeOf87, Try.isAgg87⟩
instance : TFld Pr 87 0 0 := TFld.mk' Try.underlying87 rfl rfl Try.sizeOf5 rfl
instance : TFld Pr 87 1 1 := TFld.mk' Try.underlying87 rfl rfl Try.sizeOf5 rfl
instance : TInfo Pr 87 2 2 [.int .u8 0, .int .u8 0] := TInfo.of (z := .agg #[.int .u8 0, .int .u8 0]) (by kernel_rfl) rfl
instance : TBld Pr 87 [.int .u8 0, .int .u8 0] (fun i => ([(0, 1), (1, 1)] : List (Nat × Nat))[i]?) := TBld.struct Try.underlying87 ⟨rfl, Try.sizeOf5, rfl, Try.sizeOf5, trivial⟩
instance : TSz Pr 88 4 true := ⟨Try.sizeOf88, Try.isAgg88⟩
instance : TFld Pr 88 0 0 := TFld.mk' Try.underlying88 rfl rfl Try.sizeOf5 rfl
instance : TFld Pr 88 1 1 := TFld.mk' Try.underlying88 rfl rfl Try.sizeOf5 rfl
instance : TFld Pr 88 2 2 := TFld.mk' Try.underlying88 rfl rfl Try.sizeOf5 rfl
instance : TFld Pr 88 3 3 := TFld.mk' Try.underlying88 rfl rfl Try.sizeOf5 rfl
instance : TInfo Pr 88 4 4 [.int .u8 0, .int .u8 0, .int .u8 0, .int .u8 0] := TInfo.of (z := .agg #[.int .u8 0, .int .u8 0, .int .u8 0, .int .u8 0]) (by kernel_rfl) rfl
instance : TBld Pr 88 [.int .u8 0, .int .u8 0, .int .u8 0, .int .u8 0] (fun i => ([(0, 1), (1, 1), (2, 1), (3, 1)] : List (Nat × Nat))[i]?) := TBld.struct Try.underlying88 ⟨rfl, Try.sizeOf5, rfl, Try.sizeOf5, rfl, Try.sizeOf5, rfl, Try.sizeOf5, trivial⟩
instance : TSz Pr 89 4 true := ⟨Try.sizeOf89, Try.isAgg89⟩
instance : TFld Pr 89 0 0 := TFld.mk' Try.underlying89 rfl rfl Try.sizeOf5 rfl
instance : TFld Pr 89 1 1 := TFld.mk' Try.underlying89 rfl rfl Try.sizeOf5 rfl
instance : TFld Pr 89 2 2 := TFld.mk' Try.underlying89 rfl rfl Try.sizeOf5 rfl
instance : TFld Pr 89 3 3 := TFld.mk' Try.underlying89 rfl rfl Try.sizeOf5 rfl
instance : TInfo Pr 89 4 4 [.int .u8 0, .int .u8 0, .int .u8 0, .int .u8 0] := TInfo.of (z := .agg #[.int .u8 0, .int .u8 0, .int .u8 0, .int .u8 0]) (by kernel_rfl) rfl
instance : TBld Pr 89 [.int .u8 0, .int .u8 0, .int .u8 0, .int .u8 0] (fun i => ([(0, 1), (1, 1), (2, 1), (3, 1)] : List (Nat × Nat))[i]?) := TBld.struct Try.underlying89 ⟨rfl, Try.sizeOf5, rfl, Try.sizeOf5, rfl, Try.sizeOf5, rfl, Try.sizeOf5, trivial⟩
instance : TSz Pr 90 1 false := ⟨Try.sizeOf90, Try.isAgg90⟩
instance : TInfo Pr 90 1 8 [.nilFunc] := TInfo.of (z := .nilFunc) (by kernel_rfl) rfl
instance : TSz Pr 91 1 false := ⟨Try.sizeOf91, Try.isAgg91⟩
instance : TInfo Pr 91 1 8 [.nilFunc] := TInfo.of (z := .nilFunc) (by kernel_rfl) rfl
instance : TSz Pr 92 1 false := ⟨Try.sizeOf92, Try.isAgg92⟩
instance : TInfo Pr 92 1 8 [.nilFunc] := TInfo.of (z := .nilFunc) (by kernel_rfl) rfl
instance : TSz Pr 93 1 false := ⟨Try.sizeOf93, Try.isAgg93⟩
instance : TInfo Pr 93 1 8 [.nilFunc] := TInfo.of (z := .nilFunc) (by kernel_rfl) rfl
instance : TSz Pr 94 1 false := ⟨Try.sizeOf94, Try.isAgg94⟩
instance : TInfo Pr 94 1 8 [.pointer none] := TInfo.of (z := .pointer none) (by kernel_rfl) rfl
instance : TSz Pr 95 1 false := ⟨Try.sizeOf95, Try.isAgg95⟩
instance : TInfo Pr 95 1 8 [.nilFunc] := TInfo.of (z := .nilFunc) (by kernel_rfl) rfl
instance : TSz Pr 96 1 false := ⟨Try.sizeOf96, Try.isAgg96⟩
instance : TInfo Pr 96 1 8 [.nilFunc] := TInfo.of (z := .nilFunc) (by kernel_rfl) rfl
instance : TSz Pr 97 1 false := ⟨Try.sizeOf97, Try.isAgg97⟩
instance : TInfo Pr 97 1 8 [.nilFunc] := TInfo.of (z := .nilFunc) (by kernel_rfl) rfl
instance : TSz Pr 98 1 false := ⟨Try.sizeOf98, Try.isAgg98⟩
instance : TInfo Pr 98 1 8 [.nilFunc] := TInfo.of (z := .nilFunc) (by kernel_rfl) rfl
instance : TSz Pr 99 1 false := ⟨Try.sizeOf99, Try.isAgg99⟩
instance : TInt Pr 99 .i8 := ⟨Try.underlying99⟩
instance : TInfo Pr 99 1 1 [.int .i8 0] := TInfo.of (z := .int .i8 0) (by kernel_rfl) rfl
instance : TSz Pr 100 1 false := ⟨Try.sizeOf100, Try.isAgg100⟩
instance : TInfo Pr 100 1 8 [.nilFunc] := TInfo.of (z := .nilFunc) (by kernel_rfl) rfl
instance : TSz Pr 101 1 false := ⟨Try.sizeOf101, Try.isAgg101⟩
instance : TInfo Pr 101 1 8 [.nilFunc] := TInfo.of (z := .nilFunc) (by kernel_rfl) rfl
instance : TSz Pr 102 1 false := ⟨Try.sizeOf102, Try.isAgg102⟩
instance : TInfo Pr 102 1 8 [.nilFunc] := TInfo.of (z := .nilFunc) (by kernel_rfl) rfl
instance : TSz Pr 103 1 false := ⟨Try.sizeOf103, Try.isAgg103⟩
instance : TInfo Pr 103 1 8 [.nilFunc] := TInfo.of (z := .nilFunc) (by kernel_rfl) rfl
instance : TSz Pr 104 1 false := ⟨Try.sizeOf104, Try.isAgg104⟩
instance : TInfo Pr 104 1 8 [.nilFunc] := TInfo.of (z := .nilFunc) (by kernel_rfl) rfl
instance : TSz Pr 105 1 false := ⟨Try.sizeOf105, Try.isAgg105⟩
instance : TSl Pr 105 130 := ⟨Try.underlying105⟩
instance : TInfo Pr 105 1 24 [.slice none 0 0] := TInfo.of (z := .slice none 0 0) (by kernel_rfl) rfl
instance : TSz Pr 106 2 true := ⟨Try.sizeOf106, Try.isAgg106⟩
instance : TFld Pr 106 0 0 := TFld.mk' Try.underlying106 rfl rfl Try.sizeOf3 rfl
instance : TFld Pr 106 1 1 := TFld.mk' Try.underlying106 rfl rfl Try.sizeOf105 rfl
instance : TInfo Pr 106 2 32 [.int .i64 0, .slice none 0 0] := TInfo.of (z := .agg #[.int .i64 0, .slice none 0 0]) (by kernel_rfl) rfl
instance : TBld Pr 106 [.int .i64 0, .slice none 0 0] (fun i => ([(0, 1), (1, 1)] : List (Nat × Nat))[i]?) := TBld.struct Try.underlying106 ⟨rfl, Try.sizeOf3, rfl, Try.sizeOf105, trivial⟩
instance : TSz Pr 107 2 true := ⟨Try.sizeOf107, Try.isAgg107⟩
instance : TFld Pr 107 0 0 := TFld.mk' Try.underlying107 rfl rfl Try.sizeOf3 rfl
instance : TFld Pr 107 1 1 := TFld.mk' Try.underlying107 rfl rfl Try.sizeOf105 rfl
instance : TInfo Pr 107 2 32 [.int .i64 0, .slice none 0 0] := TInfo.of (z := .agg #[.int .i64 0, .slice none 0 0]) (by kernel_rfl) rfl
instance : TBld Pr 107 [.int .i64 0, .slice none 0 0] (fun i => ([(0, 1), (1, 1)] : List (Nat × Nat))[i]?) := TBld.struct Try.underlying107 ⟨rfl, Try.sizeOf3, rfl, Try.sizeOf105, trivial⟩
instance : TSz Pr 109 1 false := ⟨Try.sizeOf109, Try.isAgg109⟩
instance : TInfo Pr 109 1 8 [.nilFunc] := TInfo.of (z := .nilFunc) (by kernel_rfl) rfl
instance : TSz Pr 111 1 false := ⟨Try.sizeOf111, Try.isAgg111⟩
instance : TInfo Pr 111 1 8 [.nilFunc] := TInfo.of (z := .nilFunc) (by kernel_rfl) rfl
instance : TSz Pr 113 1 false := ⟨Try.sizeOf113, Try.isAgg113⟩
instance : TInfo Pr 113 1 8 [.nilFunc] := TInfo.of (z := .nilFunc) (by kernel_rfl) rfl
instance : TSz Pr 114 1 false := ⟨Try.sizeOf114, Try.isAgg114⟩
instance : TInfo Pr 114 1 8 [.nilFunc] := TInfo.of (z := .nilFunc) (by kernel_rfl) rfl
instance : TSz Pr 116 1 false := ⟨Try.sizeOf116, Try.isAgg116⟩
instance : TInfo Pr 116 1 8 [.nilFunc] := TInfo.of (z := .nilFunc) (by kernel_rfl) rfl
instance : TSz Pr 117 1 false := ⟨Try.sizeOf117, Try.isAgg117⟩
instance : TInfo Pr 117 1 8 [.nilFunc] := TInfo.of (z := .nilFunc) (by kernel_rfl) rfl
instance : TSz Pr 118 1 false := ⟨Try.sizeOf118, Try.isAgg118⟩
instance : TInfo Pr 118 1 8 [.nilFunc] := TInfo.of (z := .nilFunc) (by kernel_rfl) rfl
instance : TSz Pr 120 1 false := ⟨Try.sizeOf120, Try.isAgg120⟩
instance : TInfo Pr 120 1 8 [.nilFunc] := TInfo.of (z := .nilFunc) (by kernel_rfl) rfl
instance : TSz Pr 122 1 false := ⟨Try.sizeOf122, Try.isAgg122⟩
instance : TInfo Pr 122 1 8 [.nilFunc] := TInfo.of (z := .nilFunc) (by kernel_rfl) rfl
instance : TSz Pr 123 1 false := ⟨Try.sizeOf123, Try.isAgg123⟩
instance : TInfo Pr 123 1 8 [.nilFunc] := TInfo.of (z := .nilFunc) (by kernel_rfl) rfl
instance : TSz Pr 124 1 false := ⟨Try.sizeOf124, Try.isAgg124⟩
instance : TInfo Pr 124 1 8 [.nilFunc] := TInfo.of (z := .nilFunc) (by kernel_rfl) rfl
instance : TSz Pr 125 1 false := ⟨Try.sizeOf125, Try.isAgg125⟩
instance : TInfo Pr 125 1 8 [.nilFunc] := TInfo.of (z := .nilFunc) (by kernel_rfl) rfl
instance : TSz Pr 126 1 false := ⟨Try.sizeOf126, Try.isAgg126⟩
instance : TInfo Pr 126 1 8 [.nilFunc] := TInfo.of (z := .nilFunc) (by kernel_rfl) rfl
instance : TSz Pr 127 1 false := ⟨Try.sizeOf127, Try.isAgg127⟩
instance : TInfo Pr 127 1 8 [.nilFunc] := TInfo.of (z := .nilFunc) (by kernel_rfl) rfl
instance : TSz Pr 128 1 false := ⟨Try.sizeOf128, Try.isAgg128⟩
instance : TInfo Pr 128 1 8 [.nilFunc] := TInfo.of (z := .nilFunc) (by kernel_rfl) rfl
instance : TSz Pr 129 3 true := ⟨Try.sizeOf129, Try.isAgg129⟩
instance : TFld Pr 129 0 0 := TFld.mk' Try.underlying129 rfl rfl Try.sizeOf3 rfl
instance : TFld Pr 129 1 1 := TFld.mk' Try.underlying129 rfl rfl Try.sizeOf3 rfl
instance : TFld Pr 129 2 2 := TFld.mk' Try.underlying129 rfl rfl Try.sizeOf2 rfl
instance : TInfo Pr 129 3 24 [.int .i64 0, .int .i64 0, .int .i64 0] := TInfo.of (z := .agg #[.int .i64 0, .int .i64 0, .int .i64 0]) (by kernel_rfl) rfl
instance : TBld Pr 129 [.int .i64 0, .int .i64 0, .int .i64 0] (fun i => ([(0, 1), (1, 1), (2, 1)] : List (Nat × Nat))[i]?) := TBld.struct Try.underlying129 ⟨rfl, Try.sizeOf3, rfl, Try.sizeOf3, rfl, Try.sizeOf2, trivial⟩
instance : TSz Pr 130 3 true := ⟨Try.sizeOf130, Try.isAgg130⟩
instance : TFld Pr 130 0 0 := TFld.mk' Try.underlying130 rfl rfl Try.sizeOf3 rfl
instance : TFld Pr 130 1 1 := TFld.mk' Try.underlying130 rfl rfl Try.sizeOf3 rfl
instance : TFld Pr 130 2 2 := TFld.mk' Try.underlying130 rfl rfl Try.sizeOf2 rfl
instance : TInfo Pr 130 3 24 [.int .i64 0, .int .i64 0, .int .i64 0] := TInfo.of (z := .agg #[.int .i64 0, .int .i64 0, .int .i64 0]) (by kernel_rfl) rfl
instance : TBld Pr 130 [.int .i64 0, .int .i64 0, .int .i64 0] (fun i => ([(0, 1), (1, 1), (2, 1)] : List (Nat × Nat))[i]?) := TBld.struct Try.underlying130 ⟨rfl, Try.sizeOf3, rfl, Try.sizeOf3, rfl, Try.sizeOf2, trivial⟩
instance : TSz Pr 131 2 true := ⟨Try.sizeOf131, Try.isAgg131⟩
instance : TFld Pr 131 0 0 := TFld.mk' Try.underlying131 rfl rfl Try.sizeOf33 rfl
instance : TFld Pr 131 1 1 := TFld.mk' Try.underlying131 rfl rfl Try.sizeOf66 rfl
instance : TInfo Pr 131 2 48 [.slice none 0 0, .slice none 0 0] := TInfo.of (z := .agg #[.slice none 0 0, .slice none 0 0]) (by kernel_rfl) rfl
instance : TBld Pr 131 [.slice none 0 0, .slice none 0 0] (fun i => ([(0, 1), (1, 1)] : List (Nat × Nat))[i]?) := TBld.struct Try.underlying131 ⟨rfl, Try.sizeOf33, rfl, Try.sizeOf66, trivial⟩
instance : TSz Pr 132 2 true := ⟨Try.sizeOf132, Try.isAgg132⟩
instance : TFld Pr 132 0 0 := TFld.mk' Try.underlying132 rfl rfl Try.sizeOf33 rfl
instance : TFld Pr 132 1 1 := TFld.mk' Try.underlying132 rfl rfl Try.sizeOf66 rfl
instance : TInfo Pr 132 2 48 [.slice none 0 0, .slice none 0 0] := TInfo.of (z := .agg #[.slice none 0 0, .slice none 0 0]) (by kernel_rfl) rfl
instance : TBld Pr 132 [.slice none 0 0, .slice none 0 0] (fun i => ([(0, 1), (1, 1)] : List (Nat × Nat))[i]?) := TBld.struct Try.underlying132 ⟨rfl, Try.sizeOf33, rfl, Try.sizeOf66, trivial⟩
instance : TSz Pr 134 1 false := ⟨Try.sizeOf134, Try.isAgg134⟩
instance : TInfo Pr 134 1 8 [.nilFunc] := TInfo.of (z := .nilFunc) (by kernel_rfl) rfl
instance : TSz Pr 135 1 false := ⟨Try.sizeOf135, Try.isAgg135⟩
instance : TInfo Pr 135 1 8 [.nilFunc] := TInfo.of (z := .nilFunc) (by kernel_rfl) rfl
instance : TSz Pr 136 1 false := ⟨Try.sizeOf136, Try.isAgg136⟩
instance : TInfo Pr 136 1 8 [.nilFunc] := TInfo.of (z := .nilFunc) (by kernel_rfl) rfl
instance : TSz Pr 137 1 false := ⟨Try.sizeOf137, Try.isAgg137⟩
instance : TInfo Pr 137 1 8 [.nilFunc] := TInfo.of (z := .nilFunc) (by kernel_rfl) rfl
instance : TSz Pr 138 1 false := ⟨Try.sizeOf138, Try.isAgg138⟩
instance : TInfo Pr 138 1 8 [.pointer none] := TInfo.of (z := .pointer none) (by kernel_rfl) rfl
instance : TSz Pr 139 3 true := ⟨Try.sizeOf139, Try.isAgg139⟩
instance : TFld Pr 139 0 0 := TFld.mk' Try.underlying139 rfl rfl Try.sizeOf107 rfl
instance : TFld Pr 139 1 2 := TFld.mk' Try.underlying139 rfl rfl Try.sizeOf33 rfl
instance : TInfo Pr 139 3 56 [.int .i64 0, .slice none 0 0, .slice none 0 0] := TInfo.of (z := .agg #[.int .i64 0, .slice none 0 0, .slice none 0 0]) (by kernel_rfl) rfl
instance : TBld Pr 139 [.int .i64 0, .slice none 0 0, .slice none 0 0] (fun i => ([(0, 2), (2, 1)] : List (Nat × Nat))[i]?) := TBld.struct Try.underlying139 ⟨rfl, Try.sizeOf107, rfl, Try.sizeOf33, trivial⟩
instance : TSz Pr 140 3 true := ⟨Try.sizeOf140, Try.isAgg140⟩
instance : TFld Pr 140 0 0 := TFld.mk' Try.underlying140 rfl rfl Try.sizeOf107 rfl
instance : TFld Pr 140 1 2 := TFld.mk' Try.underlying140 rfl rfl Try.sizeOf33 rfl
instance : TInfo Pr 140 3 56 [.int .i64 0, .slice none 0 0, .slice none 0 0] := TInfo.of (z := .agg #[.int .i64 0, .slice none 0 0, .slice none 0 0]) (by kernel_rfl) rfl
instance : TBld Pr 140 [.int .i64 0, .slice none 0 0, .slice none 0 0] (fun i => ([(0, 2), (2, 1)] : List (Nat × Nat))[i]?) := TBld.struct Try.underlying140 ⟨rfl, Try.sizeOf107, rfl, Try.sizeOf33, trivial⟩
instance : TSz Pr 141 1 false := ⟨Try.sizeOf141, Try.isAgg141⟩
instance : TSl Pr 141 66 := ⟨Try.underlying141⟩
instance : TInfo Pr 141 1 24 [.slice none 0 0] := TInfo.of (z := .slice none 0 0) (by kernel_rfl) rfl
instance : TSz Pr 142 1 false := ⟨Try.sizeOf142, Try.isAgg142⟩
instance : TInfo Pr 142 1 8 [.nilFunc] := TInfo.of (z := .nilFunc) (by kernel_rfl) rfl
instance : TSz Pr 143 1 false := ⟨Try.sizeOf143, Try.isAgg143⟩
instance : TInfo Pr 143 1 8 [.nilFunc] := TInfo.of (z := .nilFunc) (by kernel_rfl) rfl
instance : TSz Pr 144 1 false := ⟨Try.sizeOf144, Try.isAgg144⟩
instance : TInfo Pr 144 1 8 [.nilFunc] := TInfo.of (z := .nilFunc) (by kernel_rfl) rfl
instance : TSz Pr 145 1 false := ⟨Try.sizeOf145, Try.isAgg145⟩
instance : TInfo Pr 145 1 8 [.nilFunc] := TInfo.of (z := .nilFunc) (by kernel_rfl) rfl
instance : TSz Pr 147 1 false := ⟨Try.sizeOf147, Try.isAgg147⟩
instance : TInfo Pr 147 1 8 [.nilFunc] := TInfo.of (z := .nilFunc) (by kernel_rfl) rfl
instance : TSz Pr 148 1 false := ⟨Try.sizeOf148, Try.isAgg148⟩
instance : TInfo Pr 148 1 8 [.nilFunc] := TInfo.of (z := .nilFunc) (by kernel_rfl) rfl
instance : TSz Pr 149 1 false := ⟨Try.sizeOf149, Try.isAgg149⟩
instance : TInfo Pr 149 1 8 [.nilFunc] := TInfo.of (z := .nilFunc) (by kernel_rfl) rfl
instance : TSz Pr 150 1 false := ⟨Try.sizeOf150, Try.isAgg150⟩
instance : TInfo Pr 150 1 8 [.nilFunc] := TInfo.of (z := .nilFunc) (by kernel_rfl) rfl
instance : TSz Pr 151 1 false := ⟨Try.sizeOf151, Try.isAgg151⟩
instance : TInfo Pr 151 1 8 [.nilFunc] := TInfo.of (z := .nilFunc) (by kernel_rfl) rfl
instance : TSz Pr 152 1 false := ⟨Try.sizeOf152, Try.isAgg152⟩
instance : TInfo Pr 152 1 8 [.nilFunc] := TInfo.of (z := .nilFunc) (by kernel_rfl) rfl
instance : TSz Pr 153 1 false := ⟨Try.sizeOf153, Try.isAgg153⟩
instance : TInfo Pr 153 1 8 [.nilFunc] := TInfo.of (z := .nilFunc) (by kernel_rfl) rfl
instance : TSz Pr 154 2 true := ⟨Try.sizeOf154, Try.isAgg154⟩
instance : TArr Pr 154 2 29 := ⟨Try.underlying154⟩
instance : TInfo Pr 154 2 48 [.slice none 0 0, .slice none 0 0] := TInfo.of (z := .agg #[.slice none 0 0, .slice none 0 0]) (by kernel_rfl) rfl
instance : TBld Pr 154 [.slice none 0 0, .slice none 0 0] (fun i => some (i * 1, 1)) := TBld.array
instance : TSz Pr 155 1 false := ⟨Try.sizeOf155, Try.isAgg155⟩
instance : TInfo Pr 155 1 8 [.nilFunc] := TInfo.of (z := .nilFunc) (by kernel_rfl) rfl
instance : TSz Pr 156 1 false := ⟨Try.sizeOf156, Try.isAgg156⟩
instance : TInfo Pr 156 1 8 [.nilFunc] := TInfo.of (z := .nilFunc) (by kernel_rfl) rfl
instance : TSz Pr 157 1 false := ⟨Try.sizeOf157, Try.isAgg157⟩
instance : TInfo Pr 157 1 8 [.nilFunc] := TInfo.of (z := .nilFunc) (by kernel_rfl) rfl
instance : TSz Pr 158 1 false := ⟨Try.sizeOf158, Try.isAgg158⟩
instance : TInfo Pr 158 1 8 [.nilFunc] := TInfo.of (z := .nilFunc) (by kernel_rfl) rfl
instance : TSz Pr 159 1 false := ⟨Try.sizeOf159, Try.isAgg159⟩
instance : TSl Pr 159 4 := ⟨Try.underlying159⟩
instance : TInfo Pr 159 1 24 [.slice none 0 0] := TInfo.of (z := .slice none 0 0) (by kernel_rfl) rfl
instance : TSz Pr 160 1 false := ⟨Try.sizeOf160, Try.isAgg160⟩
instance : TInfo Pr 160 1 8 [.pointer none] := TInfo.of (z := .pointer none) (by kernel_rfl) rfl
instance : TSz Pr 161 1 false := ⟨Try.sizeOf161, Try.isAgg161⟩
instance : TInfo Pr 161 1 8 [.nilFunc] := TInfo.of (z := .nilFunc) (by kernel_rfl) rfl
instance : TSz Pr 162 1 false := ⟨Try.sizeOf162, Try.isAgg162⟩
instance : TInfo Pr 162 1 8 [.nilFunc] := TInfo.of (z := .nilFunc) (by kernel_rfl) rfl
instance : TSz Pr 163 2 true := ⟨Try.sizeOf163, Try.isAgg163⟩
instance : TFld Pr 163 0 0 := TFld.mk' Try.underlying163 rfl rfl Try.sizeOf2 rfl
instance : TFld Pr 163 1 1 := TFld.mk' Try.underlying163 rfl rfl Try.sizeOf3 rfl
instance : TInfo Pr 163 2 16 [.int .i64 0, .int .i64 0] := TInfo.of (z := .agg #[.int .i64 0, .int .i64 0]) (by kernel_rfl) rfl
instance : TBld Pr 163 [.int .i64 0, .int .i64 0] (fun i => ([(0, 1), (1, 1)] : List (Nat × Nat))[i]?) := TBld.struct Try.underlying163 ⟨rfl, Try.sizeOf2, rfl, Try.sizeOf3, trivial⟩
instance : TSz Pr 164 2 true := ⟨Try.sizeOf164, Try.isAgg164⟩
instance : TFld Pr 164 0 0 := TFld.mk' Try.underlying164 rfl rfl Try.sizeOf2 rfl
instance : TFld Pr 164 1 1 := TFld.mk' Try.underlying164 rfl rfl Try.sizeOf3 rfl
instance : TInfo Pr 164 2 16 [.int .i64 0, .int .i64 0] := TInfo.of (z := .agg #[.int .i64 0, .int .i64 0]) (by kernel_rfl) rfl
instance : TBld Pr 164 [.int .i64 0, .int .i64 0] (fun i => ([(0, 1), (1, 1)] : List (Nat × Nat))[i]?) := TBld.struct Try.underlying164 ⟨rfl, Try.sizeOf2, rfl, Try.sizeOf3, trivial⟩
instance : TSz Pr 166 1 false := ⟨Try.sizeOf166, Try.isAgg166⟩
instance : TInfo Pr 166 1 8 [.nilFunc] := TInfo.of (z := .nilFunc) (by kernel_rfl) rfl
instance : TSz Pr 167 1 false := ⟨Try.sizeOf167, Try.isAgg167⟩
instance : TInfo Pr 167 1 8 [.nilFunc] := TInfo.of (z := .nilFunc) (by kernel_rfl) rfl
instance : TSz Pr 168 1 false := ⟨Try.sizeOf168, Try.isAgg168⟩
instance : TInfo Pr 168 1 8 [.nilFunc] := TInfo.of (z := .nilFunc) (by kernel_rfl) rfl
instance : TSz Pr 169 1 false := ⟨Try.sizeOf169, Try.isAgg169⟩
instance : TInfo Pr 169 1 8 [.nilFunc] := TInfo.of (z := .nilFunc) (by kernel_rfl) rfl
instance : TSz Pr 170 1 false := ⟨Try.sizeOf170, Try.isAgg170⟩
instance : TInfo Pr 170 1 8 [.nilFunc] := TInfo.of (z := .nilFunc) (by kernel_rfl) rfl
instance : TSz Pr 171 1 false := ⟨Try.sizeOf171, Try.isAgg171⟩
instance : TInfo Pr 171 1 8 [.nilFunc] := TInfo.of (z := .nilFunc) (by kernel_rfl) rfl
instance : TSz Pr 172 1 false := ⟨Try.sizeOf172, Try.isAgg172⟩
instance : TInfo Pr 172 1 8 [.nilFunc] := TInfo.of (z := .nilFunc) (by kernel_rfl) rfl
instance : TSz Pr 173 1 false := ⟨Try.sizeOf173, Try.isAgg173⟩
instance : TSl Pr 173 164 := ⟨Try.underlying173⟩
instance : TInfo Pr 173 1 24 [.slice none 0 0] := TInfo.of (z := .slice none 0 0) (by kernel_rfl) rfl
instance : TSz Pr 174 1 false := ⟨Try.sizeOf174, Try.isAgg174⟩
instance : TSl Pr 174 164 := ⟨Try.underlying174⟩
instance : TInfo Pr 174 1 24 [.slice none 0 0] := TInfo.of (z := .slice none 0 0) (by kernel_rfl) rfl
instance : TSz Pr 175 1 true := ⟨Try.sizeOf175, Try.isAgg175⟩
instance : TFld Pr 175 0 0 := TFld.mk' Try.underlying175 rfl rfl Try.sizeOf174 rfl
instance : TInfo Pr 175 1 24 [.slice none 0 0] := TInfo.of (z := .agg #[.slice none 0 0]) (by kernel_rfl) rfl
instance : TBld Pr 175 [.slice none 0 0] (fun i => ([(0, 1)] : List (Nat × Nat))[i]?) := TBld.struct Try.underlying175 ⟨rfl, Try.sizeOf174, trivial⟩
instance : TSz Pr 176 1 true := ⟨Try.sizeOf176, Try.isAgg176⟩
instance : TFld Pr 176 0 0 := TFld.mk' Try.underlying176 rfl rfl Try.sizeOf174 rfl
instance : TInfo Pr 176 1 24 [.slice none 0 0] := TInfo.of (z := .agg #[.slice none 0 0]) (by kernel_rfl) rfl
instance : TBld Pr 176 [.slice none 0 0] (fun i => ([(0, 1)] : List (Nat × Nat))[i]?) := TBld.struct Try.underlying176 ⟨rfl, Try.sizeOf174, trivial⟩
instance : TSz Pr 177 1 false := ⟨Try.sizeOf177, Try.isAgg177⟩
instance : TInfo Pr 177 1 8 [.nilFunc] := TInfo.of (z := .nilFunc) (by kernel_rfl) rfl
instance : TSz Pr 178 1 false := ⟨Try.sizeOf178, Try.isAgg178⟩
instance : TInfo Pr 178 1 8 [.pointer none] := TInfo.of (z := .pointer none) (by kernel_rfl) rfl
instance : TSz Pr 179 1 false := ⟨Try.sizeOf179, Try.isAgg179⟩
instance : TInfo Pr 179 1 8 [.nilFunc] := TInfo.of (z := .nilFunc) (by kernel_rfl) rfl
instance : TSz Pr 180 1 false := ⟨Try.sizeOf180, Try.isAgg180⟩
instance : TInt Pr 180 .u64 := ⟨Try.underlying180⟩
instance : TInfo Pr 180 1 8 [.int .u64 0] := TInfo.of (z := .int .u64 0) (by kernel_rfl) rfl
instance : TSz Pr 181 1 false := ⟨Try.sizeOf181, Try.isAgg181⟩
instance : TInfo Pr 181 1 16 [.nilIface] := TInfo.of (z := .nilIface) (by kernel_rfl) rfl
instance : TSz Pr 182 1 false := ⟨Try.sizeOf182, Try.isAgg182⟩
instance : TInfo Pr 182 1 16 [.nilIface] := TInfo.of (z := .nilIface) (by kernel_rfl) rfl
instance : TSz Pr 183 1 false := ⟨Try.sizeOf183, Try.isAgg183⟩
instance : TInfo Pr 183 1 8 [.nilFunc] := TInfo.of (z := .nilFunc) (by kernel_rfl) rfl
instance : TSz Pr 184 1 false := ⟨Try.sizeOf184, Try.isAgg184⟩
instance : TInfo Pr 184 1 8 [.nilFunc] := TInfo.of (z := .nilFunc) (by kernel_rfl) rfl
instance : TSz Pr 185 1 false := ⟨Try.sizeOf185, Try.isAgg185⟩
instance : TInfo Pr 185 1 8 [.nilFunc] := TInfo.of (z := .nilFunc) (by kernel_rfl) rfl
instance : TSz Pr 186 1 false := ⟨Try.sizeOf186, Try.isAgg186⟩
instance : TInfo Pr 186 1 8 [.nilFunc] := TInfo.of (z := .nilFunc) (by kernel_rfl) rfl
instance : TSz Pr 187 1 false := ⟨Try.sizeOf187, Try.isAgg187⟩
instance : TInfo Pr 187 1 8 [.nilFunc] := TInfo.of (z := .nilFunc) (by kernel_rfl) rfl
instance : TSz Pr 188 1 false := ⟨Try.sizeOf188, Try.isAgg188⟩
instance : TInfo Pr 188 1 8 [.nilFunc] := TInfo.of (z := .nilFunc) (by kernel_rfl) rfl
instance : TSz Pr 189 4 true := ⟨Try.sizeOf189, Try.isAgg189⟩
instance : TFld Pr 189 0 0 := TFld.mk' Try.underlying189 rfl rfl Try.sizeOf17 rfl
instance : TFld Pr 189 1 1 := TFld.mk' Try.underlying189 rfl rfl Try.sizeOf17 rfl
instance : TFld Pr 189 2 2 := TFld.mk' Try.underlying189 rfl rfl Try.sizeOf17 rfl
instance : TFld Pr 189 3 3 := TFld.mk' Try.underlying189 rfl rfl Try.sizeOf9 rfl
instance : TInfo Pr 189 4 40 [.pointer none, .pointer none, .pointer none, .string ByteArray.empty] := TInfo.of (z := .agg #[.pointer none, .pointer none, .pointer none, .string ByteArray.empty]) (by kernel_rfl) rfl
instance : TBld Pr 189 [.pointer none, .pointer none, .pointer none, .string ByteArray.empty] (fun i => ([(0, 1), (1, 1), (2, 1), (3, 1)] : List (Nat × Nat))[i]?) := TBld.struct Try.underlying189 ⟨rfl, Try.sizeOf17, rfl, Try.sizeOf17, rfl, Try.sizeOf17, rfl, Try.sizeOf9, trivial⟩
instance : TSz Pr 190 4 true := ⟨Try.sizeOf190, Try.isAgg190⟩
instance : TFld Pr 190 0 0 := TFld.mk' Try.underlying190 rfl rfl Try.sizeOf17 rfl
instance : TFld Pr 190 1 1 := TFld.mk' Try.underlying190 rfl rfl Try.sizeOf17 rfl
instance : TFld Pr 190 2 2 := TFld.mk' Try.underlying190 rfl rfl Try.sizeOf17 rfl
instance : TFld Pr 190 3 3 := TFld.mk' Try.underlying190 rfl rfl Try.sizeOf9 rfl
instance : TInfo Pr 190 4 40 [.pointer none, .pointer none, .pointer none, .string ByteArray.empty] := TInfo.of (z := .agg #[.pointer none, .pointer none, .pointer none, .string ByteArray.empty]) (by kernel_rfl) rfl
instance : TBld Pr 190 [.pointer none, .pointer none, .pointer none, .string ByteArray.empty] (fun i => ([(0, 1), (1, 1), (2, 1), (3, 1)] : List (Nat × Nat))[i]?) := TBld.struct Try.underlying190 ⟨rfl, Try.sizeOf17, rfl, Try.sizeOf17, rfl, Try.sizeOf17, rfl, Try.sizeOf9, trivial⟩
instance : TSz Pr 192 0 true := ⟨Try.sizeOf192, Try.isAgg192⟩
instance : TInfo Pr 192 0 0 [] := TInfo.of (z := .agg #[]) (by kernel_rfl) rfl
instance : TBld Pr 192 [] (fun i => ([(0, 0)] : List (Nat × Nat))[i]?) := TBld.struct Try.underlying192 ⟨rfl, Try.sizeOf191, trivial⟩
instance : TSz Pr 193 0 true := ⟨Try.sizeOf193, Try.isAgg193⟩
instance : TInfo Pr 193 0 0 [] := TInfo.of (z := .agg #[]) (by kernel_rfl) rfl
instance : TBld Pr 193 [] (fun i => ([(0, 0)] : List (Nat × Nat))[i]?) := TBld.struct Try.underlying193 ⟨rfl, Try.sizeOf191, trivial⟩
instance : TSz Pr 194 1 false := ⟨Try.sizeOf194, Try.isAgg194⟩
instance : TInt Pr 194 .u32 := ⟨Try.underlying194⟩
instance : TInfo Pr 194 1 4 [.int .u32 0] := TInfo.of (z := .int .u32 0) (by kernel_rfl) rfl
instance : TSz Pr 195 1 false := ⟨Try.sizeOf195, Try.isAgg195⟩
instance : TInt Pr 195 .u8 := ⟨Try.underlying195⟩
instance : TInfo Pr 195 1 1 [.int .u8 0] := TInfo.of (z := .int .u8 0) (by kernel_rfl) rfl
instance : TSz Pr 196 1 false := ⟨Try.sizeOf196, Try.isAgg196⟩
instance : TInt Pr 196 .u8 := ⟨Try.underlying196⟩
instance : TInfo Pr 196 1 1 [.int .u8 0] := TInfo.of (z := .int .u8 0) (by kernel_rfl) rfl
instance : TSz Pr 197 1 false := ⟨Try.sizeOf197, Try.isAgg197⟩
instance : TInfo Pr 197 1 8 [.nilFunc] := TInfo.of (z := .nilFunc) (by kernel_rfl) rfl
instance : TSz Pr 198 1 false := ⟨Try.sizeOf198, Try.isAgg198⟩
instance : TInfo Pr 198 1 8 [.pointer none] := TInfo.of (z := .pointer none) (by kernel_rfl) rfl
instance : TSz Pr 199 1 false := ⟨Try.sizeOf199, Try.isAgg199⟩
instance : TInt Pr 199 .i32 := ⟨Try.underlying199⟩
instance : TInfo Pr 199 1 4 [.int .i32 0] := TInfo.of (z := .int .i32 0) (by kernel_rfl) rfl
instance : TSz Pr 200 1 false := ⟨Try.sizeOf200, Try.isAgg200⟩
instance : TInt Pr 200 .i32 := ⟨Try.underlying200⟩
instance : TInfo Pr 200 1 4 [.int .i32 0] := TInfo.of (z := .int .i32 0) (by kernel_rfl) rfl
instance : TSz Pr 201 11 true := ⟨Try.sizeOf201, Try.isAgg201⟩
instance : TFld Pr 201 0 0 := TFld.mk' Try.underlying201 rfl rfl Try.sizeOf12 rfl
instance : TFld Pr 201 1 1 := TFld.mk' Try.underlying201 rfl rfl Try.sizeOf12 rfl
instance : TFld Pr 201 2 2 := TFld.mk' Try.underlying201 rfl rfl Try.sizeOf194 rfl
instance : TFld Pr 201 3 3 := TFld.mk' Try.underlying201 rfl rfl Try.sizeOf195 rfl
instance : TFld Pr 201 4 4 := TFld.mk' Try.underlying201 rfl rfl Try.sizeOf5 rfl
instance : TFld Pr 201 5 5 := TFld.mk' Try.underlying201 rfl rfl Try.sizeOf5 rfl
instance : TFld Pr 201 6 6 := TFld.mk' Try.underlying201 rfl rfl Try.sizeOf196 rfl
instance : TFld Pr 201 7 7 := TFld.mk' Try.underlying201 rfl rfl Try.sizeOf197 rfl
instance : TFld Pr 201 8 8 := TFld.mk' Try.underlying201 rfl rfl Try.sizeOf198 rfl
instance : TFld Pr 201 9 9 := TFld.mk' Try.underlying201 rfl rfl Try.sizeOf199 rfl
instance : TFld Pr 201 10 10 := TFld.mk' Try.underlying201 rfl rfl Try.sizeOf200 rfl
instance : TInfo Pr 201 11 48 [.int .u64 0, .int .u64 0, .int .u32 0, .int .u8 0, .int .u8 0, .int .u8 0, .int .u8 0, .nilFunc, .pointer none, .int .i32 0, .int .i32 0] := TInfo.of (z := .agg #[.int .u64 0, .int .u64 0, .int .u32 0, .int .u8 0, .int .u8 0, .int .u8 0, .int .u8 0, .nilFunc, .pointer none, .int .i32 0, .int .i32 0]) (by kernel_rfl) rfl
instance : TBld Pr 201 [.int .u64 0, .int .u64 0, .int .u32 0, .int .u8 0, .int .u8 0, .int .u8 0, .int .u8 0, .nilFunc, .pointer none, .int .i32 0, .int .i32 0] (fun i => ([(0, 1), (1, 1), (2, 1), (3, 1), (4, 1), (5, 1), (6, 1), (7, 1), (8, 1), (9, 1), (10, 1)] : List (Nat × Nat))[i]?) := TBld.struct Try.underlying201 ⟨rfl, Try.sizeOf12, rfl, Try.sizeOf12, rfl, Try.sizeOf194, rfl, Try.sizeOf195, rfl, Try.sizeOf5, rfl, Try.sizeOf5, rfl, Try.sizeOf196, rfl, Try.sizeOf197, rfl, Try.sizeOf198, rfl, Try.sizeOf199, rfl, Try.sizeOf200, trivial⟩
instance : TSz Pr 202 11 true := ⟨Try.sizeOf202, Try.isAgg202⟩
instance : TFld Pr 202 0 0 := TFld.mk' Try.underlying202 rfl rfl Try.sizeOf12 rfl
instance : TFld Pr 202 1 1 := TFld.mk' Try.underlying202 rfl rfl Try.sizeOf12 rfl
instance : TFld Pr 202 2 2 := TFld.mk' Try.underlying202 rfl rfl Try.sizeOf194 rfl
instance : TFld Pr 202 3 3 := TFld.mk' Try.underlying202 rfl rfl Try.sizeOf195 rfl
instance : TFld Pr 202 4 4 := TFld.mk' Try.underlying202 rfl rfl Try.sizeOf5 rfl
instance : TFld Pr 202 5 5 := TFld.mk' Try.underlying202 rfl rfl Try.sizeOf5 rfl
instance : TFld Pr 202 6 6 := TFld.mk' Try.underlying202 rfl rfl Try.sizeOf196 rfl
instance : TFld Pr 202 7 7 := TFld.mk' Try.underlying202 rfl rfl Try.sizeOf197 rfl
instance : TFld Pr 202 8 8 := TFld.mk' Try.underlying202 rfl rfl Try.sizeOf198 rfl
instance : TFld Pr 202 9 9 := TFld.mk' Try.underlying202 rfl rfl Try.sizeOf199 rfl
instance : TFld Pr 202 10 10 := TFld.mk' Try.underlying202 rfl rfl Try.sizeOf200 rfl
instance : TInfo Pr 202 11 48 [.int .u64 0, .int .u64 0, .int .u32 0, .int .u8 0, .int .u8 0, .int .u8 0, .int .u8 0, .nilFunc, .pointer none, .int .i32 0, .int .i32 0] := TInfo.of (z := .agg #[.int .u64 0, .int .u64 0, .int .u32 0, .int .u8 0, .int .u8 0, .int .u8 0, .int .u8 0, .nilFunc, .pointer none, .int .i32 0, .int .i32 0]) (by kernel_rfl) rfl
instance : TBld Pr 202 [.int .u64 0, .int .u64 0, .int .u32 0, .int .u8 0, .int .u8 0, .int .u8 0, .int .u8 0, .nilFunc, .pointer none, .int .i32 0, .int .i32 0] (fun i => ([(0, 1), (1, 1), (2, 1), (3, 1), (4, 1), (5, 1), (6, 1), (7, 1), (8, 1), (9, 1), (10, 1)] : List (Nat × Nat))[i]?) := TBld.struct Try.underlying202 ⟨rfl, Try.sizeOf12, rfl, Try.sizeOf12, rfl, Try.sizeOf194, rfl, Try.sizeOf195, rfl, Try.sizeOf5, rfl, Try.sizeOf5, rfl, Try.sizeOf196, rfl, Try.sizeOf197, rfl, Try.sizeOf198, rfl, Try.sizeOf199, rfl, Try.sizeOf200, trivial⟩
instance : TSz Pr 203 1 false := ⟨Try.sizeOf203, Try.isAgg203⟩
instance : TInfo Pr 203 1 8 [.nilFunc] := TInfo.of (z := .nilFunc) (by kernel_rfl) rfl
instance : TSz Pr 204 1 false := ⟨Try.sizeOf204, Try.isAgg204⟩
instance : TInfo Pr 204 1 8 [.nilFunc] := TInfo.of (z := .nilFunc) (by kernel_rfl) rfl
instance : TSz Pr 205 1 false := ⟨Try.sizeOf205, Try.isAgg205⟩
instance : TInfo Pr 205 1 8 [.nilFunc] := TInfo.of (z := .nilFunc) (by kernel_rfl) rfl
instance : TSz Pr 206 1 false := ⟨Try.sizeOf206, Try.isAgg206⟩
instance : TInfo Pr 206 1 8 [.nilFunc] := TInfo.of (z := .nilFunc) (by kernel_rfl) rfl
instance : TSz Pr 207 1 false := ⟨Try.sizeOf207, Try.isAgg207⟩
abbrev ty_law11_Small : TypeId := 26
abbrev ty_law17_Wish : TypeId := 28
abbrev ty_clock_Times : TypeId := 32
abbrev ty_inst_Fleet : TypeId := 36
abbrev ty_inst_Instance : TypeId := 40
abbrev ty_plan_Plan : TypeId := 45
abbrev ty_api_Errno : TypeId := 47
abbrev ty_clock_Ride : TypeId := 53
abbrev ty_law18_Slack : TypeId := 62
abbrev ty_plan_Bike : TypeId := 68
abbrev ty_set_Set : TypeId := 70
abbrev ty_inst_Sat : TypeId := 75
abbrev ty_inst_Customer : TypeId := 77
abbrev ty_plan_Stop : TypeId := 79
abbrev ty_plan_Truck : TypeId := 82
abbrev ty_law11_Sat : TypeId := 87
abbrev ty_law11_Who : TypeId := 89
abbrev ty_graph_Graph : TypeId := 107
abbrev ty_graph_Arc : TypeId := 130
abbrev ty_path_Tree : TypeId := 132
abbrev ty_clock_drafter : TypeId := 140
abbrev ty_pile_Item : TypeId := 164
abbrev ty_pile_row : TypeId := 174
abbrev ty_pile_Pile : TypeId := 176
abbrev ty_i64 : TypeId := 2
abbrev ty_i64_1 : TypeId := 3
abbrev ty_bool : TypeId := 4
abbrev ty_u8 : TypeId := 5
abbrev ty_string : TypeId := 9
abbrev ty_u64 : TypeId := 12
abbrev ty_u64_1 : TypeId := 69
abbrev ty_u64_2 : TypeId := 180
abbrev ty_p_runtime_TypeAssertionError : TypeId := 15
abbrev ty_p_runtime_PanicNilError : TypeId := 16
abbrev ty_p_internal_abi_Type : TypeId := 17
abbrev ty_i32 : TypeId := 21
abbrev ty_s_law11_Sat : TypeId := 22
abbrev ty_s_law11_Who : TypeId := 23
abbrev ty_s_u8 : TypeId := 24
abbrev ty_s_s_i64 : TypeId := 29
abbrev ty_s_s_i64_1 : TypeId := 141
abbrev ty_s_clock_Ride : TypeId := 30
abbrev ty_s_i64 : TypeId := 33
abbrev ty_s_i64_1 : TypeId := 66
abbrev ty_s_inst_Sat : TypeId := 37
abbrev ty_s_inst_Customer : TypeId := 38
abbrev ty_s_plan_Truck : TypeId := 42
abbrev ty_s_plan_Bike : TypeId := 43
abbrev ty_p_i64 : TypeId := 50
abbrev ty_s_clock_Times : TypeId := 54
abbrev ty_s_i8 : TypeId := 60
abbrev ty_s_set_Set : TypeId := 64
abbrev ty_s_plan_Stop : TypeId := 80
abbrev ty_p_plan_Truck : TypeId := 94
abbrev ty_i8 : TypeId := 99
abbrev ty_s_graph_Arc : TypeId := 105
abbrev ty_p_clock_drafter : TypeId := 138
abbrev ty_s_bool : TypeId := 159
abbrev ty_p_pile_Pile : TypeId := 160
abbrev ty_s_pile_Item : TypeId := 173
abbrev ty_p_pile_row : TypeId := 178
abbrev ty_u32 : TypeId := 194
abbrev ty_p_u8 : TypeId := 198
abbrev fn_law18_ClockAny : FuncId := 3
noncomputable abbrev fn_law18_ClockAny_b : Func := Try.f3
theorem fn_law18_ClockAny_f : Pr.funcs[fn_law18_ClockAny]? = some fn_law18_ClockAny_b := Try.func3
instance : TFn Pr 3 := ⟨Try.call3⟩
abbrev fn_law18_ClockMays : FuncId := 4
noncomputable abbrev fn_law18_ClockMays_b : Func := Try.f4
theorem fn_law18_ClockMays_f : Pr.funcs[fn_law18_ClockMays]? = some fn_law18_ClockMays_b := Try.func4
instance : TFn Pr 4 := ⟨Try.call4⟩
abbrev fn_law18_Awake : FuncId := 5
noncomputable abbrev fn_law18_Awake_b : Func := Try.f5
theorem fn_law18_Awake_f : Pr.funcs[fn_law18_Awake]? = some fn_law18_Awake_b := Try.func5
instance : TFn Pr 5 := ⟨Try.call5⟩
abbrev fn_law11_Make : FuncId := 6
noncomputable abbrev fn_law11_Make_b : Func := Try.f6
theorem fn_law11_Make_f : Pr.funcs[fn_law11_Make]? = some fn_law11_Make_b := Try.func6
instance : TFn Pr 6 := ⟨Try.call6⟩
abbrev fn_law17_Draft : FuncId := 7
noncomputable abbrev fn_law17_Draft_b : Func := Try.f7
theorem fn_law17_Draft_f : Pr.funcs[fn_law17_Draft]? = some fn_law17_Draft_b := Try.func7
instance : TFn Pr 7 := ⟨Try.call7⟩
abbrev fn_law17_Code : FuncId := 8
noncomputable abbrev fn_law17_Code_b : Func := Try.f8
theorem fn_law17_Code_f : Pr.funcs[fn_law17_Code]? = some fn_law17_Code_b := Try.func8
instance : TFn Pr 8 := ⟨Try.call8⟩
abbrev fn_law18_Soon : FuncId := 9
noncomputable abbrev fn_law18_Soon_b : Func := Try.f9
theorem fn_law18_Soon_f : Pr.funcs[fn_law18_Soon]? = some fn_law18_Soon_b := Try.func9
instance : TFn Pr 9 := ⟨Try.call9⟩
abbrev fn_law18_ClockAny_c1 : FuncId := 10
noncomputable abbrev fn_law18_ClockAny_c1_b : Func := Try.f10
theorem fn_law18_ClockAny_c1_f : Pr.funcs[fn_law18_ClockAny_c1]? = some fn_law18_ClockAny_c1_b := Try.func10
instance : TFn Pr 10 := ⟨Try.call10⟩
abbrev fn_law18_Fits : FuncId := 11
noncomputable abbrev fn_law18_Fits_b : Func := Try.f11
theorem fn_law18_Fits_f : Pr.funcs[fn_law18_Fits]? = some fn_law18_Fits_b := Try.func11
instance : TFn Pr 11 := ⟨Try.call11⟩
abbrev fn_law18_sane : FuncId := 12
noncomputable abbrev fn_law18_sane_b : Func := Try.f12
theorem fn_law18_sane_f : Pr.funcs[fn_law18_sane]? = some fn_law18_sane_b := Try.func12
instance : TFn Pr 12 := ⟨Try.call12⟩
abbrev fn_law18_Can : FuncId := 13
noncomputable abbrev fn_law18_Can_b : Func := Try.f13
theorem fn_law18_Can_f : Pr.funcs[fn_law18_Can]? = some fn_law18_Can_b := Try.func13
instance : TFn Pr 13 := ⟨Try.call13⟩
abbrev fn_clock_Check : FuncId := 14
noncomputable abbrev fn_clock_Check_b : Func := Try.f14
theorem fn_clock_Check_f : Pr.funcs[fn_clock_Check]? = some fn_clock_Check_b := Try.func14
instance : TFn Pr 14 := ⟨Try.call14⟩
abbrev fn_law18_Moved : FuncId := 15
noncomputable abbrev fn_law18_Moved_b : Func := Try.f15
theorem fn_law18_Moved_f : Pr.funcs[fn_law18_Moved]? = some fn_law18_Moved_b := Try.func15
instance : TFn Pr 15 := ⟨Try.call15⟩
abbrev fn_reach_Mays : FuncId := 16
noncomputable abbrev fn_reach_Mays_b : Func := Try.f16
theorem fn_reach_Mays_f : Pr.funcs[fn_reach_Mays]? = some fn_reach_Mays_b := Try.func16
instance : TFn Pr 16 := ⟨Try.call16⟩
abbrev fn_set_Set_Has : FuncId := 17
noncomputable abbrev fn_set_Set_Has_b : Func := Try.f17
theorem fn_set_Set_Has_f : Pr.funcs[fn_set_Set_Has]? = some fn_set_Set_Has_b := Try.func17
instance : TFn Pr 17 := ⟨Try.call17⟩
abbrev fn_law11_One : FuncId := 18
noncomputable abbrev fn_law11_One_b : Func := Try.f18
theorem fn_law11_One_f : Pr.funcs[fn_law11_One]? = some fn_law11_One_b := Try.func18
instance : TFn Pr 18 := ⟨Try.call18⟩
abbrev fn_clock_Early : FuncId := 19
noncomputable abbrev fn_clock_Early_b : Func := Try.f19
theorem fn_clock_Early_f : Pr.funcs[fn_clock_Early]? = some fn_clock_Early_b := Try.func19
instance : TFn Pr 19 := ⟨Try.call19⟩
abbrev fn_slices_Equal_s_int64_int64 : FuncId := 20
noncomputable abbrev fn_slices_Equal_s_int64_int64_b : Func := Try.f20
theorem fn_slices_Equal_s_int64_int64_f : Pr.funcs[fn_slices_Equal_s_int64_int64]? = some fn_slices_Equal_s_int64_int64_b := Try.func20
instance : TFn Pr 20 := ⟨Try.call20⟩
abbrev fn_law17_Awake : FuncId := 21
noncomputable abbrev fn_law17_Awake_b : Func := Try.f21
theorem fn_law17_Awake_f : Pr.funcs[fn_law17_Awake]? = some fn_law17_Awake_b := Try.func21
instance : TFn Pr 21 := ⟨Try.call21⟩
abbrev fn_law11_square : FuncId := 22
noncomputable abbrev fn_law11_square_b : Func := Try.f22
theorem fn_law11_square_f : Pr.funcs[fn_law11_square]? = some fn_law11_square_b := Try.func22
instance : TFn Pr 22 := ⟨Try.call22⟩
abbrev fn_law11_Nodes : FuncId := 23
noncomputable abbrev fn_law11_Nodes_b : Func := Try.f23
theorem fn_law11_Nodes_f : Pr.funcs[fn_law11_Nodes]? = some fn_law11_Nodes_b := Try.func23
instance : TFn Pr 23 := ⟨Try.call23⟩
abbrev fn_slices_Insert_s_int_int : FuncId := 24
noncomputable abbrev fn_slices_Insert_s_int_int_b : Func := Try.f24
theorem fn_slices_Insert_s_int_int_f : Pr.funcs[fn_slices_Insert_s_int_int]? = some fn_slices_Insert_s_int_int_b := Try.func24
instance : TFn Pr 24 := ⟨Try.call24⟩
abbrev fn_law17_at : FuncId := 25
noncomputable abbrev fn_law17_at_b : Func := Try.f25
theorem fn_law17_at_f : Pr.funcs[fn_law17_at]? = some fn_law17_at_b := Try.func25
instance : TFn Pr 25 := ⟨Try.call25⟩
abbrev fn_law17_Code_c1 : FuncId := 26
noncomputable abbrev fn_law17_Code_c1_b : Func := Try.f26
theorem fn_law17_Code_c1_f : Pr.funcs[fn_law17_Code_c1]? = some fn_law17_Code_c1_b := Try.func26
instance : TFn Pr 26 := ⟨Try.call26⟩
abbrev fn_law11_At : FuncId := 27
noncomputable abbrev fn_law11_At_b : Func := Try.f27
theorem fn_law11_At_f : Pr.funcs[fn_law11_At]? = some fn_law11_At_b := Try.func27
instance : TFn Pr 27 := ⟨Try.call27⟩
abbrev fn_law18_sane_c1 : FuncId := 28
noncomputable abbrev fn_law18_sane_c1_b : Func := Try.f28
theorem fn_law18_sane_c1_f : Pr.funcs[fn_law18_sane_c1]? = some fn_law18_sane_c1_b := Try.func28
instance : TFn Pr 28 := ⟨Try.call28⟩
abbrev fn_plan_Check : FuncId := 29
noncomputable abbrev fn_plan_Check_b : Func := Try.f29
theorem fn_plan_Check_f : Pr.funcs[fn_plan_Check]? = some fn_plan_Check_b := Try.func29
instance : TFn Pr 29 := ⟨Try.call29⟩
abbrev fn_clock_fits : FuncId := 30
noncomputable abbrev fn_clock_fits_b : Func := Try.f30
theorem fn_clock_fits_f : Pr.funcs[fn_clock_fits]? = some fn_clock_fits_b := Try.func30
instance : TFn Pr 30 := ⟨Try.call30⟩
abbrev fn_clock_truck : FuncId := 31
noncomputable abbrev fn_clock_truck_b : Func := Try.f31
theorem fn_clock_truck_f : Pr.funcs[fn_clock_truck]? = some fn_clock_truck_b := Try.func31
instance : TFn Pr 31 := ⟨Try.call31⟩
abbrev fn_clock_bike : FuncId := 32
noncomputable abbrev fn_clock_bike_b : Func := Try.f32
theorem fn_clock_bike_f : Pr.funcs[fn_clock_bike]? = some fn_clock_bike_b := Try.func32
instance : TFn Pr 32 := ⟨Try.call32⟩
abbrev fn_law18_Moved_c1 : FuncId := 33
noncomputable abbrev fn_law18_Moved_c1_b : Func := Try.f33
theorem fn_law18_Moved_c1_f : Pr.funcs[fn_law18_Moved_c1]? = some fn_law18_Moved_c1_b := Try.func33
instance : TFn Pr 33 := ⟨Try.call33⟩
abbrev fn_inst_Instance_Check : FuncId := 34
noncomputable abbrev fn_inst_Instance_Check_b : Func := Try.f34
theorem fn_inst_Instance_Check_f : Pr.funcs[fn_inst_Instance_Check]? = some fn_inst_Instance_Check_b := Try.func34
instance : TFn Pr 34 := ⟨Try.call34⟩
abbrev fn_reach_Ready : FuncId := 35
noncomputable abbrev fn_reach_Ready_b : Func := Try.f35
theorem fn_reach_Ready_f : Pr.funcs[fn_reach_Ready]? = some fn_reach_Ready_b := Try.func35
instance : TFn Pr 35 := ⟨Try.call35⟩
abbrev fn_reach_Out : FuncId := 36
noncomputable abbrev fn_reach_Out_b : Func := Try.f36
theorem fn_reach_Out_f : Pr.funcs[fn_reach_Out]? = some fn_reach_Out_b := Try.func36
instance : TFn Pr 36 := ⟨Try.call36⟩
abbrev fn_reach_Back : FuncId := 37
noncomputable abbrev fn_reach_Back_b : Func := Try.f37
theorem fn_reach_Back_f : Pr.funcs[fn_reach_Back]? = some fn_reach_Back_b := Try.func37
instance : TFn Pr 37 := ⟨Try.call37⟩
abbrev fn_set_Set_With : FuncId := 38
noncomputable abbrev fn_set_Set_With_b : Func := Try.f38
theorem fn_set_Set_With_f : Pr.funcs[fn_set_Set_With]? = some fn_set_Set_With_b := Try.func38
instance : TFn Pr 38 := ⟨Try.call38⟩
abbrev fn_set_in : FuncId := 39
noncomputable abbrev fn_set_in_b : Func := Try.f39
theorem fn_set_in_f : Pr.funcs[fn_set_in]? = some fn_set_in_b := Try.func39
instance : TFn Pr 39 := ⟨Try.call39⟩
abbrev fn_clock_draft : FuncId := 40
noncomputable abbrev fn_clock_draft_b : Func := Try.f40
theorem fn_clock_draft_f : Pr.funcs[fn_clock_draft]? = some fn_clock_draft_b := Try.func40
instance : TFn Pr 40 := ⟨Try.call40⟩
abbrev fn_order_Late : FuncId := 41
noncomputable abbrev fn_order_Late_b : Func := Try.f41
theorem fn_order_Late_f : Pr.funcs[fn_order_Late]? = some fn_order_Late_b := Try.func41
instance : TFn Pr 41 := ⟨Try.call41⟩
abbrev fn_clock_cut : FuncId := 42
noncomputable abbrev fn_clock_cut_b : Func := Try.f42
theorem fn_clock_cut_f : Pr.funcs[fn_clock_cut]? = some fn_clock_cut_b := Try.func42
instance : TFn Pr 42 := ⟨Try.call42⟩
abbrev fn_slices_Clone_s_int64_int64 : FuncId := 43
noncomputable abbrev fn_slices_Clone_s_int64_int64_b : Func := Try.f43
theorem fn_slices_Clone_s_int64_int64_f : Pr.funcs[fn_slices_Clone_s_int64_int64]? = some fn_slices_Clone_s_int64_int64_b := Try.func43
instance : TFn Pr 43 := ⟨Try.call43⟩
abbrev fn_plan_Cost : FuncId := 44
noncomputable abbrev fn_plan_Cost_b : Func := Try.f44
theorem fn_plan_Cost_f : Pr.funcs[fn_plan_Cost]? = some fn_plan_Cost_b := Try.func44
instance : TFn Pr 44 := ⟨Try.call44⟩
abbrev fn_slices_rotateRight_int : FuncId := 46
noncomputable abbrev fn_slices_rotateRight_int_b : Func := Try.f46
theorem fn_slices_rotateRight_int_f : Pr.funcs[fn_slices_rotateRight_int]? = some fn_slices_rotateRight_int_b := Try.func46
instance : TFn Pr 46 := ⟨Try.call46⟩
abbrev fn_plan_Plan_trucks : FuncId := 47
noncomputable abbrev fn_plan_Plan_trucks_b : Func := Try.f47
theorem fn_plan_Plan_trucks_f : Pr.funcs[fn_plan_Plan_trucks]? = some fn_plan_Plan_trucks_b := Try.func47
instance : TFn Pr 47 := ⟨Try.call47⟩
abbrev fn_plan_Plan_bikes : FuncId := 48
noncomputable abbrev fn_plan_Plan_bikes_b : Func := Try.f48
theorem fn_plan_Plan_bikes_f : Pr.funcs[fn_plan_Plan_bikes]? = some fn_plan_Plan_bikes_b := Try.func48
instance : TFn Pr 48 := ⟨Try.call48⟩
abbrev fn_plan_Loads : FuncId := 49
noncomputable abbrev fn_plan_Loads_b : Func := Try.f49
theorem fn_plan_Loads_f : Pr.funcs[fn_plan_Loads]? = some fn_plan_Loads_b := Try.func49
instance : TFn Pr 49 := ⟨Try.call49⟩
abbrev fn_plan_Plan_drops : FuncId := 50
noncomputable abbrev fn_plan_Plan_drops_b : Func := Try.f50
theorem fn_plan_Plan_drops_f : Pr.funcs[fn_plan_Plan_drops]? = some fn_plan_Plan_drops_b := Try.func50
instance : TFn Pr 50 := ⟨Try.call50⟩
abbrev fn_clock_between : FuncId := 51
noncomputable abbrev fn_clock_between_b : Func := Try.f51
theorem fn_clock_between_f : Pr.funcs[fn_clock_between]? = some fn_clock_between_b := Try.func51
instance : TFn Pr 51 := ⟨Try.call51⟩
abbrev fn_inst_Instance_Sat : FuncId := 52
noncomputable abbrev fn_inst_Instance_Sat_b : Func := Try.f52
theorem fn_inst_Instance_Sat_f : Pr.funcs[fn_inst_Instance_Sat]? = some fn_inst_Instance_Sat_b := Try.func52
instance : TFn Pr 52 := ⟨Try.call52⟩
abbrev fn_inst_Instance_Customer : FuncId := 53
noncomputable abbrev fn_inst_Instance_Customer_b : Func := Try.f53
theorem fn_inst_Instance_Customer_f : Pr.funcs[fn_inst_Instance_Customer]? = some fn_inst_Instance_Customer_b := Try.func53
instance : TFn Pr 53 := ⟨Try.call53⟩
abbrev fn_inst_Instance_Check_c1 : FuncId := 54
noncomputable abbrev fn_inst_Instance_Check_c1_b : Func := Try.f54
theorem fn_inst_Instance_Check_c1_f : Pr.funcs[fn_inst_Instance_Check_c1]? = some fn_inst_Instance_Check_c1_b := Try.func54
instance : TFn Pr 54 := ⟨Try.call54⟩
abbrev fn_inst_square : FuncId := 55
noncomputable abbrev fn_inst_square_b : Func := Try.f55
theorem fn_inst_square_f : Pr.funcs[fn_inst_square]? = some fn_inst_square_b := Try.func55
instance : TFn Pr 55 := ⟨Try.call55⟩
abbrev fn_inst_Instance_Nodes : FuncId := 56
noncomputable abbrev fn_inst_Instance_Nodes_b : Func := Try.f56
theorem fn_inst_Instance_Nodes_f : Pr.funcs[fn_inst_Instance_Nodes]? = some fn_inst_Instance_Nodes_b := Try.func56
instance : TFn Pr 56 := ⟨Try.call56⟩
abbrev fn_inst_Instance_numbers : FuncId := 57
noncomputable abbrev fn_inst_Instance_numbers_b : Func := Try.f57
theorem fn_inst_Instance_numbers_f : Pr.funcs[fn_inst_Instance_numbers]? = some fn_inst_Instance_numbers_b := Try.func57
instance : TFn Pr 57 := ⟨Try.call57⟩
abbrev fn_path_Near : FuncId := 58
noncomputable abbrev fn_path_Near_b : Func := Try.f58
theorem fn_path_Near_f : Pr.funcs[fn_path_Near]? = some fn_path_Near_b := Try.func58
instance : TFn Pr 58 := ⟨Try.call58⟩
abbrev fn_reach_there : FuncId := 59
noncomputable abbrev fn_reach_there_b : Func := Try.f59
theorem fn_reach_there_f : Pr.funcs[fn_reach_there]? = some fn_reach_there_b := Try.func59
instance : TFn Pr 59 := ⟨Try.call59⟩
abbrev fn_reach_ways : FuncId := 60
noncomputable abbrev fn_reach_ways_b : Func := Try.f60
theorem fn_reach_ways_f : Pr.funcs[fn_reach_ways]? = some fn_reach_ways_b := Try.func60
instance : TFn Pr 60 := ⟨Try.call60⟩
abbrev fn_graph_Graph_Turned : FuncId := 61
noncomputable abbrev fn_graph_Graph_Turned_b : Func := Try.f61
theorem fn_graph_Graph_Turned_f : Pr.funcs[fn_graph_Graph_Turned]? = some fn_graph_Graph_Turned_b := Try.func61
instance : TFn Pr 61 := ⟨Try.call61⟩
abbrev fn_p_clock_drafter_event : FuncId := 62
noncomputable abbrev fn_p_clock_drafter_event_b : Func := Try.f62
theorem fn_p_clock_drafter_event_f : Pr.funcs[fn_p_clock_drafter_event]? = some fn_p_clock_drafter_event_b := Try.func62
instance : TFn Pr 62 := ⟨Try.call62⟩
abbrev fn_p_clock_drafter_behind : FuncId := 63
noncomputable abbrev fn_p_clock_drafter_behind_b : Func := Try.f63
theorem fn_p_clock_drafter_behind_f : Pr.funcs[fn_p_clock_drafter_behind]? = some fn_p_clock_drafter_behind_b := Try.func63
instance : TFn Pr 63 := ⟨Try.call63⟩
abbrev fn_graph_Graph_Check : FuncId := 64
noncomputable abbrev fn_graph_Graph_Check_b : Func := Try.f64
theorem fn_graph_Graph_Check_f : Pr.funcs[fn_graph_Graph_Check]? = some fn_graph_Graph_Check_b := Try.func64
instance : TFn Pr 64 := ⟨Try.call64⟩
abbrev fn_slices_ContainsFunc_s_int64_int64 : FuncId := 65
noncomputable abbrev fn_slices_ContainsFunc_s_int64_int64_b : Func := Try.f65
theorem fn_slices_ContainsFunc_s_int64_int64_f : Pr.funcs[fn_slices_ContainsFunc_s_int64_int64]? = some fn_slices_ContainsFunc_s_int64_int64_b := Try.func65
instance : TFn Pr 65 := ⟨Try.call65⟩
abbrev fn_order_Late_c1 : FuncId := 66
noncomputable abbrev fn_order_Late_c1_b : Func := Try.f66
theorem fn_order_Late_c1_f : Pr.funcs[fn_order_Late_c1]? = some fn_order_Late_c1_b := Try.func66
instance : TFn Pr 66 := ⟨Try.call66⟩
abbrev fn_order_Sort : FuncId := 67
noncomputable abbrev fn_order_Sort_b : Func := Try.f67
theorem fn_order_Sort_f : Pr.funcs[fn_order_Sort]? = some fn_order_Sort_b := Try.func67
instance : TFn Pr 67 := ⟨Try.call67⟩
abbrev fn_graph_Graph_Out : FuncId := 68
noncomputable abbrev fn_graph_Graph_Out_b : Func := Try.f68
theorem fn_graph_Graph_Out_f : Pr.funcs[fn_graph_Graph_Out]? = some fn_graph_Graph_Out_b := Try.func68
instance : TFn Pr 68 := ⟨Try.call68⟩
abbrev fn_plan_Way : FuncId := 69
noncomputable abbrev fn_plan_Way_b : Func := Try.f69
theorem fn_plan_Way_f : Pr.funcs[fn_plan_Way]? = some fn_plan_Way_b := Try.func69
instance : TFn Pr 69 := ⟨Try.call69⟩
abbrev fn_plan_Truck_Nodes : FuncId := 70
noncomputable abbrev fn_plan_Truck_Nodes_b : Func := Try.f70
theorem fn_plan_Truck_Nodes_f : Pr.funcs[fn_plan_Truck_Nodes]? = some fn_plan_Truck_Nodes_b := Try.func70
instance : TFn Pr 70 := ⟨Try.call70⟩
abbrev fn_plan_Bike_Nodes : FuncId := 71
noncomputable abbrev fn_plan_Bike_Nodes_b : Func := Try.f71
theorem fn_plan_Bike_Nodes_f : Pr.funcs[fn_plan_Bike_Nodes]? = some fn_plan_Bike_Nodes_b := Try.func71
instance : TFn Pr 71 := ⟨Try.call71⟩
abbrev fn_slices_rotateLeft_int : FuncId := 72
noncomputable abbrev fn_slices_rotateLeft_int_b : Func := Try.f72
theorem fn_slices_rotateLeft_int_f : Pr.funcs[fn_slices_rotateLeft_int]? = some fn_slices_rotateLeft_int_b := Try.func72
instance : TFn Pr 72 := ⟨Try.call72⟩
abbrev fn_set_Set_Len : FuncId := 73
noncomputable abbrev fn_set_Set_Len_b : Func := Try.f73
theorem fn_set_Set_Len_f : Pr.funcs[fn_set_Set_Len]? = some fn_set_Set_Len_b := Try.func73
instance : TFn Pr 73 := ⟨Try.call73⟩
abbrev fn_slices_ContainsFunc_s_s_int64_s_int64 : FuncId := 74
noncomputable abbrev fn_slices_ContainsFunc_s_s_int64_s_int64_b : Func := Try.f74
theorem fn_slices_ContainsFunc_s_s_int64_s_int64_f : Pr.funcs[fn_slices_ContainsFunc_s_s_int64_s_int64]? = some fn_slices_ContainsFunc_s_s_int64_s_int64_b := Try.func74
instance : TFn Pr 74 := ⟨Try.call74⟩
abbrev fn_inst_square_c1 : FuncId := 75
noncomputable abbrev fn_inst_square_c1_b : Func := Try.f75
theorem fn_inst_square_c1_f : Pr.funcs[fn_inst_square_c1]? = some fn_inst_square_c1_b := Try.func75
instance : TFn Pr 75 := ⟨Try.call75⟩
abbrev fn_inst_may : FuncId := 76
noncomputable abbrev fn_inst_may_b : Func := Try.f76
theorem fn_inst_may_f : Pr.funcs[fn_inst_may]? = some fn_inst_may_b := Try.func76
instance : TFn Pr 76 := ⟨Try.call76⟩
abbrev fn_path_check : FuncId := 77
noncomputable abbrev fn_path_check_b : Func := Try.f77
theorem fn_path_check_f : Pr.funcs[fn_path_check]? = some fn_path_check_b := Try.func77
instance : TFn Pr 77 := ⟨Try.call77⟩
abbrev fn_slices_ContainsFunc_s_graph_Arc_graph_Arc : FuncId := 78
noncomputable abbrev fn_slices_ContainsFunc_s_graph_Arc_graph_Arc_b : Func := Try.f78
theorem fn_slices_ContainsFunc_s_graph_Arc_graph_Arc_f : Pr.funcs[fn_slices_ContainsFunc_s_graph_Arc_graph_Arc]? = some fn_slices_ContainsFunc_s_graph_Arc_graph_Arc_b := Try.func78
instance : TFn Pr 78 := ⟨Try.call78⟩
abbrev fn_path_Near_c1 : FuncId := 79
noncomputable abbrev fn_path_Near_c1_b : Func := Try.f79
theorem fn_path_Near_c1_f : Pr.funcs[fn_path_Near_c1]? = some fn_path_Near_c1_b := Try.func79
instance : TFn Pr 79 := ⟨Try.call79⟩
abbrev fn_path_start : FuncId := 80
noncomputable abbrev fn_path_start_b : Func := Try.f80
theorem fn_path_start_f : Pr.funcs[fn_path_start]? = some fn_path_start_b := Try.func80
instance : TFn Pr 80 := ⟨Try.call80⟩
abbrev fn_pile_New : FuncId := 81
noncomputable abbrev fn_pile_New_b : Func := Try.f81
theorem fn_pile_New_f : Pr.funcs[fn_pile_New]? = some fn_pile_New_b := Try.func81
instance : TFn Pr 81 := ⟨Try.call81⟩
abbrev fn_p_pile_Pile_Put : FuncId := 82
noncomputable abbrev fn_p_pile_Pile_Put_b : Func := Try.f82
theorem fn_p_pile_Pile_Put_f : Pr.funcs[fn_p_pile_Pile_Put]? = some fn_p_pile_Pile_Put_b := Try.func82
instance : TFn Pr 82 := ⟨Try.call82⟩
abbrev fn_p_pile_Pile_Take : FuncId := 83
noncomputable abbrev fn_p_pile_Pile_Take_b : Func := Try.f83
theorem fn_p_pile_Pile_Take_f : Pr.funcs[fn_p_pile_Pile_Take]? = some fn_p_pile_Pile_Take_b := Try.func83
instance : TFn Pr 83 := ⟨Try.call83⟩
abbrev fn_reach_ways_c1 : FuncId := 84
noncomputable abbrev fn_reach_ways_c1_b : Func := Try.f84
theorem fn_reach_ways_c1_f : Pr.funcs[fn_reach_ways_c1]? = some fn_reach_ways_c1_b := Try.func84
instance : TFn Pr 84 := ⟨Try.call84⟩
abbrev fn_reach_stay : FuncId := 85
noncomputable abbrev fn_reach_stay_b : Func := Try.f85
theorem fn_reach_stay_f : Pr.funcs[fn_reach_stay]? = some fn_reach_stay_b := Try.func85
instance : TFn Pr 85 := ⟨Try.call85⟩
abbrev fn_graph_Graph_Has : FuncId := 86
noncomputable abbrev fn_graph_Graph_Has_b : Func := Try.f86
theorem fn_graph_Graph_Has_f : Pr.funcs[fn_graph_Graph_Has]? = some fn_graph_Graph_Has_b := Try.func86
instance : TFn Pr 86 := ⟨Try.call86⟩
abbrev fn_slices_IndexFunc_s_int64_int64 : FuncId := 87
noncomputable abbrev fn_slices_IndexFunc_s_int64_int64_b : Func := Try.f87
theorem fn_slices_IndexFunc_s_int64_int64_f : Pr.funcs[fn_slices_IndexFunc_s_int64_int64]? = some fn_slices_IndexFunc_s_int64_int64_b := Try.func87
instance : TFn Pr 87 := ⟨Try.call87⟩
abbrev fn_slices_Reverse_s_int_int : FuncId := 88
noncomputable abbrev fn_slices_Reverse_s_int_int_b : Func := Try.f88
theorem fn_slices_Reverse_s_int_int_f : Pr.funcs[fn_slices_Reverse_s_int_int]? = some fn_slices_Reverse_s_int_int_b := Try.func88
instance : TFn Pr 88 := ⟨Try.call88⟩
abbrev fn_math_bits_OnesCount64 : FuncId := 89
noncomputable abbrev fn_math_bits_OnesCount64_b : Func := Try.f89
theorem fn_math_bits_OnesCount64_f : Pr.funcs[fn_math_bits_OnesCount64]? = some fn_math_bits_OnesCount64_b := Try.func89
instance : TFn Pr 89 := ⟨Try.call89⟩
abbrev fn_slices_IndexFunc_s_s_int64_s_int64 : FuncId := 90
noncomputable abbrev fn_slices_IndexFunc_s_s_int64_s_int64_b : Func := Try.f90
theorem fn_slices_IndexFunc_s_s_int64_s_int64_f : Pr.funcs[fn_slices_IndexFunc_s_s_int64_s_int64]? = some fn_slices_IndexFunc_s_s_int64_s_int64_b := Try.func90
instance : TFn Pr 90 := ⟨Try.call90⟩
abbrev fn_slices_IndexFunc_s_graph_Arc_graph_Arc : FuncId := 91
noncomputable abbrev fn_slices_IndexFunc_s_graph_Arc_graph_Arc_b : Func := Try.f91
theorem fn_slices_IndexFunc_s_graph_Arc_graph_Arc_f : Pr.funcs[fn_slices_IndexFunc_s_graph_Arc_graph_Arc]? = some fn_slices_IndexFunc_s_graph_Arc_graph_Arc_b := Try.func91
instance : TFn Pr 91 := ⟨Try.call91⟩
abbrev fn_container_heap_Push : FuncId := 92
noncomputable abbrev fn_container_heap_Push_b : Func := Try.f92
theorem fn_container_heap_Push_f : Pr.funcs[fn_container_heap_Push]? = some fn_container_heap_Push_b := Try.func92
instance : TFn Pr 92 := ⟨Try.call92⟩
abbrev fn_container_heap_Pop : FuncId := 93
noncomputable abbrev fn_container_heap_Pop_b : Func := Try.f93
theorem fn_container_heap_Pop_f : Pr.funcs[fn_container_heap_Pop]? = some fn_container_heap_Pop_b := Try.func93
instance : TFn Pr 93 := ⟨Try.call93⟩
abbrev fn_container_heap_up : FuncId := 94
noncomputable abbrev fn_container_heap_up_b : Func := Try.f94
theorem fn_container_heap_up_f : Pr.funcs[fn_container_heap_up]? = some fn_container_heap_up_b := Try.func94
instance : TFn Pr 94 := ⟨Try.call94⟩
abbrev fn_container_heap_down : FuncId := 95
noncomputable abbrev fn_container_heap_down_b : Func := Try.f95
theorem fn_container_heap_down_f : Pr.funcs[fn_container_heap_down]? = some fn_container_heap_down_b := Try.func95
instance : TFn Pr 95 := ⟨Try.call95⟩
abbrev fn_set_Set_Less : FuncId := 116
noncomputable abbrev fn_set_Set_Less_b : Func := Try.f116
theorem fn_set_Set_Less_f : Pr.funcs[fn_set_Set_Less]? = some fn_set_Set_Less_b := Try.func116
instance : TFn Pr 116 := ⟨Try.call116⟩
abbrev fn_p_pile_Pile_Len : FuncId := 118
noncomputable abbrev fn_p_pile_Pile_Len_b : Func := Try.f118
theorem fn_p_pile_Pile_Len_f : Pr.funcs[fn_p_pile_Pile_Len]? = some fn_p_pile_Pile_Len_b := Try.func118
instance : TFn Pr 118 := ⟨Try.call118⟩
abbrev fn_pile_row_Len : FuncId := 119
noncomputable abbrev fn_pile_row_Len_b : Func := Try.f119
theorem fn_pile_row_Len_f : Pr.funcs[fn_pile_row_Len]? = some fn_pile_row_Len_b := Try.func119
instance : TFn Pr 119 := ⟨Try.call119⟩
abbrev fn_pile_row_Less : FuncId := 120
noncomputable abbrev fn_pile_row_Less_b : Func := Try.f120
theorem fn_pile_row_Less_f : Pr.funcs[fn_pile_row_Less]? = some fn_pile_row_Less_b := Try.func120
instance : TFn Pr 120 := ⟨Try.call120⟩
abbrev fn_pile_row_Swap : FuncId := 121
noncomputable abbrev fn_pile_row_Swap_b : Func := Try.f121
theorem fn_pile_row_Swap_f : Pr.funcs[fn_pile_row_Swap]? = some fn_pile_row_Swap_b := Try.func121
instance : TFn Pr 121 := ⟨Try.call121⟩
abbrev fn_p_pile_row_Pop : FuncId := 122
noncomputable abbrev fn_p_pile_row_Pop_b : Func := Try.f122
theorem fn_p_pile_row_Pop_f : Pr.funcs[fn_p_pile_row_Pop]? = some fn_p_pile_row_Pop_b := Try.func122
instance : TFn Pr 122 := ⟨Try.call122⟩
abbrev fn_p_pile_row_Push : FuncId := 123
noncomputable abbrev fn_p_pile_row_Push_b : Func := Try.f123
theorem fn_p_pile_row_Push_f : Pr.funcs[fn_p_pile_row_Push]? = some fn_p_pile_row_Push_b := Try.func123
instance : TFn Pr 123 := ⟨Try.call123⟩
end Go.Proofs.Ytdeacehacndopaa

namespace Go.Proofs.Ytdeacehacndopaa
open Go.RowKit

abbrev t8 : RTy Int := tI .u8
def U8 (x : Int) : Prop := IntKind.u8.wrap x = x
theorem U8.rng {x : Int} (h : IntKind.u8.wrap x = x) : 0 ≤ x ∧ x ≤ 255 := by
  simp only [IntKind.wrap, IntKind.bits, IntKind.signed] at h
  simp at h
  omega
structure Sat8 where
  Room : Int
  Hold : Int
structure Who where
  Load : Int
  Open : Int
  Wide : Int
  Stay : Int
structure Small where
  End : Int
  Trucks : Int
  TruckRoom : Int
  Bikes : Int
  BikeRoom : Int
  Sats : List Sat8
  Customers : List Who
  Cost : List Int
  Time : List Int
  Tight : Bool
  Loose : Bool
structure Wish where
  Sats : List Int
  Order : List Int
  Cuts : List Int
def tSat8 : RTy Sat8 := tMap (fun x : Sat8 => (x.Room, x.Hold)) (tPair t8 t8)
def tWho : RTy Who := tMap (fun x : Who => (x.Load, x.Open, x.Wide, x.Stay)) (tPair t8 (tPair t8 (tPair t8 t8)))
def tSmall : RTy Small := tMap (fun x : Small => (x.End, x.Trucks, x.TruckRoom, x.Bikes, x.BikeRoom, x.Sats, x.Customers, x.Cost, x.Time, x.Tight, x.Loose))
  (tPair t8 (tPair t8 (tPair t8 (tPair t8 (tPair t8 (tPair (tSl tSat8) (tPair (tSl tWho) (tPair (tSl t8) (tPair (tSl t8) (tPair tB tB))))))))))
def tWish : RTy Wish := tMap (fun x : Wish => (x.Sats, x.Order, x.Cuts)) (tPair (tSl t8) (tPair (tSl t8) (tSl t8)))
instance : Open tSat8 (Unit × Unit) (fun x _ => [.int .u8 x.Room, .int .u8 x.Hold]) (fun _ _ R => R) (fun x => U8 x.Room ∧ U8 x.Hold) := Open.map (f := fun x : Sat8 => (x.Room, x.Hold)) (t := tPair t8 t8)
instance : Open tWho (Unit × Unit × Unit × Unit) (fun x _ => [.int .u8 x.Load, .int .u8 x.Open, .int .u8 x.Wide, .int .u8 x.Stay]) (fun _ _ R => R) (fun x => U8 x.Load ∧ U8 x.Open ∧ U8 x.Wide ∧ U8 x.Stay) :=
  Open.map (f := fun x : Who => (x.Load, x.Open, x.Wide, x.Stay)) (t := tPair t8 (tPair t8 (tPair t8 t8)))
structure HS where
  s : Hdr
  u : Hdr
  k : Hdr
  t : Hdr
@[reducible] def cS (x : Small) (p : HS) : List Value :=
  [.int .u8 x.End, .int .u8 x.Trucks, .int .u8 x.TruckRoom, .int .u8 x.Bikes, .int .u8 x.BikeRoom, .slice p.s.1 x.Sats.length p.s.2, .slice p.u.1 x.Customers.length p.u.2, .slice p.k.1 x.Cost.length p.k.2, .slice p.t.1 x.Time.length p.t.2, .bool x.Tight, .bool x.Loose]
@[reducible] def rS (x : Small) (p : HS) (R : List RF) : List RF := ro tSat8 p.s.1 p.s.2 x.Sats :: ro tWho p.u.1 p.u.2 x.Customers :: ro t8 p.k.1 p.k.2 x.Cost :: ro t8 p.t.1 p.t.2 x.Time :: R
structure OkS (x : Small) : Prop where
  e : U8 x.End
  t : U8 x.Trucks
  tr : U8 x.TruckRoom
  b : U8 x.Bikes
  br : U8 x.BikeRoom
  ls : x.Sats.length ≤ 9223372036854775807
  lu : x.Customers.length ≤ 9223372036854775807
  lk : x.Cost.length ≤ 9223372036854775807
  lt : x.Time.length ≤ 9223372036854775807
instance : Open tSmall HS cS rS OkS :=
  ⟨fun sh w cs x h => by
    obtain ⟨⟨h1, h2, h3, h4, h5, h6, h7, h8, h9, _, _⟩, p, e, hg⟩ := Open.opn (ty := tPair t8 (tPair t8 (tPair t8 (tPair t8 (tPair t8 (tPair (tSl tSat8) (tPair (tSl tWho) (tPair (tSl t8) (tPair (tSl t8) (tPair tB tB)))))))))) sh w cs _ h
    exact ⟨⟨h1, h2, h3, h4, h5, h6, h7, h8, h9⟩, ⟨p.2.2.2.2.2.1, p.2.2.2.2.2.2.1, p.2.2.2.2.2.2.2.1, p.2.2.2.2.2.2.2.2.1⟩, e, hg⟩⟩
structure HW where
  s : Hdr
  o : Hdr
  c : Hdr
@[reducible] def cW (x : Wish) (p : HW) : List Value := [.slice p.s.1 x.Sats.length p.s.2, .slice p.o.1 x.Order.length p.o.2, .slice p.c.1 x.Cuts.length p.c.2]
@[reducible] def rW (x : Wish) (p : HW) (R : List RF) : List RF := ro t8 p.s.1 p.s.2 x.Sats :: ro t8 p.o.1 p.o.2 x.Order :: ro t8 p.c.1 p.c.2 x.Cuts :: R
structure OkW (x : Wish) : Prop where
  s : x.Sats.length ≤ 9223372036854775807
  o : x.Order.length ≤ 9223372036854775807
  c : x.Cuts.length ≤ 9223372036854775807
instance : Open tWish HW cW rW OkW :=
  ⟨fun sh w cs x h => by
    obtain ⟨⟨h1, h2, h3⟩, p, e, hg⟩ := Open.opn (ty := tPair (tSl t8) (tPair (tSl t8) (tSl t8))) sh w cs _ h
    exact ⟨⟨h1, h2, h3⟩, ⟨p.1, p.2.1, p.2.2⟩, e, hg⟩⟩

instance : Cl tSat (fun x => [.int .i64 x.Room, .int .i64 x.Hold]) := Cl.map (f := fun x : Sat => (x.Room, x.Hold)) (t := tPair t64 t64)
instance : Cl tCustomer (fun x => [.int .i64 x.Load, .int .i64 x.Open, .int .i64 x.Close, .int .i64 x.Stay]) := Cl.map (f := fun x : Customer => (x.Load, x.Open, x.Close, x.Stay)) (t := tPair t64 (tPair t64 (tPair t64 t64)))
instance : Cl tStop (fun x => [.int .i64 x.Sat, .int .i64 x.Load]) := Cl.map (f := fun x : Stop => (x.Sat, x.Load)) (t := tPair t64 t64)

/-- an instance of one's own -/
structure Inst0 where
  End : Int
  TM : Int
  TR : Int
  BM : Int
  BR : Int
  s : Row Sat
  u : Row Customer
  k : Row (Row Int)
  t : Row (Row Int)
def Inst0.x (g : Inst0) : Instance := ⟨g.End, ⟨g.TM, g.TR⟩, ⟨g.BM, g.BR⟩, g.s.l, g.u.l, g.k.l.map (·.l), g.t.l.map (·.l)⟩
def Inst0.p (g : Inst0) : HI := ⟨(g.s.a, g.s.c), (g.u.a, g.u.c), (g.k.a, g.k.c), (g.t.a, g.t.c)⟩
@[reducible] def c0 (g : Inst0) : List Value :=
  [.int .i64 g.End, .int .i64 g.TM, .int .i64 g.TR, .int .i64 g.BM, .int .i64 g.BR, .slice g.s.a g.s.l.length g.s.c, .slice g.u.a g.u.l.length g.u.c, .slice g.k.a g.k.l.length g.k.c, .slice g.t.a g.t.l.length g.t.c]
theorem c0_eq (g : Inst0) : c0 g = cI g.x g.p := by simp [Inst0.x, Inst0.p]
@[reducible] def w0 (g : Inst0) (W : List Ent) : List Ent :=
  own ty_inst_Sat tSat g.s.a g.s.c g.s.l :: own ty_inst_Customer tCustomer g.u.a g.u.c g.u.l :: own ty_s_i64 (tH Int) g.k.a g.k.c g.k.l :: grp (g.k.l.map (inr ty_i64 t64)) ::
  own ty_s_i64 (tH Int) g.t.a g.t.c g.t.l :: grp (g.t.l.map (inr ty_i64 t64)) :: W
end Go.Proofs.Ytdeacehacndopaa

namespace Go.Proofs.Ytdeacehacndopaa
open Go.RowKit
/-- what a reading of the row's reads as -/
structure Rd (t : TypeId) {α : Type} (ty : RTy α) : Prop where
  n : Pr.cellsOf t = ty.n
  pos : 0 < ty.n
  opn : ∀ {H : Type} (enc : TypeId × Value → H) (W : World) (fuel : Nat) (cs : List Value) (x : DataW H × List MemPlace),
    DataW.trod enc Pr W 0 (fun _ => true) true fuel t cs = some x → ∃ v : α, ty.rep (fun b => b < W.heap.size) W cs v
theorem wrap_of_wf {k : IntKind} {n : Int} (h : (Lit.int k n).wf = true) : k.wrap n = n := by
  revert h
  cases k <;> simp [Lit.wf, IntKind.wrap, IntKind.min, IntKind.max, IntKind.signed, IntKind.bits] <;> (try split) <;> omega
theorem Rd.int {t : TypeId} {k : IntKind} (ht : Pr.underlying t = some (.int k)) (hn : Pr.cellsOf t = 1) : Rd t (tI k) where
  n := hn
  pos := Nat.one_pos
  opn enc W fuel cs x h := by
    obtain ⟨n, rfl, _, hw⟩ := DataW.trod_int ht h
    exact ⟨n, rfl, wrap_of_wf hw⟩
theorem Rd.bool {t : TypeId} (ht : Pr.underlying t = some .bool) (hn : Pr.cellsOf t = 1) : Rd t tB where
  n := hn
  pos := Nat.one_pos
  opn enc W fuel cs x h := by
    obtain ⟨b, rfl, _⟩ := DataW.trod_bool ht h
    exact ⟨b, rfl⟩
theorem Rd.slice {t e : TypeId} {α : Type} {ty : RTy α} (ht : Pr.underlying t = some (.slice e)) (hn : Pr.cellsOf t = 1) (r : Rd e ty) : Rd t (tSl ty) where
  n := hn
  pos := Nat.one_pos
  opn enc W fuel cs x h := by
    rcases Go.Deep.open_slice ht h with ⟨rfl, _⟩ | ⟨a, len, cap, m, n, D, Pl, rfl, _, hl, hm, hme, _, hel⟩
    · exact ⟨[], none, 0, rfl, Nat.le_refl _, Nat.zero_le _, fun _ => rfl, fun i x hx => by simp at hx⟩
    · simp only [if_true] at hme
      have hv : ∀ i, i < len → ∃ v : α, ∃ cs', W.cells? 0 (a.add (i * Pr.cellsOf e)) (Pr.cellsOf e) = some cs' ∧ ty.rep (fun b => b < W.heap.size) W cs' v := fun i hi => by
        obtain ⟨cs', h1, h2⟩ := hel i (by omega)
        obtain ⟨v, h3⟩ := r.opn enc W n cs' _ h2
        exact ⟨v, cs', h1, h3⟩
      refine ⟨List.ofFn fun i : Fin len => Classical.choose (hv i.1 i.2), some a, cap, by simp, by simpa using hl, hm, fun h => by simp at h, fun i y hy => ?_⟩
      rw [List.getElem?_ofFn] at hy
      split at hy
      · rename_i hi
        simp only [Option.some.injEq] at hy
        subst hy
        obtain ⟨cs', h1, h2⟩ := Classical.choose_spec (hv i hi)
        obtain ⟨c0, h3, _⟩ := Classical.choose_spec (hv 0 (by omega))
        have hpos : 0 < Pr.cellsOf e := by rw [r.n]; exact r.pos
        obtain ⟨_, hlen0, hcell0⟩ := World.cells?_some h3
        have h4 := hcell0 0 hpos
        rw [List.getElem?_eq_getElem (by omega)] at h4
        obtain ⟨g, o, spot⟩ := a
        have hs : spot = none := by simpa [Addr.add] using World.cell?_spot h4
        subst hs
        obtain ⟨_, hlen, hcell⟩ := World.cells?_some h1
        have h5 : ∀ (j : Nat) v, cs'[j]? = some v → W.cell? ⟨g, o + i * ty.n + j, none⟩ = some v := fun j v hj => by
          have hjl : j < cs'.length := (List.getElem?_eq_some_iff.1 hj).1
          have h6 := hcell j (by omega)
          rw [Go.WideShapes.add_plain, Go.WideShapes.add_plain, hj, r.n] at h6
          exact h6
        have h7 := h5 0 _ (List.getElem?_eq_getElem (show 0 < cs'.length by omega))
        refine ⟨g, o, cs', rfl, ?_, h5, h2⟩
        have h8 := h7
        unfold World.cell? at h8
        split at h8
        · rename_i h9
          exact (Array.getElem?_eq_some_iff.1 h9).1
        · cases h8
      · cases hy
theorem Rd.map {α β : Type} {t : TypeId} {ty : RTy α} (f : β → α) (g : α → β) (hg : ∀ v, f (g v) = v) (r : Rd t ty) : Rd t (tMap f ty) where
  n := r.n
  pos := r.pos
  opn enc W fuel cs x h := by
    obtain ⟨v, hv⟩ := r.opn enc W fuel cs x h
    exact ⟨g v, by show ty.rep _ _ _ (f (g v)); rw [hg]; exact hv⟩
/-- some fields, one behind the other -/
structure RdF (fs : List Field) (o : Nat) {α : Type} (ty : RTy α) : Prop where
  go : ∀ {H : Type} (enc : TypeId × Value → H) (W : World) (fuel : Nat) (cs : List Value), cs.length = o + ty.n →
    (∀ f ∈ fs, ∃ x, DataW.trod enc Pr W 0 (fun _ => true) true fuel f.type ((cs.drop f.offset).take (Pr.cellsOf f.type)) = some x) → ∃ v : α, ty.rep (fun b => b < W.heap.size) W (cs.drop o) v
theorem RdF.last {f : Field} {o : Nat} {α : Type} {ty : RTy α} (hf : f.offset = o) (r : Rd f.type ty) : RdF [f] o ty := ⟨by
  intro H enc W fuel cs hl h
  obtain ⟨x, hx⟩ := h f (by simp)
  rw [hf, r.n, List.take_of_length_le (by simp; omega)] at hx
  exact r.opn enc W fuel _ x hx⟩
theorem RdF.cons {f : Field} {fs : List Field} {o : Nat} {α β : Type} {ta : RTy α} {tb : RTy β} (hf : f.offset = o) (r : Rd f.type ta) (h : RdF fs (o + ta.n) tb) : RdF (f :: fs) o (tPair ta tb) := ⟨by
  intro H enc W fuel cs hl hx
  have hl' : cs.length = o + (ta.n + tb.n) := hl
  obtain ⟨x, h1⟩ := hx f (by simp)
  rw [hf, r.n] at h1
  obtain ⟨v, hv⟩ := r.opn enc W fuel _ x h1
  obtain ⟨u, hu⟩ := h.go enc W fuel cs (by omega) (fun g hg => hx g (by simp [hg]))
  refine ⟨(v, u), (cs.drop o).take ta.n, cs.drop (o + ta.n), ?_, hv, hu⟩
  rw [← List.drop_drop, List.take_append_drop]⟩
theorem Rd.struct {t : TypeId} {fs : Array Field} {α : Type} {ty : RTy α} (ht : Pr.underlying t = some (.struct fs)) (hn : Pr.cellsOf t = ty.n) (hp : 0 < ty.n) (h : RdF fs.toList 0 ty) : Rd t ty where
  n := hn
  pos := hp
  opn enc W fuel cs x hx := by
    obtain ⟨xs, n, _, _, hl, hxl, hf⟩ := DataW.trod_struct ht hx
    refine h.go enc W n cs (by omega) (fun f hfm => ?_)
    obtain ⟨i, hi, rfl⟩ := List.mem_iff_getElem.1 hfm
    have hi' : i < fs.size := by simpa using hi
    have h5 := hf i fs[i] (Array.getElem?_eq_getElem hi')
    rw [List.getElem?_eq_getElem (by omega)] at h5
    exact ⟨_, h5⟩

theorem rd5 : Rd 5 t8 := Rd.int Try.underlying5 (by kernel_rfl)
theorem rd2 : Rd 2 t64 := Rd.int Try.underlying2 (by kernel_rfl)
theorem rd4 : Rd 4 tB := Rd.bool Try.underlying4 (by kernel_rfl)
theorem rd24 : Rd 24 (tSl t8) := Rd.slice Try.underlying24 (by kernel_rfl) rd5
theorem rd87 : Rd 87 tSat8 := Rd.map _ (fun v => ⟨v.1, v.2⟩) (fun _ => rfl) (Rd.struct Try.underlying87 (by kernel_rfl) (by decide) (RdF.cons rfl rd5 (RdF.last rfl rd5)))
theorem rd89 : Rd 89 tWho := Rd.map _ (fun v => ⟨v.1, v.2.1, v.2.2.1, v.2.2.2⟩) (fun _ => rfl) (Rd.struct Try.underlying89 (by kernel_rfl) (by decide) (RdF.cons rfl rd5 (RdF.cons rfl rd5 (RdF.cons rfl rd5 (RdF.last rfl rd5)))))
theorem rd22 : Rd 22 (tSl tSat8) := Rd.slice Try.underlying22 (by kernel_rfl) rd87
theorem rd23 : Rd 23 (tSl tWho) := Rd.slice Try.underlying23 (by kernel_rfl) rd89
theorem rd26 : Rd 26 tSmall := Rd.map _ (fun v => ⟨v.1, v.2.1, v.2.2.1, v.2.2.2.1, v.2.2.2.2.1, v.2.2.2.2.2.1, v.2.2.2.2.2.2.1, v.2.2.2.2.2.2.2.1, v.2.2.2.2.2.2.2.2.1, v.2.2.2.2.2.2.2.2.2.1, v.2.2.2.2.2.2.2.2.2.2⟩) (fun _ => rfl)
  (Rd.struct Try.underlying26 (by kernel_rfl) (by decide) (RdF.cons rfl rd5 (RdF.cons rfl rd5 (RdF.cons rfl rd5 (RdF.cons rfl rd5 (RdF.cons rfl rd5 (RdF.cons rfl rd22 (RdF.cons rfl rd23 (RdF.cons rfl rd24 (RdF.cons rfl rd24 (RdF.cons rfl rd4 (RdF.last rfl rd4))))))))))))
theorem rd28 : Rd 28 tWish := Rd.map _ (fun v => ⟨v.1, v.2.1, v.2.2⟩) (fun _ => rfl) (Rd.struct Try.underlying28 (by kernel_rfl) (by decide) (RdF.cons rfl rd24 (RdF.cons rfl rd24 (RdF.last rfl rd24))))
theorem rd33 : Rd 33 (tSl t64) := Rd.slice Try.underlying33 (by kernel_rfl) rd2
theorem rd29 : Rd 29 (tSl (tSl t64)) := Rd.slice Try.underlying29 (by kernel_rfl) rd33
theorem rd53 : Rd 53 tRide := Rd.map _ (fun v => ⟨v.1, v.2.1, v.2.2⟩) (fun _ => rfl) (Rd.struct Try.underlying53 (by kernel_rfl) (by decide) (RdF.cons rfl rd2 (RdF.cons rfl rd33 (RdF.last rfl rd2))))
theorem rd30 : Rd 30 (tSl tRide) := Rd.slice Try.underlying30 (by kernel_rfl) rd53
theorem rd32 : Rd 32 tTimes := Rd.map _ (fun v => ⟨v.1, v.2⟩) (fun _ => rfl) (Rd.struct Try.underlying32 (by kernel_rfl) (by decide) (RdF.cons rfl rd29 (RdF.last rfl rd30)))
end Go.Proofs.Ytdeacehacndopaa

namespace Go.Proofs.Ytdeacehacndopaa

abbrev w64 (n : Int) : Int := IntKind.i64.wrap n
theorem w64_w64 (n : Int) : w64 (w64 n) = w64 n := by
  simp only [w64, IntKind.wrap_i64]; omega
theorem w64_i (n : Int) : I64 (w64 n) := w64_w64 n
theorem w64_id {n : Int} (h : -9223372036854775808 ≤ n ∧ n ≤ 9223372036854775807) : w64 n = n := by
  simp only [w64, IntKind.wrap_i64]; omega

/-- plan.Loads: one customer of one bike -/
def loadsC (x : Instance) (b : Bike) (out : List Int) (c : Int) : List Int :=
  if ((decide (0 ≤ b.Sat) && decide (b.Sat < out.length)) && decide (0 ≤ c)) && decide (c < x.Customers.length) then
    out.set b.Sat.toNat (w64 (out.getD b.Sat.toNat 0 + (x.Customers.getD c.toNat ⟨0, 0, 0, 0⟩).Load)) else out
def loadsF (x : Instance) (l : List Bike) : List Int :=
  l.foldl (fun out b => b.Stops.foldl (loadsC x b) out) (List.replicate x.Sats.length 0)
theorem loadsC_len (x : Instance) (b : Bike) (out : List Int) (c : Int) : (loadsC x b out c).length = out.length := by
  unfold loadsC; split <;> simp
/-- set.With -/
def withF (s n : Int) : Int := if 0 ≤ n ∧ n < 64 then ior .u64 s (ishl .u64 1 n) else s
/-- bits.OnesCount64 -/
def onesF (x : Int) : Int :=
  let u := IntKind.u64.wrap
  let a := u (iand .u64 (ishr .u64 x 1) 6148914691236517205 + iand .u64 x 6148914691236517205)
  let b := u (iand .u64 (ishr .u64 a 2) 3689348814741910323 + iand .u64 a 3689348814741910323)
  let c := iand .u64 (u (ishr .u64 b 4 + b)) 1085102592571150095
  let d := u (c + ishr .u64 c 8)
  let e := u (d + ishr .u64 d 16)
  let f := u (e + ishr .u64 e 32)
  iand .i64 (w64 f) 127

/-! ### inst.Check -/
def mayF (n l : Int) : Bool := decide (l ≤ n) && decide (n ≤ 1000000000)
def idxNe (n : Int) : List (List Int) → Int → Int
  | [], _ => -1
  | r :: t, k => if !decide ((r.length : Int) = n) then k else idxNe n t (k + 1)
def squareF (l : List (List Int)) (n : Int) : Bool := decide ((l.length : Int) = n) && !decide (0 ≤ idxNe n l 0)
def satsF (ok : Bool) (s : Sat) : Bool := (ok && mayF s.Room 0) && mayF s.Hold 0
def custF (ok : Bool) (c : Customer) : Bool := (((ok && mayF c.Load 1) && mayF c.Open 0) && mayF c.Close c.Open) && mayF c.Stay 0
def cellF (i k : Int) (ok : Bool) (n : Int) : Bool := (ok && mayF n 0) && (!decide (i = k) || decide (n = 0))
def rowF (i : Int) : List Int → Int → Bool → Bool
  | [], _, ok => ok
  | n :: r, k, ok => rowF i r (k + 1) (cellF i k ok n)
def matF : List (List Int) → Int → Bool → Bool
  | [], _, ok => ok
  | r :: l, i, ok => matF l (i + 1) (rowF i r 0 ok)
def numbersF (x : Instance) : Bool :=
  matF x.Time 0 (matF x.Cost 0 (x.Customers.foldl custF (x.Sats.foldl satsF ((mayF x.End 0 && mayF x.Trucks.Room 0) && mayF x.Bikes.Room 0))))
def numS (x : Instance) : Bool := x.Sats.foldl satsF ((mayF x.End 0 && mayF x.Trucks.Room 0) && mayF x.Bikes.Room 0)
def numC (x : Instance) : Bool := x.Customers.foldl custF (numS x)
def numI (x : Instance) : Nat → Bool → Prop
  | 0, ok => ok = numC x
  | 1, ok => ok = matF x.Cost 0 (numC x)
  | _, ok => ok = numbersF x
def nodesF (x : Instance) : Int := w64 (w64 (1 + x.Sats.length) + x.Customers.length)
def manyF (n m : Int) : Bool := decide (1 ≤ n) && decide (n ≤ m)
def instCheckF (x : Instance) : Int :=
  if ((!manyF x.Trucks.Many 60 || !manyF x.Bikes.Many 60) || !manyF x.Sats.length 12) || !manyF x.Customers.length 48 then 9
  else if !squareF x.Cost (nodesF x) || !squareF x.Time (nodesF x) then 4
  else if !numbersF x then 2 else 0
end Go.Proofs.Ytdeacehacndopaa
