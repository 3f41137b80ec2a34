/- Lemmas for the claim, part 2. -/
import Derived.Test.YtmalhidldgfeoaaGreatDoorProg
import Derived.KernelRfl
import Derived.Lib.AppendStr
import Derived.Laws.Externs
import Derived.Shelf.Strings.Builder1
import Derived.Shelf.Small.Bits
import Derived.Shelf.Small.Wraps
import Derived.Shelf.Strings.BuilderF
import Derived.Shelf.Strings.BuilderK
import Derived.Shelf.Strconv.Atoi
import Derived.Shelf.Strconv.Itoa0
import Derived.Shelf.Strconv.Itoa1
import Derived.Shelf.LaysM
import Derived.Shelf.Strconv.Itoa2
import Derived.Shelf.Strconv.Itoa3
import Derived.Shelf.Strconv.AtoiErrFast
import Derived.Shelf.Strconv.ParseIntEmpty
import Derived.Shelf.Strconv.AtoiFail
import Derived.Shelf.Strconv.Clone
import Derived.Shelf.Strconv.SyntaxError
import Derived.Shelf.LaysC
import Derived.Shelf.Strconv.ToError
import Derived.Shelf.Strconv.Lower
import Derived.Shelf.Strconv.ParseUint10
import Derived.Shelf.Strconv.ParseUint10Empty
import Derived.Shelf.Strconv.ParseUint10Any
import Derived.Shelf.Strconv.ParseInt10
import Derived.Shelf.Strconv.AtoiLong
import Derived.Shelf.Strconv.AtoiInnerAll
import Derived.Shelf.Strconv.RangeError
import Derived.Shelf.Strconv.ToErrorRange
import Derived.Shelf.Strconv.AtoiAll
import Derived.Shelf.Strconv.ErrVarAll
import Derived.Shelf.Strings.Search1
import Derived.Shelf.Strings.Search2
import Derived.Shelf.Strings.Search3
import Derived.Shelf.Strings.Count
import Derived.Shelf.Strings.Split
import Derived.Shelf.Strings.SplitShaped
import Derived.Shelf.Slices.Turned
import Derived.Shelf.Slices.Equal
import Derived.Ground.Names2Prog
import Derived.Shelf.Slices.Clone
import Derived.Shelf.Slices.SearchI
import Derived.Lib.Split
import Derived.Lib.ItoaNum
import Derived.Lib.AtoiAll
import Derived.Lib.AtoiTie
import Derived.Lib.AppendIntMem
import Derived.WideLaws
import Derived.Lib.SmallJoins
import Derived.Test.YtmalhidldgfeoaaGreatDoorQ1

namespace Go.Proofs.YtmalhidldgfeoaaGreatDoor
open Go.Eng
theorem Ylt : ([(1, ()), (3, ()), (4, ()), (5, ()), (9, ()), (22, ()), (23, ()), (24, ()), (27, ()), (28, ()), (48, ()), (59, ()), (72, ()), (80, ()), (81, ()), (82, ()), (129, ()), (130, ()), (134, ()), (162, ()), (195, ()), (221, ()), (222, ()), (249, ()), (277, ()), (291, ()), (302, ())].all fun x : Nat × Unit => oneT Tryz.prog x.1) = true := by kernel_rfl
theorem Ylo : ([(26, 6), (30, 3), (40, 5), (61, 5), (68, 6), (70, 7), (84, 2), (96, 5), (151, 17), (167, 8), (169, 4), (172, 3), (181, 3), (183, 5), (212, 4), (213, 16), (224, 5), (250, 4), (257, 5), (263, 2), (334, 20), (338, 2), (339, 32), (347, 32), (348, 64)].all fun x : Nat × Nat => aggT Tryz.prog x.1 == some x.2) = true := by kernel_rfl
theorem Ylr : ([(26, 0, 0), (26, 1, 1), (26, 2, 2), (26, 3, 3), (26, 4, 4), (26, 5, 5), (30, 0, 0), (30, 1, 1), (30, 2, 2), (40, 0, 0), (40, 1, 1), (40, 2, 2), (40, 3, 3), (40, 4, 4), (61, 0, 0), (61, 1, 1), (61, 2, 2), (61, 3, 3), (61, 4, 4), (68, 0, 0), (68, 1, 1), (68, 2, 2), (68, 3, 3), (68, 4, 4), (68, 5, 5), (70, 0, 0), (70, 1, 6), (84, 0, 0), (84, 1, 1), (96, 0, 0), (96, 1, 1), (96, 2, 2), (96, 3, 3), (132, 0, 0), (132, 1, 1), (144, 0, 0), (144, 1, 1), (151, 0, 0), (151, 1, 6), (151, 2, 9), (151, 3, 15), (151, 4, 16), (164, 0, 0), (164, 1, 1), (164, 2, 4), (164, 3, 5), (164, 4, 6), (167, 0, 0), (167, 1, 1), (167, 2, 2), (167, 3, 7), (169, 0, 0), (169, 1, 1), (169, 2, 2), (169, 3, 3), (172, 0, 0), (172, 1, 1), (172, 2, 2), (181, 0, 0), (181, 1, 1), (181, 2, 2), (212, 0, 0), (212, 1, 1), (212, 2, 2), (224, 0, 0), (224, 1, 1), (224, 2, 2), (224, 3, 3), (224, 4, 4), (257, 0, 0), (257, 1, 1), (257, 2, 2), (257, 3, 3), (257, 4, 4), (263, 0, 0), (263, 1, 1), (338, 0, 0), (338, 1, 1)].all fun x : Nat × Nat × Nat => V7 Tryz.prog x.1 x.2.1 == some x.2.2) = true := by kernel_rfl
theorem Ylu : ([(22, (24, 1, 24)), (23, (172, 3, 24)), (24, (3, 1, 8)), (27, (68, 6, 48)), (28, (40, 5, 40)), (36, (4, 1, 1)), (37, (28, 1, 24)), (45, (70, 7, 72)), (48, (61, 5, 104)), (59, (72, 1, 24)), (72, (3, 1, 8)), (80, (257, 5, 56)), (81, (167, 8, 64)), (82, (181, 3, 24)), (87, (96, 5, 56)), (130, (5, 1, 1)), (140, (9, 1, 16)), (162, (224, 5, 40))].all fun x : Nat × (Nat × Nat × Nat) => YaL Tryz.prog x.1 == some x.2) = true := by kernel_rfl
theorem Ylp : ([(183, (5, 3, 1)), (213, (4, 212, 4)), (250, (4, 1, 1)), (315, (24, 5, 1)), (334, (20, 277, 1)), (335, (65, 5, 1)), (336, (256, 5, 1)), (339, (16, 338, 2)), (347, (32, 5, 1)), (348, (64, 5, 1))].all fun x : Nat × (Nat × Nat × Nat) => QD Tryz.prog x.1 == some x.2) = true := by kernel_rfl
theorem Yls : ([(2, .i64), (3, .i64), (5, .u8), (21, .i32), (197, .u64), (275, .u32), (277, .u64), (302, .u64)].all fun x : Nat × IntKind => decide (intT Tryz.prog x.1 = some x.2)) = true := by kernel_rfl
theorem Ylv : ([(9, ())].all fun x : Nat × Unit => Yc1 Tryz.prog x.1) = true := by kernel_rfl
def T : Tab Tryz.prog := ⟨_, _, _, _, _, _, _, Ylt, Ylo, Ylr, Ylu, Ylp, Yls, Ylv⟩
theorem Ylw : ([(3, .int .i64 0), (4, .bool false), (5, .int .u8 0), (9, .string ⟨#[]⟩), (24, .slice none 0 0), (26, .agg #[.int .i64 0, .slice none 0 0, .int .i64 0, .int .i64 0, .slice none 0 0, .slice none 0 0]), (28, .slice none 0 0), (30, .agg #[.int .i64 0, .int .i64 0, .slice none 0 0]), (40, .agg #[.int .i64 0, .int .i64 0, .int .i64 0, .int .i64 0, .int .i64 0]), (61, .agg #[.int .i64 0, .slice none 0 0, .slice none 0 0, .slice none 0 0, .slice none 0 0]), (68, .agg #[.int .i64 0, .int .i64 0, .int .i64 0, .int .i64 0, .int .i64 0, .int .i64 0]), (70, .agg #[.int .i64 0, .int .i64 0, .int .i64 0, .int .i64 0, .int .i64 0, .int .i64 0, .slice none 0 0]), (72, .slice none 0 0), (84, .agg #[.slice none 0 0, .slice none 0 0]), (96, .agg #[.int .i64 0, .int .i64 0, .int .i64 0, .int .i64 0, .slice none 0 0]), (132, .agg #[.pointer none, .slice none 0 0]), (144, .agg #[.slice none 0 0, .int .i64 0]), (151, .agg #[.int .i64 0, .slice none 0 0, .int .i64 0, .int .i64 0, .slice none 0 0, .slice none 0 0, .int .i64 0, .int .i64 0, .slice none 0 0, .int .i64 0, .int .i64 0, .int .i64 0, .int .i64 0, .int .i64 0, .int .i64 0, .slice none 0 0, .int .i64 0]), (164, .agg #[.slice none 0 0, .int .i64 0, .int .i64 0, .slice none 0 0, .slice none 0 0, .slice none 0 0, .slice none 0 0, .slice none 0 0]), (167, .agg #[.int .i64 0, .int .i64 0, .int .i64 0, .int .i64 0, .int .i64 0, .int .i64 0, .int .i64 0, .int .i64 0]), (169, .agg #[.int .i64 0, .int .i64 0, .int .i64 0, .int .i64 0]), (172, .agg #[.int .i64 0, .int .i64 0, .int .i64 0]), (181, .agg #[.int .i64 0, .int .i64 0, .int .i64 0]), (183, .agg #[.int .i64 0, .int .i64 0, .int .i64 0, .int .i64 0, .int .i64 0]), (195, .nilFunc), (212, .agg #[.string ⟨#[]⟩, .int .i64 0, .int .i64 0, .int .i64 0]), (213, .agg #[.string ⟨#[]⟩, .int .i64 0, .int .i64 0, .int .i64 0, .string ⟨#[]⟩, .int .i64 0, .int .i64 0, .int .i64 0, .string ⟨#[]⟩, .int .i64 0, .int .i64 0, .int .i64 0, .string ⟨#[]⟩, .int .i64 0, .int .i64 0, .int .i64 0]), (224, .agg #[.int .i64 0, .map none, .map none, .map none, .bool false]), (249, .pointer none), (250, .agg #[.nilFunc, .nilFunc, .nilFunc, .nilFunc]), (257, .agg #[.int .i64 0, .int .i64 0, .int .i64 0, .int .i64 0, .slice none 0 0]), (263, .agg #[.int .i64 0, .int .i64 0]), (302, .int .u64 0), (315, .agg #[.int .u8 0, .int .u8 0, .int .u8 0, .int .u8 0, .int .u8 0, .int .u8 0, .int .u8 0, .int .u8 0, .int .u8 0, .int .u8 0, .int .u8 0, .int .u8 0, .int .u8 0, .int .u8 0, .int .u8 0, .int .u8 0, .int .u8 0, .int .u8 0, .int .u8 0, .int .u8 0, .int .u8 0, .int .u8 0, .int .u8 0, .int .u8 0]), (331, .agg #[.string ⟨#[]⟩, .string ⟨#[]⟩, .nilIface]), (334, .agg #[.int .u64 0, .int .u64 0, .int .u64 0, .int .u64 0, .int .u64 0, .int .u64 0, .int .u64 0, .int .u64 0, .int .u64 0, .int .u64 0, .int .u64 0, .int .u64 0, .int .u64 0, .int .u64 0, .int .u64 0, .int .u64 0, .int .u64 0, .int .u64 0, .int .u64 0, .int .u64 0]), (335, .agg #[.int .u8 0, .int .u8 0, .int .u8 0, .int .u8 0, .int .u8 0, .int .u8 0, .int .u8 0, .int .u8 0, .int .u8 0, .int .u8 0, .int .u8 0, .int .u8 0, .int .u8 0, .int .u8 0, .int .u8 0, .int .u8 0, .int .u8 0, .int .u8 0, .int .u8 0, .int .u8 0, .int .u8 0, .int .u8 0, .int .u8 0, .int .u8 0, .int .u8 0, .int .u8 0, .int .u8 0, .int .u8 0, .int .u8 0, .int .u8 0, .int .u8 0, .int .u8 0, .int .u8 0, .int .u8 0, .int .u8 0, .int .u8 0, .int .u8 0, .int .u8 0, .int .u8 0, .int .u8 0, .int .u8 0, .int .u8 0, .int .u8 0, .int .u8 0, .int .u8 0, .int .u8 0, .int .u8 0, .int .u8 0, .int .u8 0, .int .u8 0, .int .u8 0, .int .u8 0, .int .u8 0, .int .u8 0, .int .u8 0, .int .u8 0, .int .u8 0, .int .u8 0, .int .u8 0, .int .u8 0, .int .u8 0, .int .u8 0, .int .u8 0, .int .u8 0, .int .u8 0]), (338, .agg #[.int .u8 0, .int .u8 0]), (339, .agg #[.int .u8 0, .int .u8 0, .int .u8 0, .int .u8 0, .int .u8 0, .int .u8 0, .int .u8 0, .int .u8 0, .int .u8 0, .int .u8 0, .int .u8 0, .int .u8 0, .int .u8 0, .int .u8 0, .int .u8 0, .int .u8 0, .int .u8 0, .int .u8 0, .int .u8 0, .int .u8 0, .int .u8 0, .int .u8 0, .int .u8 0, .int .u8 0, .int .u8 0, .int .u8 0, .int .u8 0, .int .u8 0, .int .u8 0, .int .u8 0, .int .u8 0, .int .u8 0]), (346, .agg #[.string ⟨#[]⟩]), (347, .agg #[.int .u8 0, .int .u8 0, .int .u8 0, .int .u8 0, .int .u8 0, .int .u8 0, .int .u8 0, .int .u8 0, .int .u8 0, .int .u8 0, .int .u8 0, .int .u8 0, .int .u8 0, .int .u8 0, .int .u8 0, .int .u8 0, .int .u8 0, .int .u8 0, .int .u8 0, .int .u8 0, .int .u8 0, .int .u8 0, .int .u8 0, .int .u8 0, .int .u8 0, .int .u8 0, .int .u8 0, .int .u8 0, .int .u8 0, .int .u8 0, .int .u8 0, .int .u8 0]), (348, .agg #[.int .u8 0, .int .u8 0, .int .u8 0, .int .u8 0, .int .u8 0, .int .u8 0, .int .u8 0, .int .u8 0, .int .u8 0, .int .u8 0, .int .u8 0, .int .u8 0, .int .u8 0, .int .u8 0, .int .u8 0, .int .u8 0, .int .u8 0, .int .u8 0, .int .u8 0, .int .u8 0, .int .u8 0, .int .u8 0, .int .u8 0, .int .u8 0, .int .u8 0, .int .u8 0, .int .u8 0, .int .u8 0, .int .u8 0, .int .u8 0, .int .u8 0, .int .u8 0, .int .u8 0, .int .u8 0, .int .u8 0, .int .u8 0, .int .u8 0, .int .u8 0, .int .u8 0, .int .u8 0, .int .u8 0, .int .u8 0, .int .u8 0, .int .u8 0, .int .u8 0, .int .u8 0, .int .u8 0, .int .u8 0, .int .u8 0, .int .u8 0, .int .u8 0, .int .u8 0, .int .u8 0, .int .u8 0, .int .u8 0, .int .u8 0, .int .u8 0, .int .u8 0, .int .u8 0, .int .u8 0, .int .u8 0, .int .u8 0, .int .u8 0, .int .u8 0])].map fun x : Nat × Value => OZ Tryz.prog x.1) = [(3, .int .i64 0), (4, .bool false), (5, .int .u8 0), (9, .string ⟨#[]⟩), (24, .slice none 0 0), (26, .agg #[.int .i64 0, .slice none 0 0, .int .i64 0, .int .i64 0, .slice none 0 0, .slice none 0 0]), (28, .slice none 0 0), (30, .agg #[.int .i64 0, .int .i64 0, .slice none 0 0]), (40, .agg #[.int .i64 0, .int .i64 0, .int .i64 0, .int .i64 0, .int .i64 0]), (61, .agg #[.int .i64 0, .slice none 0 0, .slice none 0 0, .slice none 0 0, .slice none 0 0]), (68, .agg #[.int .i64 0, .int .i64 0, .int .i64 0, .int .i64 0, .int .i64 0, .int .i64 0]), (70, .agg #[.int .i64 0, .int .i64 0, .int .i64 0, .int .i64 0, .int .i64 0, .int .i64 0, .slice none 0 0]), (72, .slice none 0 0), (84, .agg #[.slice none 0 0, .slice none 0 0]), (96, .agg #[.int .i64 0, .int .i64 0, .int .i64 0, .int .i64 0, .slice none 0 0]), (132, .agg #[.pointer none, .slice none 0 0]), (144, .agg #[.slice none 0 0, .int .i64 0]), (151, .agg #[.int .i64 0, .slice none 0 0, .int .i64 0, .int .i64 0, .slice none 0 0, .slice none 0 0, .int .i64 0, .int .i64 0, .slice none 0 0, .int .i64 0, .int .i64 0, .int .i64 0, .int .i64 0, .int .i64 0, .int .i64 0, .slice none 0 0, .int .i64 0]), (164, .agg #[.slice none 0 0, .int .i64 0, .int .i64 0, .slice none 0 0, .slice none 0 0, .slice none 0 0, .slice none 0 0, .slice none 0 0]), (167, .agg #[.int .i64 0, .int .i64 0, .int .i64 0, .int .i64 0, .int .i64 0, .int .i64 0, .int .i64 0, .int .i64 0]), (169, .agg #[.int .i64 0, .int .i64 0, .int .i64 0, .int .i64 0]), (172, .agg #[.int .i64 0, .int .i64 0, .int .i64 0]), (181, .agg #[.int .i64 0, .int .i64 0, .int .i64 0]), (183, .agg #[.int .i64 0, .int .i64 0, .int .i64 0, .int .i64 0, .int .i64 0]), (195, .nilFunc), (212, .agg #[.string ⟨#[]⟩, .int .i64 0, .int .i64 0, .int .i64 0]), (213, .agg #[.string ⟨#[]⟩, .int .i64 0, .int .i64 0, .int .i64 0, .string ⟨#[]⟩, .int .i64 0, .int .i64 0, .int .i64 0, .string ⟨#[]⟩, .int .i64 0, .int .i64 0, .int .i64 0, .string ⟨#[]⟩, .int .i64 0, .int .i64 0, .int .i64 0]), (224, .agg #[.int .i64 0, .map none, .map none, .map none, .bool false]), (249, .pointer none), (250, .agg #[.nilFunc, .nilFunc, .nilFunc, .nilFunc]), (257, .agg #[.int .i64 0, .int .i64 0, .int .i64 0, .int .i64 0, .slice none 0 0]), (263, .agg #[.int .i64 0, .int .i64 0]), (302, .int .u64 0), (315, .agg #[.int .u8 0, .int .u8 0, .int .u8 0, .int .u8 0, .int .u8 0, .int .u8 0, .int .u8 0, .int .u8 0, .int .u8 0, .int .u8 0, .int .u8 0, .int .u8 0, .int .u8 0, .int .u8 0, .int .u8 0, .int .u8 0, .int .u8 0, .int .u8 0, .int .u8 0, .int .u8 0, .int .u8 0, .int .u8 0, .int .u8 0, .int .u8 0]), (331, .agg #[.string ⟨#[]⟩, .string ⟨#[]⟩, .nilIface]), (334, .agg #[.int .u64 0, .int .u64 0, .int .u64 0, .int .u64 0, .int .u64 0, .int .u64 0, .int .u64 0, .int .u64 0, .int .u64 0, .int .u64 0, .int .u64 0, .int .u64 0, .int .u64 0, .int .u64 0, .int .u64 0, .int .u64 0, .int .u64 0, .int .u64 0, .int .u64 0, .int .u64 0]), (335, .agg #[.int .u8 0, .int .u8 0, .int .u8 0, .int .u8 0, .int .u8 0, .int .u8 0, .int .u8 0, .int .u8 0, .int .u8 0, .int .u8 0, .int .u8 0, .int .u8 0, .int .u8 0, .int .u8 0, .int .u8 0, .int .u8 0, .int .u8 0, .int .u8 0, .int .u8 0, .int .u8 0, .int .u8 0, .int .u8 0, .int .u8 0, .int .u8 0, .int .u8 0, .int .u8 0, .int .u8 0, .int .u8 0, .int .u8 0, .int .u8 0, .int .u8 0, .int .u8 0, .int .u8 0, .int .u8 0, .int .u8 0, .int .u8 0, .int .u8 0, .int .u8 0, .int .u8 0, .int .u8 0, .int .u8 0, .int .u8 0, .int .u8 0, .int .u8 0, .int .u8 0, .int .u8 0, .int .u8 0, .int .u8 0, .int .u8 0, .int .u8 0, .int .u8 0, .int .u8 0, .int .u8 0, .int .u8 0, .int .u8 0, .int .u8 0, .int .u8 0, .int .u8 0, .int .u8 0, .int .u8 0, .int .u8 0, .int .u8 0, .int .u8 0, .int .u8 0, .int .u8 0]), (338, .agg #[.int .u8 0, .int .u8 0]), (339, .agg #[.int .u8 0, .int .u8 0, .int .u8 0, .int .u8 0, .int .u8 0, .int .u8 0, .int .u8 0, .int .u8 0, .int .u8 0, .int .u8 0, .int .u8 0, .int .u8 0, .int .u8 0, .int .u8 0, .int .u8 0, .int .u8 0, .int .u8 0, .int .u8 0, .int .u8 0, .int .u8 0, .int .u8 0, .int .u8 0, .int .u8 0, .int .u8 0, .int .u8 0, .int .u8 0, .int .u8 0, .int .u8 0, .int .u8 0, .int .u8 0, .int .u8 0, .int .u8 0]), (346, .agg #[.string ⟨#[]⟩]), (347, .agg #[.int .u8 0, .int .u8 0, .int .u8 0, .int .u8 0, .int .u8 0, .int .u8 0, .int .u8 0, .int .u8 0, .int .u8 0, .int .u8 0, .int .u8 0, .int .u8 0, .int .u8 0, .int .u8 0, .int .u8 0, .int .u8 0, .int .u8 0, .int .u8 0, .int .u8 0, .int .u8 0, .int .u8 0, .int .u8 0, .int .u8 0, .int .u8 0, .int .u8 0, .int .u8 0, .int .u8 0, .int .u8 0, .int .u8 0, .int .u8 0, .int .u8 0, .int .u8 0]), (348, .agg #[.int .u8 0, .int .u8 0, .int .u8 0, .int .u8 0, .int .u8 0, .int .u8 0, .int .u8 0, .int .u8 0, .int .u8 0, .int .u8 0, .int .u8 0, .int .u8 0, .int .u8 0, .int .u8 0, .int .u8 0, .int .u8 0, .int .u8 0, .int .u8 0, .int .u8 0, .int .u8 0, .int .u8 0, .int .u8 0, .int .u8 0, .int .u8 0, .int .u8 0, .int .u8 0, .int .u8 0, .int .u8 0, .int .u8 0, .int .u8 0, .int .u8 0, .int .u8 0, .int .u8 0, .int .u8 0, .int .u8 0, .int .u8 0, .int .u8 0, .int .u8 0, .int .u8 0, .int .u8 0, .int .u8 0, .int .u8 0, .int .u8 0, .int .u8 0, .int .u8 0, .int .u8 0, .int .u8 0, .int .u8 0, .int .u8 0, .int .u8 0, .int .u8 0, .int .u8 0, .int .u8 0, .int .u8 0, .int .u8 0, .int .u8 0, .int .u8 0, .int .u8 0, .int .u8 0, .int .u8 0, .int .u8 0, .int .u8 0, .int .u8 0, .int .u8 0])].map fun x : Nat × Value => some x.2 := by kernel_rfl
theorem Ylq : ([(26, [(0, 1), (1, 1), (2, 1), (3, 1), (4, 1), (5, 1)]), (30, [(0, 1), (1, 1), (2, 1)]), (40, [(0, 1), (1, 1), (2, 1), (3, 1), (4, 1)]), (61, [(0, 1), (1, 1), (2, 1), (3, 1), (4, 1)]), (68, [(0, 1), (1, 1), (2, 1), (3, 1), (4, 1), (5, 1)]), (70, [(0, 6), (6, 1)]), (84, [(0, 1), (1, 1)]), (96, [(0, 1), (1, 1), (2, 1), (3, 1), (4, 1)]), (144, [(0, 1), (1, 1)]), (151, [(0, 6), (6, 3), (9, 6), (15, 1), (16, 1)]), (164, [(0, 1), (1, 3), (4, 1), (5, 1), (6, 2)]), (167, [(0, 1), (1, 1), (2, 5), (7, 1)]), (169, [(0, 1), (1, 1), (2, 1), (3, 1)]), (172, [(0, 1), (1, 1), (2, 1)]), (181, [(0, 1), (1, 1), (2, 1)]), (183, [(0, 1), (1, 1), (2, 1), (3, 1), (4, 1)]), (212, [(0, 1), (1, 1), (2, 1), (3, 1)]), (213, [(0, 4), (4, 4), (8, 4), (12, 4)]), (224, [(0, 1), (1, 1), (2, 1), (3, 1), (4, 1)]), (250, [(0, 1), (1, 1), (2, 1), (3, 1)]), (257, [(0, 1), (1, 1), (2, 1), (3, 1), (4, 1)]), (263, [(0, 1), (1, 1)]), (331, [(0, 1), (1, 1), (2, 1)]), (334, [(0, 1), (1, 1), (2, 1), (3, 1), (4, 1), (5, 1), (6, 1), (7, 1), (8, 1), (9, 1), (10, 1), (11, 1), (12, 1), (13, 1), (14, 1), (15, 1), (16, 1), (17, 1), (18, 1), (19, 1)]), (338, [(0, 1), (1, 1)]), (339, [(0, 2), (2, 2), (4, 2), (6, 2), (8, 2), (10, 2), (12, 2), (14, 2), (16, 2), (18, 2), (20, 2), (22, 2), (24, 2), (26, 2), (28, 2), (30, 2)]), (346, [(0, 1)]), (347, [(0, 1), (1, 1), (2, 1), (3, 1), (4, 1), (5, 1), (6, 1), (7, 1), (8, 1), (9, 1), (10, 1), (11, 1), (12, 1), (13, 1), (14, 1), (15, 1), (16, 1), (17, 1), (18, 1), (19, 1), (20, 1), (21, 1), (22, 1), (23, 1), (24, 1), (25, 1), (26, 1), (27, 1), (28, 1), (29, 1), (30, 1), (31, 1)]), (348, [(0, 1), (1, 1), (2, 1), (3, 1), (4, 1), (5, 1), (6, 1), (7, 1), (8, 1), (9, 1), (10, 1), (11, 1), (12, 1), (13, 1), (14, 1), (15, 1), (16, 1), (17, 1), (18, 1), (19, 1), (20, 1), (21, 1), (22, 1), (23, 1), (24, 1), (25, 1), (26, 1), (27, 1), (28, 1), (29, 1), (30, 1), (31, 1), (32, 1), (33, 1), (34, 1), (35, 1), (36, 1), (37, 1), (38, 1), (39, 1), (40, 1), (41, 1), (42, 1), (43, 1), (44, 1), (45, 1), (46, 1), (47, 1), (48, 1), (49, 1), (50, 1), (51, 1), (52, 1), (53, 1), (54, 1), (55, 1), (56, 1), (57, 1), (58, 1), (59, 1), (60, 1), (61, 1), (62, 1), (63, 1)])].map fun x : Nat × List (Nat × Nat) => YaP Tryz.prog x.1) = [(26, [(0, 1), (1, 1), (2, 1), (3, 1), (4, 1), (5, 1)]), (30, [(0, 1), (1, 1), (2, 1)]), (40, [(0, 1), (1, 1), (2, 1), (3, 1), (4, 1)]), (61, [(0, 1), (1, 1), (2, 1), (3, 1), (4, 1)]), (68, [(0, 1), (1, 1), (2, 1), (3, 1), (4, 1), (5, 1)]), (70, [(0, 6), (6, 1)]), (84, [(0, 1), (1, 1)]), (96, [(0, 1), (1, 1), (2, 1), (3, 1), (4, 1)]), (144, [(0, 1), (1, 1)]), (151, [(0, 6), (6, 3), (9, 6), (15, 1), (16, 1)]), (164, [(0, 1), (1, 3), (4, 1), (5, 1), (6, 2)]), (167, [(0, 1), (1, 1), (2, 5), (7, 1)]), (169, [(0, 1), (1, 1), (2, 1), (3, 1)]), (172, [(0, 1), (1, 1), (2, 1)]), (181, [(0, 1), (1, 1), (2, 1)]), (183, [(0, 1), (1, 1), (2, 1), (3, 1), (4, 1)]), (212, [(0, 1), (1, 1), (2, 1), (3, 1)]), (213, [(0, 4), (4, 4), (8, 4), (12, 4)]), (224, [(0, 1), (1, 1), (2, 1), (3, 1), (4, 1)]), (250, [(0, 1), (1, 1), (2, 1), (3, 1)]), (257, [(0, 1), (1, 1), (2, 1), (3, 1), (4, 1)]), (263, [(0, 1), (1, 1)]), (331, [(0, 1), (1, 1), (2, 1)]), (334, [(0, 1), (1, 1), (2, 1), (3, 1), (4, 1), (5, 1), (6, 1), (7, 1), (8, 1), (9, 1), (10, 1), (11, 1), (12, 1), (13, 1), (14, 1), (15, 1), (16, 1), (17, 1), (18, 1), (19, 1)]), (338, [(0, 1), (1, 1)]), (339, [(0, 2), (2, 2), (4, 2), (6, 2), (8, 2), (10, 2), (12, 2), (14, 2), (16, 2), (18, 2), (20, 2), (22, 2), (24, 2), (26, 2), (28, 2), (30, 2)]), (346, [(0, 1)]), (347, [(0, 1), (1, 1), (2, 1), (3, 1), (4, 1), (5, 1), (6, 1), (7, 1), (8, 1), (9, 1), (10, 1), (11, 1), (12, 1), (13, 1), (14, 1), (15, 1), (16, 1), (17, 1), (18, 1), (19, 1), (20, 1), (21, 1), (22, 1), (23, 1), (24, 1), (25, 1), (26, 1), (27, 1), (28, 1), (29, 1), (30, 1), (31, 1)]), (348, [(0, 1), (1, 1), (2, 1), (3, 1), (4, 1), (5, 1), (6, 1), (7, 1), (8, 1), (9, 1), (10, 1), (11, 1), (12, 1), (13, 1), (14, 1), (15, 1), (16, 1), (17, 1), (18, 1), (19, 1), (20, 1), (21, 1), (22, 1), (23, 1), (24, 1), (25, 1), (26, 1), (27, 1), (28, 1), (29, 1), (30, 1), (31, 1), (32, 1), (33, 1), (34, 1), (35, 1), (36, 1), (37, 1), (38, 1), (39, 1), (40, 1), (41, 1), (42, 1), (43, 1), (44, 1), (45, 1), (46, 1), (47, 1), (48, 1), (49, 1), (50, 1), (51, 1), (52, 1), (53, 1), (54, 1), (55, 1), (56, 1), (57, 1), (58, 1), (59, 1), (60, 1), (61, 1), (62, 1), (63, 1)])].map fun x : Nat × List (Nat × Nat) => some x.2 := by kernel_rfl
def T2 : Tab2 Tryz.prog := ⟨_, _, Ylw, Ylq⟩
theorem en12 (xs : Array Value) (w : World) : (callFunc 12 xs).run Tryz.prog w = .ok (.enter 12 xs) w := by kernel_rfl
theorem en13 (xs : Array Value) (w : World) : (callFunc 13 xs).run Tryz.prog w = .ok (.enter 13 xs) w := by kernel_rfl
theorem en14 (xs : Array Value) (w : World) : (callFunc 14 xs).run Tryz.prog w = .ok (.enter 14 xs) w := by kernel_rfl
theorem en17 (xs : Array Value) (w : World) : (callFunc 17 xs).run Tryz.prog w = .ok (.enter 17 xs) w := by kernel_rfl
theorem en18 (xs : Array Value) (w : World) : (callFunc 18 xs).run Tryz.prog w = .ok (.enter 18 xs) w := by kernel_rfl
theorem en19 (xs : Array Value) (w : World) : (callFunc 19 xs).run Tryz.prog w = .ok (.enter 19 xs) w := by kernel_rfl
theorem en21 (xs : Array Value) (w : World) : (callFunc 21 xs).run Tryz.prog w = .ok (.enter 21 xs) w := by kernel_rfl
theorem en23 (xs : Array Value) (w : World) : (callFunc 23 xs).run Tryz.prog w = .ok (.enter 23 xs) w := by kernel_rfl
theorem en25 (xs : Array Value) (w : World) : (callFunc 25 xs).run Tryz.prog w = .ok (.enter 25 xs) w := by kernel_rfl
theorem en27 (xs : Array Value) (w : World) : (callFunc 27 xs).run Tryz.prog w = .ok (.enter 27 xs) w := by kernel_rfl
theorem en32 (xs : Array Value) (w : World) : (callFunc 32 xs).run Tryz.prog w = .ok (.enter 32 xs) w := by kernel_rfl
theorem en33 (xs : Array Value) (w : World) : (callFunc 33 xs).run Tryz.prog w = .ok (.enter 33 xs) w := by kernel_rfl
theorem en34 (xs : Array Value) (w : World) : (callFunc 34 xs).run Tryz.prog w = .ok (.enter 34 xs) w := by kernel_rfl
theorem en37 (xs : Array Value) (w : World) : (callFunc 37 xs).run Tryz.prog w = .ok (.enter 37 xs) w := by kernel_rfl
theorem en38 (xs : Array Value) (w : World) : (callFunc 38 xs).run Tryz.prog w = .ok (.enter 38 xs) w := by kernel_rfl
theorem en39 (xs : Array Value) (w : World) : (callFunc 39 xs).run Tryz.prog w = .ok (.enter 39 xs) w := by kernel_rfl
theorem en40 (xs : Array Value) (w : World) : (callFunc 40 xs).run Tryz.prog w = .ok (.enter 40 xs) w := by kernel_rfl
theorem en41 (xs : Array Value) (w : World) : (callFunc 41 xs).run Tryz.prog w = .ok (.enter 41 xs) w := by kernel_rfl
theorem en42 (xs : Array Value) (w : World) : (callFunc 42 xs).run Tryz.prog w = .ok (.enter 42 xs) w := by kernel_rfl
theorem en43 (xs : Array Value) (w : World) : (callFunc 43 xs).run Tryz.prog w = .ok (.enter 43 xs) w := by kernel_rfl
theorem en44 (xs : Array Value) (w : World) : (callFunc 44 xs).run Tryz.prog w = .ok (.enter 44 xs) w := by kernel_rfl
theorem en45 (xs : Array Value) (w : World) : (callFunc 45 xs).run Tryz.prog w = .ok (.enter 45 xs) w := by kernel_rfl
theorem en47 (xs : Array Value) (w : World) : (callFunc 47 xs).run Tryz.prog w = .ok (.enter 47 xs) w := by kernel_rfl
theorem en50 (xs : Array Value) (w : World) : (callFunc 50 xs).run Tryz.prog w = .ok (.enter 50 xs) w := by kernel_rfl
theorem en51 (xs : Array Value) (w : World) : (callFunc 51 xs).run Tryz.prog w = .ok (.enter 51 xs) w := by kernel_rfl
theorem en52 (xs : Array Value) (w : World) : (callFunc 52 xs).run Tryz.prog w = .ok (.enter 52 xs) w := by kernel_rfl
theorem en53 (xs : Array Value) (w : World) : (callFunc 53 xs).run Tryz.prog w = .ok (.enter 53 xs) w := by kernel_rfl
theorem en54 (xs : Array Value) (w : World) : (callFunc 54 xs).run Tryz.prog w = .ok (.enter 54 xs) w := by kernel_rfl
theorem en55 (xs : Array Value) (w : World) : (callFunc 55 xs).run Tryz.prog w = .ok (.enter 55 xs) w := by kernel_rfl
theorem en56 (xs : Array Value) (w : World) : (callFunc 56 xs).run Tryz.prog w = .ok (.enter 56 xs) w := by kernel_rfl
theorem en57 (xs : Array Value) (w : World) : (callFunc 57 xs).run Tryz.prog w = .ok (.enter 57 xs) w := by kernel_rfl
theorem en58 (xs : Array Value) (w : World) : (callFunc 58 xs).run Tryz.prog w = .ok (.enter 58 xs) w := by kernel_rfl
theorem en59 (xs : Array Value) (w : World) : (callFunc 59 xs).run Tryz.prog w = .ok (.enter 59 xs) w := by kernel_rfl
theorem en62 (xs : Array Value) (w : World) : (callFunc 62 xs).run Tryz.prog w = .ok (.enter 62 xs) w := by kernel_rfl
theorem en64 (xs : Array Value) (w : World) : (callFunc 64 xs).run Tryz.prog w = .ok (.enter 64 xs) w := by kernel_rfl
theorem en65 (xs : Array Value) (w : World) : (callFunc 65 xs).run Tryz.prog w = .ok (.enter 65 xs) w := by kernel_rfl
theorem en66 (xs : Array Value) (w : World) : (callFunc 66 xs).run Tryz.prog w = .ok (.enter 66 xs) w := by kernel_rfl
theorem en67 (xs : Array Value) (w : World) : (callFunc 67 xs).run Tryz.prog w = .ok (.enter 67 xs) w := by kernel_rfl
theorem en68 (xs : Array Value) (w : World) : (callFunc 68 xs).run Tryz.prog w = .ok (.enter 68 xs) w := by kernel_rfl
theorem en69 (xs : Array Value) (w : World) : (callFunc 69 xs).run Tryz.prog w = .ok (.enter 69 xs) w := by kernel_rfl
theorem en73 (xs : Array Value) (w : World) : (callFunc 73 xs).run Tryz.prog w = .ok (.enter 73 xs) w := by kernel_rfl
theorem en74 (xs : Array Value) (w : World) : (callFunc 74 xs).run Tryz.prog w = .ok (.enter 74 xs) w := by kernel_rfl
theorem en75 (xs : Array Value) (w : World) : (callFunc 75 xs).run Tryz.prog w = .ok (.enter 75 xs) w := by kernel_rfl
theorem en76 (xs : Array Value) (w : World) : (callFunc 76 xs).run Tryz.prog w = .ok (.enter 76 xs) w := by kernel_rfl
theorem en77 (xs : Array Value) (w : World) : (callFunc 77 xs).run Tryz.prog w = .ok (.enter 77 xs) w := by kernel_rfl
theorem en78 (xs : Array Value) (w : World) : (callFunc 78 xs).run Tryz.prog w = .ok (.enter 78 xs) w := by kernel_rfl
theorem en81 (xs : Array Value) (w : World) : (callFunc 81 xs).run Tryz.prog w = .ok (.enter 81 xs) w := by kernel_rfl
theorem en82 (xs : Array Value) (w : World) : (callFunc 82 xs).run Tryz.prog w = .ok (.enter 82 xs) w := by kernel_rfl
theorem en85 (xs : Array Value) (w : World) : (callFunc 85 xs).run Tryz.prog w = .ok (.enter 85 xs) w := by kernel_rfl
theorem en86 (xs : Array Value) (w : World) : (callFunc 86 xs).run Tryz.prog w = .ok (.enter 86 xs) w := by kernel_rfl
theorem en87 (xs : Array Value) (w : World) : (callFunc 87 xs).run Tryz.prog w = .ok (.enter 87 xs) w := by kernel_rfl
theorem en90 (xs : Array Value) (w : World) : (callFunc 90 xs).run Tryz.prog w = .ok (.enter 90 xs) w := by kernel_rfl
theorem en91 (xs : Array Value) (w : World) : (callFunc 91 xs).run Tryz.prog w = .ok (.enter 91 xs) w := by kernel_rfl
theorem en92 (xs : Array Value) (w : World) : (callFunc 92 xs).run Tryz.prog w = .ok (.enter 92 xs) w := by kernel_rfl
theorem en93 (xs : Array Value) (w : World) : (callFunc 93 xs).run Tryz.prog w = .ok (.enter 93 xs) w := by kernel_rfl
theorem en94 (xs : Array Value) (w : World) : (callFunc 94 xs).run Tryz.prog w = .ok (.enter 94 xs) w := by kernel_rfl
theorem en95 (xs : Array Value) (w : World) : (callFunc 95 xs).run Tryz.prog w = .ok (.enter 95 xs) w := by kernel_rfl
theorem en96 (xs : Array Value) (w : World) : (callFunc 96 xs).run Tryz.prog w = .ok (.enter 96 xs) w := by kernel_rfl
theorem en97 (xs : Array Value) (w : World) : (callFunc 97 xs).run Tryz.prog w = .ok (.enter 97 xs) w := by kernel_rfl
theorem en98 (xs : Array Value) (w : World) : (callFunc 98 xs).run Tryz.prog w = .ok (.enter 98 xs) w := by kernel_rfl
theorem en99 (xs : Array Value) (w : World) : (callFunc 99 xs).run Tryz.prog w = .ok (.enter 99 xs) w := by kernel_rfl
theorem Ow (xs : Array Value) (w : World) : (callFunc 100 xs).run Tryz.prog w = .ok (.enter 100 xs) w := by kernel_rfl
theorem YlG (xs : Array Value) (w : World) : (callFunc 101 xs).run Tryz.prog w = .ok (.enter 101 xs) w := by kernel_rfl
theorem Ykx (xs : Array Value) (w : World) : (callFunc 102 xs).run Tryz.prog w = .ok (.enter 102 xs) w := by kernel_rfl
theorem Yky (xs : Array Value) (w : World) : (callFunc 103 xs).run Tryz.prog w = .ok (.enter 103 xs) w := by kernel_rfl
theorem Yf7 (xs : Array Value) (w : World) : (callFunc 104 xs).run Tryz.prog w = .ok (.enter 104 xs) w := by kernel_rfl
theorem Yiw (xs : Array Value) (w : World) : (callFunc 105 xs).run Tryz.prog w = .ok (.enter 105 xs) w := by kernel_rfl
theorem Ykz (xs : Array Value) (w : World) : (callFunc 108 xs).run Tryz.prog w = .ok (.enter 108 xs) w := by kernel_rfl
theorem YkA (xs : Array Value) (w : World) : (callFunc 109 xs).run Tryz.prog w = .ok (.enter 109 xs) w := by kernel_rfl
theorem UK (xs : Array Value) (w : World) : (callFunc 110 xs).run Tryz.prog w = .ok (.enter 110 xs) w := by kernel_rfl
theorem Yf8 (xs : Array Value) (w : World) : (callFunc 111 xs).run Tryz.prog w = .ok (.enter 111 xs) w := by kernel_rfl
theorem JB (xs : Array Value) (w : World) : (callFunc 112 xs).run Tryz.prog w = .ok (.enter 112 xs) w := by kernel_rfl
theorem JC (xs : Array Value) (w : World) : (callFunc 113 xs).run Tryz.prog w = .ok (.enter 113 xs) w := by kernel_rfl
theorem JD (xs : Array Value) (w : World) : (callFunc 114 xs).run Tryz.prog w = .ok (.enter 114 xs) w := by kernel_rfl
theorem UL (xs : Array Value) (w : World) : (callFunc 115 xs).run Tryz.prog w = .ok (.enter 115 xs) w := by kernel_rfl
theorem UM (xs : Array Value) (w : World) : (callFunc 116 xs).run Tryz.prog w = .ok (.enter 116 xs) w := by kernel_rfl
theorem Yf9 (xs : Array Value) (w : World) : (callFunc 117 xs).run Tryz.prog w = .ok (.enter 117 xs) w := by kernel_rfl
theorem Yix (xs : Array Value) (w : World) : (callFunc 118 xs).run Tryz.prog w = .ok (.enter 118 xs) w := by kernel_rfl
theorem YkB (xs : Array Value) (w : World) : (callFunc 120 xs).run Tryz.prog w = .ok (.enter 120 xs) w := by kernel_rfl
theorem Yga (xs : Array Value) (w : World) : (callFunc 121 xs).run Tryz.prog w = .ok (.enter 121 xs) w := by kernel_rfl
theorem YlH (xs : Array Value) (w : World) : (callFunc 122 xs).run Tryz.prog w = .ok (.enter 122 xs) w := by kernel_rfl
theorem XM (xs : Array Value) (w : World) : (callFunc 126 xs).run Tryz.prog w = .ok (.enter 126 xs) w := by kernel_rfl
theorem UN (xs : Array Value) (w : World) : (callFunc 129 xs).run Tryz.prog w = .ok (.enter 129 xs) w := by kernel_rfl
theorem YkC (xs : Array Value) (w : World) : (callFunc 130 xs).run Tryz.prog w = .ok (.enter 130 xs) w := by kernel_rfl
theorem YkD (xs : Array Value) (w : World) : (callFunc 131 xs).run Tryz.prog w = .ok (.enter 131 xs) w := by kernel_rfl
theorem VJ (xs : Array Value) (w : World) : (callFunc 132 xs).run Tryz.prog w = .ok (.enter 132 xs) w := by kernel_rfl
theorem Ox (xs : Array Value) (w : World) : (callFunc 133 xs).run Tryz.prog w = .ok (.enter 133 xs) w := by kernel_rfl
theorem YkE (xs : Array Value) (w : World) : (callFunc 134 xs).run Tryz.prog w = .ok (.enter 134 xs) w := by kernel_rfl
theorem Oy (xs : Array Value) (w : World) : (callFunc 135 xs).run Tryz.prog w = .ok (.enter 135 xs) w := by kernel_rfl
theorem YlI (xs : Array Value) (w : World) : (callFunc 136 xs).run Tryz.prog w = .ok (.enter 136 xs) w := by kernel_rfl
theorem Yby (xs : Array Value) (w : World) : (callFunc 137 xs).run Tryz.prog w = .ok (.enter 137 xs) w := by kernel_rfl
theorem Z1 (xs : Array Value) (w : World) : (callFunc 142 xs).run Tryz.prog w = .ok (.enter 142 xs) w := by kernel_rfl
theorem YlJ (xs : Array Value) (w : World) : (callFunc 143 xs).run Tryz.prog w = .ok (.enter 143 xs) w := by kernel_rfl
theorem Ygb (xs : Array Value) (w : World) : (callFunc 144 xs).run Tryz.prog w = .ok (.enter 144 xs) w := by kernel_rfl
theorem YlK (xs : Array Value) (w : World) : (callFunc 145 xs).run Tryz.prog w = .ok (.enter 145 xs) w := by kernel_rfl
theorem Ybz (xs : Array Value) (w : World) : (callFunc 148 xs).run Tryz.prog w = .ok (.enter 148 xs) w := by kernel_rfl
theorem YkF (xs : Array Value) (w : World) : (callFunc 149 xs).run Tryz.prog w = .ok (.enter 149 xs) w := by kernel_rfl
theorem YlL (xs : Array Value) (w : World) : (callFunc 150 xs).run Tryz.prog w = .ok (.enter 150 xs) w := by kernel_rfl
theorem YlM (xs : Array Value) (w : World) : (callFunc 151 xs).run Tryz.prog w = .ok (.enter 151 xs) w := by kernel_rfl
theorem YlN (xs : Array Value) (w : World) : (callFunc 152 xs).run Tryz.prog w = .ok (.enter 152 xs) w := by kernel_rfl
theorem YlO (xs : Array Value) (w : World) : (callFunc 153 xs).run Tryz.prog w = .ok (.enter 153 xs) w := by kernel_rfl
theorem YlP (xs : Array Value) (w : World) : (callFunc 154 xs).run Tryz.prog w = .ok (.enter 154 xs) w := by kernel_rfl
theorem YbA (xs : Array Value) (w : World) : (callFunc 155 xs).run Tryz.prog w = .ok (.enter 155 xs) w := by kernel_rfl
theorem YkG (xs : Array Value) (w : World) : (callFunc 158 xs).run Tryz.prog w = .ok (.enter 158 xs) w := by kernel_rfl
theorem Yiy (xs : Array Value) (w : World) : (callFunc 159 xs).run Tryz.prog w = .ok (.enter 159 xs) w := by kernel_rfl
theorem Yiz (xs : Array Value) (w : World) : (callFunc 160 xs).run Tryz.prog w = .ok (.enter 160 xs) w := by kernel_rfl
theorem YlQ (xs : Array Value) (w : World) : (callFunc 161 xs).run Tryz.prog w = .ok (.enter 161 xs) w := by kernel_rfl
theorem YlR (xs : Array Value) (w : World) : (callFunc 162 xs).run Tryz.prog w = .ok (.enter 162 xs) w := by kernel_rfl
theorem YlS (xs : Array Value) (w : World) : (callFunc 163 xs).run Tryz.prog w = .ok (.enter 163 xs) w := by kernel_rfl
theorem YbB (xs : Array Value) (w : World) : (callFunc 164 xs).run Tryz.prog w = .ok (.enter 164 xs) w := by kernel_rfl
theorem Ygc (xs : Array Value) (w : World) : (callFunc 165 xs).run Tryz.prog w = .ok (.enter 165 xs) w := by kernel_rfl
theorem YbC (xs : Array Value) (w : World) : (callFunc 166 xs).run Tryz.prog w = .ok (.enter 166 xs) w := by kernel_rfl
theorem YlT (xs : Array Value) (w : World) : (callFunc 167 xs).run Tryz.prog w = .ok (.enter 167 xs) w := by kernel_rfl
theorem Ygd (xs : Array Value) (w : World) : (callFunc 168 xs).run Tryz.prog w = .ok (.enter 168 xs) w := by kernel_rfl
theorem YkH (xs : Array Value) (w : World) : (callFunc 169 xs).run Tryz.prog w = .ok (.enter 169 xs) w := by kernel_rfl
theorem YlU (xs : Array Value) (w : World) : (callFunc 170 xs).run Tryz.prog w = .ok (.enter 170 xs) w := by kernel_rfl
theorem Yge (xs : Array Value) (w : World) : (callFunc 171 xs).run Tryz.prog w = .ok (.enter 171 xs) w := by kernel_rfl
theorem YlV (xs : Array Value) (w : World) : (callFunc 172 xs).run Tryz.prog w = .ok (.enter 172 xs) w := by kernel_rfl
theorem Oz (xs : Array Value) (w : World) : (callFunc 173 xs).run Tryz.prog w = .ok (.enter 173 xs) w := by kernel_rfl
theorem YkI (xs : Array Value) (w : World) : (callFunc 174 xs).run Tryz.prog w = .ok (.enter 174 xs) w := by kernel_rfl
theorem YkJ (xs : Array Value) (w : World) : (callFunc 175 xs).run Tryz.prog w = .ok (.enter 175 xs) w := by kernel_rfl
theorem YkK (xs : Array Value) (w : World) : (callFunc 178 xs).run Tryz.prog w = .ok (.enter 178 xs) w := by kernel_rfl
theorem XN (xs : Array Value) (w : World) : (callFunc 195 xs).run Tryz.prog w = .ok (.enter 195 xs) w := by kernel_rfl
theorem YlW (xs : Array Value) (w : World) : (callFunc 201 xs).run Tryz.prog w = .ok (.enter 201 xs) w := by kernel_rfl
theorem YlX (xs : Array Value) (w : World) : (callFunc 202 xs).run Tryz.prog w = .ok (.enter 202 xs) w := by kernel_rfl
theorem YlY (xs : Array Value) (w : World) : (callFunc 203 xs).run Tryz.prog w = .ok (.enter 203 xs) w := by kernel_rfl
theorem Ygf (xs : Array Value) (w : World) : (callFunc 205 xs).run Tryz.prog w = .ok (.enter 205 xs) w := by kernel_rfl
theorem YkL (xs : Array Value) (w : World) : (callFunc 206 xs).run Tryz.prog w = .ok (.enter 206 xs) w := by kernel_rfl
theorem YlZ (xs : Array Value) (w : World) : (callFunc 207 xs).run Tryz.prog w = .ok (.enter 207 xs) w := by kernel_rfl
theorem Ygg (xs : Array Value) (w : World) : (callFunc 208 xs).run Tryz.prog w = .ok (.enter 208 xs) w := by kernel_rfl
theorem Yl0 (xs : Array Value) (w : World) : (callFunc 209 xs).run Tryz.prog w = .ok (.enter 209 xs) w := by kernel_rfl
theorem Ygh (xs : Array Value) (w : World) : (callFunc 210 xs).run Tryz.prog w = .ok (.enter 210 xs) w := by kernel_rfl
theorem YbD (xs : Array Value) (w : World) : (callFunc 211 xs).run Tryz.prog w = .ok (.enter 211 xs) w := by kernel_rfl
theorem Yl1 (xs : Array Value) (w : World) : (callFunc 212 xs).run Tryz.prog w = .ok (.enter 212 xs) w := by kernel_rfl
theorem Yl2 (xs : Array Value) (w : World) : (callFunc 214 xs).run Tryz.prog w = .ok (.enter 214 xs) w := by kernel_rfl
theorem YkM (xs : Array Value) (w : World) : (callFunc 227 xs).run Tryz.prog w = .ok (.enter 227 xs) w := by kernel_rfl
theorem YkN (xs : Array Value) (w : World) : (callFunc 228 xs).run Tryz.prog w = .ok (.enter 228 xs) w := by kernel_rfl
theorem YbE (xs : Array Value) (w : World) : (callFunc 229 xs).run Tryz.prog w = .ok (.enter 229 xs) w := by kernel_rfl
theorem Yl3 (xs : Array Value) (w : World) : (callFunc 238 xs).run Tryz.prog w = .ok (.enter 238 xs) w := by kernel_rfl
theorem YbF (xs : Array Value) (w : World) : (callFunc 244 xs).run Tryz.prog w = .ok (.enter 244 xs) w := by kernel_rfl
theorem Yl4 (xs : Array Value) (w : World) : (callFunc 245 xs).run Tryz.prog w = .ok (.enter 245 xs) w := by kernel_rfl
theorem Ygi (xs : Array Value) (w : World) : (callFunc 246 xs).run Tryz.prog w = .ok (.enter 246 xs) w := by kernel_rfl
theorem Yl5 (xs : Array Value) (w : World) : (callFunc 247 xs).run Tryz.prog w = .ok (.enter 247 xs) w := by kernel_rfl
theorem YkO (xs : Array Value) (w : World) : (callFunc 248 xs).run Tryz.prog w = .ok (.enter 248 xs) w := by kernel_rfl
theorem Yl6 (xs : Array Value) (w : World) : (callFunc 249 xs).run Tryz.prog w = .ok (.enter 249 xs) w := by kernel_rfl
theorem Yl7 (xs : Array Value) (w : World) : (callFunc 250 xs).run Tryz.prog w = .ok (.enter 250 xs) w := by kernel_rfl
theorem Yl8 (xs : Array Value) (w : World) : (callFunc 251 xs).run Tryz.prog w = .ok (.enter 251 xs) w := by kernel_rfl
theorem Yl9 (xs : Array Value) (w : World) : (callFunc 252 xs).run Tryz.prog w = .ok (.enter 252 xs) w := by kernel_rfl
theorem YkP (xs : Array Value) (w : World) : (callFunc 284 xs).run Tryz.prog w = .ok (.enter 284 xs) w := by kernel_rfl
theorem YkQ (xs : Array Value) (w : World) : (callFunc 285 xs).run Tryz.prog w = .ok (.enter 285 xs) w := by kernel_rfl
theorem Yma (xs : Array Value) (w : World) : (callFunc 286 xs).run Tryz.prog w = .ok (.enter 286 xs) w := by kernel_rfl
theorem Ymb (xs : Array Value) (w : World) : (callFunc 287 xs).run Tryz.prog w = .ok (.enter 287 xs) w := by kernel_rfl
theorem z3 (w : World) : (zeroValue 3).run Tryz.prog w = .ok (.int .i64 0) w := by kernel_rfl
theorem z4 (w : World) : (zeroValue 4).run Tryz.prog w = .ok (.bool false) w := by kernel_rfl
theorem z70 (w : World) : (zeroValue 70).run Tryz.prog w = .ok (.agg #[.int .i64 0, .int .i64 0, .int .i64 0, .int .i64 0, .int .i64 0, .int .i64 0, .slice none 0 0]) w := by kernel_rfl
theorem z72 (w : World) : (zeroValue 72).run Tryz.prog w = .ok (.slice none 0 0) w := by kernel_rfl
theorem z167 (w : World) : (zeroValue 167).run Tryz.prog w = .ok (.agg #[.int .i64 0, .int .i64 0, .int .i64 0, .int .i64 0, .int .i64 0, .int .i64 0, .int .i64 0, .int .i64 0]) w := by kernel_rfl
theorem z212 (w : World) : (zeroValue 212).run Tryz.prog w = .ok (.agg #[.string ⟨#[]⟩, .int .i64 0, .int .i64 0, .int .i64 0]) w := by kernel_rfl
theorem z213 (w : World) : (zeroValue 213).run Tryz.prog w = .ok (.agg #[.string ⟨#[]⟩, .int .i64 0, .int .i64 0, .int .i64 0, .string ⟨#[]⟩, .int .i64 0, .int .i64 0, .int .i64 0, .string ⟨#[]⟩, .int .i64 0, .int .i64 0, .int .i64 0, .string ⟨#[]⟩, .int .i64 0, .int .i64 0, .int .i64 0]) w := by kernel_rfl
end Go.Proofs.YtmalhidldgfeoaaGreatDoor
namespace Go.Eng
open Go.RowKit Go.Proofs Go.Proofs.YtmalhidldgfeoaaGreatDoor
section
variable {m : Mode} {n : Shp} {B : Nat} {w0 : World} {ops : Array Oper} {Q : Exit → Act → World → Prop} {rest : List Oper} {env : Env} {H : List HP} {d : Nat} {ty : TypeId} {pos : String} {after : Array Edge} {xt yt : TypeId} {x y : Operand} {k : IntKind} {a b : Int} {s t : ByteArray}
theorem zs1 {x : Operand} {v : Value} (h : VL Tryz.prog m n B w0 ops Q rest ((d, v) :: env) H) (hx : evo env x = some v := by exact rfl) (hn : Nat.ble (d + 1) n.k = true := by exact rfl) : VL Tryz.prog m n B w0 ops Q (⟨some d, .move x, ty, pos, after, none⟩ :: rest) env H := YjD hx hn h
theorem zs2 {x : Operand} {v : Value} (h : VL Tryz.prog m n B w0 ops Q rest ((d, v) :: env) H) (hx : evo env x = some v := by exact rfl) (hn : Nat.ble (d + 1) n.k = true := by exact rfl) : VL Tryz.prog m n B w0 ops Q (⟨some d, .assign x, ty, pos, after, none⟩ :: rest) env H := YgF hx hn h
theorem zs3 {m : Mode} {d : Nat} {op : Op} {ty : TypeId} {pos : String} {after : Array Edge} {j s : Nat} {b : Bool} {v : Value} {oj : Oper} (h : VL Tryz.prog m n B w0 ops Q rest ((d, undef) :: env) H) (hj : ops[j]? = some oj := by exact rfl) (hs : oj.dst = some s := by exact rfl) (hv : get env s = some v := by exact rfl) (hne : notB v b = true := by exact rfl) (hn : Nat.ble (d + 1) n.k = true := by exact rfl) : VL Tryz.prog m n B w0 ops Q (⟨some d, op, ty, pos, after, some (j, b)⟩ :: rest) env H := Ydf hj hs hv hne hn h
theorem zs4 {m : Mode} {dst : Option Tmp} {op : Op} {ty : TypeId} {pos : String} {after : Array Edge} {j s : Nat} {b : Bool} {oj : Oper} (h : VL Tryz.prog m n B w0 ops Q (⟨dst, op, ty, pos, after, none⟩ :: rest) env H) (hj : ops[j]? = some oj := by exact rfl) (hs : oj.dst = some s := by exact rfl) (hv : get env s = some (.bool b) := by exact rfl) : VL Tryz.prog m n B w0 ops Q (⟨dst, op, ty, pos, after, some (j, b)⟩ :: rest) env H := Ycj hj hs hv h
theorem zs5 {x : Operand} {p : Addr} (h : VL Tryz.prog m n B w0 ops Q rest ((d, .pointer (some p)) :: env) H) (hx : evo env x = some (.pointer (some p)) := by exact rfl) (hn : Nat.ble (d + 1) n.k = true := by exact rfl) : VL Tryz.prog m n B w0 ops Q (⟨some d, .nilCheck x, ty, pos, after, none⟩ :: rest) env H := VX hx hn h
theorem zs6 {s f k g i : Nat} {x : Operand} (h : VL Tryz.prog m n B w0 ops Q rest ((d, .pointer (some ⟨g, i + k, none⟩)) :: env) H) (hx : evo env x = some (.pointer (some ⟨g, i, none⟩)) := by exact rfl) (hf : Ud T.fo s f = some k := by exact rfl) (hn : Nat.ble (d + 1) n.k = true := by exact rfl) : VL Tryz.prog m n B w0 ops Q (⟨some d, .fieldAddr s x f, ty, pos, after, none⟩ :: rest) env H := Ych T hx hf hn h
theorem zs7 {t g i : Nat} {cs : Array Value} {tt : TypeId} {fr : Nat × Nat} {v : Value} {x : Operand} (h : VL Tryz.prog m n B w0 ops Q rest ((d, v) :: env) H) (hx : evo env x = some (.pointer (some ⟨g, i, none⟩)) := by exact rfl) (hm : blk g (.cells cs tt fr) ∈ H := by (exact zm; done)) (hv : nth cs.toList i = some v := by exact rfl) (ht : look T.sc t = some () := by exact rfl) (hn : Nat.ble (d + 1) n.k = true := by exact rfl) : VL Tryz.prog m n B w0 ops Q (⟨some d, .load t x, ty, pos, after, none⟩ :: rest) env H := YjA T hx hm hv ht hn h
theorem zs8 {t g k : Nat} {cs : Array Value} {tt : TypeId} {fr : Nat × Nat} {x : Operand} (h : VL Tryz.prog m n B w0 ops Q rest ((d, .agg cs) :: env) H) (hx : evo env x = some (.pointer (some ⟨g, 0, none⟩)) := by exact rfl) (hm : blk g (.cells cs tt fr) ∈ H := by (exact zm; done)) (ht : look T.ag t = some k := by exact rfl) (hk : cs.size = k := by exact rfl) (hn : Nat.ble (d + 1) n.k = true := by exact rfl) : VL Tryz.prog m n B w0 ops Q (⟨some d, .load t x, ty, pos, after, none⟩ :: rest) env H := Ya0 T hx hm ht hk hn h
theorem zs9 {tx : Nat} {x : Operand} {A : Option Addr} {k cap : Nat} {es : Nat × Nat × Nat} (h : VL Tryz.prog m n B w0 ops Q rest ((d, .int .i64 k) :: env) H) (hx : evo env x = some (.slice A k cap) := by exact rfl) (ht : look T.sl tx = some es := by exact rfl) (hn : Nat.ble (d + 1) n.k = true := by exact rfl) : VL Tryz.prog m n B w0 ops Q (⟨some d, .call ⟨.builtin .len, #[x], #[tx]⟩, ty, pos, after, none⟩ :: rest) env H := YkX T hx ht hn h
theorem zs10 {t : Nat} {x y : Operand} {A : Option Addr} {k cap : Nat} {xs : List Value} {e size bytes : Nat} {ki : IntKind} {i : Int} (h : VL Tryz.prog m n B w0 ops Q rest ((d, sptr A (i.toNat * size)) :: env) H) (hx : evo env x = some (.slice A k cap) := by exact rfl) (hm : sl e size A k cap xs ∈ H := by (exact zm; done)) (hy : evo env y = some (.int ki i) := by exact rfl) (ht : look T.sl t = some (e, size, bytes) := by exact rfl) (hn : Nat.ble (d + 1) n.k = true := by exact rfl) (hi : 0 ≤ i ∧ i < k := by omega) : VL Tryz.prog m n B w0 ops Q (⟨some d, .indexAddr t x y, ty, pos, after, none⟩ :: rest) env H := Ydh T hx hm hy ht hn hi h
theorem zs11 {c x y : Operand} {v : Value} (h : VL Tryz.prog m n B w0 ops Q rest ((d, v) :: env) H) (hc : evo env c = some (.bool true) := by exact rfl) (hx : evo env x = some v := by exact rfl) (hn : Nat.ble (d + 1) n.k = true := by exact rfl) : VL Tryz.prog m n B w0 ops Q (⟨some d, .pick c x y, ty, pos, after, none⟩ :: rest) env H := Ycl hc hx hn h
theorem zs12 {c x y : Operand} {v : Value} (h : VL Tryz.prog m n B w0 ops Q rest ((d, v) :: env) H) (hc : evo env c = some (.bool false) := by exact rfl) (hx : evo env y = some v := by exact rfl) (hn : Nat.ble (d + 1) n.k = true := by exact rfl) : VL Tryz.prog m n B w0 ops Q (⟨some d, .pick c x y, ty, pos, after, none⟩ :: rest) env H := Ya1 hc hx hn h
theorem zs13 {x : Operand} {i : Nat} {vs : Array Value} {v : Value} (h : VL Tryz.prog m n B w0 ops Q rest ((d, v) :: env) H) (hx : evo env x = some (.tuple vs) := by exact rfl) (hv : nth vs.toList i = some v := by exact rfl) (hn : Nat.ble (d + 1) n.k = true := by exact rfl) : VL Tryz.prog m n B w0 ops Q (⟨some d, .extract x i, ty, pos, after, none⟩ :: rest) env H := YeX hx hv hn h
theorem zs14 {tx : TypeId} (h : VL Tryz.prog m n B w0 ops Q rest ((d, .int .i64 s.size) :: env) H) (hx : evo env x = some (.string s) := by exact rfl) (ht : look T.st tx = some () := by exact rfl) (hn : Nat.ble (d + 1) n.k = true := by exact rfl) : VL Tryz.prog m n B w0 ops Q (⟨some d, .call ⟨.builtin .len, #[x], #[tx]⟩, ty, pos, after, none⟩ :: rest) env H := YjH T hx ht hn h
theorem zs15  (h1 : a = b → VL Tryz.prog m n B w0 ops Q rest ((d, .bool true) :: env) H) (h2 : a ≠ b → VL Tryz.prog m n B w0 ops Q rest ((d, .bool false) :: env) H) (hx : evo env x = some (.int k a) := by exact rfl) (hy : evo env y = some (.int k b) := by exact rfl) (hn : Nat.ble (d + 1) n.k = true := by exact rfl) : VL Tryz.prog m n B w0 ops Q (⟨some d, .binOp .eql xt x y yt, ty, pos, after, none⟩ :: rest) env H := YkU hx hy hn h1 h2
theorem zs16  (h1 : a ≠ b → VL Tryz.prog m n B w0 ops Q rest ((d, .bool true) :: env) H) (h2 : a = b → VL Tryz.prog m n B w0 ops Q rest ((d, .bool false) :: env) H) (hx : evo env x = some (.int k a) := by exact rfl) (hy : evo env y = some (.int k b) := by exact rfl) (hn : Nat.ble (d + 1) n.k = true := by exact rfl) : VL Tryz.prog m n B w0 ops Q (⟨some d, .binOp .neq xt x y yt, ty, pos, after, none⟩ :: rest) env H := Yk2 hx hy hn h1 h2
theorem zs17  (h1 : a < b → VL Tryz.prog m n B w0 ops Q rest ((d, .bool true) :: env) H) (h2 : b ≤ a → VL Tryz.prog m n B w0 ops Q rest ((d, .bool false) :: env) H) (hx : evo env x = some (.int k a) := by exact rfl) (hy : evo env y = some (.int k b) := by exact rfl) (hn : Nat.ble (d + 1) n.k = true := by exact rfl) : VL Tryz.prog m n B w0 ops Q (⟨some d, .binOp .lss xt x y yt, ty, pos, after, none⟩ :: rest) env H := YkZ hx hy hn h1 h2
theorem zs18  (h1 : a ≤ b → VL Tryz.prog m n B w0 ops Q rest ((d, .bool true) :: env) H) (h2 : b < a → VL Tryz.prog m n B w0 ops Q rest ((d, .bool false) :: env) H) (hx : evo env x = some (.int k a) := by exact rfl) (hy : evo env y = some (.int k b) := by exact rfl) (hn : Nat.ble (d + 1) n.k = true := by exact rfl) : VL Tryz.prog m n B w0 ops Q (⟨some d, .binOp .leq xt x y yt, ty, pos, after, none⟩ :: rest) env H := YkY hx hy hn h1 h2
theorem zs19  (h1 : b < a → VL Tryz.prog m n B w0 ops Q rest ((d, .bool true) :: env) H) (h2 : a ≤ b → VL Tryz.prog m n B w0 ops Q rest ((d, .bool false) :: env) H) (hx : evo env x = some (.int k a) := by exact rfl) (hy : evo env y = some (.int k b) := by exact rfl) (hn : Nat.ble (d + 1) n.k = true := by exact rfl) : VL Tryz.prog m n B w0 ops Q (⟨some d, .binOp .gtr xt x y yt, ty, pos, after, none⟩ :: rest) env H := YkW hx hy hn h1 h2
theorem zs20  (h1 : b ≤ a → VL Tryz.prog m n B w0 ops Q rest ((d, .bool true) :: env) H) (h2 : a < b → VL Tryz.prog m n B w0 ops Q rest ((d, .bool false) :: env) H) (hx : evo env x = some (.int k a) := by exact rfl) (hy : evo env y = some (.int k b) := by exact rfl) (hn : Nat.ble (d + 1) n.k = true := by exact rfl) : VL Tryz.prog m n B w0 ops Q (⟨some d, .binOp .geq xt x y yt, ty, pos, after, none⟩ :: rest) env H := YkV hx hy hn h1 h2
theorem zs25 {x y : Operand} {k : IntKind} {a b : Int} {tys : Array TypeId} (h1 : b < a → VL Tryz.prog m n B w0 ops Q rest ((d, .int k b) :: env) H) (h2 : a ≤ b → VL Tryz.prog m n B w0 ops Q rest ((d, .int k a) :: env) H) (hx : evo env x = some (.int k a) := by exact rfl) (hy : evo env y = some (.int k b) := by exact rfl) (hn : Nat.ble (d + 1) n.k = true := by exact rfl) : VL Tryz.prog m n B w0 ops Q (⟨some d, .call ⟨.builtin .min, #[x, y], tys⟩, ty, pos, after, none⟩ :: rest) env H := YfW hx hy hn h1 h2
theorem zs30  (h : VL Tryz.prog m n B w0 ops Q rest ((d, .int .i64 (a + b)) :: env) H) (hx : evo env x = some (.int .i64 a) := by exact rfl) (hy : evo env y = some (.int .i64 b) := by exact rfl) (hn : Nat.ble (d + 1) n.k = true := by exact rfl) (hb : -9223372036854775808 ≤ a + b ∧ a + b ≤ 9223372036854775807 := by omega) : VL Tryz.prog m n B w0 ops Q (⟨some d, .binOp .add xt x y yt, ty, pos, after, none⟩ :: rest) env H := YkT hx hy hn hb h
theorem zs31  (h : VL Tryz.prog m n B w0 ops Q rest ((d, .int .i64 (a - b)) :: env) H) (hx : evo env x = some (.int .i64 a) := by exact rfl) (hy : evo env y = some (.int .i64 b) := by exact rfl) (hn : Nat.ble (d + 1) n.k = true := by exact rfl) (hb : -9223372036854775808 ≤ a - b ∧ a - b ≤ 9223372036854775807 := by omega) : VL Tryz.prog m n B w0 ops Q (⟨some d, .binOp .sub xt x y yt, ty, pos, after, none⟩ :: rest) env H := Yk7 hx hy hn hb h
theorem zs32  (h : VL Tryz.prog m n B w0 ops Q rest ((d, .int .i64 (a * b)) :: env) H) (hx : evo env x = some (.int .i64 a) := by exact rfl) (hy : evo env y = some (.int .i64 b) := by exact rfl) (hn : Nat.ble (d + 1) n.k = true := by exact rfl) (hb : -9223372036854775808 ≤ a * b ∧ a * b ≤ 9223372036854775807 := by first | exact YiQ (by omega) (by omega) (by omega) (by omega) | exact Yj4 (by omega) (by omega) (by omega) (by omega) | omega) : VL Tryz.prog m n B w0 ops Q (⟨some d, .binOp .mul xt x y yt, ty, pos, after, none⟩ :: rest) env H := Yk1 hx hy hn hb h
theorem zs36  (h : VL Tryz.prog m n B w0 ops Q rest ((d, .int .i64 (a / b)) :: env) H) (hx : evo env x = some (.int .i64 a) := by exact rfl) (hy : evo env y = some (.int .i64 b) := by exact rfl) (hn : Nat.ble (d + 1) n.k = true := by exact rfl) (hb : 0 ≤ a ∧ a ≤ 9223372036854775807 ∧ 1 ≤ b := by omega) : VL Tryz.prog m n B w0 ops Q (⟨some d, .binOp .quo xt x y yt, ty, pos, after, none⟩ :: rest) env H := Yk4 hx hy hn hb h
theorem zs37  (h : VL Tryz.prog m n B w0 ops Q rest ((d, .int k (a % b)) :: env) H) (hx : evo env x = some (.int k a) := by exact rfl) (hy : evo env y = some (.int k b) := by exact rfl) (hn : Nat.ble (d + 1) n.k = true := by exact rfl) (hb : 0 ≤ a ∧ 1 ≤ b := by omega) : VL Tryz.prog m n B w0 ops Q (⟨some d, .binOp .rem xt x y yt, ty, pos, after, none⟩ :: rest) env H := Yk5 hx hy hn hb h
theorem zs38 {yk : IntKind} {D : Int} (h : VL Tryz.prog m n B w0 ops Q rest ((d, .int k (a / D)) :: env) H) (hx : evo env x = some (.int k a) := by exact rfl) (hn : Nat.ble (d + 1) n.k = true := by exact rfl) (hb : 0 ≤ b ∧ b ≤ k.bits := by (simp only [IntKind.bits]; omega)) (hD : (2 : Int) ^ b.toNat = D := by (simp only [Int.reduceToNat, Int.reducePow]; rfl)) : VL Tryz.prog m n B w0 ops Q (⟨some d, .binOp .shr xt x (.const (.int yk b)) yt, ty, pos, after, none⟩ :: rest) env H := Yh9 hx hn hb hD h
theorem zs44 {src dst : TypeId} {j : IntKind} (h : VL Tryz.prog m n B w0 ops Q rest ((d, .int .i64 a) :: env) H) (hx : evo env x = some (.int k a) := by exact rfl) (hs : look T.ik src = some j := by exact rfl) (ht : look T.ik dst = some .i64 := by exact rfl) (hn : Nat.ble (d + 1) n.k = true := by exact rfl) (hb : -9223372036854775808 ≤ a ∧ a ≤ 9223372036854775807 := by omega) : VL Tryz.prog m n B w0 ops Q (⟨some d, .convert src dst x, ty, pos, after, none⟩ :: rest) env H := YeW T hx hs ht hn hb h
theorem zs45 {src dst : TypeId} {j : IntKind} (h : VL Tryz.prog m n B w0 ops Q rest ((d, .int .u64 a) :: env) H) (hx : evo env x = some (.int k a) := by exact rfl) (hs : look T.ik src = some j := by exact rfl) (ht : look T.ik dst = some .u64 := by exact rfl) (hn : Nat.ble (d + 1) n.k = true := by exact rfl) (hb : 0 ≤ a ∧ a ≤ 18446744073709551615 := by omega) : VL Tryz.prog m n B w0 ops Q (⟨some d, .convert src dst x, ty, pos, after, none⟩ :: rest) env H := Ydd T hx hs ht hn hb h
theorem zs47 {x : Operand} {xt : TypeId} (h : VL Tryz.prog m n B w0 ops Q rest ((d, .bool false) :: env) H) (hx : evo env x = some (.bool true) := by exact rfl) (hn : Nat.ble (d + 1) n.k = true := by exact rfl) : VL Tryz.prog m n B w0 ops Q (⟨some d, .unOp .not xt x, ty, pos, after, none⟩ :: rest) env H := Ydl hx hn h
theorem zs48 {x : Operand} {xt : TypeId} (h : VL Tryz.prog m n B w0 ops Q rest ((d, .bool true) :: env) H) (hx : evo env x = some (.bool false) := by exact rfl) (hn : Nat.ble (d + 1) n.k = true := by exact rfl) : VL Tryz.prog m n B w0 ops Q (⟨some d, .unOp .not xt x, ty, pos, after, none⟩ :: rest) env H := Yck hx hn h
theorem zs49 {t tt : Nat} {x y : Operand} {A : Option Addr} {k cap : Nat} {xs : List Value} {g mm c : Nat} {cs : Array Value} {fr : Nat × Nat} {e size bytes : Nat} {K : Option Addr → Nat → List HP} (h : ∀ A' cap', VL Tryz.prog none n B w0 ops Q rest ((d, .slice A' (k + mm) cap') :: env) (K A' cap')) (hx : evo env x = some (.slice A k cap) := by exact rfl) (ht : look T.sl t = some (e, size, bytes) := by exact rfl) (hy : evo env y = some (.slice (some ⟨g, 0, none⟩) mm c) := by exact rfl) (hb : blk g (.cells cs tt fr) ∈ H := by (exact zm; done)) (hk : cs.size = mm * size := by exact rfl) (h1 : Jg cs.toList = true := by exact rfl) (hn : Nat.ble (d + 1) n.k = true := by exact rfl) (hu : ∀ A' cap', Upd (sl e size A k cap xs) (sl e size A' (k + mm) cap' (xs ++ cs.toList)) H (K A' cap') := by ((intro _ _; exact zd); done)) (hby : (k + mm) * bytes ≤ 140737488355328 := by omega) : VL Tryz.prog none n B w0 ops Q (⟨some d, .call ⟨.builtin .append, #[x, y], #[t, t]⟩, ty, pos, after, none⟩ :: rest) env H := YgE T hx ht hy hb hk h1 hn hu hby h
theorem zs50 {t g i : Nat} {cs cs' : List Value} {tt : TypeId} {v : Value} {x y : Operand} {K : List HP} (h : VL Tryz.prog none n B w0 ops Q rest env K) (hx : evo env x = some (.pointer (some ⟨g, i, none⟩)) := by exact rfl) (hy : evo env y = some v := by exact rfl) (h1 : v.oneCell' = true := by exact rfl) (hu : Upd (blk g (.cells cs.toArray tt (0, 0))) (blk g (.cells cs'.toArray tt (0, 0))) H K := by (exact zd; done)) (hs : Ybl cs i v cs' := by (exact zt ; done)) (ht : look T.sc t = some () := by exact rfl) : VL Tryz.prog none n B w0 ops Q (⟨none, .store t x y, ty, pos, after, none⟩ :: rest) env H := Yia T hx hy h1 hu hs ht h
theorem zs51 {t g i k : Nat} {cs vs cs' : List Value} {tt : TypeId} {x y : Operand} {K : List HP} (h : VL Tryz.prog none n B w0 ops Q rest env K) (hx : evo env x = some (.pointer (some ⟨g, i, none⟩)) := by exact rfl) (hy : evo env y = some (.agg vs.toArray) := by exact rfl) (h1 : Jg vs = true := by exact rfl) (hu : Upd (blk g (.cells cs.toArray tt (0, 0))) (blk g (.cells cs'.toArray tt (0, 0))) H K := by (exact zd; done)) (hs : PutAt cs i vs cs' := by ((repeat (first | exact PutAt.nil | (apply PutAt.cons; exact zt ))) ; done)) (ht : look T.ag t = some k := by exact rfl) (hk : vs.length = k := by exact rfl) : VL Tryz.prog none n B w0 ops Q (⟨none, .store t x y, ty, pos, after, none⟩ :: rest) env H := Ycm T hx hy h1 hu hs ht hk h
theorem zs52 {t : TypeId} {x : Operand} {cs : Array Value} (h : ∀ g, VL Tryz.prog none n B w0 ops Q rest ((d, .pointer (some ⟨g, 0, none⟩)) :: env) (blk g (.cells cs t (0, 0)) :: H)) (hx : evo env x = some (.agg cs) := by exact rfl) (hn : Nat.ble (d + 1) n.k = true := by exact rfl) : VL Tryz.prog none n B w0 ops Q (⟨some d, .box t x, ty, pos, after, none⟩ :: rest) env H := Xv hx hn h
theorem zs53 {t : TypeId} {x : Operand} {v : Value} (h : ∀ g, VL Tryz.prog none n B w0 ops Q rest ((d, .pointer (some ⟨g, 0, none⟩)) :: env) (blk g (.cells #[v] t (0, 0)) :: H)) (hx : evo env x = some v := by exact rfl) (h1 : v.cells = #[v] := by exact rfl) (hn : Nat.ble (d + 1) n.k = true := by exact rfl) : VL Tryz.prog none n B w0 ops Q (⟨some d, .box t x, ty, pos, after, none⟩ :: rest) env H := YeV hx h1 hn h
theorem zs54 {t : TypeId} {z : Value} {cs : Array Value} (h : ∀ g, VL Tryz.prog none n B w0 ops Q rest ((d, .pointer (some ⟨g, 0, none⟩)) :: env) (blk g (.cells cs t (0, 0)) :: H)) (hz : look T2.zt t = some z := by exact rfl) (hc : z.cells = cs := by exact rfl) (hn : Nat.ble (d + 1) n.k = true := by exact rfl) : VL Tryz.prog none n B w0 ops Q (⟨some d, .alloc t, ty, pos, after, none⟩ :: rest) env H := YgD T2 hz hc hn h
theorem zs55 {t : TypeId} {parts : List (Nat × Operand)} {ps : List (Nat × Value)} {zc : Array Value} {pl : List (Nat × Nat)} {cs : List Value} (h : VL Tryz.prog m n B w0 ops Q rest ((d, .agg cs.toArray) :: env) H) (hp : Vw env parts = some ps := by exact rfl) (hz : look T2.zt t = some (.agg zc) := by exact rfl) (hl : look T2.bt t = some pl := by exact rfl) (hf : V8 (pl[·]?) zc.toList ps = some cs := by exact rfl) (hn : Nat.ble (d + 1) n.k = true := by exact rfl) : VL Tryz.prog m n B w0 ops Q (⟨some d, .build t parts.toArray, ty, pos, after, none⟩ :: rest) env H := YgG T2 hp hz hl hf hn h
theorem zs56 {t e len size bytes : Nat} {parts : List (Nat × Operand)} {ps : List (Nat × Value)} {z : Value} {zl cs : List Value} (h : ∀ g, VL Tryz.prog none n B w0 ops Q rest ((d, .slice (some ⟨g, 0, none⟩) len len) :: env) (blk g (.cells cs.toArray e (0, 0)) :: H)) (ht : look T.sl t = some (e, size, bytes) := by exact rfl) (hp : Vw env parts = some ps := by exact rfl) (hz : look T2.zt e = some z := by exact rfl) (hzc : z.cells = zl.toArray := by exact rfl) (hf : V8 (fun i => some (i * size, size)) (repZ len zl) ps = some cs := by exact rfl) (hn : Nat.ble (d + 1) n.k = true := by exact rfl) (hl : (Nat.blt 0 (len * size) && Nat.beq zl.length size && Nat.ble (len * size) 1000000) = true := by exact rfl) : VL Tryz.prog none n B w0 ops Q (⟨some d, .buildSlice t len parts.toArray, ty, pos, after, none⟩ :: rest) env H := Qq T T2 ht hp hz hzc hf hn hl h
theorem zs57 {α : Type} {f : α → List Value} {l : List α} {t : Nat} {x y : Operand} {A : Option Addr} {cap : Nat} {e size bytes : Nat} {ki : IntKind} {i : Int} (h : VL Tryz.prog m n B w0 ops Q rest ((d, sptr A (i.toNat * size)) :: env) H) (hx : evo env x = some (.slice A l.length cap) := by exact rfl) (hy : evo env y = some (.int ki i) := by exact rfl) (hr : Rd B w0 H A (l.flatMap f) := by (exact zr; done)) (ht : look T.sl t = some (e, size, bytes) := by exact rfl) (hq : ∀ a, (f a).length = size := by exact fun _ => rfl) (h0 : Nat.blt 0 size = true := by exact rfl) (hn : Nat.ble (d + 1) n.k = true := by exact rfl) (hi : 0 ≤ i ∧ i < l.length := by omega) : VL Tryz.prog m n B w0 ops Q (⟨some d, .indexAddr t x y, ty, pos, after, none⟩ :: rest) env H := Ydg T hx hy hr ht hq h0 hn hi h
theorem zs58 {α : Type} {f : α → List Value} {l : List α} {s fl k i q : Nat} {x : Operand} {A : Option Addr} (h : VL Tryz.prog m n B w0 ops Q rest ((d, sptr A (i * q + k)) :: env) H) (hx : evo env x = some (sptr A (i * q)) := by exact rfl) (hr : Rd B w0 H A (l.flatMap f) := by (exact zr; done)) (hq : ∀ a, (f a).length = q := by exact fun _ => rfl) (h0 : Nat.blt 0 q = true := by exact rfl) (hf : Ud T.fo s fl = some k := by exact rfl) (hn : Nat.ble (d + 1) n.k = true := by exact rfl) (hi : i < l.length := by omega) : VL Tryz.prog m n B w0 ops Q (⟨some d, .fieldAddr s x fl, ty, pos, after, none⟩ :: rest) env H := Yci T hx hr hq h0 hf hn hi h
theorem zs59 {α : Type} {f : α → List Value} {l : List α} {t i q o : Nat} {b : α} {x : Operand} {A : Option Addr} {v : Value} (h : VL Tryz.prog m n B w0 ops Q rest ((d, v) :: env) H) (hx : evo env x = some (sptr A (i * q + o)) := by exact rfl) (hr : Rd B w0 H A (l.flatMap f) := by (exact zr; done)) (hb : l[i]? = some b := by assumption) (hq : ∀ a, (f a).length = q := by exact fun _ => rfl) (ho : Nat.blt o q = true := by exact rfl) (hv : nth (f b) o = some v := by exact rfl) (ht : look T.sc t = some () := by exact rfl) (hn : Nat.ble (d + 1) n.k = true := by exact rfl) : VL Tryz.prog m n B w0 ops Q (⟨some d, .load t x, ty, pos, after, none⟩ :: rest) env H := Qs T hx hr hb hq ho hv ht hn h
theorem zs60 {α : Type} {f : α → List Value} {l : List α} {t i q : Nat} {b : α} {x : Operand} {A : Option Addr} {v : Value} (h : VL Tryz.prog m n B w0 ops Q rest ((d, v) :: env) H) (hx : evo env x = some (sptr A (i * q)) := by exact rfl) (hr : Rd B w0 H A (l.flatMap f) := by (exact zr; done)) (hb : l[i]? = some b := by assumption) (hq : ∀ a, (f a).length = q := by exact fun _ => rfl) (ho : Nat.blt 0 q = true := by exact rfl) (hv : nth (f b) 0 = some v := by exact rfl) (ht : look T.sc t = some () := by exact rfl) (hn : Nat.ble (d + 1) n.k = true := by exact rfl) : VL Tryz.prog m n B w0 ops Q (⟨some d, .load t x, ty, pos, after, none⟩ :: rest) env H := Ydj T hx hr hb hq ho hv ht hn h
theorem zs61 {α : Type} {f : α → List Value} {l : List α} {t i q : Nat} {b : α} {x : Operand} {A : Option Addr} (h : VL Tryz.prog m n B w0 ops Q rest ((d, .agg (f b).toArray) :: env) H) (hx : evo env x = some (sptr A (i * q)) := by exact rfl) (hr : Rd B w0 H A (l.flatMap f) := by (exact zr; done)) (hb : l[i]? = some b := by assumption) (hq : ∀ a, (f a).length = q := by exact fun _ => rfl) (ho : Nat.blt 0 q = true := by exact rfl) (ht : look T.ag t = some q := by exact rfl) (hn : Nat.ble (d + 1) n.k = true := by exact rfl) : VL Tryz.prog m n B w0 ops Q (⟨some d, .load t x, ty, pos, after, none⟩ :: rest) env H := Qr T hx hr hb hq ho ht hn h
theorem zs62 {x y : Operand} {k : IntKind} {a b : Int} {tys : Array TypeId} (h1 : a < b → VL Tryz.prog m n B w0 ops Q rest ((d, .int k b) :: env) H) (h2 : b ≤ a → VL Tryz.prog m n B w0 ops Q rest ((d, .int k a) :: env) H) (hx : evo env x = some (.int k a) := by exact rfl) (hy : evo env y = some (.int k b) := by exact rfl) (hn : Nat.ble (d + 1) n.k = true := by exact rfl) : VL Tryz.prog m n B w0 ops Q (⟨some d, .call ⟨.builtin .max, #[x, y], tys⟩, ty, pos, after, none⟩ :: rest) env H := YfV hx hy hn h1 h2
theorem zs65  (h : VQ n B w0 Q .normal env H)  : VL Tryz.prog none n B w0 ops Q [] env H := Yh2 h
theorem zs66  (h : VQ n B w0 Q .normal env H)  : VL Tryz.prog (some none) n B w0 ops Q [] env H := YjE h
theorem zs68 {y : Code} (h : VC Tryz.prog n B w0 y Q env H)  : VQ n B w0 (Exit.then (wpR Tryz.prog n.r y Q) Q) .normal env H := Ycp h
theorem zs69 {x y : Code} (h : VC Tryz.prog n B w0 x (Exit.then (wpR Tryz.prog n.r y Q) Q) env H)  : VC Tryz.prog n B w0 (.seq x y) Q env H := Zx h
theorem zs70 {id : Nat} {l : List Oper} (h : VL Tryz.prog none n B w0 l.toArray Q l env H)  : VC Tryz.prog n B w0 (.region id l.toArray false) Q env H := XH h
theorem zs71 {c : Operand} {x y : Code} (h : VC Tryz.prog n B w0 x Q env H) (hc : evo env c = some (.bool true) := by exact rfl) : VC Tryz.prog n B w0 (.cond c x y) Q env H := Yce hc h
theorem zs72 {c : Operand} {x y : Code} (h : VC Tryz.prog n B w0 y Q env H) (hc : evo env c = some (.bool false) := by exact rfl) : VC Tryz.prog n B w0 (.cond c x y) Q env H := YaY hc h
theorem zs73 {id : Nat} {c : Code} (h : VC Tryz.prog n B w0 c (Exit.inBlock id Q) env H)  : VC Tryz.prog n B w0 (.block id c) Q env H := Yc8 h
theorem zs74  (h : VQ n B w0 Q .ret env H)  : VC Tryz.prog n B w0 .ret Q env H := YkS h
theorem zs75 {id : Nat} (h : VQ n B w0 Q (.exit id) env H)  : VC Tryz.prog n B w0 (.exit id) Q env H := Yjv h
theorem zs76  (h : VQ n B w0 Q .normal env H)  : VC Tryz.prog n B w0 .skip Q env H := Yjw h
theorem zs77 {K : Act → World → Prop} (h : VQ n B w0 Q .ret env H)  : VQ n B w0 (Exit.then K Q) .ret env H := Ydt h
theorem zs78 {id : Nat} (h : VQ n B w0 Q .ret env H)  : VQ n B w0 (Exit.inBlock id Q) .ret env H := Yco h
theorem zs79 {id : Nat} (h : VQ n B w0 Q .normal env H)  : VQ n B w0 (Exit.inBlock id Q) .normal env H := O0 h
theorem zs80 {K : Act → World → Prop} {id : Nat} (h : VQ n B w0 Q (.exit id) env H)  : VQ n B w0 (Exit.then K Q) (.exit id) env H := Ycq h
theorem zs81 {id : Nat} (h : VQ n B w0 Q .normal env H)  : VQ n B w0 (Exit.inBlock id Q) (.exit id) env H := Ya2 h
theorem zs83 {id : Nat} {l : List Oper} (h : VL Tryz.prog (some none) n B w0 l.toArray Q l env H) (hq : (l.all fun o => !eff o) = true := by exact rfl) (hm : Tryz.prog.follows .mixedOrders = true := by kernel_rfl) (hB : Region.lexB .any l.toArray = true := by kernel_rfl) : VC Tryz.prog n B w0 (.region id l.toArray true) Q env H := YhV hq hm hB h
theorem zs84 {id : Nat} {l : List Oper} (h : VL Tryz.prog (some none) n B w0 l.toArray Q l env H) (hq : (l.all fun o => !effW o) = true := by exact rfl) (hm : Tryz.prog.follows .mixedOrders = true := by kernel_rfl) (hB : Region.lexB .any l.toArray = true := by kernel_rfl) : VC Tryz.prog n B w0 (.region id l.toArray true) Q env H := YhU hq hm hB h
theorem zs87 {o : Oper} {F HF : List HP} (h : VL Tryz.prog none n B w0 ops (Yc6 Tryz.prog B w0 ops Q H rest) [o] env HF) (he : eff o = true := by exact rfl) (hg : o.guard = none := by exact rfl) (happ : App H F HF := by (exact zp; done)) : VL Tryz.prog (some (some F)) n B w0 ops Q (o :: rest) env H := Yjz he hg happ h
theorem zs90 {l : List Oper} {F : List HP} {i : Nat} {t : OT} {o : Oper} (h : VL Tryz.prog (some (some F)) n B w0 ops (VP Tryz.prog B w0 ops l Q H t) [o] env H) (ho : nthO l i = o := by (simp only [nthO]; rfl)) : VT Tryz.prog n B w0 ops l Q (.n1 i t) env H F := YlB ho h
theorem zs91 {l : List Oper} {F : List HP} {i j : Nat} {t u : OT} {o o' : Oper} (h : VL Tryz.prog (some (some F)) n B w0 ops (VP Tryz.prog B w0 ops l Q H t) [o] env H) (h' : VL Tryz.prog (some (some F)) n B w0 ops (VP Tryz.prog B w0 ops l Q H u) [o'] env H) (ho : nthO l i = o := by (simp only [nthO]; rfl)) (ho' : nthO l j = o' := by (simp only [nthO]; rfl)) : VT Tryz.prog n B w0 ops l Q (.n2 i t j u) env H F := YlC ho ho' h h'
theorem zs93 {l : List Oper} (h : VL Tryz.prog none n B w0 ops Q l env H)  : VQ n B w0 (X5 Tryz.prog ops Q l) .normal env H := Yih h
theorem zs94  (h : VQ n B w0 Q .normal env H)  : VQ n B w0 (Only Q) .normal env H := YjL h
theorem zg1 {m : Mode} {d : Nat} {op : Op} {ty : TypeId} {pos : String} {after : Array Edge} {j : Nat} {b : Bool} (h : VL Tryz.prog m n B w0 ops Q (⟨some d, op, ty, pos, after, some (j, b)⟩ :: rest) env H) : VL Tryz.prog m n B w0 ops Q (⟨some d, op, ty, pos, after, some (j, b)⟩ :: rest) env H := h
theorem zg2 {s f : Nat} {x : Operand} (h : VL Tryz.prog m n B w0 ops Q (⟨some d, .fieldAddr s x f, ty, pos, after, none⟩ :: rest) env H) : VL Tryz.prog m n B w0 ops Q (⟨some d, .fieldAddr s x f, ty, pos, after, none⟩ :: rest) env H := h
theorem zg3 {t : Nat} {x : Operand} (h : VL Tryz.prog m n B w0 ops Q (⟨some d, .load t x, ty, pos, after, none⟩ :: rest) env H) : VL Tryz.prog m n B w0 ops Q (⟨some d, .load t x, ty, pos, after, none⟩ :: rest) env H := h
theorem zg4 {tx : Nat} {x : Operand} (h : VL Tryz.prog m n B w0 ops Q (⟨some d, .call ⟨.builtin .len, #[x], #[tx]⟩, ty, pos, after, none⟩ :: rest) env H) : VL Tryz.prog m n B w0 ops Q (⟨some d, .call ⟨.builtin .len, #[x], #[tx]⟩, ty, pos, after, none⟩ :: rest) env H := h
theorem zg5 {t : Nat} {x y : Operand} (h : VL Tryz.prog m n B w0 ops Q (⟨some d, .indexAddr t x y, ty, pos, after, none⟩ :: rest) env H) : VL Tryz.prog m n B w0 ops Q (⟨some d, .indexAddr t x y, ty, pos, after, none⟩ :: rest) env H := h
theorem zg6 {c x y : Operand} (h : VL Tryz.prog m n B w0 ops Q (⟨some d, .pick c x y, ty, pos, after, none⟩ :: rest) env H) : VL Tryz.prog m n B w0 ops Q (⟨some d, .pick c x y, ty, pos, after, none⟩ :: rest) env H := h
theorem zg7  (h : VL Tryz.prog m n B w0 ops Q (⟨some d, .binOp .eql xt x y yt, ty, pos, after, none⟩ :: rest) env H) : VL Tryz.prog m n B w0 ops Q (⟨some d, .binOp .eql xt x y yt, ty, pos, after, none⟩ :: rest) env H := h
theorem zg8  (h : VL Tryz.prog m n B w0 ops Q (⟨some d, .binOp .neq xt x y yt, ty, pos, after, none⟩ :: rest) env H) : VL Tryz.prog m n B w0 ops Q (⟨some d, .binOp .neq xt x y yt, ty, pos, after, none⟩ :: rest) env H := h
theorem zg13  (h : VL Tryz.prog m n B w0 ops Q (⟨some d, .binOp .add xt x y yt, ty, pos, after, none⟩ :: rest) env H) : VL Tryz.prog m n B w0 ops Q (⟨some d, .binOp .add xt x y yt, ty, pos, after, none⟩ :: rest) env H := h
theorem zg14  (h : VL Tryz.prog m n B w0 ops Q (⟨some d, .binOp .sub xt x y yt, ty, pos, after, none⟩ :: rest) env H) : VL Tryz.prog m n B w0 ops Q (⟨some d, .binOp .sub xt x y yt, ty, pos, after, none⟩ :: rest) env H := h
theorem zg15  (h : VL Tryz.prog m n B w0 ops Q (⟨some d, .binOp .mul xt x y yt, ty, pos, after, none⟩ :: rest) env H) : VL Tryz.prog m n B w0 ops Q (⟨some d, .binOp .mul xt x y yt, ty, pos, after, none⟩ :: rest) env H := h
theorem zg16  (h : VL Tryz.prog m n B w0 ops Q (⟨some d, .binOp .quo xt x y yt, ty, pos, after, none⟩ :: rest) env H) : VL Tryz.prog m n B w0 ops Q (⟨some d, .binOp .quo xt x y yt, ty, pos, after, none⟩ :: rest) env H := h
theorem zg17  (h : VL Tryz.prog m n B w0 ops Q (⟨some d, .binOp .rem xt x y yt, ty, pos, after, none⟩ :: rest) env H) : VL Tryz.prog m n B w0 ops Q (⟨some d, .binOp .rem xt x y yt, ty, pos, after, none⟩ :: rest) env H := h
theorem zg18  (h : VL Tryz.prog m n B w0 ops Q (⟨some d, .binOp .shr xt x y yt, ty, pos, after, none⟩ :: rest) env H) : VL Tryz.prog m n B w0 ops Q (⟨some d, .binOp .shr xt x y yt, ty, pos, after, none⟩ :: rest) env H := h
theorem zg19 {src dst : TypeId} (h : VL Tryz.prog m n B w0 ops Q (⟨some d, .convert src dst x, ty, pos, after, none⟩ :: rest) env H) : VL Tryz.prog m n B w0 ops Q (⟨some d, .convert src dst x, ty, pos, after, none⟩ :: rest) env H := h
theorem zg20 {x : Operand} {xt : TypeId} (h : VL Tryz.prog m n B w0 ops Q (⟨some d, .unOp .not xt x, ty, pos, after, none⟩ :: rest) env H) : VL Tryz.prog m n B w0 ops Q (⟨some d, .unOp .not xt x, ty, pos, after, none⟩ :: rest) env H := h
theorem zg21 {t : Nat} {x y : Operand} (h : VL Tryz.prog m n B w0 ops Q (⟨some d, .call ⟨.builtin .append, #[x, y], #[t, t]⟩, ty, pos, after, none⟩ :: rest) env H) : VL Tryz.prog m n B w0 ops Q (⟨some d, .call ⟨.builtin .append, #[x, y], #[t, t]⟩, ty, pos, after, none⟩ :: rest) env H := h
theorem zg22 {t : Nat} {x y : Operand} (h : VL Tryz.prog m n B w0 ops Q (⟨none, .store t x y, ty, pos, after, none⟩ :: rest) env H) : VL Tryz.prog m n B w0 ops Q (⟨none, .store t x y, ty, pos, after, none⟩ :: rest) env H := h
theorem zg23 {t : TypeId} {x : Operand} (h : VL Tryz.prog m n B w0 ops Q (⟨some d, .box t x, ty, pos, after, none⟩ :: rest) env H) : VL Tryz.prog m n B w0 ops Q (⟨some d, .box t x, ty, pos, after, none⟩ :: rest) env H := h
theorem zg24 {t : TypeId} (h : VL Tryz.prog m n B w0 ops Q (⟨some d, .alloc t, ty, pos, after, none⟩ :: rest) env H) : VL Tryz.prog m n B w0 ops Q (⟨some d, .alloc t, ty, pos, after, none⟩ :: rest) env H := h
theorem zg25 {t : TypeId} {parts : List (Nat × Operand)} (h : VL Tryz.prog m n B w0 ops Q (⟨some d, .build t parts.toArray, ty, pos, after, none⟩ :: rest) env H) : VL Tryz.prog m n B w0 ops Q (⟨some d, .build t parts.toArray, ty, pos, after, none⟩ :: rest) env H := h
theorem zg26 {t len : Nat} {parts : List (Nat × Operand)} (h : VL Tryz.prog m n B w0 ops Q (⟨some d, .buildSlice t len parts.toArray, ty, pos, after, none⟩ :: rest) env H) : VL Tryz.prog m n B w0 ops Q (⟨some d, .buildSlice t len parts.toArray, ty, pos, after, none⟩ :: rest) env H := h
theorem zg27 {c : Operand} {x y : Code} (h : VC Tryz.prog n B w0 (.cond c x y) Q env H) : VC Tryz.prog n B w0 (.cond c x y) Q env H := h
theorem zg28 {id : Nat} {l : List Oper} (h : VC Tryz.prog n B w0 (.region id l.toArray true) Q env H) : VC Tryz.prog n B w0 (.region id l.toArray true) Q env H := h
theorem zg29 {fn : Fn} {caps : List Operand} (h : VL Tryz.prog m n B w0 ops Q (⟨some d, .makeFunc fn #[] caps.toArray, ty, pos, after, none⟩ :: rest) env H) : VL Tryz.prog m n B w0 ops Q (⟨some d, .makeFunc fn #[] caps.toArray, ty, pos, after, none⟩ :: rest) env H := h
end
end Go.Eng
namespace Go.Proofs.YtmalhidldgfeoaaGreatDoor
open Go.RowKit Go.Eng Go.Nw
structure RowM where
  A : Option Addr
  cap : Nat
  xs : List Int
structure NetM where
  nodes : Int
  pA : Option Addr
  pcap : Nat
  rows : List RowM
  noise : Int
  thr : Int
  lA : Option Addr
  lcap : Nat
  links : List Lk
  mA : Option Addr
  mcap : Nat
  margin : List Int
def NetM.net (n : NetM) : Net := ⟨n.nodes, n.rows.map (·.xs), n.noise, n.thr, n.links, n.margin⟩
def NetM.val (n : NetM) : Value := .agg #[.int .i64 n.nodes, .slice n.pA n.rows.length n.pcap, .int .i64 n.noise, .int .i64 n.thr, .slice n.lA n.links.length n.lcap, .slice n.mA n.margin.length n.mcap]
def rowF (r : RowM) : List Value := [.slice r.A r.xs.length r.cap]
def numF (z : Int) : List Value := [.int .i64 z]
def lkF (l : Lk) : List Value := [.int .i64 l.1, .int .i64 l.2.1, .int .i64 l.2.2]
def lkV (l : Lk) : Value := .agg #[.int .i64 l.1, .int .i64 l.2.1, .int .i64 l.2.2]
structure NetM.In (B : Nat) (w0 : World) (H : List HP) (n : NetM) : Prop where
  pw : Rd B w0 H n.pA (n.rows.flatMap rowF)
  rw_ : ∀ r ∈ n.rows, Rd B w0 H r.A (r.xs.flatMap numF)
  lk : Rd B w0 H n.lA (n.links.flatMap lkF)
  mg : Rd B w0 H n.mA (n.margin.flatMap numF)
  s1 : n.rows.length ≤ 9223372036854775807
  s2 : ∀ r ∈ n.rows, r.xs.length ≤ 9223372036854775807
  s3 : n.links.length ≤ 9223372036854775807
  s4 : n.margin.length ≤ 9223372036854775807
theorem NetM.In.cons {B : Nat} {w0 : World} {H : List HP} {n : NetM} {X : HP} (h : n.In B w0 H) : n.In B w0 (X :: H) :=
  ⟨h.pw.cons, fun r hr => (h.rw_ r hr).cons, h.lk.cons, h.mg.cons, h.s1, h.s2, h.s3, h.s4⟩
theorem Ya9 {α : Type} (val : α → Value) (p : α → Bool) (l : List α) (f : Nat) (cs : List Value) (hen : ∀ xs w, (callFunc f xs).run Tryz.prog w = .ok (.enter f xs) w) (hlen : l.length ≤ 9223372036854775807) {A : Option Addr} {cap B : Nat} {w0 : World} {H : List HP} {w : World} (hr : Rd B w0 H A (l.flatMap fun a => [val a]))
    (hp : ∀ a ∈ l, ∀ w, St B w0 H w → Calls Tryz.prog f ([val a] ++ cs).toArray w (Post B w0 fun v K => v = .bool (p a) ∧ K = H)) (hw : St B w0 H w) :
    Calls Tryz.prog 228 [.slice A l.length cap, .func (.func f) #[] cs.toArray].toArray w (Post B w0 fun v K => v = .int .i64 (Yn p l 0) ∧ K = H) := by
  refine Yc Tryz.func228 Tryz.ntmps228 rfl rfl hw ?_
  repeat' (first | refine zgb ?_ | fail)
  refine Yl (fun (k : Nat) => [(8, .int .i64 k), (7, .int .i64 l.length), (0, .slice A l.length cap), (1, .func (.func f) #[] cs.toArray)]) (fun _ => H) (fun k => k ≤ l.length ∧ Yn p l 0 = Yn p (l.drop k) k) (fun k => l.length - k) 0 ⟨Nat.zero_le _, by simp⟩ ?_ (fun w hw => hw) ?_
  · exact zu
  rintro k ⟨hk, hi⟩ K hK
  by_cases hlt : k < l.length
  · obtain ⟨a, ha⟩ : ∃ a, l[k]? = some a := ⟨_, List.getElem?_eq_getElem hlt⟩
    have hpa := hp a (List.mem_of_getElem? ha)
    rw [Jo p l ha] at hi
    repeat' (first | ((first | apply YC (cs := cs)); exact rfl; exact hen; exact za; exact rfl; exact fun _ hw => hpa _ hw) | refine zgd ?_ | (refine zge ?_ ?_ <;> intro _ <;> try (exfalso; omega)) | fail)
    cases hpv : p a
    · rw [hpv] at hi
      repeat' (first | refine zgc ?_ | fail)
      apply hK (k + 1)
      · exact ⟨by omega, hi⟩
      · omega
      · exact zu
      · exact fun w hw => hw
    · rw [hpv] at hi
      repeat' (first | refine zgc ?_ | fail)
      apply Yd; exact rfl; exact rfl
      exact ⟨by rw [hi]; rfl, rfl⟩
  · repeat' (first | refine zgc ?_ | (refine zge ?_ ?_ <;> intro _ <;> try (exfalso; omega)) | fail)
    apply Yd; exact rfl; exact rfl
    rw [hi, List.drop_eq_nil_of_le (by omega)]
    exact ⟨rfl, rfl⟩
theorem ZC {α : Type} (val : α → Value) (p : α → Bool) (l : List α) (f : Nat) (cs : List Value) (hen : ∀ xs w, (callFunc f xs).run Tryz.prog w = .ok (.enter f xs) w) (hlen : l.length ≤ 9223372036854775807) {A : Option Addr} {cap B : Nat} {w0 : World} {H : List HP} {w : World} (hr : Rd B w0 H A (l.flatMap fun a => [val a]))
    (hp : ∀ a ∈ l, ∀ w, St B w0 H w → Calls Tryz.prog f ([val a] ++ cs).toArray w (Post B w0 fun v K => v = .bool (p a) ∧ K = H)) (hw : St B w0 H w) :
    Calls Tryz.prog 164 [.slice A l.length cap, .func (.func f) #[] cs.toArray].toArray w (Post B w0 fun v K => v = .bool (l.any p) ∧ K = H) := by
  refine Yc Tryz.func164 Tryz.ntmps164 rfl rfl hw ?_
  have hia := Vk p l 0 (by omega)
  repeat' (first | ((first | apply Ya YkN | apply Yb YkN); exact za; exact rfl; exact fun _ hw => (Ya9 val p l f cs hen hlen hr hp hw)) | refine zga ?_ | (refine zgf ?_ ?_ <;> intro _ <;> try (exfalso; omega)) | fail)
  all_goals (apply Yd; exact rfl; exact rfl)
  · rename_i h; exact ⟨by rw [hia.1 h], rfl⟩
  · rename_i h
    have : ¬ l.any p = true := fun e => by have := hia.2 e; omega
    exact ⟨by rw [Bool.eq_false_iff.2 this], rfl⟩
theorem Yba {α : Type} (val : α → Value) (p : α → Bool) (l : List α) (f : Nat) (cs : List Value) (hen : ∀ xs w, (callFunc f xs).run Tryz.prog w = .ok (.enter f xs) w) (hlen : l.length ≤ 9223372036854775807) {A : Option Addr} {cap B : Nat} {w0 : World} {H : List HP} {w : World} (hr : Rd B w0 H A (l.flatMap fun a => [val a]))
    (hp : ∀ a ∈ l, ∀ w, St B w0 H w → Calls Tryz.prog f ([val a] ++ cs).toArray w (Post B w0 fun v K => v = .bool (p a) ∧ K = H)) (hw : St B w0 H w) :
    Calls Tryz.prog 227 [.slice A l.length cap, .func (.func f) #[] cs.toArray].toArray w (Post B w0 fun v K => v = .int .i64 (Yn p l 0) ∧ K = H) := by
  refine Yc Tryz.func227 Tryz.ntmps227 rfl rfl hw ?_
  repeat' (first | refine zgb ?_ | fail)
  refine Yl (fun (k : Nat) => [(8, .int .i64 k), (7, .int .i64 l.length), (0, .slice A l.length cap), (1, .func (.func f) #[] cs.toArray)]) (fun _ => H) (fun k => k ≤ l.length ∧ Yn p l 0 = Yn p (l.drop k) k) (fun k => l.length - k) 0 ⟨Nat.zero_le _, by simp⟩ ?_ (fun w hw => hw) ?_
  · exact zu
  rintro k ⟨hk, hi⟩ K hK
  by_cases hlt : k < l.length
  · obtain ⟨a, ha⟩ : ∃ a, l[k]? = some a := ⟨_, List.getElem?_eq_getElem hlt⟩
    have hpa := hp a (List.mem_of_getElem? ha)
    rw [Jo p l ha] at hi
    repeat' (first | ((first | apply YC (cs := cs)); exact rfl; exact hen; exact za; exact rfl; exact fun _ hw => hpa _ hw) | refine zgd ?_ | (refine zge ?_ ?_ <;> intro _ <;> try (exfalso; omega)) | fail)
    cases hpv : p a
    · rw [hpv] at hi
      repeat' (first | refine zgc ?_ | fail)
      apply hK (k + 1)
      · exact ⟨by omega, hi⟩
      · omega
      · exact zu
      · exact fun w hw => hw
    · rw [hpv] at hi
      repeat' (first | refine zgc ?_ | fail)
      apply Yd; exact rfl; exact rfl
      exact ⟨by rw [hi]; rfl, rfl⟩
  · repeat' (first | refine zgc ?_ | (refine zge ?_ ?_ <;> intro _ <;> try (exfalso; omega)) | fail)
    apply Yd; exact rfl; exact rfl
    rw [hi, List.drop_eq_nil_of_le (by omega)]
    exact ⟨rfl, rfl⟩
theorem JR {α : Type} (val : α → Value) (p : α → Bool) (l : List α) (f : Nat) (cs : List Value) (hen : ∀ xs w, (callFunc f xs).run Tryz.prog w = .ok (.enter f xs) w) (hlen : l.length ≤ 9223372036854775807) {A : Option Addr} {cap B : Nat} {w0 : World} {H : List HP} {w : World} (hr : Rd B w0 H A (l.flatMap fun a => [val a]))
    (hp : ∀ a ∈ l, ∀ w, St B w0 H w → Calls Tryz.prog f ([val a] ++ cs).toArray w (Post B w0 fun v K => v = .bool (p a) ∧ K = H)) (hw : St B w0 H w) :
    Calls Tryz.prog 160 [.slice A l.length cap, .func (.func f) #[] cs.toArray].toArray w (Post B w0 fun v K => v = .bool (l.any p) ∧ K = H) := by
  refine Yc Tryz.func160 Tryz.ntmps160 rfl rfl hw ?_
  have hia := Vk p l 0 (by omega)
  repeat' (first | ((first | apply Ya YkM | apply Yb YkM); exact za; exact rfl; exact fun _ hw => (Yba val p l f cs hen hlen hr hp hw)) | refine zga ?_ | (refine zgf ?_ ?_ <;> intro _ <;> try (exfalso; omega)) | fail)
  all_goals (apply Yd; exact rfl; exact rfl)
  · rename_i h; exact ⟨by rw [hia.1 h], rfl⟩
  · rename_i h
    have : ¬ l.any p = true := fun e => by have := hia.2 e; omega
    exact ⟨by rw [Bool.eq_false_iff.2 this], rfl⟩
theorem Yae {α : Type} (val : α → Value) (p : α → Bool) (l : List α) (f : Nat) (cs : List Value) (hen : ∀ xs w, (callFunc f xs).run Tryz.prog w = .ok (.enter f xs) w) (hlen : l.length ≤ 9223372036854775807) {A : Option Addr} {cap B : Nat} {w0 : World} {H : List HP} {w : World} (hr : Rd B w0 H A (l.flatMap fun a => [val a]))
    (hp : ∀ a ∈ l, ∀ w, St B w0 H w → Calls Tryz.prog f ([val a] ++ cs).toArray w (Post B w0 fun v K => v = .bool (p a) ∧ K = H)) (hw : St B w0 H w) :
    Calls Tryz.prog 284 [.slice A l.length cap, .func (.func f) #[] cs.toArray].toArray w (Post B w0 fun v K => v = .int .i64 (Yn p l 0) ∧ K = H) := by
  refine Yc Tryz.func284 Tryz.ntmps284 rfl rfl hw ?_
  repeat' (first | refine zgb ?_ | fail)
  refine Yl (fun (k : Nat) => [(8, .int .i64 k), (7, .int .i64 l.length), (0, .slice A l.length cap), (1, .func (.func f) #[] cs.toArray)]) (fun _ => H) (fun k => k ≤ l.length ∧ Yn p l 0 = Yn p (l.drop k) k) (fun k => l.length - k) 0 ⟨Nat.zero_le _, by simp⟩ ?_ (fun w hw => hw) ?_
  · exact zu
  rintro k ⟨hk, hi⟩ K hK
  by_cases hlt : k < l.length
  · obtain ⟨a, ha⟩ : ∃ a, l[k]? = some a := ⟨_, List.getElem?_eq_getElem hlt⟩
    have hpa := hp a (List.mem_of_getElem? ha)
    rw [Jo p l ha] at hi
    repeat' (first | ((first | apply YC (cs := cs)); exact rfl; exact hen; exact za; exact rfl; exact fun _ hw => hpa _ hw) | refine zgd ?_ | (refine zge ?_ ?_ <;> intro _ <;> try (exfalso; omega)) | fail)
    cases hpv : p a
    · rw [hpv] at hi
      repeat' (first | refine zgc ?_ | fail)
      apply hK (k + 1)
      · exact ⟨by omega, hi⟩
      · omega
      · exact zu
      · exact fun w hw => hw
    · rw [hpv] at hi
      repeat' (first | refine zgc ?_ | fail)
      apply Yd; exact rfl; exact rfl
      exact ⟨by rw [hi]; rfl, rfl⟩
  · repeat' (first | refine zgc ?_ | (refine zge ?_ ?_ <;> intro _ <;> try (exfalso; omega)) | fail)
    apply Yd; exact rfl; exact rfl
    rw [hi, List.drop_eq_nil_of_le (by omega)]
    exact ⟨rfl, rfl⟩
theorem Wm {α : Type} (val : α → Value) (p : α → Bool) (l : List α) (f : Nat) (cs : List Value) (hen : ∀ xs w, (callFunc f xs).run Tryz.prog w = .ok (.enter f xs) w) (hlen : l.length ≤ 9223372036854775807) {A : Option Addr} {cap B : Nat} {w0 : World} {H : List HP} {w : World} (hr : Rd B w0 H A (l.flatMap fun a => [val a]))
    (hp : ∀ a ∈ l, ∀ w, St B w0 H w → Calls Tryz.prog f ([val a] ++ cs).toArray w (Post B w0 fun v K => v = .bool (p a) ∧ K = H)) (hw : St B w0 H w) :
    Calls Tryz.prog 244 [.slice A l.length cap, .func (.func f) #[] cs.toArray].toArray w (Post B w0 fun v K => v = .bool (l.any p) ∧ K = H) := by
  refine Yc Tryz.func244 Tryz.ntmps244 rfl rfl hw ?_
  have hia := Vk p l 0 (by omega)
  repeat' (first | ((first | apply Ya YkP | apply Yb YkP); exact za; exact rfl; exact fun _ hw => (Yae val p l f cs hen hlen hr hp hw)) | refine zga ?_ | (refine zgf ?_ ?_ <;> intro _ <;> try (exfalso; omega)) | fail)
  all_goals (apply Yd; exact rfl; exact rfl)
  · rename_i h; exact ⟨by rw [hia.1 h], rfl⟩
  · rename_i h
    have : ¬ l.any p = true := fun e => by have := hia.2 e; omega
    exact ⟨by rw [Bool.eq_false_iff.2 this], rfl⟩
theorem Yg7 (x : Int) {B : Nat} {w0 : World} {H : List HP} {w : World} (hw : St B w0 H w) : Calls Tryz.prog 158 [.int .i64 x].toArray w (Post B w0 fun v K => v = .bool false ∧ K = H) := by
  refine Yc Tryz.func158 Tryz.ntmps158 rfl rfl hw ?_
  repeat' (first | refine zga ?_ | (refine zge ?_ ?_ <;> intro _ <;> try (exfalso; omega)) | fail)
  apply Yd; exact rfl; exact rfl
  exact ⟨rfl, rfl⟩
theorem V2 (x y : Int) {B : Nat} {w0 : World} {H : List HP} {w : World} (hw : St B w0 H w) : Calls Tryz.prog 99 [.int .i64 x, .int .i64 y].toArray w (Post B w0 fun v K => v = .int .i64 (cmpI x y) ∧ K = H) := by
  refine Yc Tryz.func99 Tryz.ntmps99 rfl rfl hw ?_
  unfold cmpI
  repeat' (first | ((first | apply Ya YkG | apply Yb YkG); exact za; exact rfl; exact fun _ hw => (Yg7 _ hw)) | refine zgb ?_ | (refine zge ?_ ?_ <;> intro _ <;> try (exfalso; omega)) | fail)
  all_goals (((repeat apply Yp); apply Yd; exact rfl; exact rfl; refine ⟨congrArg _ ?_, rfl⟩); (repeat (first | refine Xh (by omega) ?_ | refine Xi (by omega) ?_)); rfl)
open Go.RowKit Go.Eng Go.Nw
def cmpV (a b : List Int) : Int := if Jp a b = true then -1 else if Jp b a = true then 1 else 0
theorem Ya8 (a b : List Int) (hla : a.length ≤ 1000000000000) (hlb : b.length ≤ 1000000000000) {A1 A2 : Option Addr} {c1 c2 B : Nat} {w0 : World} {H : List HP} {w : World} (hr1 : Rd B w0 H A1 (a.flatMap numF)) (hr2 : Rd B w0 H A2 (b.flatMap numF)) (hw : St B w0 H w) :
    Calls Tryz.prog 178 [.slice A1 a.length c1, .slice A2 b.length c2].toArray w (Post B w0 fun v K => v = .int .i64 (cmpV a b) ∧ K = H) := by
  refine Yc Tryz.func178 Tryz.ntmps178 rfl rfl hw ?_
  repeat' (first | refine zgb ?_ | fail)
  refine Yl (fun (i : Nat) => [(11, .int .i64 i), (10, .int .i64 a.length), (9, .slice A1 a.length c1), (0, .slice A1 a.length c1), (1, .slice A2 b.length c2)]) (fun _ => H) (fun i => i ≤ a.length ∧ i ≤ b.length ∧ Jp a b = Jp (a.drop i) (b.drop i) ∧ Jp b a = Jp (b.drop i) (a.drop i)) (fun i => a.length - i) 0 ⟨Nat.zero_le _, Nat.zero_le _, rfl, rfl⟩ ?_ (fun w hw => hw) ?_
  · exact zu
  rintro i ⟨hi, hib, e1, e2⟩ K hK
  by_cases hlt : i < a.length
  · obtain ⟨x, hx⟩ : ∃ x, a[i]? = some x := ⟨_, List.getElem?_eq_getElem hlt⟩
    by_cases hltb : i < b.length
    · obtain ⟨y, hy⟩ : ∃ y, b[i]? = some y := ⟨_, List.getElem?_eq_getElem hltb⟩
      have d1 := Yd9 hx hy
      have d2 := Yd9 hy hx
      have hcm := fun {w : World} (hw : St B w0 H w) => V2 x y hw
      by_cases hxy : x = y
      · rw [if_neg (fun h => h hxy)] at d1
        rw [if_neg (fun h => h hxy.symm)] at d2
        rw [show cmpI x y = 0 by unfold cmpI; rw [if_neg (by omega), if_neg (by omega)]] at hcm
        repeat' (first | ((first | apply Ya en99 | apply Yb en99); exact za; exact rfl; exact fun _ hw => (hcm hw)) | refine zgd ?_ | (refine zgf ?_ ?_ <;> intro _ <;> try (exfalso; omega)) | fail)
        apply hK (i + 1)
        · exact ⟨by omega, by omega, e1.trans d1, e2.trans d2⟩
        · omega
        · exact zu
        · exact fun w hw => hw
      · rw [if_pos hxy] at d1
        rw [if_pos (Ne.symm hxy)] at d2
        clear hK
        rcases Int.lt_or_gt_of_ne hxy with h | h
        · rw [show cmpI x y = -1 by unfold cmpI; rw [if_pos h]] at hcm
          have hv : cmpV a b = -1 := by unfold cmpV; rw [e1, d1, if_pos (decide_eq_true h)]
          rw [hv]
          repeat' (first | ((first | apply Ya en99 | apply Yb en99); exact za; exact rfl; exact fun _ hw => (hcm hw)) | refine zgd ?_ | (refine zgf ?_ ?_ <;> intro _ <;> try (exfalso; omega)) | fail)
          apply Yd; exact rfl; exact rfl; exact ⟨rfl, rfl⟩
        · rw [show cmpI x y = 1 by unfold cmpI; rw [if_neg (by omega), if_pos h]] at hcm
          have hv : cmpV a b = 1 := by unfold cmpV; rw [e1, d1, decide_eq_false (by omega), if_neg (by decide), e2, d2, if_pos (decide_eq_true h)]
          rw [hv]
          repeat' (first | ((first | apply Ya en99 | apply Yb en99); exact za; exact rfl; exact fun _ hw => (hcm hw)) | refine zgd ?_ | (refine zgf ?_ ?_ <;> intro _ <;> try (exfalso; omega)) | fail)
          apply Yd; exact rfl; exact rfl; exact ⟨rfl, rfl⟩
    · obtain rfl : i = b.length := by omega
      clear hK
      have hv : cmpV a b = 1 := by
        unfold cmpV
        rw [e1, e2, List.drop_length, List.drop_eq_getElem_cons hlt]
        rfl
      rw [hv]
      repeat' (first | refine zgd ?_ | (refine zgf ?_ ?_ <;> intro _ <;> try (exfalso; omega)) | fail)
      apply Yd; exact rfl; exact rfl; exact ⟨rfl, rfl⟩
  · obtain rfl : i = a.length := by omega
    clear hK
    rw [List.drop_length] at e1 e2
    by_cases hl : a.length < b.length
    · have hv : cmpV a b = -1 := by
        unfold cmpV
        rw [e1, List.drop_eq_getElem_cons hl]
        rfl
      rw [hv]
      repeat' (first | refine zgc ?_ | (refine zge ?_ ?_ <;> intro _ <;> try (exfalso; omega)) | fail)
      apply Yd; exact rfl; exact rfl; exact ⟨rfl, rfl⟩
    · have hv : cmpV a b = 0 := by
        unfold cmpV
        rw [e1, e2, List.drop_eq_nil_of_le (by omega)]
        rfl
      rw [hv]
      repeat' (first | refine zgc ?_ | (refine zge ?_ ?_ <;> intro _ <;> try (exfalso; omega)) | fail)
      apply Yd; exact rfl; exact rfl; exact ⟨rfl, rfl⟩
open Go.Nw
abbrev Cel := Int × Int × Int × Int × Int
def nums (c : Cel) : List Int := [c.1, c.2.1, c.2.2.1, c.2.2.2.1, c.2.2.2.2]
def Z0 (a b : Cel) : Bool := Jp (nums a) (nums b)
theorem YbX : ∀ {a b c : List Int}, Jp a b = true → Jp b c = true → Jp a c = true
  | _, _, [], _, h => by cases ‹List Int› <;> cases h
  | [], _, _ :: _, _, _ => rfl
  | _ :: _, [], _ :: _, h, _ => by cases h
  | x :: a, y :: b, z :: c, h1, h2 => by
    unfold Jp at h1 h2 ⊢
    by_cases e1 : x = y
    · subst e1
      rw [if_neg (fun h => h rfl)] at h1
      by_cases e2 : x = z
      · subst e2
        rw [if_neg (fun h => h rfl)] at h2 ⊢
        exact YbX h1 h2
      · rw [if_pos e2] at h2 ⊢; exact h2
    · rw [if_pos e1] at h1
      have h3 := of_decide_eq_true h1
      by_cases e2 : y = z
      · subst e2
        rw [if_pos e1]; exact h1
      · rw [if_pos e2] at h2
        have h4 := of_decide_eq_true h2
        rw [if_pos (by omega)]
        exact decide_eq_true (by omega)
theorem Ybs {a b c : Cel} (h1 : Z0 a b = true) (h2 : Z0 b c = true) : Z0 a c = true := YbX h1 h2
def insE (x n : Int) : Bool := decide (0 ≤ x ∧ x < n)
structure Sch where
  len : Int
  off : Int
  cells : List Cel
def Zm (s : Sch) (c : Cel) : Bool := insE c.1 s.len && insE c.2.1 s.off
def JF (s : Sch) (c : Cel) : Bool := Zm s c && insE c.2.2.1 32 && insE c.2.2.2.1 32 && insE c.2.2.2.2 256
def ZZ (s : Sch) : Bool := decide (1 ≤ s.len ∧ s.len ≤ 512 ∧ 1 ≤ s.off ∧ s.off ≤ 16)
def Ym (s : Sch) (i : Nat) : Cel := s.cells.getD i (0, 0, 0, 0, 0)
def Jh (s : Sch) (i : Nat) : Bool := JF s (Ym s i) && (decide (i = 0) || Z0 (Ym s (i - 1)) (Ym s i))
def Y6 (s : Sch) : Bool := ZZ s && decide (s.cells.length ≤ 512) && (List.range s.cells.length).all (Jh s)
theorem QB {p : Nat → Bool} {k : Nat} : (List.range (k + 1)).all p = ((List.range k).all p && p k) := by
  rw [List.range_succ, List.all_append]; simp
theorem Yct {p : Nat → Bool} {i k : Nat} (hi : i < k) (h : p i = false) : (List.range k).all p = false := by
  rw [List.all_eq_false]
  exact ⟨i, List.mem_range.2 hi, by rw [h]; decide⟩
theorem Ycs {p : Nat → Bool} {i k : Nat} (h : (List.range k).all p = true) (hi : i < k) : p i = true := List.all_eq_true.1 h i (List.mem_range.2 hi)
theorem ZB {s : Sch} {i : Nat} {c : Cel} (h : s.cells[i]? = some c) : Ym s i = c := by
  unfold Ym; rw [List.getD_eq_getElem?_getD, h]; rfl
theorem YG {s : Sch} {i : Nat} (h : i < s.cells.length) : s.cells[i]? = some (Ym s i) := by
  unfold Ym; rw [List.getD_eq_getElem?_getD, List.getElem?_eq_getElem h]; rfl
theorem WM {s : Sch} {i : Nat} (h : i < s.cells.length) : Ym s i ∈ s.cells := List.mem_of_getElem? (YG h)
structure Frm (s : Sch) : Prop where
  sized : ZZ s = true
  few : s.cells.length ≤ 512
  formed : ∀ c ∈ s.cells, JF s c = true
  ord : s.cells.Pairwise fun a b => Z0 a b = true
theorem Wx {α : Type} {lt : α → α → Bool} (htr : ∀ {a b c}, lt a b = true → lt b c = true → lt a c = true) {l : List α} (h : ∀ i, ∀ a b, l[i]? = some a → l[i + 1]? = some b → lt a b = true) : l.Pairwise fun a b => lt a b = true := by
  induction l with
  | nil => exact .nil
  | cons x l ih =>
    have h1 := ih fun i a b ha hb => h (i + 1) a b (by simpa using ha) (by simpa using hb)
    refine .cons (fun y hy => ?_) h1
    cases l with
    | nil => cases hy
    | cons z l =>
      have hz := h 0 x z rfl rfl
      rcases List.mem_cons.1 hy with rfl | hy
      · exact hz
      · exact htr hz ((List.pairwise_cons.1 h1).1 y hy)
theorem Wq {s : Sch} : Y6 s = true ↔ Frm s := by
  unfold Y6
  simp only [Bool.and_eq_true, decide_eq_true_eq]
  constructor
  · rintro ⟨⟨h1, h2⟩, h3⟩
    have hc : ∀ i, i < s.cells.length → Jh s i = true := fun i hi => Ycs h3 hi
    refine ⟨h1, h2, fun c hc2 => ?_, ?_⟩
    · obtain ⟨i, hi⟩ := List.mem_iff_getElem?.1 hc2
      have := hc i (List.getElem?_eq_some_iff.1 hi).1
      unfold Jh at this
      rw [ZB hi] at this
      simp only [Bool.and_eq_true] at this
      exact this.1
    · refine Wx (lt := Z0) (fun h1 h2 => Ybs h1 h2) fun i a b ha hb => ?_
      have := hc (i + 1) (List.getElem?_eq_some_iff.1 hb).1
      unfold Jh at this
      rw [ZB hb, Nat.add_sub_cancel, ZB ha] at this
      simp only [Bool.and_eq_true, Bool.or_eq_true, decide_eq_true_eq] at this
      rcases this.2 with h | h
      · omega
      · exact h
  · intro h
    refine ⟨⟨h.sized, h.few⟩, List.all_eq_true.2 fun i hi => ?_⟩
    have hi := List.mem_range.1 hi
    unfold Jh
    rw [h.formed _ (WM hi), Bool.true_and, Bool.or_eq_true, decide_eq_true_eq]
    rcases Nat.eq_zero_or_pos i with h0 | h0
    · exact .inl h0
    · right
      obtain ⟨h1, h2⟩ := List.getElem?_eq_some_iff.1 (YG (s := s) (i := i - 1) (by omega))
      obtain ⟨h3, h4⟩ := List.getElem?_eq_some_iff.1 (YG (s := s) hi)
      have := List.pairwise_iff_getElem.1 h.ord (i - 1) i h1 h3 (by omega)
      rw [h2, h4] at this
      exact this
abbrev Flw := Int × Int × Int × Int × Int × Int
def YW (nodes : Int) (f : Flw) : Int :=
  if f.1 < 0 ∨ 255 < f.1 ∨ insE f.2.1 nodes = false ∨ insE f.2.2.1 nodes = false then 2
  else if f.2.2.2.1 < 1 ∨ 512 < f.2.2.2.1 ∨ f.2.2.2.2.1 < 0 ∨ f.2.2.2.1 ≤ f.2.2.2.2.1 ∨ f.2.2.2.2.2 < 1 ∨ f.2.2.2.1 < f.2.2.2.2.2 then 2
  else if f.2.1 = f.2.2.1 then 1 else 0
def XA (l : List Flw) (i : Nat) : Flw := l.getD i (0, 0, 0, 0, 0, 0)
def YF (f : Nat → Int) : Nat → Nat → Int × Int
  | 0, _ => (-1, 0)
  | r + 1, i => if f i = 0 then YF f r (i + 1) else ((i : Int), f i)
theorem Y2 {f : Nat → Int} : ∀ {r i : Nat}, (YF f r i).2 = 0 ↔ ∀ k, i ≤ k → k < i + r → f k = 0
  | 0, i => by simp [YF]; intro k h1 h2; omega
  | r + 1, i => by
    unfold YF
    split
    · rename_i h
      rw [Y2]
      constructor
      · intro h1 k hk1 hk2
        rcases Nat.eq_or_lt_of_le hk1 with rfl | h2
        · exact h
        · exact h1 k (by omega) (by omega)
      · intro h1 k hk1 hk2
        exact h1 k (by omega) (by omega)
    · rename_i h
      constructor
      · intro h1; exact absurd h1 h
      · intro h1; exact absurd (h1 i (Nat.le_refl _) (by omega)) h
theorem QZ {f : Nat → Int} : ∀ {r i : Nat}, (YF f r i).2 = 0 → (YF f r i).1 = -1
  | 0, i, _ => rfl
  | r + 1, i, h => by
    unfold YF at h ⊢
    split at h
    · rw [if_pos ‹_›]; exact QZ h
    · exact absurd h ‹_›
def Y3 (nodes : Int) (l : List Flw) (i : Nat) : Int := if YW nodes (XA l i) ≠ 0 then YW nodes (XA l i) else if 0 < i ∧ (XA l i).1 ≤ (XA l (i - 1)).1 then 5 else 0
def YO (nodes : Int) (l : List Flw) : Int × Int :=
  if nodes < 2 ∨ 32 < nodes then (-1, 2) else if 16 < l.length then (-1, 8) else YF (Y3 nodes l) l.length 0
def Z2 (l : List Flw) (id : Int) : Int := Yn (fun f => decide (f.1 = id)) l 0
open Go.RowKit Go.Eng Go.Nw
theorem Yis (xs : List Int) {A : Option Addr} {cap : Nat} (n : NetM) (g : Nat) {B : Nat} {w0 : World} {H : List HP} {w : World} (hw : St B w0 (blk g (.cells #[.int .i64 n.nodes, .slice n.pA n.rows.length n.pcap, .int .i64 n.noise, .int .i64 n.thr, .slice n.lA n.links.length n.lcap, .slice n.mA n.margin.length n.mcap] 26 (0, 0)) :: H) w) :
    Calls Tryz.prog 161 [.slice A xs.length cap, .pointer (some ⟨g, 0, none⟩)].toArray w (Post B w0 fun v K => v = .bool (wide n.nodes xs) ∧ K = blk g (.cells #[.int .i64 n.nodes, .slice n.pA n.rows.length n.pcap, .int .i64 n.noise, .int .i64 n.thr, .slice n.lA n.links.length n.lcap, .slice n.mA n.margin.length n.mcap] 26 (0, 0)) :: H) := by
  refine Yc Tryz.func161 Tryz.ntmps161 rfl rfl hw ?_
  unfold wide
  repeat' (first | refine zgb ?_ | (refine zge ?_ ?_ <;> intro _ <;> try (exfalso; omega)) | fail)
  · rename_i h
    apply Yd; exact rfl; exact rfl
    exact ⟨by rw [decide_eq_true h], rfl⟩
  · rename_i h
    apply Yd; exact rfl; exact rfl
    exact ⟨by rw [decide_eq_false (by omega)], rfl⟩
theorem Yit (p : Int) {B : Nat} {w0 : World} {H : List HP} {w : World} (hw : St B w0 H w) : Calls Tryz.prog 162 [.int .i64 p].toArray w (Post B w0 fun v K => v = .bool (Zl p) ∧ K = H) := by
  refine Yc Tryz.func162 Tryz.ntmps162 rfl rfl hw ?_
  unfold Zl
  repeat' (first | refine zgc ?_ | (refine zge ?_ ?_ <;> intro _ <;> try (exfalso; omega)) | fail)
  · apply Yd; exact rfl; exact rfl
    exact ⟨by rw [decide_eq_true (by omega)], rfl⟩
  · apply Yd; exact rfl; exact rfl
    exact ⟨by rw [decide_eq_true (by omega)], rfl⟩
  · apply Yd; exact rfl; exact rfl
    exact ⟨by rw [decide_eq_false (by omega)], rfl⟩
theorem Yiu (xs : List Int) (hl : xs.length ≤ 9223372036854775807) {A : Option Addr} {cap : Nat} (g : Nat) {B : Nat} {w0 : World} {H : List HP} {w : World} (hr : Rd B w0 H A (xs.flatMap numF)) (hw : St B w0 (blk g (.cells #[.func (.func 162) #[] #[]] 195 (0, 0)) :: H) w) :
    Calls Tryz.prog 163 [.slice A xs.length cap, .pointer (some ⟨g, 0, none⟩)].toArray w (Post B w0 fun v K => v = .bool (xs.any Zl) ∧ K = blk g (.cells #[.func (.func 162) #[] #[]] 195 (0, 0)) :: H) := by
  refine Yc Tryz.func163 Tryz.ntmps163 rfl rfl hw ?_
  repeat' (first | ((first | apply Ya YbB | apply Yb YbB); exact za; exact rfl; exact fun _ hw => (ZC (fun z : Int => .int .i64 z) Zl xs 162 [] YlR hl hr.cons (fun a _ _ hw => Yit a hw) hw)) | refine zga ?_ | fail)
  apply Yd; exact rfl; exact rfl
  exact ⟨rfl, rfl⟩
theorem Ydx (n : NetM) (p : List Int → Bool) : (n.rows.any fun r => p r.xs) = n.net.power.any p := by simp [NetM.net, List.any_map, Function.comp_def]
theorem O2 (n : NetM) {B : Nat} {w0 : World} {H : List HP} {w : World} (hin : n.In B w0 H) (hw : St B w0 H w) :
    Calls Tryz.prog 108 [n.val].toArray w (Post B w0 fun v K => v = .int .i64 (VA n.net) ∧ K = H) := by
  refine Yc Tryz.func108 Tryz.ntmps108 rfl rfl hw ?_
  obtain ⟨hpw, hrw, hlk, hmg, hs1, hs2, hs3, hs4⟩ := hin
  have e1 : n.net.power.length = n.rows.length := by simp [NetM.net]
  have e2 : n.net.nodes = n.nodes := rfl
  unfold VA
  rw [e1, e2, ← Ydx, ← Ydx n (fun r => r.any Zl)]
  repeat' (first | (apply zg29; (apply Yq; exact za ; exact rfl)) | refine zgc ?_ | (refine zge ?_ ?_ <;> intro _ <;> try (exfalso; omega)) | (refine zgh ?_; intro _) | fail)
  · ((repeat apply Yp); apply Yd; exact rfl; exact rfl; refine ⟨congrArg _ ?_, rfl⟩)
    (repeat (first | refine Xh (by omega) ?_ | refine Xi (by omega) ?_))
    rfl
  rename_i g _
  repeat' (first | ((first | apply Ya Yiz | apply Yb Yiz); exact za; exact rfl; exact fun _ hw => (JR (fun r : RowM => .slice r.A r.xs.length r.cap) (fun r => wide n.nodes r.xs) n.rows 161 [.pointer (some ⟨g, 0, none⟩)] YlQ hs1 hpw.cons (fun a _ _ hw => Yis a.xs n g hw) hw)) | refine zgc ?_ | fail)
  cases hc : (n.rows.any fun r => wide n.nodes r.xs)
  rotate_left
  · repeat' (first | refine zgb ?_ | fail)
    ((repeat apply Yp); apply Yd; exact rfl; exact rfl; refine ⟨congrArg _ ?_, rfl⟩)
    rw [if_neg (by omega)]; rfl
  repeat' (first | (apply zg29; (apply Yq; exact za ; exact rfl)) | refine zgd ?_ | (refine zgh ?_; intro _) | fail)
  rename_i g2
  apply Ya Yiz
  exact za
  exact rfl
  exact fun _ hw => JR (fun r : RowM => .slice r.A r.xs.length r.cap) (fun r => r.xs.any Zl) n.rows 163 [.pointer (some ⟨g2, 0, none⟩)] YlS hs1 hpw.cons.cons (fun a ha _ hw => Yiu a.xs (hs2 a ha) g2 (hrw a ha).cons hw) hw
  cases hd : (n.rows.any fun r => r.xs.any Zl)
  · repeat' (first | refine zgb ?_ | fail)
    ((repeat apply Yp); apply Yd; exact rfl; exact rfl; refine ⟨congrArg _ ?_, rfl⟩)
    rw [if_neg (by omega)]; rfl
  · repeat' (first | refine zgb ?_ | fail)
    ((repeat apply Yp); apply Yd; exact rfl; exact rfl; refine ⟨congrArg _ ?_, rfl⟩)
    rw [if_neg (by omega)]; rfl
end Go.Proofs.YtmalhidldgfeoaaGreatDoor
namespace Go.Nw
theorem YdP {x y : Int} : cmpI x y < 0 ↔ x < y := by unfold cmpI; split <;> (try split) <;> omega
theorem WP {x y : Int} : cmpI x y = 0 ↔ x = y := by unfold cmpI; split <;> (try split) <;> omega
theorem Jk {a b : Lk} : cmpL a b < 0 ↔ a.1 < b.1 ∨ (a.1 = b.1 ∧ a.2.1 < b.2.1) := by
  have h1 := @YdP a.1 b.1
  have h2 := @WP a.1 b.1
  have h3 := @YdP a.2.1 b.2.1
  unfold cmpL; split <;> omega
theorem JQ {a b : Lk} : cmpL a b = 0 ↔ a.1 = b.1 ∧ a.2.1 = b.2.1 := by
  have h2 := @WP a.1 b.1
  have h3 := @WP a.2.1 b.2.1
  unfold cmpL; split <;> omega
structure OkL (n : Net) (i : Nat) : Prop where
  f0 : 0 ≤ (lnk n i).1
  f1 : (lnk n i).1 < n.nodes
  t0 : 0 ≤ (lnk n i).2.1
  t1 : (lnk n i).2.1 < n.nodes
  ne : (lnk n i).1 ≠ (lnk n i).2.1
  l0 : 0 ≤ (lnk n i).2.2
  l1 : (lnk n i).2.2 ≤ 7
  ord : 0 < i → cmpL (lnk n (i - 1)) (lnk n i) < 0
  m0 : 0 ≤ mar n i
  m1 : mar n i ≤ powr n (lnk n i).1 (lnk n i).2.1
theorem Yj1 {n : Net} {i : Nat} (h : UP n i = 0) : OkL n i := by
  unfold UP at h
  by_cases h1 : ¬ (0 ≤ (lnk n i).1 ∧ (lnk n i).1 < n.nodes) ∨ ¬ (0 ≤ (lnk n i).2.1 ∧ (lnk n i).2.1 < n.nodes) ∨ (lnk n i).1 = (lnk n i).2.1 ∨ (lnk n i).2.2 < 0 ∨ 7 < (lnk n i).2.2
  · rw [if_pos h1] at h; omega
  rw [if_neg h1] at h
  by_cases h2 : 0 < i ∧ 0 ≤ cmpL (lnk n (i - 1)) (lnk n i)
  · rw [if_pos h2] at h; omega
  rw [if_neg h2] at h
  by_cases h3 : mar n i < 0 ∨ powr n (lnk n i).1 (lnk n i).2.1 < mar n i
  · rw [if_pos h3] at h; omega
  constructor <;> omega
structure Ok (n : Net) : Prop where
  n0 : 2 ≤ n.nodes
  n1 : n.nodes ≤ 32
  p0 : (n.power.length : Int) = n.nodes
  p1 : ∀ r ∈ n.power, (r.length : Int) = n.nodes
  p2 : ∀ r ∈ n.power, ∀ p ∈ r, 0 ≤ p ∧ p ≤ 68719476736
  z0 : 0 ≤ n.noise
  z1 : n.noise ≤ 68719476736
  t0 : 1000 ≤ n.thr
  t1 : n.thr ≤ 100000
  k0 : n.links.length ≤ 128
  k1 : n.margin.length = n.links.length
  lk : ∀ i, i < n.links.length → OkL n i
theorem Yed {n : Net} : ∀ (r i : Nat), Jq n r i = 0 → ∀ j, i ≤ j → j < i + r → OkL n j
  | 0, _, _, j, h1, h2 => by omega
  | r + 1, i, h, j, h1, h2 => by
    unfold Jq at h
    by_cases h0 : UP n i = 0
    · rw [if_pos h0] at h
      by_cases e : i = j
      · subst e; exact Yj1 h0
      · exact Yed r (i + 1) h j (by omega) (by omega)
    · rw [if_neg h0] at h; exact absurd h h0
theorem Xe {n : Net} (h : YE n = 0) : Ok n := by
  unfold YE at h
  by_cases h1 : n.nodes < 2 ∨ 32 < n.nodes
  · rw [if_pos h1] at h; omega
  rw [if_neg h1] at h
  by_cases h2 : VA n ≠ 0
  · rw [if_pos h2] at h; exact absurd h h2
  rw [if_neg h2] at h
  by_cases h3 : n.noise < 0 ∨ 68719476736 < n.noise ∨ n.thr < 1000 ∨ 100000 < n.thr
  · rw [if_pos h3] at h; omega
  rw [if_neg h3] at h
  by_cases h4 : 128 < n.links.length
  · rw [if_pos h4] at h; omega
  rw [if_neg h4] at h
  by_cases h5 : n.margin.length ≠ n.links.length
  · rw [if_pos h5] at h; omega
  rw [if_neg h5] at h
  obtain ⟨t1, t2, t3⟩ := YeG (Classical.not_not.1 h2)
  exact ⟨by omega, by omega, t1, t2, t3, by omega, by omega, by omega, by omega, by omega, Classical.not_not.1 h5, fun i hi => Yed _ _ h i (Nat.zero_le _) (by omega)⟩
theorem YaN {n : Net} (h : Ok n) : ∀ (i j : Nat), i < j → j < n.links.length → cmpL (lnk n i) (lnk n j) < 0 := by
  intro i j
  induction j with
  | zero => intro h1; omega
  | succ j ih =>
    intro h1 h2
    have h3 := (h.lk (j + 1) h2).ord (by omega)
    rw [Nat.add_sub_cancel] at h3
    by_cases e : i = j
    · subst e; exact h3
    · have h4 := ih (by omega) (by omega)
      rw [Jk] at *
      omega
def OE (a b : Int) (l : Lk) : Bool := decide (l.1 = a) && decide (l.2.1 = b)
def YB (n : Net) (a b : Int) : Int := Yn (OE a b) n.links 0
theorem Ws {α : Type} {p : α → Bool} : ∀ {l : List α} {k : Int}, (∀ a ∈ l, p a = false) → Yn p l k = -1
  | [], _, _ => rfl
  | a :: l, k, h => by
    rw [Yn, h a List.mem_cons_self, if_neg (by simp)]
    exact Ws fun b hb => h b (List.mem_cons_of_mem _ hb)
theorem U0 {α : Type} {p : α → Bool} : ∀ {l : List α} {k : Int} {i : Nat} {a : α}, l[i]? = some a → p a = true → (∀ j b, j < i → l[j]? = some b → p b = false) → Yn p l k = k + i
  | [], _, _, _, h, _, _ => by simp at h
  | b :: l, k, 0, a, h, hp, _ => by
    obtain rfl : b = a := by simpa using h
    rw [Yn, if_pos hp]; simp
  | b :: l, k, i + 1, a, h, hp, hn => by
    have hb := hn 0 b (by omega) (by simp)
    rw [Yn, if_neg (by rw [hb]; simp), U0 (i := i) (a := a) (by simpa using h) hp fun j c hj hc => hn (j + 1) c (by omega) (by simpa using hc)]
    omega
theorem Vj {α : Type} {p : α → Bool} : ∀ {l : List α} {k : Int}, 0 ≤ k → Yn p l k = -1 ∨ (k ≤ Yn p l k ∧ Yn p l k < k + l.length)
  | [], _, _ => .inl rfl
  | a :: l, k, h => by
    unfold Yn
    by_cases hp : p a = true
    · rw [if_pos hp]; simp only [List.length_cons]; omega
    · rw [if_neg hp]
      rcases @Vj _ p l (k + 1) (by omega) with h1 | h1
      · exact .inl h1
      · simp only [List.length_cons]; omega
theorem Wt {α : Type} {p : α → Bool} : ∀ {l : List α} {k : Int} {i : Nat}, 0 ≤ k → Yn p l k = k + i → ∃ a, l[i]? = some a ∧ p a = true
  | [], k, i, h0, h => by simp [Yn] at h; omega
  | a :: l, k, i, h0, h => by
    unfold Yn at h
    by_cases hp : p a = true
    · rw [if_pos hp] at h
      obtain rfl : i = 0 := by omega
      exact ⟨a, by simp, hp⟩
    · rw [if_neg hp] at h
      cases i with
      | zero =>
        rcases @Vj _ p l (k + 1) (by omega) with h1 | h1 <;> omega
      | succ i =>
        obtain ⟨b, h1, h2⟩ := Wt (p := p) (i := i) (l := l) (k := k + 1) (by omega) (by omega)
        exact ⟨b, by simpa using h1, h2⟩
theorem JH {n : Net} {i : Nat} {l : Lk} (h : n.links[i]? = some l) : lnk n i = l := by simp [lnk, List.getD, h]
theorem YcK {n : Net} {i : Nat} {z : Int} (h : n.margin[i]? = some z) : mar n i = z := by simp [mar, List.getD, h]
theorem Yee (n : Net) {i : Nat} (h : i < n.links.length) : n.links[i]? = some (lnk n i) := by simp [lnk, List.getD, h]
theorem YdY {n : Net} (h : Ok n) {a b c : Int} {k : Nat} (hk : k ≤ n.links.length) (h1 : ∀ j, j < k → cmpL (lnk n j) (a, b, c) < 0) (h2 : ∀ j, k ≤ j → j < n.links.length → 0 ≤ cmpL (lnk n j) (a, b, c)) :
    YB n a b = if k < n.links.length ∧ cmpL (lnk n k) (a, b, c) = 0 then (k : Int) else -1 := by
  unfold YB
  have hlow : ∀ j l, j < k → n.links[j]? = some l → OE a b l = false := fun j l hj hl => by
    have := h1 j hj
    rw [JH hl, Jk] at this
    simp only [OE, Bool.and_eq_false_iff, decide_eq_false_iff_not]
    simp only at this
    omega
  by_cases hc : k < n.links.length ∧ cmpL (lnk n k) (a, b, c) = 0
  · rw [if_pos hc, U0 (Yee n hc.1) (by have := JQ.1 hc.2; simp only at this; simp [OE, this]) hlow]
    omega
  · rw [if_neg hc]
    refine Ws fun l hl => ?_
    obtain ⟨j, hj, rfl⟩ := List.mem_iff_getElem.1 hl
    by_cases hjk : j < k
    · exact hlow j _ hjk (List.getElem?_eq_getElem hj)
    · have e : lnk n j = n.links[j] := JH (List.getElem?_eq_getElem hj)
      have h3 : cmpL (lnk n j) (a, b, c) ≠ 0 := by
        by_cases ejk : j = k
        · subst ejk; exact fun e => hc ⟨hj, e⟩
        · intro e0
          have h4 := YaN h k j (by omega) hj
          have h5 := h2 k (Nat.le_refl _) (by omega)
          rw [JQ] at e0
          rw [Jk] at h4
          have h6 : ¬ cmpL (lnk n k) (a, b, c) < 0 := by omega
          rw [Jk] at h6
          simp only at *
          omega
      rw [e, Ne, JQ] at h3
      simp only at h3
      simp only [OE, Bool.and_eq_false_iff, decide_eq_false_iff_not]
      omega
def ZX (n : Net) (s d : Int) : Bool := decide (n.thr * (n.noise + d) ≤ s * 1000)
def WI (n : Net) (i : Nat) : Bool := decide (0 ≤ YB n (lnk n i).2.1 (lnk n i).1) && (ZX n (mar n i) 0 && ZX n (mar n (YB n (lnk n i).2.1 (lnk n i).1).toNat) 0)
theorem YjW {n : Net} (h : Ok n) {d : Int} (h0 : 0 ≤ d) (h1 : d ≤ 8796093022208) : -9223372036854775808 ≤ n.thr * (n.noise + d) ∧ n.thr * (n.noise + d) ≤ 9223372036854775807 := by
  have h2 := h.t0; have h3 := h.t1; have h4 := h.z0; have h5 := h.z1
  have h6 : 0 ≤ n.thr * (n.noise + d) := Int.mul_nonneg (by omega) (by omega)
  have h7 : n.thr * (n.noise + d) ≤ 100000 * (n.noise + d) := Int.mul_le_mul_of_nonneg_right h3 (by omega)
  omega
theorem YiN {n : Net} (h : Ok n) {i : Nat} (hi : i < n.links.length) : 0 ≤ mar n i ∧ mar n i ≤ 68719476736 := by
  have hl := h.lk i hi
  refine ⟨hl.m0, Int.le_trans hl.m1 ?_⟩
  unfold powr
  have e1 : (lnk n i).1.toNat < n.power.length := by have := h.p0; have := hl.f1; have := hl.f0; omega
  rw [show n.power.getD (lnk n i).1.toNat [] = n.power[(lnk n i).1.toNat] by simp [List.getD, e1]]
  have hm := List.getElem_mem e1
  have e2 : (lnk n i).2.1.toNat < (n.power[(lnk n i).1.toNat]).length := by have := h.p1 _ hm; have := hl.t1; have := hl.t0; omega
  rw [show (n.power[(lnk n i).1.toNat]).getD (lnk n i).2.1.toNat 0 = (n.power[(lnk n i).1.toNat])[(lnk n i).2.1.toNat] by simp [List.getD, e2]]
  exact (h.p2 _ hm _ (List.getElem_mem e2)).2
theorem ZJ {n : Net} {a b : Int} (h : 0 ≤ YB n a b) : (YB n a b).toNat < n.links.length := by
  rcases @Vj _ (OE a b) n.links 0 (by omega) with h1 | h1 <;> unfold YB at h ⊢ <;> omega
theorem V9 {n : Net} {a b : Int} (h : 0 ≤ YB n a b) : (lnk n (YB n a b).toNat).1 = a ∧ (lnk n (YB n a b).toNat).2.1 = b := by
  obtain ⟨l, h1, h2⟩ := @Wt _ (OE a b) n.links 0 (YB n a b).toNat (by omega) (by unfold YB at *; omega)
  rw [JH h1]
  simpa [OE] using h2
end Go.Nw
namespace Go.Proofs.YtmalhidldgfeoaaGreatDoor
open Go.RowKit Go.Eng Go.Nw
abbrev netB (g : Nat) (n : NetM) : HP := blk g (.cells #[.int .i64 n.nodes, .slice n.pA n.rows.length n.pcap, .int .i64 n.noise, .int .i64 n.thr, .slice n.lA n.links.length n.lcap, .slice n.mA n.margin.length n.mcap] 26 (0, 0))
def YU : List Int → Int
  | [] => 0
  | a :: l => if a ≠ 0 then a else YU l
theorem YcH (l : List Int) {k : Nat} {a : Int} (h : l[k]? = some a) : YU (l.drop k) = if a ≠ 0 then a else YU (l.drop (k + 1)) := by
  obtain ⟨hk, rfl⟩ := List.getElem?_eq_some_iff.1 h
  rw [List.drop_eq_getElem_cons hk, YU]
theorem Ygt (l : List Int) (hlen : l.length ≤ 1000) {A : Option Addr} {cap B : Nat} {w0 : World} {H : List HP} {w : World} (hr : Rd B w0 H A (l.flatMap numF)) (hw : St B w0 H w) :
    Calls Tryz.prog 98 [.slice A l.length cap].toArray w (Post B w0 fun v K => v = .int .i64 (YU l) ∧ K = H) := by
  refine Yc Tryz.func98 Tryz.ntmps98 rfl rfl hw ?_
  repeat' (first | refine zgb ?_ | fail)
  refine Yl (fun (k : Nat) => [(8, .int .i64 k), (7, .int .i64 l.length), (6, .slice A l.length cap), (3, .int .i64 0)]) (fun _ => H) (fun k => k ≤ l.length ∧ YU l = YU (l.drop k)) (fun k => l.length - k) 0 ⟨Nat.zero_le _, by simp⟩ ?_ (fun w hw => hw) ?_
  · exact zu
  rintro k ⟨hk, hi⟩ K hK
  by_cases hlt : k < l.length
  · obtain ⟨a, ha⟩ : ∃ a, l[k]? = some a := ⟨_, List.getElem?_eq_getElem hlt⟩
    rw [YcH l ha] at hi
    repeat' (first | refine zgd ?_ | (refine zge ?_ ?_ <;> intro _ <;> try (exfalso; omega)) | fail)
    · rename_i h
      rw [if_pos h] at hi
      ((repeat apply Yp); apply Yd; exact rfl; exact rfl; refine ⟨congrArg _ ?_, rfl⟩)
      rw [hi]
    · rename_i h
      rw [if_neg (by omega)] at hi
      repeat' (first | fail)
      apply hK (k + 1)
      · exact ⟨by omega, hi⟩
      · omega
      · exact zu
      · exact fun w hw => hw
  · repeat' (first | refine zgc ?_ | (refine zge ?_ ?_ <;> intro _ <;> try (exfalso; omega)) | fail)
    ((repeat apply Yp); apply Yd; exact rfl; exact rfl; refine ⟨congrArg _ ?_, rfl⟩)
    rw [hi, List.drop_eq_nil_of_le (by omega)]; rfl
theorem Ylh (x y : Int) : YU [x, y] = if x = 0 then y else x := by
  simp only [YU]
  by_cases h : x = 0
  · by_cases h2 : y = 0 <;> simp [h, h2]
  · simp [h]
theorem Z7 (a b : Lk) {B : Nat} {w0 : World} {H : List HP} {w : World} (hw : St B w0 H w) : Calls Tryz.prog 166 [lkV a, lkV b].toArray w (Post B w0 fun v K => v = .int .i64 (cmpL a b) ∧ K = H) := by
  refine Yc Tryz.func166 Tryz.ntmps166 rfl rfl hw ?_
  repeat' (first | refine zga ?_ | (refine zgh ?_; intro _) | fail)
  apply YZ [0, 1, 2, 3, 5, 6, 7, 8, 4, 9, 10, 11, 12] [] [true, true]
  kernel_rfl
  kernel_rfl
  exact zy
  (simp only [Yj, nthO]; rfl)
  exact rfl
  repeat' (first | ((first | apply Ya en99 | apply Yb en99); exact za; exact rfl; exact fun _ hw => (V2 _ _ hw)) | (apply Yk; (repeat (first | with_reducible exact Yh | (with_reducible apply Yg; (repeat (first | with_reducible exact Yf | with_reducible apply Ye)))))) | refine zgd ?_ | (refine zgh ?_; intro _) | fail)
  rename_i g
  first | apply Ya en98 | apply Yb en98
  exact za
  exact rfl
  exact fun _ hw => (Ygt [cmpI a.1 b.1, cmpI a.2.1 b.2.1] (by simp) (Rd.blk (g := g) (cs := #[.int .i64 (cmpI a.1 b.1), .int .i64 (cmpI a.2.1 b.2.1)]) zm) hw)
  repeat' (first | (apply Yk; (repeat (first | with_reducible exact Yh | (with_reducible apply Yg; (repeat (first | with_reducible exact Yf | with_reducible apply Ye)))))) | refine zgd ?_ | fail)
  ((repeat apply Yp); apply Yd; exact rfl; exact rfl; refine ⟨congrArg _ ?_, rfl⟩)
  rw [Ylh]; rfl
theorem Wl (n : NetM) (g : Nat) (a : Int) {B : Nat} {w0 : World} {H : List HP} {w : World} (hm : netB g n ∈ H) (hw : St B w0 H w) :
    Calls Tryz.prog 165 [.int .i64 a, .pointer (some ⟨g, 0, none⟩)].toArray w (Post B w0 fun v K => v = .bool (decide (0 ≤ a ∧ a < n.nodes)) ∧ K = H) := by
  refine Yc Tryz.func165 Tryz.ntmps165 rfl rfl hw ?_
  repeat' (first | refine zgc ?_ | (refine zgf ?_ ?_ <;> intro _ <;> try (exfalso; omega)) | fail)
  · apply Yd; exact rfl; exact rfl
    exact ⟨by rw [decide_eq_true (by omega)], rfl⟩
  · apply Yd; exact rfl; exact rfl
    exact ⟨by rw [decide_eq_false (by omega)], rfl⟩
  · apply Yd; exact rfl; exact rfl
    exact ⟨by rw [decide_eq_false (by omega)], rfl⟩
open Go.RowKit Go.Eng Go.Nw
theorem Yeq {n : Net} {a b : Int} {r : List Int} {p : Int} (h1 : n.power[a.toNat]? = some r) (h2 : r[b.toNat]? = some p) : powr n a b = p := by simp [powr, List.getD, h1, h2]
theorem QJ (n : NetM) (i : Nat) {B : Nat} {w0 : World} {H : List HP} {w : World} (hin : n.In B w0 H) (hi : i < n.links.length) (hml : n.margin.length = n.links.length) (ht : VA n.net = 0) (hw : St B w0 H w) :
    Calls Tryz.prog 109 [n.val, .int .i64 i].toArray w (Post B w0 fun v K => v = .int .i64 (UP n.net i) ∧ K = H) := by
  refine Yc Tryz.func109 Tryz.ntmps109 rfl rfl hw ?_
  obtain ⟨hpw, hrw, hlk, hmg, hs1, hs2, hs3, hs4⟩ := hin
  obtain ⟨t1, t2, t3⟩ := YeG ht
  obtain ⟨l, hl⟩ : ∃ l, n.links[i]? = some l := ⟨_, List.getElem?_eq_getElem hi⟩
  obtain ⟨z, hz⟩ : ∃ z, n.margin[i]? = some z := ⟨_, List.getElem?_eq_getElem (by omega)⟩
  have e1 : lnk n.net i = l := JH hl
  have e2 : mar n.net i = z := YcK hz
  have e3 : n.net.nodes = n.nodes := rfl
  have e4 : n.net.power.length = n.rows.length := by simp [NetM.net]
  rw [e4, e3] at t1
  unfold UP
  rw [e1, e2, e3]
  by_cases h1 : 0 ≤ l.1 ∧ l.1 < n.nodes
  rotate_left
  · skip
    repeat' (first | ((first | apply Zz (cs := [_]) | apply Zy (cs := [_])); exact rfl; exact Ygc; exact za; exact rfl; exact fun _ hw => (Wl n _ _ zm hw); all_goals (intro hB; (try simp only [decide_eq_true_eq, decide_eq_false_iff_not] at hB); try (exfalso; omega))) | (apply zg29; (apply Yq; exact za ; exact rfl)) | refine zgd ?_ | (refine zgh ?_; intro _) | fail)
    all_goals (((repeat apply Yp); apply Yd; exact rfl; exact rfl; refine ⟨congrArg _ ?_, rfl⟩); (repeat (first | refine Xh (by omega) ?_ | refine Xi (by omega) ?_)); rfl)
  by_cases h2 : 0 ≤ l.2.1 ∧ l.2.1 < n.nodes
  rotate_left
  · skip
    repeat' (first | ((first | apply Zz (cs := [_]) | apply Zy (cs := [_])); exact rfl; exact Ygc; exact za; exact rfl; exact fun _ hw => (Wl n _ _ zm hw); all_goals (intro hB; (try simp only [decide_eq_true_eq, decide_eq_false_iff_not] at hB); try (exfalso; omega))) | (apply zg29; (apply Yq; exact za ; exact rfl)) | refine zgd ?_ | (refine zgh ?_; intro _) | fail)
    all_goals (((repeat apply Yp); apply Yd; exact rfl; exact rfl; refine ⟨congrArg _ ?_, rfl⟩); (repeat (first | refine Xh (by omega) ?_ | refine Xi (by omega) ?_)); rfl)
  obtain ⟨r, hr⟩ : ∃ r, n.rows[l.1.toNat]? = some r := ⟨_, List.getElem?_eq_getElem (by omega)⟩
  have hrm : r ∈ n.rows := List.mem_of_getElem? hr
  have hrr := hrw r hrm
  have hrs := hs2 r hrm
  have hrl : (r.xs.length : Int) = n.nodes := t2 r.xs (List.mem_map.2 ⟨r, hrm, rfl⟩)
  obtain ⟨p, hp⟩ : ∃ p, r.xs[l.2.1.toNat]? = some p := ⟨_, List.getElem?_eq_getElem (by omega)⟩
  rw [Yeq (n := n.net) (r := r.xs) (by simp [NetM.net, hr]) hp]
  by_cases h0 : 0 < i
  · obtain ⟨q, hq⟩ : ∃ q, n.links[((i : Int) - 1).toNat]? = some q := ⟨_, List.getElem?_eq_getElem (by omega)⟩
    rw [show lnk n.net (i - 1) = q from JH (by rw [show i - 1 = ((i : Int) - 1).toNat by omega]; exact hq)]
    repeat' (first | ((first | apply Zz (cs := [_]) | apply Zy (cs := [_])); exact rfl; exact Ygc; exact za; exact rfl; exact fun _ hw => (Wl n _ _ zm hw); all_goals (intro hB; (try simp only [decide_eq_true_eq, decide_eq_false_iff_not] at hB); try (exfalso; omega))) | ((first | apply Ya YbC | apply Yb YbC); exact za; exact rfl; exact fun _ hw => (Z7 q l hw)) | (apply zg28; first | refine zs83 ?_ | refine zs84 ?_) | (apply zg29; (apply Yq; exact za ; exact rfl)) | refine zgd ?_ | (refine zgf ?_ ?_ <;> intro _ <;> try (exfalso; omega)) | (refine zgh ?_; intro _) | fail)
    all_goals (((repeat apply Yp); apply Yd; exact rfl; exact rfl; refine ⟨congrArg _ ?_, rfl⟩); (repeat (first | refine Xh (by omega) ?_ | refine Xi (by omega) ?_)); rfl)
  · skip
    repeat' (first | ((first | apply Zz (cs := [_]) | apply Zy (cs := [_])); exact rfl; exact Ygc; exact za; exact rfl; exact fun _ hw => (Wl n _ _ zm hw); all_goals (intro hB; (try simp only [decide_eq_true_eq, decide_eq_false_iff_not] at hB); try (exfalso; omega))) | ((first | apply Ya YbC | apply Yb YbC); exact za; exact rfl; exact fun _ hw => (Z7 _ _ hw)) | (apply zg28; first | refine zs83 ?_ | refine zs84 ?_) | (apply zg29; (apply Yq; exact za ; exact rfl)) | refine zgd ?_ | (refine zgf ?_ ?_ <;> intro _ <;> try (exfalso; omega)) | (refine zgh ?_; intro _) | fail)
    all_goals (((repeat apply Yp); apply Yd; exact rfl; exact rfl; refine ⟨congrArg _ ?_, rfl⟩); (repeat (first | refine Xh (by omega) ?_ | refine Xi (by omega) ?_)); rfl)
theorem YS (n : NetM) {B : Nat} {w0 : World} {H : List HP} {w : World} (hin : n.In B w0 H) (hw : St B w0 H w) :
    Calls Tryz.prog 50 [n.val].toArray w (Post B w0 fun v K => v = .int .i64 (YE n.net) ∧ K = H) := by
  refine Yc Tryz.func50 Tryz.ntmps50 rfl rfl hw ?_
  have e3 : n.net.nodes = n.nodes := rfl
  have e5 : n.net.noise = n.noise := rfl
  have e6 : n.net.thr = n.thr := rfl
  have e7 : n.net.links = n.links := rfl
  have e8 : n.net.margin = n.margin := rfl
  have hs1 := hin.s1
  have hs3 := hin.s3
  have hs4 := hin.s4
  unfold YE
  rw [e3, e5, e6, e7, e8]
  (apply Zx; apply XH; apply Xv; exact rfl; exact rfl; intro g)
  repeat' (first | ((first | apply Ya Ykz | apply Yb Ykz); exact za; exact rfl; exact fun _ hw => (O2 n hin.cons hw)) | refine zgc ?_ | (refine zge ?_ ?_ <;> intro _ <;> try (exfalso; omega)) | fail)
  any_goals (((repeat apply Yp); apply Yd; exact rfl; exact rfl; refine ⟨congrArg _ ?_, rfl⟩); (repeat (first | refine Xh (by omega) ?_ | refine Xi (by omega) ?_)); rfl)
  have ht : VA n.net = 0 := by assumption
  refine Yl (fun (k : Nat) => [(54, .int .i64 k), (53, .int .i64 n.links.length), (1, .pointer (some ⟨g, 0, none⟩))]) (fun _ => netB g n :: H) (fun k => k ≤ n.links.length ∧ Jq n.net n.links.length 0 = Jq n.net (n.links.length - k) k) (fun k => n.links.length - k) 0 ⟨Nat.zero_le _, rfl⟩ ?_ (fun w hw => hw) ?_
  · exact zu
  rintro k ⟨hk, hi⟩ K hK
  by_cases hlt : k < n.links.length
  · skip
    repeat' (first | ((first | apply Ya YkA | apply Yb YkA); exact za; exact rfl; exact fun _ hw => (QJ n k hin.cons hlt (by omega) ht hw)) | refine zgc ?_ | (refine zge ?_ ?_ <;> intro _ <;> try (exfalso; omega)) | fail)
    · ((repeat apply Yp); apply Yd; exact rfl; exact rfl; refine ⟨congrArg _ ?_, rfl⟩)
      (repeat (first | refine Xh (by omega) ?_ | refine Xi (by omega) ?_))
      rw [hi]; exact (Yec n.net hlt (by assumption)).symm
    · apply hK (k + 1)
      · exact ⟨by omega, by rw [hi]; exact Yeb n.net hlt (by assumption)⟩
      · omega
      · exact zu
      · exact fun w hw => hw
  · repeat' (first | refine zgc ?_ | (refine zge ?_ ?_ <;> intro _ <;> try (exfalso; omega)) | fail)
    ((repeat apply Yp); apply Yd; exact rfl; exact rfl; refine ⟨congrArg _ ?_, rfl⟩)
    (repeat (first | refine Xh (by omega) ?_ | refine Xi (by omega) ?_))
    rw [hi, show n.links.length - k = 0 by omega]; rfl
open Go.RowKit Go.Eng Go.Nw
theorem YeC (n : NetM) (t : Lk) {B : Nat} {w0 : World} {H : List HP} {w : World} (hin : n.In B w0 H) (hok : Ok n.net) (hw : St B w0 H w) :
    Calls Tryz.prog 214 [.slice n.lA n.links.length n.lcap, lkV t, .func (.func 166) #[] #[]].toArray w (Post B w0 fun v K => ∃ k : Nat,
      v = .tuple #[.int .i64 k, .bool (decide (k < n.links.length ∧ cmpL (lnk n.net k) t = 0))] ∧ k ≤ n.links.length ∧ (∀ j, j < k → cmpL (lnk n.net j) t < 0) ∧ (∀ j, k ≤ j → j < n.links.length → 0 ≤ cmpL (lnk n.net j) t) ∧ K = H) := by
  refine Yc Tryz.func214 Tryz.ntmps214 rfl rfl hw ?_
  obtain ⟨hpw, hrw, hlk, hmg, hs1, hs2, hs3, hs4⟩ := hin
  have hl8 : n.links.length ≤ 128 := hok.k0
  (apply Zx; apply XH; apply Xv; exact rfl; exact rfl; intro g)
  repeat' (first | refine zgb ?_ | fail)
  refine Yc9 (fun (lo hi : Nat) => [(9, .int .i64 lo), (10, .int .i64 hi), (8, .int .i64 n.links.length), (0, .slice n.lA n.links.length n.lcap), (2, .func (.func 166) #[] #[]), (4, .pointer (some ⟨g, 0, none⟩))]) (fun _ _ => blk g (.cells #[.int .i64 t.1, .int .i64 t.2.1, .int .i64 t.2.2] 172 (0, 0)) :: H)
    (fun lo hi => lo ≤ hi ∧ hi ≤ n.links.length ∧ (∀ j, j < lo → cmpL (lnk n.net j) t < 0) ∧ (∀ j, hi ≤ j → j < n.links.length → 0 ≤ cmpL (lnk n.net j) t)) (fun lo hi => hi - lo) 0 n.links.length ⟨by omega, by omega, fun j hj => by omega, fun j h1 h2 => by omega⟩ ?_ (fun w hw => hw) ?_
  · exact zu
  rintro lo hi ⟨h1, h2, h3, h4⟩ K hK
  by_cases hlt : lo < hi
  · obtain ⟨b, hb⟩ : ∃ b, n.links[(((lo : Int) + hi) / 2).toNat]? = some b := ⟨_, List.getElem?_eq_getElem (by omega)⟩
    have hm : (((lo : Int) + hi) / 2).toNat = (lo + hi) / 2 := by omega
    have eb : lnk n.net ((lo + hi) / 2) = b := by rw [← hm]; exact JH hb
    repeat' (first | ((first | apply YC (cs := []) | apply Y1 (cs := [])); exact rfl; exact YbC; exact za; exact rfl; exact fun _ hw => (Z7 b t hw)) | (apply zg28; refine zs84 ?_) | refine zgd ?_ | (refine zge ?_ ?_ <;> intro _ <;> try (exfalso; omega)) | fail)
    · rename_i hc
      apply hK ((lo + hi) / 2 + 1) hi
      · refine ⟨by omega, by omega, fun j hj => ?_, h4⟩
        by_cases e : j = (lo + hi) / 2
        · rw [e, eb]; exact hc
        · have h5 := YaN hok j ((lo + hi) / 2) (by omega) (by show _ < n.links.length; omega)
          rw [eb] at h5
          rw [Jk] at *
          omega
      · omega
      · exact zu
      · exact fun w hw => hw
    · rename_i hc
      apply hK lo ((lo + hi) / 2)
      · refine ⟨by omega, by omega, h3, fun j hj hjl => ?_⟩
        by_cases e : j = (lo + hi) / 2
        · rw [e, eb]; exact hc
        · have h5 := YaN hok ((lo + hi) / 2) j (by omega) hjl
          rw [eb] at h5
          have h6 : ¬ cmpL b t < 0 := by omega
          have h7 : ¬ cmpL (lnk n.net j) t < 0 := by
            rw [Jk] at *
            omega
          omega
      · omega
      · exact zu
      · exact fun w hw => hw
  · obtain rfl : lo = hi := by omega
    by_cases hl : lo < n.links.length
    · obtain ⟨b, hb⟩ : ∃ b, n.links[lo]? = some b := ⟨_, List.getElem?_eq_getElem hl⟩
      have eb : lnk n.net lo = b := JH hb
      repeat' (first | ((first | apply YC (cs := []) | apply Y1 (cs := [])); exact rfl; exact YbC; exact za; exact rfl; exact fun _ hw => (Z7 b t hw)) | (apply zg28; refine zs84 ?_) | refine zgd ?_ | (refine zgf ?_ ?_ <;> intro _ <;> try (exfalso; omega)) | fail)
      all_goals (apply Yp; apply Yr; exact rfl; exact rfl; exact rfl; refine ⟨lo, ?_, h2, h3, h4, rfl⟩; rw [eb])
      · rw [decide_eq_true ⟨hl, by assumption⟩]
      · rw [decide_eq_false fun hc => absurd hc.2 (by assumption)]
    · repeat' (first | (apply zg28; refine zs84 ?_) | refine zgd ?_ | (refine zge ?_ ?_ <;> intro _ <;> try (exfalso; omega)) | fail)
      apply Yp; apply Yr; exact rfl; exact rfl; exact rfl
      refine ⟨lo, ?_, h2, h3, h4, rfl⟩
      rw [decide_eq_false fun hc => hl hc.1]
theorem WU (n : NetM) (a b : Int) {B : Nat} {w0 : World} {H : List HP} {w : World} (hin : n.In B w0 H) (hok : Ok n.net) (hw : St B w0 H w) :
    Calls Tryz.prog 155 [n.val, .int .i64 a, .int .i64 b].toArray w (Post B w0 fun v K => v = .int .i64 (YB n.net a b) ∧ K = H) := by
  refine Yc Tryz.func155 Tryz.ntmps155 rfl rfl hw ?_
  (apply Zx; apply XH; apply Xv; exact rfl; exact rfl; intro g)
  repeat' (first | refine zgd ?_ | fail)
  apply Yo _ Yl2
  exact za
  exact rfl
  exact fun _ hw => (YeC n (a, b, 0) hin.cons hok (hw))
  rintro _ _ ⟨k, rfl, hk, h1, h2, rfl⟩
  have hf := YdY hok hk h1 h2
  rw [hf]
  by_cases hc : k < n.links.length ∧ cmpL (lnk n.net k) (a, b, 0) = 0
  · rw [decide_eq_true hc]
    repeat' (first | refine zgd ?_ | fail)
    ((repeat apply Yp); apply Yd; exact rfl; exact rfl; refine ⟨congrArg _ ?_, rfl⟩)
    exact (if_pos hc).symm
  · rw [decide_eq_false hc]
    repeat' (first | refine zgd ?_ | fail)
    ((repeat apply Yp); apply Yd; exact rfl; exact rfl; refine ⟨congrArg _ ?_, rfl⟩)
    exact (if_neg hc).symm
def Zh (n : Net) (a b : Int) : Int := if YE n ≠ 0 then -1 else YB n a b
theorem XZ (n : NetM) (a b : Int) {B : Nat} {w0 : World} {H : List HP} {w : World} (hin : n.In B w0 H) (hw : St B w0 H w) :
    Calls Tryz.prog 95 [n.val, .int .i64 a, .int .i64 b].toArray w (Post B w0 fun v K => v = .int .i64 (Zh n.net a b) ∧ K = H) := by
  refine Yc Tryz.func95 Tryz.ntmps95 rfl rfl hw ?_
  unfold Zh
  repeat' (first | ((first | apply Ya en50 | apply Yb en50); exact za; exact rfl; exact fun _ hw => (YS n hin.cons hw)) | ((first | apply Ya YbA | apply Yb YbA); exact za; exact rfl; exact fun _ hw => (WU n _ _ hin.cons (Xe (by assumption)) hw)) | refine zgc ?_ | (refine zge ?_ ?_ <;> intro _ <;> try (exfalso; omega)) | (refine zgh ?_; intro _) | fail)
  all_goals (((repeat apply Yp); apply Yd; exact rfl; exact rfl; refine ⟨congrArg _ ?_, rfl⟩); (repeat (first | refine Xh (by omega) ?_ | refine Xi (by omega) ?_)); rfl)
theorem Q7 (n : NetM) (s d : Int) {B : Nat} {w0 : World} {H : List HP} {w : World} (hok : Ok n.net) (hs : 0 ≤ s ∧ s ≤ 8796093022208) (hd : 0 ≤ d ∧ d ≤ 8796093022208) (hw : St B w0 H w) :
    Calls Tryz.prog 171 [n.val, .int .i64 s, .int .i64 d].toArray w (Post B w0 fun v K => v = .bool (ZX n.net s d) ∧ K = H) := by
  refine Yc Tryz.func171 Tryz.ntmps171 rfl rfl hw ?_
  have hb : -9223372036854775808 ≤ n.thr * (n.noise + d) ∧ n.thr * (n.noise + d) ≤ 9223372036854775807 := YjW hok hd.1 hd.2
  have hz0 : 0 ≤ n.noise := hok.z0
  have hz1 : n.noise ≤ 68719476736 := hok.z1
  unfold ZX
  show VC Tryz.prog _ B w0 _ (bodyPost Tryz.prog _ (Post B w0 fun v K => v = .bool (decide (n.thr * (n.noise + d) ≤ s * 1000)) ∧ K = H)) _ _
  repeat' (first | refine zgd ?_ | (refine zgf ?_ ?_ <;> intro _ <;> try (exfalso; omega)) | (refine zgh ?_; intro _) | fail)
  · (repeat apply Yp); apply Yd; exact rfl; exact rfl
    exact ⟨by rw [decide_eq_true (by assumption)], rfl⟩
  · (repeat apply Yp); apply Yd; exact rfl; exact rfl
    exact ⟨by rw [decide_eq_false (by omega)], rfl⟩
def Ub (n : Net) (s d : Int) : Bool := decide (YE n = 0) && (decide (0 ≤ s ∧ 0 ≤ d ∧ s ≤ 8796093022208 ∧ d ≤ 8796093022208) && ZX n s d)
theorem Qo (n : NetM) (s d : Int) {B : Nat} {w0 : World} {H : List HP} {w : World} (hin : n.In B w0 H) (hw : St B w0 H w) :
    Calls Tryz.prog 115 [n.val, .int .i64 s, .int .i64 d].toArray w (Post B w0 fun v K => v = .bool (Ub n.net s d) ∧ K = H) := by
  refine Yc Tryz.func115 Tryz.ntmps115 rfl rfl hw ?_
  unfold Ub
  by_cases h0 : YE n.net = 0
  rotate_left
  · rw [decide_eq_false h0]
    repeat' (first | ((first | apply Ya en50 | apply Yb en50); exact za; exact rfl; exact fun _ hw => (YS n hin.cons hw)) | refine zgc ?_ | (refine zge ?_ ?_ <;> intro _ <;> try (exfalso; omega)) | (refine zgh ?_; intro _) | fail)
    (repeat apply Yp); apply Yd; exact rfl; exact rfl
    exact ⟨rfl, rfl⟩
  rw [decide_eq_true h0]
  by_cases h1 : 0 ≤ s ∧ 0 ≤ d ∧ s ≤ 8796093022208 ∧ d ≤ 8796093022208
  rotate_left
  · rw [decide_eq_false h1]
    repeat' (first | ((first | apply Ya en50 | apply Yb en50); exact za; exact rfl; exact fun _ hw => (YS n hin.cons hw)) | refine zgc ?_ | (refine zgf ?_ ?_ <;> intro _ <;> try (exfalso; omega)) | (refine zgh ?_; intro _) | fail)
    all_goals ((repeat apply Yp); apply Yd; exact rfl; exact rfl; exact ⟨rfl, rfl⟩)
  rw [decide_eq_true h1]
  repeat' (first | ((first | apply Ya en50 | apply Yb en50); exact za; exact rfl; exact fun _ hw => (YS n hin.cons hw)) | ((first | apply Ya Yge | apply Yb Yge); exact za; exact rfl; exact fun _ hw => (Q7 n _ _ (Xe h0) (by omega) (by omega) hw)) | refine zgc ?_ | (refine zgf ?_ ?_ <;> intro _ <;> try (exfalso; omega)) | (refine zgh ?_; intro _) | fail)
  all_goals ((repeat apply Yp); apply Yd; exact rfl; exact rfl; exact ⟨rfl, rfl⟩)
theorem YeL (n : NetM) (i : Nat) {B : Nat} {w0 : World} {H : List HP} {w : World} (hin : n.In B w0 H) (hok : Ok n.net) (hi : i < n.links.length) (hw : St B w0 H w) :
    Calls Tryz.prog 169 [n.val, .int .i64 i].toArray w (Post B w0 fun v K => v = .bool (WI n.net i) ∧ K = H) := by
  refine Yc Tryz.func169 Tryz.ntmps169 rfl rfl hw ?_
  obtain ⟨hpw, hrw, hlk, hmg, hs1, hs2, hs3, hs4⟩ := id hin
  have hml : n.margin.length = n.links.length := hok.k1
  obtain ⟨l, hl⟩ : ∃ l, n.links[i]? = some l := ⟨_, List.getElem?_eq_getElem hi⟩
  obtain ⟨z, hz⟩ : ∃ z, n.margin[i]? = some z := ⟨_, List.getElem?_eq_getElem (by omega)⟩
  have e1 : lnk n.net i = l := JH hl
  have e2 : mar n.net i = z := YcK hz
  have hzb := YiN hok hi
  unfold WI
  rw [e2] at hzb
  rw [e1, e2]
  by_cases hb : 0 ≤ YB n.net l.2.1 l.1
  · have hlt : (YB n.net l.2.1 l.1).toNat < n.links.length := ZJ hb
    obtain ⟨y, hy⟩ : ∃ y, n.margin[(YB n.net l.2.1 l.1).toNat]? = some y := ⟨_, List.getElem?_eq_getElem (by omega)⟩
    have e3 : mar n.net (YB n.net l.2.1 l.1).toNat = y := YcK hy
    have hyb := YiN hok hlt
    rw [e3] at hyb
    rw [e3, decide_eq_true hb]
    repeat' (first | ((first | apply Ya YbA | apply Yb YbA); exact za; exact rfl; exact fun _ hw => (WU n _ _ hin.cons hok hw)) | ((first | apply XJ Yge | apply XI Yge); exact za; exact rfl; exact fun _ hw => (Q7 n _ _ hok (by omega) (by omega) hw); all_goals (intro hB; (try simp only [decide_eq_true_eq, decide_eq_false_iff_not] at hB); try (exfalso; omega))) | (apply zg28; refine zs84 ?_) | refine zgd ?_ | (refine zgf ?_ ?_ <;> intro _ <;> try (exfalso; omega)) | (refine zgh ?_; intro _) | fail)
    all_goals ((repeat apply Yp); apply Yd; exact rfl; exact rfl; refine ⟨?_, rfl⟩; simp_all)
  · rw [decide_eq_false hb]
    repeat' (first | ((first | apply Ya YbA | apply Yb YbA); exact za; exact rfl; exact fun _ hw => (WU n _ _ hin.cons hok hw)) | (apply zg28; refine zs84 ?_) | refine zgd ?_ | (refine zgf ?_ ?_ <;> intro _ <;> try (exfalso; omega)) | (refine zgh ?_; intro _) | fail)
    all_goals ((repeat apply Yp); apply Yd; exact rfl; exact rfl; exact ⟨rfl, rfl⟩)
def Uq (n : Net) (i : Int) : Bool := decide (YE n = 0) && (decide (0 ≤ i ∧ i < n.links.length) && WI n i.toNat)
theorem Om (n : NetM) (i : Int) {B : Nat} {w0 : World} {H : List HP} {w : World} (hin : n.In B w0 H) (hw : St B w0 H w) :
    Calls Tryz.prog 113 [n.val, .int .i64 i].toArray w (Post B w0 fun v K => v = .bool (Uq n.net i) ∧ K = H) := by
  refine Yc Tryz.func113 Tryz.ntmps113 rfl rfl hw ?_
  have hs3 := hin.s3
  have e7 : n.net.links = n.links := rfl
  unfold Uq
  rw [e7]
  by_cases h0 : YE n.net = 0
  rotate_left
  · rw [decide_eq_false h0]
    repeat' (first | ((first | apply Ya en50 | apply Yb en50); exact za; exact rfl; exact fun _ hw => (YS n hin.cons hw)) | refine zgc ?_ | (refine zgf ?_ ?_ <;> intro _ <;> try (exfalso; omega)) | (refine zgh ?_; intro _) | fail)
    all_goals ((repeat apply Yp); apply Yd; exact rfl; exact rfl; exact ⟨rfl, rfl⟩)
  rw [decide_eq_true h0]
  by_cases h1 : 0 ≤ i ∧ i < n.links.length
  rotate_left
  · rw [decide_eq_false h1]
    repeat' (first | ((first | apply Ya en50 | apply Yb en50); exact za; exact rfl; exact fun _ hw => (YS n hin.cons hw)) | refine zgc ?_ | (refine zgf ?_ ?_ <;> intro _ <;> try (exfalso; omega)) | (refine zgh ?_; intro _) | fail)
    all_goals ((repeat apply Yp); apply Yd; exact rfl; exact rfl; exact ⟨rfl, rfl⟩)
  rw [decide_eq_true h1]
  obtain ⟨k, rfl⟩ : ∃ k : Nat, i = k := ⟨i.toNat, by omega⟩
  repeat' (first | ((first | apply Ya en50 | apply Yb en50); exact za; exact rfl; exact fun _ hw => (YS n hin.cons hw)) | ((first | apply Ya YkH | apply Yb YkH); exact za; exact rfl; exact fun _ hw => (YeL n _ hin.cons (Xe h0) (by omega) hw)) | refine zgc ?_ | (refine zgf ?_ ?_ <;> intro _ <;> try (exfalso; omega)) | (refine zgh ?_; intro _) | fail)
  all_goals ((repeat apply Yp); apply Yd; exact rfl; exact rfl; exact ⟨rfl, rfl⟩)
open Go.RowKit Go.Eng Go.Nw
def Xa (n : Net) (a b : Int) : Bool := decide (0 ≤ YB n a b) && (decide (0 ≤ YB n b a) && (ZX n (mar n (YB n a b).toNat) 0 && ZX n (mar n (YB n b a).toNat) 0))
theorem YgX {n : Net} (h : Ok n) {i : Nat} (hi : i < n.links.length) : YB n (lnk n i).1 (lnk n i).2.1 = i := by
  have h1 : ∀ j, j < i → cmpL (lnk n j) ((lnk n i).1, (lnk n i).2.1, (lnk n i).2.2) < 0 := fun j hj => YaN h j i hj hi
  have h2 : ∀ j, i ≤ j → j < n.links.length → 0 ≤ cmpL (lnk n j) ((lnk n i).1, (lnk n i).2.1, (lnk n i).2.2) := fun j hj hl => by
    by_cases e : i = j
    · subst e
      have : cmpL (lnk n i) ((lnk n i).1, (lnk n i).2.1, (lnk n i).2.2) = 0 := JQ.2 ⟨rfl, rfl⟩
      omega
    · have h3 := YaN h i j (by omega) hl
      have h4 : ¬ cmpL (lnk n j) ((lnk n i).1, (lnk n i).2.1, (lnk n i).2.2) < 0 := by
        rw [Jk] at *
        simp only
        omega
      omega
  rw [YdY h (Nat.le_of_lt hi) h1 h2, if_pos ⟨hi, JQ.2 ⟨rfl, rfl⟩⟩]
theorem OS {n : Net} (h : Ok n) {i : Nat} (hi : i < n.links.length) : WI n i = Xa n (lnk n i).1 (lnk n i).2.1 := by
  unfold WI Xa
  rw [YgX h hi]
  simp
open Go.RowKit Go.Eng Go.Nw
def Yy (c : Cel) : Int := c.2.2.1
def toC (c : Cel) : Int := c.2.2.2.1
def Xo (c : Cel) : Int := c.2.2.2.2
def Uo (a b : Cel) : Bool := decide (Yy a = Yy b ∨ Yy a = toC b ∨ toC a = Yy b ∨ toC a = toC b)
def VI (n : Net) (l : List Flw) (s : Sch) (i : Nat) : Int :=
  if Zm s (Ym s i) = false then 2
  else if Xa n (Yy (Ym s i)) (toC (Ym s i)) = false ∨ Z2 l (Xo (Ym s i)) < 0 then 7
  else if 0 < i ∧ Z0 (Ym s (i - 1)) (Ym s i) = false then 5 else 0
def Ju (s : Sch) (i : Nat) : Bool := (List.range i).any fun k => decide ((Ym s k).1 = (Ym s i).1) && Uo (Ym s i) (Ym s k)
def Xn (c d : Cel) : Bool := decide (d.1 = c.1 ∧ d.2.1 = c.2.1)
def Of (s : Sch) (i : Nat) : List Cel := s.cells.filter (Xn (Ym s i))
def Xf (s : Sch) (i : Nat) : Nat := ((s.cells.take i).filter (Xn (Ym s i))).length
def celL (l : List Cel) (i : Nat) : Cel := l.getD i (0, 0, 0, 0, 0)
def powN (n : Net) (a b : Int) : Int := if insE a n.nodes = true ∧ insE b n.nodes = true then powr n a b else 0
def XY (n : Net) (l : List Cel) (j : Nat) (node : Int) : Nat → Int
  | 0 => 0
  | k + 1 => XY n l j node k + if k = j then 0 else powN n (Yy (celL l k)) node + powN n (toC (celL l k)) node
def Uh (n : Net) (c : Cel) : Bool := !(insE (Yy c) n.nodes) || !(insE (toC c) n.nodes)
def V3 (n : Net) (l : List Cel) (i node : Int) : Int :=
  if YE n ≠ 0 ∨ i < 0 ∨ l.length ≤ i ∨ insE node n.nodes = false ∨ l.any (Uh n) = true then 0 else XY n l i.toNat node l.length
def Jl (n : Net) (s : Sch) (i : Nat) : Bool :=
  !(Ub n (mar n (YB n (Yy (Ym s i)) (toC (Ym s i))).toNat) (V3 n (Of s i) (Xf s i) (toC (Ym s i)))) || !(Ub n (mar n (YB n (toC (Ym s i)) (Yy (Ym s i))).toNat) (V3 n (Of s i) (Xf s i) (Yy (Ym s i))))
def Zq (n : Net) (l : List Flw) (s : Sch) : Int :=
  if YE n ≠ 0 then 1 else if (YO n.nodes l).2 ≠ 0 then 1 else if ZZ s = false then 2
  else if (l.any fun f => decide (s.len.tmod f.2.2.2.1 ≠ 0)) = true then 11 else if 512 < s.cells.length then 8 else 0
def Ji (n : Net) (l : List Flw) (s : Sch) : Int × Int := YF (VI n l s) s.cells.length 0
def VE (s : Sch) : Int × Int := YF (fun i => if Ju s i = true then 6 else 0) s.cells.length 0
def Ybx (n : Net) (s : Sch) : Int × Int := YF (fun i => if Jl n s i = true then 16 else 0) s.cells.length 0
def schE (n : Net) (l : List Flw) (s : Sch) : Int × Int :=
  if Zq n l s ≠ 0 then (-1, Zq n l s) else if (Ji n l s).2 ≠ 0 then Ji n l s else if (VE s).2 ≠ 0 then VE s else Ybx n s
theorem UZ {n : Net} (h : Ok n) {u v : Int} (hg : Xa n u v = true) : (0 ≤ u ∧ u < n.nodes) ∧ (0 ≤ v ∧ v < n.nodes) ∧ u ≠ v ∧ 0 ≤ YB n u v ∧ 0 ≤ YB n v u := by
  unfold Xa at hg
  simp only [Bool.and_eq_true, decide_eq_true_eq] at hg
  obtain ⟨h1, h2, _⟩ := hg
  obtain ⟨k1, k2⟩ := V9 h1
  have := h.lk _ (ZJ h1)
  have a1 := this.f0; have a2 := this.f1; have a3 := this.t0; have a4 := this.t1; have a5 := this.ne
  rw [k1] at a1 a2 a5
  rw [k2] at a3 a4 a5
  exact ⟨⟨a1, a2⟩, ⟨a3, a4⟩, a5, h1, h2⟩
theorem Yjo {n : Net} (h : YE n = 0) (a b : Int) : Uq n (Zh n a b) = Xa n a b := by
  have hok := Xe h
  unfold Uq Zh
  rw [if_neg (by omega), decide_eq_true h, Bool.true_and]
  by_cases h0 : 0 ≤ YB n a b
  · have hl := ZJ h0
    rw [OS hok hl, (V9 h0).1, (V9 h0).2, decide_eq_true (by omega), Bool.true_and]
  · rw [decide_eq_false (by omega), Bool.false_and]
    unfold Xa
    rw [decide_eq_false h0, Bool.false_and]
theorem Yje {s : Sch} {i : Nat} (h : i < s.cells.length) : (Of s i)[Xf s i]? = some (Ym s i) := by
  have h1 := YG h
  obtain ⟨h2, h3⟩ := List.getElem?_eq_some_iff.1 h1
  have hsp : s.cells = s.cells.take i ++ Ym s i :: s.cells.drop (i + 1) := by
    rw [← h3, List.getElem_cons_drop, List.take_append_drop]
  unfold Of Xf
  have hp : Xn (Ym s i) (Ym s i) = true := by unfold Xn; simp
  have hf : s.cells.filter (Xn (Ym s i)) = (s.cells.take i).filter (Xn (Ym s i)) ++ Ym s i :: (s.cells.drop (i + 1)).filter (Xn (Ym s i)) := by
    conv => lhs; rw [hsp]
    rw [List.filter_append, List.filter_cons, if_pos hp]
  rw [hf, List.getElem?_append_right (Nat.le_refl _), Nat.sub_self]
  rfl
theorem Ylj {n : Net} (h : Ok n) {a b : Int} (ha : 0 ≤ a ∧ a < n.nodes) (hb : 0 ≤ b ∧ b < n.nodes) : 0 ≤ powr n a b ∧ powr n a b ≤ 68719476736 := by
  have hp := h.p0
  obtain ⟨r, hr⟩ : ∃ r, n.power[a.toNat]? = some r := ⟨_, List.getElem?_eq_getElem (by omega)⟩
  have hrm := List.mem_of_getElem? hr
  have hl := h.p1 r hrm
  obtain ⟨p, hpe⟩ : ∃ p, r[b.toNat]? = some p := ⟨_, List.getElem?_eq_getElem (by omega)⟩
  have := h.p2 r hrm p (List.mem_of_getElem? hpe)
  have e1 : n.power.getD a.toNat [] = r := by rw [List.getD_eq_getElem?_getD, hr]; rfl
  have e2 : r.getD b.toNat 0 = p := by rw [List.getD_eq_getElem?_getD, hpe]; rfl
  unfold powr
  rw [e1, e2]
  exact this
theorem Vx {n : Net} (h : Ok n) (a b : Int) : 0 ≤ powN n a b ∧ powN n a b ≤ 68719476736 := by
  unfold powN
  split
  · rename_i hc
    unfold insE at hc
    simp only [decide_eq_true_eq] at hc
    exact Ylj h hc.1 hc.2
  · omega
theorem Yf6 {n : Net} (h : Ok n) (l : List Cel) (j : Nat) (node : Int) : ∀ k : Nat, 0 ≤ XY n l j node k ∧ XY n l j node k ≤ (k : Int) * 137438953472
  | 0 => by simp [XY]
  | k + 1 => by
    have h1 := Yf6 h l j node k
    have h2 := Vx h (Yy (celL l k)) node
    have h3 := Vx h (toC (celL l k)) node
    unfold XY
    split <;> omega
open Go.RowKit Go.Eng Go.Nw
def atE (s : Sch) (slot : Int) : List Cel := if Y6 s = false ∨ slot < 0 then [] else s.cells.filter fun c => decide (c.1 = slot.tmod s.len)
def movC (d : Int) (c : Cel) : Cel := (c.1 + d, c.2)
def repC (s : Sch) (k : Nat) : List Cel := (List.range k).flatMap fun i : Nat => s.cells.map (movC ((i : Int) * s.len))
open Go.RowKit Go.Eng Go.Nw
def celF (c : Cel) : List Value := [.int .i64 c.1, .int .i64 c.2.1, .int .i64 c.2.2.1, .int .i64 c.2.2.2.1, .int .i64 c.2.2.2.2]
def celV (c : Cel) : Value := .agg #[.int .i64 c.1, .int .i64 c.2.1, .int .i64 c.2.2.1, .int .i64 c.2.2.2.1, .int .i64 c.2.2.2.2]
structure SchM where
  len : Int
  off : Int
  A : Option Addr
  cap : Nat
  cells : List Cel
def SchM.sch (s : SchM) : Sch := ⟨s.len, s.off, s.cells⟩
def SchM.val (s : SchM) : Value := .agg #[.int .i64 s.len, .int .i64 s.off, .slice s.A s.cells.length s.cap]
theorem Ye9 (a b : Cel) : cmpV (nums a) (nums b) < 0 ↔ Z0 a b = true := by
  unfold cmpV Z0
  by_cases h1 : Jp (nums a) (nums b) = true
  · rw [if_pos h1]; simp [h1]
  · rw [if_neg h1]
    split <;> simp [h1]
theorem Ww (c : Cel) {B : Nat} {w0 : World} {H : List HP} {w : World} (hw : St B w0 H w) :
    Calls Tryz.prog 105 [celV c].toArray w (Post B w0 fun v K => v = celV c ∧ K = H) := by
  refine Yc Tryz.func105 Tryz.ntmps105 rfl rfl hw ?_
  repeat' (first | refine zgd ?_ | (refine zgh ?_; intro _) | fail)
  (apply Ydr T (H2 := H); exact rfl; exact rfl; exact zm; exact rfl; exact rfl; exact zk; exact ⟨rfl, rfl⟩)
set_option maxRecDepth 10000 in
set_option maxHeartbeats 2000000 in
theorem Yfu (a b : Cel) {B : Nat} {w0 : World} {H : List HP} {w : World} (hw : St B w0 H w) :
    Calls Tryz.prog 120 [celV a, celV b, .func (.func 105) #[] #[]].toArray w (Post B w0 fun v K => v = .int .i64 (cmpV (nums a) (nums b)) ∧ K = H) := by
  refine Yc Tryz.func120 Tryz.ntmps120 rfl rfl hw ?_
  apply Zx
  iterate 5 (first | refine zga ?_ | (refine zgh ?_; intro _) | fail)
  apply Ycp
  apply Zx
  refine Zb (fun (z : Nat × Nat) => [(7, .pointer (some ⟨z.1, 0, none⟩)), (8, .pointer (some ⟨z.2, 0, none⟩))]) (fun z => blk z.1 (.cells (celF a).toArray 183 (0, 0)) :: blk z.2 (.cells (celF b).toArray 183 (0, 0)) :: H) ?_ ?_
  · intro K hK
    apply Wa (.n1 0 (.n1 1 (.n1 3 (.n1 4 (.n3 2 (.n3 5 (.n2 6 (.n1 7 .done) 7 (.n1 6 .done)) 6 (.n2 5 (.n1 7 .done) 7 (.n1 5 .done)) 7 (.n2 5 (.n1 6 .done) 6 (.n1 5 .done))) 6 (.n2 2 (.n2 5 (.n1 7 .done) 7 (.n1 5 .done)) 7 (.n1 2 (.n1 5 .done))) 7 (.n2 2 (.n2 5 (.n1 6 .done) 6 (.n1 5 .done)) 6 (.n1 2 (.n1 5 .done)))))))) [8, 9] [true, true]
    kernel_rfl
    kernel_rfl
    exact zy
    (simp only [Yj, nthO]; rfl)
    repeat' (first | ((first | apply YC (cs := []) | apply Y1 (cs := [])); exact rfl; exact Yiw; exact za; exact rfl; exact fun _ hw => (Ww _ hw)) | (apply Ykt; (simp only [nthO]; rfl); (simp only [nthO]; rfl); (simp only [nthO]; rfl)) | (apply Yf0; (simp only [nthO]; rfl); (simp only [nthO]; rfl)) | (apply YfZ; (simp only [nthO]; rfl)) | (apply Wg; (repeat (first | with_reducible exact Yh | (with_reducible apply Yg; (repeat (first | with_reducible exact Yf | with_reducible apply Ye)))))) | (apply Yk; (repeat (first | with_reducible exact Yh | (with_reducible apply Yg; (repeat (first | with_reducible exact Yf | with_reducible apply Ye)))))) | refine zgd ?_ | (refine zgh ?_; intro _) | fail)
    all_goals (
      rename_i ga gb
      first
        | (refine hK (ga, gb) _ _ zu ?_; dsimp only [celF]; exact zk; done)
        | (refine hK (gb, ga) _ _ zu ?_; dsimp only [celF]; exact zk; done))
  rintro ⟨g1, g2⟩
  dsimp only
  have hA : Rd B w0 (blk g1 (.cells (celF a).toArray 183 (0, 0)) :: blk g2 (.cells (celF b).toArray 183 (0, 0)) :: H) (some ⟨g1, 0, none⟩) ((nums a).flatMap numF) := Rd.blk (cs := (celF a).toArray) (.head _)
  have hB : Rd B w0 (blk g1 (.cells (celF a).toArray 183 (0, 0)) :: blk g2 (.cells (celF b).toArray 183 (0, 0)) :: H) (some ⟨g2, 0, none⟩) ((nums b).flatMap numF) := Rd.blk (cs := (celF b).toArray) (.tail _ (.head _))
  repeat' (first | (apply Wd T (e := 3); exact rfl; exact rfl; exact rfl) | ((first | apply Ya YkK | apply Yb YkK); exact za; exact rfl; exact fun _ hw => (Ya8 (nums a) (nums b) (by simp [nums]) (by simp [nums]) hA hB hw)) | (apply zg28; refine zs84 ?_) | refine zgd ?_ | fail)
  apply Yi H
  · exact zk
  apply Yd; exact rfl; exact rfl
  exact ⟨rfl, rfl⟩
theorem UJ (a b : Cel) {B : Nat} {w0 : World} {H : List HP} {w : World} (hw : St B w0 H w) :
    Calls Tryz.prog 62 [celV a, celV b].toArray w (Post B w0 fun v K => v = .int .i64 (cmpV (nums a) (nums b)) ∧ K = H) := by
  refine Yc Tryz.func62 Tryz.ntmps62 rfl rfl hw ?_
  repeat' (first | ((first | apply Ya YkB | apply Yb YkB); exact za; exact rfl; exact fun _ hw => (Yfu a b hw)) | refine zgc ?_ | (refine zgh ?_; intro _) | fail)
  apply Yi H
  · exact zk
  apply Yd; exact rfl; exact rfl
  exact ⟨rfl, rfl⟩
theorem OD (x n : Int) {B : Nat} {w0 : World} {H : List HP} {w : World} (hw : St B w0 H w) :
    Calls Tryz.prog 168 [.int .i64 x, .int .i64 n].toArray w (Post B w0 fun v K => v = .bool (insE x n) ∧ K = H) := by
  refine Yc Tryz.func168 Tryz.ntmps168 rfl rfl hw ?_
  repeat' (first | refine zgc ?_ | (refine zgf ?_ ?_ <;> intro _ <;> try (exfalso; omega)) | fail)
  all_goals (
    apply Yd; exact rfl; exact rfl
    first
      | exact ⟨by rw [show insE x n = true from decide_eq_true (by omega)], rfl⟩
      | exact ⟨by rw [show insE x n = false from decide_eq_false (by omega)], rfl⟩)
theorem OK (s : SchM) (c : Cel) {B : Nat} {w0 : World} {H : List HP} {w : World} (hw : St B w0 H w) :
    Calls Tryz.prog 112 [s.val, celV c].toArray w (Post B w0 fun v K => v = .bool (Zm s.sch c) ∧ K = H) := by
  refine Yc Tryz.func112 Tryz.ntmps112 rfl rfl hw ?_
  repeat' (first | ((first | apply XJ Ygd | apply XI Ygd); exact za; exact rfl; exact fun _ hw => (OD _ _ hw); all_goals (intro hB; (try simp only [decide_eq_true_eq, decide_eq_false_iff_not] at hB); try (exfalso; omega))) | refine zgc ?_ | (refine zgh ?_; intro _) | fail)
  all_goals (
    apply Yi H
    · exact zk
    apply Yd; exact rfl; exact rfl
    exact ⟨by simp [Zm, SchM.sch, *], rfl⟩)
theorem OB (s : SchM) (c : Cel) {B : Nat} {w0 : World} {H : List HP} {w : World} (hw : St B w0 H w) :
    Calls Tryz.prog 117 [s.val, celV c].toArray w (Post B w0 fun v K => v = .bool (JF s.sch c) ∧ K = H) := by
  refine Yc Tryz.func117 Tryz.ntmps117 rfl rfl hw ?_
  repeat' (first | ((first | apply XJ JB | apply XI JB); exact za; exact rfl; exact fun _ hw => (OK s c hw); all_goals (intro hB; (try simp only [decide_eq_true_eq, decide_eq_false_iff_not] at hB); try (exfalso; omega))) | ((first | apply XJ Ygd | apply XI Ygd); exact za; exact rfl; exact fun _ hw => (OD _ _ hw); all_goals (intro hB; (try simp only [decide_eq_true_eq, decide_eq_false_iff_not] at hB); try (exfalso; omega))) | refine zgc ?_ | (refine zgh ?_; intro _) | fail)
  all_goals (
    apply Yi H
    · exact zk
    apply Yd; exact rfl; exact rfl
    exact ⟨by simp [JF, *], rfl⟩)
theorem YaK (s : SchM) {B : Nat} {w0 : World} {H : List HP} {w : World} (hw : St B w0 H w) :
    Calls Tryz.prog 52 [s.val].toArray w (Post B w0 fun v K => v = .bool (ZZ s.sch) ∧ K = H) := by
  refine Yc Tryz.func52 Tryz.ntmps52 rfl rfl hw ?_
  have e1 : s.sch.len = s.len := rfl
  have e2 : s.sch.off = s.off := rfl
  repeat' (first | refine zgc ?_ | (refine zgf ?_ ?_ <;> intro _ <;> try (exfalso; omega)) | (refine zgh ?_; intro _) | fail)
  all_goals (
    apply Yi H
    · exact zk
    apply Yd; exact rfl; exact rfl
    first
      | exact ⟨by rw [show ZZ s.sch = true from decide_eq_true (by omega)], rfl⟩
      | exact ⟨by rw [show ZZ s.sch = false from decide_eq_false (by omega)], rfl⟩)
open Go.RowKit Go.Eng Go.Nw
theorem Yiq {s : Sch} {i : Nat} (hi : i < s.cells.length) (h : Jh s i = false) : Y6 s = false := by
  unfold Y6
  rw [Yct hi h, Bool.and_false]
set_option maxRecDepth 10000 in
set_option maxHeartbeats 1000000 in
theorem JV (s : SchM) {B : Nat} {w0 : World} {H : List HP} {w : World} (hr : Rd B w0 H s.A (s.cells.flatMap celF)) (hl : s.cells.length ≤ 1000000000000) (hw : St B w0 H w) :
    Calls Tryz.prog 58 [s.val].toArray w (Post B w0 fun v K => v = .bool (Y6 s.sch) ∧ K = H) := by
  refine Yc Tryz.func58 Tryz.ntmps58 rfl rfl hw ?_
  have e1 : s.sch.cells = s.cells := rfl
  repeat' (first | ((first | apply XJ en52 | apply XI en52); exact za; exact rfl; exact fun _ hw => (YaK s hw); all_goals (intro hB; (try simp only [decide_eq_true_eq, decide_eq_false_iff_not] at hB); try (exfalso; omega))) | refine zgd ?_ | (refine zge ?_ ?_ <;> intro _ <;> try (exfalso; omega)) | (refine zgh ?_; intro _) | fail)
  · apply Yi H
    · exact zk
    apply Yd; exact rfl; exact rfl
    exact ⟨by rw [show Y6 s.sch = false by unfold Y6; rw [e1, decide_eq_false (by omega), Bool.and_false, Bool.false_and]], rfl⟩
  rotate_left
  · apply Yi H
    · exact zk
    apply Yd; exact rfl; exact rfl
    exact ⟨by simp [Y6, *], rfl⟩
  rename_i g _
  refine Yl (fun (i : Nat) => [(17, .int .i64 i), (16, .int .i64 s.cells.length), (15, .slice s.A s.cells.length s.cap), (1, .pointer (some ⟨g, 0, none⟩))]) (fun _ => blk g (.cells #[.int .i64 s.len, .int .i64 s.off, .slice s.A s.cells.length s.cap] 30 (0, 0)) :: H) (fun i => i ≤ s.cells.length ∧ (List.range i).all (Jh s.sch) = true) (fun i => s.cells.length - i) 0 ⟨Nat.zero_le _, rfl⟩ ?_ (fun w hw => hw) ?_
  · exact zu
  rintro i ⟨hi, hall⟩ K hK
  have hr := hr.cons (X := blk g (.cells #[.int .i64 s.len, .int .i64 s.off, .slice s.A s.cells.length s.cap] 30 (0, 0)))
  by_cases hlt : i < s.cells.length
  · have hget : s.cells[i]? = some (Ym s.sch i) := YG (s := s.sch) hlt
    have hgo : Jh s.sch i = false → Y6 s.sch = false := Yiq (s := s.sch) hlt
    have hst : Jh s.sch i = true → (List.range (i + 1)).all (Jh s.sch) = true := fun h => by rw [QB, hall, h]; rfl
    rcases Nat.eq_zero_or_pos i with h0 | h0
    · subst h0
      repeat' (first | ((first | apply XJ Yf9 | apply XI Yf9); exact za; exact rfl; exact fun _ hw => (OB s _ hw); all_goals (intro hB; (try simp only [decide_eq_true_eq, decide_eq_false_iff_not] at hB); try (exfalso; omega))) | (apply zg28; refine zs84 ?_) | refine zgd ?_ | (refine zge ?_ ?_ <;> intro _ <;> try (exfalso; omega)) | (refine zgh ?_; intro _) | fail)
      · apply hK (0 + 1)
        · exact ⟨by omega, hst (by simp [Jh, *])⟩
        · omega
        · exact zu
        · exact zk
      · apply Yi H
        · exact zk
        apply Yd; exact rfl; exact rfl
        exact ⟨by rw [hgo (by simp [Jh, *])], rfl⟩
    · have hget2 : s.cells[((i : Int) - 1).toNat]? = some (Ym s.sch (i - 1)) := by
        rw [show ((i : Int) - 1).toNat = i - 1 by omega]
        exact YG (s := s.sch) (show i - 1 < s.cells.length by omega)
      repeat' (first | ((first | apply XJ Yf9 | apply XI Yf9); exact za; exact rfl; exact fun _ hw => (OB s _ hw); all_goals (intro hB; (try simp only [decide_eq_true_eq, decide_eq_false_iff_not] at hB); try (exfalso; omega))) | ((first | apply Ya en62 | apply Yb en62); exact za; exact rfl; exact fun _ hw => (UJ _ _ hw)) | (apply zg28; refine zs84 ?_) | refine zgd ?_ | (refine zgf ?_ ?_ <;> intro _ <;> try (exfalso; omega)) | (refine zgh ?_; intro _) | fail)
      all_goals first
        | (apply hK (i + 1)
           · refine ⟨by omega, hst ?_⟩
             have hc : cmpV (nums (Ym s.sch (i - 1))) (nums (Ym s.sch i)) < 0 := by omega
             simp [Jh, (Ye9 _ _).1 hc, *]
           · omega
           · exact zu
           · exact zk
           done)
        | (apply Yi H
           · exact zk
           apply Yd; exact rfl; exact rfl
           refine ⟨?_, rfl⟩
           rw [hgo]
           first
             | (simp [Jh, *]; done)
             | (have hc : ¬ cmpV (nums (Ym s.sch (i - 1))) (nums (Ym s.sch i)) < 0 := by omega
                have hd : Z0 (Ym s.sch (i - 1)) (Ym s.sch i) = false := by
                  rw [Ye9] at hc
                  simpa using hc
                simp [Jh, hd]
                omega))
  · repeat' (first | refine zgc ?_ | (refine zge ?_ ?_ <;> intro _ <;> try (exfalso; omega)) | fail)
    apply Yi H
    · exact zk
    apply Yd; exact rfl; exact rfl
    refine ⟨?_, rfl⟩
    rw [show i = s.cells.length by omega] at hall
    rw [show Y6 s.sch = true by unfold Y6; rw [e1, hall, decide_eq_true (by omega)]; simp [*]]
end Go.Proofs.YtmalhidldgfeoaaGreatDoor
namespace Go.Eng
open Go.RowKit
theorem Yju {P : Program} {n : Shp} {B : Nat} {w0 : World} {Q : Exit → Act → World → Prop} {env : Env} {H : List HP} {c : Code} {e size k cap : Nat} {A : Option Addr} {xs : List Value} (hm : sl e size A k cap xs ∈ H) (h : k ≤ cap → VC P n B w0 c Q env H) : VC P n B w0 c Q env H := by
  refine ⟨fun a w ha hw => ?_⟩
  have hown := hw.sl hm
  have hkc : k ≤ cap := by
    rcases hown.2 with ⟨e1, e2⟩ | ⟨g, c, cur, e1, _, _, e4, _⟩
    · omega
    · injection e1 with _ _ e3; omega
  exact (h hkc).run a w ha hw
end Go.Eng
namespace Go.Proofs.YtmalhidldgfeoaaGreatDoor
open Go.RowKit Go.Eng Go.Nw
theorem YaQ (A : Option Addr) (cap size : Nat) : subA A 0 cap size = A := by
  unfold subA
  split
  · rfl
  · cases A with
    | none => rfl
    | some a => simp [Addr.add]
def cels (A : Option Addr) (cap : Nat) (l : List Cel) : HP := sl 40 5 A l.length cap (l.flatMap celF)
theorem YgR (A : Option Addr) (cap : Nat) (l : List Cel) (c : Cel) : sl 40 5 A (l.length + 1) cap (l.flatMap celF ++ celF c) = cels A cap (l ++ [c]) := by
  unfold cels; simp
theorem UV (A : Option Addr) (cap : Nat) (l : List Cel) (c : Cel) : sl 40 5 A (l.length + 1) cap (l.flatMap celF ++ #[Value.int .i64 c.1, .int .i64 c.2.1, .int .i64 c.2.2.1, .int .i64 c.2.2.2.1, .int .i64 c.2.2.2.2].toList) = cels A cap (l ++ [c]) := YgR A cap l c
theorem Yaj (l : List Cel) (c : Cel) : l.length + 1 = (l ++ [c]).length := by simp
theorem Rd.cels {B : Nat} {w0 : World} {H : List HP} {A : Option Addr} {cap : Nat} {l : List Cel} (h : cels A cap l ∈ H) : Rd B w0 H A (l.flatMap celF) := .sl h
section
variable {m : Eng.Mode} {n : Shp} {B d : Nat} {w0 : World} {ops : Array Oper} {Q : Exit → Act → World → Prop} {rest : List Oper} {env : Env} {H : List HP} {ty : TypeId} {pos : String} {after : Array Edge}
end
open Go.RowKit Go.Eng Go.Nw
set_option maxRecDepth 10000 in
theorem YdN (l : List Cel) (hlen : l.length ≤ 1000000) {A : Option Addr} {cap B : Nat} {w0 : World} {H : List HP} {w : World} (hr : Rd B w0 H A (l.flatMap celF)) (hw : St B w0 H w) :
    Calls Tryz.prog 64 [.slice A l.length cap].toArray w (Post B w0 fun v K => ∃ A' cap', v = .slice A' l.length cap' ∧ K = cels A' cap' l :: H) := by
  cases A with
  | none =>
    have hl : l = [] := by
      cases l with
      | nil => rfl
      | cons x l =>
        obtain ⟨g, o, e, _⟩ := hr w hw 0 _ rfl
        cases e
    subst hl
    refine Yc Tryz.func64 Tryz.ntmps64 rfl rfl hw ?_
    repeat' (first | (apply Ut; exact rfl; exact rfl; exact rfl) | refine zgb ?_ | fail)
    apply On 40 5; apply Yd; exact rfl; exact rfl; exact ⟨none, 0, rfl, rfl⟩
  | some a =>
    refine Yc Tryz.func64 Tryz.ntmps64 rfl rfl hw ?_
    repeat' (first | (apply Ut; exact rfl; exact rfl; exact rfl) | (apply Jf T; exact rfl; exact rfl; intro g2) | refine zgb ?_ | fail)
    apply Wb T (f := celF) (l2 := l) (e := 40) (size := 5) (xs := []); exact rfl; exact rfl; exact rfl; exact hr.cons; exact (fun _ => rfl); exact (fun _ => rfl); exact rfl; (intro _ _; exact zd); omega; intro A' cap'
    repeat' (first | refine zga ?_ | fail)
    rw [Nat.zero_add, List.nil_append]
    apply Yd; exact rfl; exact rfl; exact ⟨A', cap', rfl, rfl⟩
end Go.Proofs.YtmalhidldgfeoaaGreatDoor
namespace Go.Eng
open Go.RowKit
theorem Ya3 {P : Program} (w : World) (t u ty e : TypeId) (i : TypeInfo) (ht : P.underlying t = some (.slice e)) (hu : P.underlying u = some .string) (hi : P.info? e = some i) (hz : i.zero = some (.int .u8 0))
    (hsize : i.size = 1) (hby : i.bytes = 1) (v : Value) (n : Nat) (xs : List Value) (hown : w.ownsRow 0 e 1 v n xs) (s : ByteArray) (hb : n + s.size ≤ 1000000000) :
    ∃ v' w', (Builtin.append_ #[t, u] ty #[v, .string s]).run P w = .ok v' w' ∧ w'.ownsRow 0 e 1 v' (n + s.size) (xs ++ Lib.strCells s) ∧ w.grownBy w' v.ownBlock ∧ ∀ b, v'.ownBlock = some b → v.ownBlock = some b ∨ w.heap.size ≤ b := by
  have hm : n + s.size ≤ maxLen := by simp only [maxLen]; omega
  obtain ⟨v', w', h1, h2, h3, _⟩ := Lib.run_append_own_string (P := P) w 0 t u ty e i ht hu hi hz hsize hby v n xs hown s hm (by omega) (Nat.zero_le _)
  refine ⟨v', w', h1, h2, h3, fun b hbb => ?_⟩
  rcases hown.2 with ⟨rfl, rfl⟩ | ⟨g, cap, cur, rfl, hbg, hg, hnc, hcm, hcs, htake⟩
  · right
    obtain ⟨v2, w2, k1, k2, _⟩ := Lib.run_append_own_string (P := P) w w.heap.size t u ty e i ht hu hi hz hsize hby (.slice none 0 0) 0 xs ⟨hown.1, .inl ⟨rfl, rfl⟩⟩ s hm (by omega) (Nat.le_refl _)
    rw [h1] at k1
    obtain ⟨rfl, rfl⟩ : v' = v2 ∧ w' = w2 := by simpa using k1
    rcases k2.2 with ⟨e1, _⟩ | ⟨g', _, _, e1, e2, _⟩
    · rw [e1] at hbb; cases hbb
    · rw [e1] at hbb
      simp only [Value.ownBlock, Option.some.injEq] at hbb
      omega
  · have hcs' : cur.size = cap := by simpa using hcs
    have hxl : xs.length = n := by simpa using hown.1
    by_cases hroom : n + s.size ≤ cap
    · have k1 := Lib.run_append_room_string (P := P) w t u ty e i ht hu hi hsize g n cap cur hg s hroom (by omega)
      rw [h1] at k1
      obtain ⟨rfl, _⟩ := (Result.ok.injEq _ _ _ _).mp k1
      exact .inl hbb
    · have holds : ∀ j u, xs[j]? = some u → w.cell? ((⟨g, 0, none⟩ : Addr).add j) = some u := hown.cells (g := g) rfl
      have k1 := Lib.run_append_grow_string (P := P) w t u ty e i (.int .u8 0) ht hu hi hz ⟨g, 0, none⟩ n cap xs (by rw [hsize]; simpa using hxl) holds s (by omega) (by omega) (by rw [hby]; exact growslice_fits (by omega) (by omega))
      rw [h1] at k1
      obtain ⟨rfl, _⟩ := (Result.ok.injEq _ _ _ _).mp k1
      right
      simp only [Value.ownBlock, Option.some.injEq] at hbb
      omega
section
variable {P : Program} {m : Mode} {n : Shp} {B d : Nat} {w0 : World} {ops : Array Oper} {Q : Exit → Act → World → Prop} {rest : List Oper} {env : Env} {H : List HP} {ty : TypeId} {pos : String} {after : Array Edge} {x y : Operand}
def QF (P : Program) (e : TypeId) : Bool := match P.info? e with | some i => (match i.zero with | some (.int .u8 0) => true | _ => false) && i.size == 1 && i.bytes == 1 | none => false
theorem Ya5 {e : TypeId} (h : QF P e = true) : ∃ i, P.info? e = some i ∧ i.zero = some (.int .u8 0) ∧ i.size = 1 ∧ i.bytes = 1 := by
  unfold QF at h
  split at h
  · rename_i i hi
    simp only [Bool.and_eq_true, beq_iff_eq] at h
    refine ⟨i, hi, ?_, h.1.2, h.2⟩
    have h1 := h.1.1
    split at h1
    · assumption
    · cases h1
  · cases h
theorem Ycg (T : Tab P) {t tt k cap e bytes : Nat} {A : Option Addr} {s : ByteArray} {xs : List Value} {K : Option Addr → Nat → List HP} (hx : evo env x = some (.slice A k cap)) (hy : evo env y = some (.string s)) (ht : look T.sl t = some (e, 1, bytes)) (hbi : QF P e = true) (htt : look T.st tt = some ())
    (hn : Nat.ble (d + 1) n.k = true) (hu : ∀ A' cap', Upd (sl e 1 A k cap xs) (sl e 1 A' (k + s.size) cap' (xs ++ Lib.strCells s)) H (K A' cap')) (hb : k + s.size ≤ 1000000000)
    (h : ∀ A' cap', VL P none n B w0 ops Q rest ((d, .slice A' (k + s.size) cap') :: env) (K A' cap')) :
    VL P none n B w0 ops Q (⟨some d, .call ⟨.builtin .append, #[x, y], #[t, tt]⟩, ty, pos, after, none⟩ :: rest) env H := by
  obtain ⟨hut, _⟩ := YX (T.slic ht)
  obtain ⟨i, hi, hz, hs1, hb1⟩ := Ya5 hbi
  have hst : P.underlying tt = some .string := T.strs htt
  refine Xw (fun v K' => ∃ A' cap', v = .slice A' (k + s.size) cap' ∧ K' = K A' cap') rfl rfl hn (fun a w ha hw => ?_) (by rintro _ _ ⟨A', cap', rfl, rfl⟩; exact h A' cap')
  have hmem : sl e 1 A k cap xs ∈ H := by
    obtain ⟨L1, L2, rfl, _⟩ := hu none 0
    simp
  have hown := hw.sl hmem
  obtain ⟨v', w', hrun, hown', hgrow, hat⟩ := Ya3 (P := P) w t tt ty e i hut hst hi hz hs1 hb1 (.slice A k cap) k xs hown s hb
  have hshape : ∃ A' cap', v' = .slice A' (k + s.size) cap' := by
    rcases hown'.2 with ⟨e1, e2⟩ | ⟨g', c', _, e1, _⟩
    · exact ⟨none, 0, by rw [e1, e2]⟩
    · exact ⟨_, _, e1⟩
  obtain ⟨A', cap', rfl⟩ := hshape
  refine ⟨_, K A' cap', w', by simp [execOp, resolve, invoke, builtin, ha.eval hx, ha.eval hy, hrun], ?_, A', cap', rfl, rfl⟩
  refine hw.updN (hu A' cap') hgrow.os hgrow.tape hgrow.output hgrow.size fun S1 ⟨_, hS⟩ => ⟨⟨fun b => Value.ownBlock (.slice A' (k + s.size) cap') = some b, ⟨hown', ?_⟩, fun b hb => ?_⟩, fun b hb hlt => hgrow.block b hlt (fun e => hb ?_)⟩
  · rintro a rfl; rfl
  · rcases hat b hb with e | e
    · cases A with
      | none => cases e
      | some a => left; simp only [Value.ownBlock, Option.some.injEq] at e; rw [← e]; exact hS a rfl
    · right
      refine ⟨e, ?_⟩
      rcases hown'.2 with ⟨e1, _⟩ | ⟨g', _, _, e1, _, e3, _⟩
      · rw [e1] at hb; cases hb
      · rw [e1] at hb
        simp only [Value.ownBlock, Option.some.injEq] at hb
        subst hb
        exact (Array.getElem?_eq_some_iff.1 e3).1
  · cases A with
    | none => cases e
    | some a => simp only [Value.ownBlock, Option.some.injEq] at e; rw [e]; exact hS a rfl
end
open Go.RowKit
inductive OV where
  | done
  | p1 (i : Nat) (t : OV)
  | d1 (i : Nat) (t : OV)
  | d2 (i : Nat) (t : OV) (j : Nat) (u : OV)
section
variable {P : Program} {n : Shp} {B : Nat} {w0 : World} {Q : Exit → Act → World → Prop} {env : Env} {H : List HP} {ops : Array Oper}
def wpD (P : Program) (ops : Array Oper) (K : Act → World → Prop) (o : Oper) (a : Act) (w : World) : Prop :=
  if Region.wanted o (yielded ops a.tmps) then o.wp P a w K (fun _ _ _ => False) else K (a.put o.dst undef) w
def Xt (P : Program) (ops : Array Oper) (l : List Oper) (Q : Exit → Act → World → Prop) (S : World → Prop) : OV → Act → World → Prop
  | .done, a, w => Q .normal a w
  | .p1 i t, a, w => Yt P ops (fun e a w => match e with | .normal => S w ∧ Xt P ops l Q S t a w | _ => False) S [nthO l i] a w
  | .d1 i t, a, w => wpD P ops (fun a w => S w ∧ Xt P ops l Q S t a w) (nthO l i) a w
  | .d2 i t j u, a, w => wpD P ops (fun a w => S w ∧ Xt P ops l Q S t a w) (nthO l i) a w ∧ wpD P ops (fun a w => S w ∧ Xt P ops l Q S u a w) (nthO l j) a w
def VD (ops : Array Oper) (last : List Nat) : OV → Array Bool → Nat → Bool
  | .done, listed, 0 => ZH ops last listed
  | .done, _, _ + 1 => false
  | .p1 i t, listed, k + 1 => !last.contains i && (match ops[i]? with
      | some o => !eff o && ((Region.ready .any ops listed).contains i && Region.free .any ops listed i)
      | none => false) && VD ops last t (listed.setIfInBounds i true) k
  | .d1 i t, listed, k + 1 => !last.contains i && (ops[i]?).isSome && decide (Region.ready .any ops listed = [i]) && VD ops last t (listed.setIfInBounds i true) k
  | .d2 i t j u, listed, k + 1 => !last.contains i && !last.contains j && (ops[i]?).isSome && (ops[j]?).isSome && ((Region.ready .any ops listed).all fun x => x == i || x == j) && !(Region.ready .any ops listed).isEmpty && VD ops last t (listed.setIfInBounds i true) k && VD ops last u (listed.setIfInBounds j true) k
  | .p1 _ _, _, 0 => false
  | .d1 _ _, _, 0 => false
  | .d2 _ _ _ _, _, 0 => false
theorem QR {S : World → Prop} {K : Act → World → Prop} {last : List Nat} {i k : Nat} {o : Oper} {listed : Array Bool} {a : Act} {w : World} (ho : ops[i]? = some o)
    (h : wpD P ops K o a w) (hk : ∀ a w, K a w → S w ∧ X3 P ops Q S last k (listed.setIfInBounds i true) a w) :
    wpOp P ops Q i (fun a' w' => (last.contains i = false → S w') ∧ X3 P ops Q S last k (listed.setIfInBounds i true) a' w') a w := by
  unfold wpD at h
  unfold wpOp
  simp only [ho]
  by_cases hw : Region.wanted o (yielded ops a.tmps) = true
  · rw [if_pos hw] at h ⊢
    exact .inl (Oper.wp_mono_noQ (fun _ _ _ h => h) (by rintro ⟨_, _, h⟩; exact h) (Oper.wp_mono (fun a' w' h' => ⟨fun _ => (hk a' w' h').1, (hk a' w' h').2⟩) h))
  · rw [if_neg hw] at h ⊢
    exact ⟨fun _ => (hk _ w h).1, (hk _ w h).2⟩
theorem ZV {S : World → Prop} {last : List Nat} (hs : Region.noSelect ops = true) (hQ : ∀ c (a : Act) (w : World), ¬ Q (.panic c) a w) (hlo : ¬ LetsOut Q) (l : List Oper) (hl : ops = l.toArray) (hlast : Yai ops last = true) :
    ∀ (t : OV) (k : Nat) (listed : Array Bool) (a : Act) (w : World), Closed ops listed → VD ops last t listed k = true → S w → Xt P ops l (X5 P ops Q (Yj l last)) S t a w →
      X3 P ops Q S last (k + last.length) listed a w
  | .done, 0, listed, a, w, _, hB, _, h => by
    have := ZT (S := S) l hl (ZD hlast).1 hlo last listed a w (fun j hj => by simpa using hj) hB h
    rw [Nat.zero_add]
    exact this
  | .done, _ + 1, _, _, _, _, hB, _, _ => by cases hB
  | .p1 _ _, 0, _, _, _, _, hB, _, _ => by cases hB
  | .d1 _ _, 0, _, _, _, _, hB, _, _ => by cases hB
  | .d2 _ _ _ _, 0, _, _, _, _, hB, _, _ => by cases hB
  | .p1 i t, k + 1, listed, a, w, hcl, hB, hS, h => by
    simp only [VD, Bool.and_eq_true] at hB
    obtain ⟨⟨h0, h1⟩, h2⟩ := hB
    have hno : last.contains i = false := by simpa using h0
    cases ho : ops[i]? with
    | none => rw [ho] at h1; cases h1
    | some o =>
      rw [ho] at h1
      have hget := YN hl ho
      unfold Xt at h
      rw [hget] at h
      rw [Nat.add_right_comm]
      simp only [Bool.and_eq_true, Bool.not_eq_true'] at h1
      obtain ⟨he, h3, h4⟩ := h1
      unfold Yt at h
      rw [if_neg (by rw [he]; simp)] at h
      obtain ⟨v, hy, h5⟩ := h
      have hr : i ∈ Region.ready .any ops listed := by simpa using h3
      exact Zr ho (Region.noSelect_spec hs) hQ ((ZD hlast).2 i o ho he hno) hno _ listed a w hcl (Region.free_spec ho h4) hr hy hS (ZV hs hQ hlo l hl hlast t k _ _ w (hcl.set hr) h2 hS h5.2)
  | .d1 i t, k + 1, listed, a, w, hcl, hB, hS, h => by
    simp only [VD, Bool.and_eq_true, decide_eq_true_eq] at hB
    obtain ⟨⟨⟨h0, h1⟩, h3⟩, h2⟩ := hB
    obtain ⟨o, ho⟩ := Option.isSome_iff_exists.1 h1
    unfold Xt at h
    rw [YN hl ho] at h
    rw [Nat.add_right_comm]
    refine ⟨fun h0 => (by rw [h3] at h0; cases h0), fun j hj => ?_⟩
    have hj' := hj
    rw [h3] at hj
    obtain rfl : j = i := by simpa using hj
    exact QR ho h fun a w ⟨hS', h'⟩ => ⟨hS', ZV hs hQ hlo l hl hlast t k _ a w (hcl.set hj') h2 hS' h'⟩
  | .d2 i t j u, k + 1, listed, a, w, hcl, hB, hS, h => by
    simp only [VD, Bool.and_eq_true] at hB
    obtain ⟨⟨⟨⟨⟨⟨⟨b1, b2⟩, b3⟩, b4⟩, b5⟩, b6⟩, b7⟩, b8⟩ := hB
    obtain ⟨o, ho⟩ := Option.isSome_iff_exists.1 b3
    obtain ⟨o', ho'⟩ := Option.isSome_iff_exists.1 b4
    unfold Xt at h
    rw [YN hl ho, YN hl ho'] at h
    rw [Nat.add_right_comm]
    refine ⟨fun h0 => (by rw [h0] at b6; cases b6), fun x hx => ?_⟩
    have h5 := List.all_eq_true.1 b5 x hx
    simp only [Bool.or_eq_true, beq_iff_eq] at h5
    rcases h5 with rfl | rfl
    · exact QR ho h.1 fun a w ⟨hS', h'⟩ => ⟨hS', ZV hs hQ hlo l hl hlast t k _ a w (hcl.set hx) b7 hS' h'⟩
    · exact QR ho' h.2 fun a w ⟨hS', h'⟩ => ⟨hS', ZV hs hQ hlo l hl hlast u k _ a w (hcl.set hx) b8 hS' h'⟩
structure VV (P : Program) (n : Shp) (B : Nat) (w0 : World) (ops : Array Oper) (l : List Oper) (Q : Exit → Act → World → Prop) (t : OV) (env : Env) (H F : List HP) : Prop where
  run : ∀ a, Fits n a env → ∀ w, St B w0 (H ++ F) w → Xt P ops l Q (St B w0 H) t a w
def J8 (P : Program) (B : Nat) (w0 : World) (ops : Array Oper) (l : List Oper) (Q : Exit → Act → World → Prop) (Hc : List HP) (t : OV) : Exit → Act → World → Prop
  | .normal, a, w => St B w0 Hc w ∧ Xt P ops l Q (St B w0 Hc) t a w
  | _, _, _ => False
theorem YhL {l : List Oper} {t : OV} : J8 P B w0 ops l Q H t = fun e a w => match e with | .normal => St B w0 H w ∧ Xt P ops l Q (St B w0 H) t a w | _ => False := by
  funext e a w
  cases e <;> rfl
theorem YfN {l : List Oper} {t : OV} {o : Oper} {a : Act} {w : World} (h : wpList P ops (J8 P B w0 ops l Q H t) [o] a w) : wpD P ops (fun a w => St B w0 H w ∧ Xt P ops l Q (St B w0 H) t a w) o a w := by
  have hno : ¬ LetsOut (J8 P B w0 ops l Q H t) := by rintro ⟨_, _, h⟩; exact h
  unfold wpList at h
  unfold wpD
  by_cases hw : Region.wanted o (yielded ops a.tmps) = true
  · rw [if_pos hw] at h ⊢
    rcases h with h | ⟨_, h⟩
    · exact Oper.wp_mono_noQ (fun _ _ _ h => h) hno (Oper.wp_mono (fun a' w' h' => h') h)
    · exact (hno h).elim
  · rw [if_neg hw] at h ⊢
    exact h
theorem Ycr {l : List Oper} {F HF : List HP} (happ : App H F HF) (h : VQ n B w0 Q .normal env HF) : VV P n B w0 ops l Q .done env H F :=
  ⟨fun a ha w hw => by rw [← JL happ] at hw; exact h.run a w ha hw⟩
theorem Ykw {l : List Oper} {F : List HP} {i : Nat} {t : OV} {o : Oper} (ho : nthO l i = o) (h : VL P (some (some F)) n B w0 ops (J8 P B w0 ops l Q H t) [o] env H) : VV P n B w0 ops l Q (.p1 i t) env H F := by
  refine ⟨fun a ha w hw => ?_⟩
  have h1 : Yt P ops (J8 P B w0 ops l Q H t) (St B w0 H) [o] a w := h.run a ha w hw
  unfold Xt
  rw [ho, ← YhL]
  exact h1
theorem Yku {l : List Oper} {F HF : List HP} {i : Nat} {t : OV} {o : Oper} (ho : nthO l i = o) (happ : App H F HF) (h : VL P none n B w0 ops (J8 P B w0 ops l Q H t) [o] env HF) : VV P n B w0 ops l Q (.d1 i t) env H F := by
  refine ⟨fun a ha w hw => ?_⟩
  unfold Xt
  rw [ho]
  rw [← JL happ] at hw
  exact YfN (h.run a ha w hw)
theorem Ykv {l : List Oper} {F HF : List HP} {i j : Nat} {t u : OV} {o o' : Oper} (ho : nthO l i = o) (ho' : nthO l j = o') (happ : App H F HF) (h : VL P none n B w0 ops (J8 P B w0 ops l Q H t) [o] env HF)
    (h' : VL P none n B w0 ops (J8 P B w0 ops l Q H u) [o'] env HF) : VV P n B w0 ops l Q (.d2 i t j u) env H F := by
  refine ⟨fun a ha w hw => ?_⟩
  unfold Xt
  rw [ho, ho']
  rw [← JL happ] at hw
  exact ⟨YfN (h.run a ha w hw), YfN (h'.run a ha w hw)⟩
theorem Ydu {l : List Oper} {F H' Hc : List HP} {t : OV} (hp : Pull Hc H' F) (h : VV P n B w0 ops l Q t env Hc F) : VQ n B w0 (J8 P B w0 ops l Q Hc t) .normal env H' :=
  ⟨fun a w ha hw => ⟨(hw.perm hp).prefix_, h.run a ha w (hw.perm hp)⟩⟩
theorem Ydc {id : Nat} {l : List Oper} (t : OV) (last : List Nat) (mask : List Bool) {Hc F : List HP} (hm : P.follows .mixedOrders = true)
    (hB : (Region.noSelect l.toArray && decide (last.length ≤ l.toArray.size) && Yai l.toArray last && VD l.toArray last t (Array.replicate l.toArray.size false) (l.toArray.size - last.length)) = true)
    (hsp : Split mask H Hc F) {l2 : List Oper} (hl2 : Yj l last = l2) (h : VV P n B w0 l.toArray l (X5 P l.toArray (Only Q) l2) t env Hc F) : VC P n B w0 (.region id l.toArray true) Q env H := by
  simp only [Bool.and_eq_true, decide_eq_true_eq] at hB
  obtain ⟨⟨⟨h1, h2⟩, h3⟩, h5⟩ := hB
  refine ⟨fun a w ha hw => Zs (Q := Only Q) ?_ fun e a w h => by cases e <;> first | exact h | cases h⟩
  have hst : St B w0 (Hc ++ F) w.drew := (hw.perm (Xj hsp)).drew
  have hr := h.run a ha w.drew hst
  rw [← hl2] at hr
  have := ZV (S := St B w0 Hc) h1 (fun c a w h => h) (by rintro ⟨_, _, h⟩; exact h) l rfl h3 t _ _ a w.drew (Xz _ _) h5 hst.prefix_ hr
  rw [Nat.sub_add_cancel h2] at this
  exact JK hm (X4 _ _ _ _ this)
end
end Go.Eng
namespace Go.Proofs.YtmalhidldgfeoaaGreatDoor
open Go.RowKit Go.Eng Go.Nw
theorem Q8 {α : Type} (p : α → Bool) : ∀ (l : List α) (k : Int), (l.filter (fun a => !p a) = l ∧ Yn p l k = -1) ∨ ∃ j, j < l.length ∧ Yn p l k = k + j ∧ (l.take j).filter (fun a => !p a) = l.take j ∧ ∃ a, l[j]? = some a ∧ p a = true
  | [], _ => .inl ⟨rfl, rfl⟩
  | a :: l, k => by
    unfold Yn
    cases h : p a with
    | true => exact .inr ⟨0, by simp, by simp, rfl, a, rfl, h⟩
    | false =>
      rw [if_neg (by decide)]
      have hn : (!p a) = true := by rw [h]; rfl
      rcases Q8 p l (k + 1) with ⟨h1, h2⟩ | ⟨j, h1, h2, h3, b, h4, h5⟩
      · exact .inl ⟨by rw [List.filter_cons, if_pos hn, h1], h2⟩
      · refine .inr ⟨j + 1, by simp only [List.length_cons]; omega, by rw [h2]; omega, ?_, b, h4, h5⟩
        rw [List.take_succ_cons, List.filter_cons, if_pos hn, h3]
theorem Yac (p : Cel → Bool) (l : List Cel) (f : Nat) (cs : List Value) (hen : ∀ xs w, (callFunc f xs).run Tryz.prog w = .ok (.enter f xs) w) (hlen : l.length ≤ 1000) {A : Option Addr} {cap B : Nat} {w0 : World} {H : List HP} {w : World} (hr : Rd B w0 H A (l.flatMap celF))
    (hp : ∀ a ∈ l, ∀ w, St B w0 H w → Calls Tryz.prog f ([celV a] ++ cs).toArray w (Post B w0 fun v K => v = .bool (p a) ∧ K = H)) (hw : St B w0 H w) :
    Calls Tryz.prog 229 [.slice A l.length cap, .func (.func f) #[] cs.toArray].toArray w (Post B w0 fun v K => v = .int .i64 (Yn p l 0) ∧ K = H) := by
  refine Yc Tryz.func229 Tryz.ntmps229 rfl rfl hw ?_
  repeat' (first | refine zgb ?_ | fail)
  refine Yl (fun (k : Nat) => [(8, .int .i64 k), (7, .int .i64 l.length), (0, .slice A l.length cap), (1, .func (.func f) #[] cs.toArray)]) (fun _ => H) (fun k => k ≤ l.length ∧ Yn p l 0 = Yn p (l.drop k) k) (fun k => l.length - k) 0 ⟨Nat.zero_le _, by simp⟩ ?_ (fun w hw => hw) ?_
  · exact zu
  rintro k ⟨hk, hi⟩ K hK
  by_cases hlt : k < l.length
  · obtain ⟨a, ha⟩ : ∃ a, l[k]? = some a := ⟨_, List.getElem?_eq_getElem hlt⟩
    have hpa := hp a (List.mem_of_getElem? ha)
    rw [Jo p l ha] at hi
    repeat' (first | ((first | apply YC (cs := cs)); exact rfl; exact hen; exact za; exact rfl; exact fun _ hw => hpa _ hw) | refine zgd ?_ | (refine zge ?_ ?_ <;> intro _ <;> try (exfalso; omega)) | fail)
    cases hpv : p a
    · rw [hpv] at hi
      repeat' (first | refine zgc ?_ | fail)
      apply hK (k + 1)
      · exact ⟨by omega, hi⟩
      · omega
      · exact zu
      · exact fun w hw => hw
    · rw [hpv] at hi
      repeat' (first | refine zgc ?_ | fail)
      apply Yd; exact rfl; exact rfl
      exact ⟨by rw [hi]; rfl, rfl⟩
  · repeat' (first | refine zgc ?_ | (refine zge ?_ ?_ <;> intro _ <;> try (exfalso; omega)) | fail)
    apply Yd; exact rfl; exact rfl
    rw [hi, List.drop_eq_nil_of_le (by omega)]
    exact ⟨rfl, rfl⟩
structure Kc where
  i : Nat
  j : Nat
  M : List Cel
set_option maxRecDepth 10000 in
set_option maxHeartbeats 1000000 in
theorem YdU (p : Cel → Bool) (l : List Cel) (f : Nat) (cs : List Value) (hen : ∀ xs w, (callFunc f xs).run Tryz.prog w = .ok (.enter f xs) w) (hlen : l.length ≤ 1000) {A : Option Addr} {cap B : Nat} {w0 : World} {H : List HP} {w : World}
    (hp : ∀ a ∈ l, ∀ (X : List HP) w, St B w0 (X ++ H) w → Calls Tryz.prog f ([celV a] ++ cs).toArray w (Post B w0 fun v K => v = .bool (p a) ∧ K = X ++ H)) (hw : St B w0 (cels A cap l :: H) w) :
    Calls Tryz.prog 286 [.slice A l.length cap, .func (.func f) #[] cs.toArray].toArray w (Post B w0 fun v K => v = .slice A (l.filter fun a => !p a).length cap ∧ K = cels A cap (l.filter fun a => !p a) :: H) := by
  refine Yc Tryz.func286 Tryz.ntmps286 rfl rfl hw ?_
  refine Yju (e := 40) (size := 5) (A := A) (xs := l.flatMap celF) (k := l.length) (cap := cap) List.mem_cons_self fun hcap => ?_
  have hif := fun {w : World} (hw : St B w0 (cels A cap l :: H) w) => Yac p l f cs hen hlen (cap := cap) (.sl List.mem_cons_self) (fun a ha w hw => hp a ha [cels A cap l] w hw) hw
  rcases Q8 p l 0 with ⟨h1, h2⟩ | ⟨i0, h1, h2, h3, a0, h4, h5⟩
  · rw [h2] at hif
    rw [h1]
    repeat' (first | ((first | apply Ya YbE | apply Yb YbE); exact za; exact rfl; exact fun _ hw => (hif hw)) | refine zgb ?_ | (refine zgf ?_ ?_ <;> intro _ <;> try (exfalso; omega)) | fail)
    apply Yd; exact rfl; exact rfl; exact ⟨rfl, rfl⟩
  rw [h2, Int.zero_add] at hif
  repeat' (first | ((first | apply Ya YbE | apply Yb YbE); exact za; exact rfl; exact fun _ hw => (hif hw)) | refine zgc ?_ | (refine zgf ?_ ?_ <;> intro _ <;> try (exfalso; omega)) | fail)
  refine Yl (fun (z : Kc) => [(6, .int .i64 z.j), (5, .int .i64 z.i), (0, .slice A z.M.length cap), (1, .func (.func f) #[] cs.toArray)]) (fun z => cels A cap z.M :: H) (fun z => z.M.length = l.length ∧ z.i < z.j ∧ z.j ≤ l.length ∧ z.M.take z.i = (l.take z.j).filter (fun a => !p a) ∧ z.M.drop z.j = l.drop z.j) (fun z => l.length - z.j) ⟨i0, i0 + 1, l⟩ ⟨rfl, by simp only; omega, by simp only; omega, ?_, rfl⟩ ?_ (fun w hw => hw) ?_
  · simp only
    rw [List.take_add_one, h4, List.filter_append, h3]
    simp [h5]
  · exact zu
  rintro ⟨i, j, M⟩ ⟨hM, hij, hj, ht, hd⟩ K hK
  simp only at hM hij hj ht hd ⊢
  unfold cels
  by_cases hlt : j < l.length
  · obtain ⟨a, ha⟩ : ∃ a, l[j]? = some a := ⟨_, List.getElem?_eq_getElem hlt⟩
    have hMa : M[j]? = some a := by
      have e1 : (M.drop j)[0]? = (l.drop j)[0]? := by rw [hd]
      rw [List.getElem?_drop, List.getElem?_drop, Nat.add_zero, ha] at e1
      exact e1
    have hpa := fun {X1 X2 : HP} {w : World} (hw : St B w0 (X1 :: X2 :: H) w) => hp a (List.mem_of_getElem? ha) [X1, X2] w hw
    have hft : (l.take (j + 1)).filter (fun a => !p a) = M.take i ++ (if p a = true then [] else [a]) := by
      rw [List.take_add_one, ha, List.filter_append, ht]
      cases hpv : p a <;> simp [hpv]
    obtain ⟨b, hb⟩ : ∃ b, p a = b := ⟨_, rfl⟩
    rw [hb] at hft hpa
    have hd1 : ∀ x : Cel, (M.set i x).drop (j + 1) = l.drop (j + 1) := fun x => by
      rw [List.drop_set_of_lt (by omega), ← List.drop_drop, ← List.drop_drop, hd]
    cases b with
    | true =>
      rw [if_pos rfl, List.append_nil] at hft
      repeat' (first | ((first | apply YC (cs := cs)); exact rfl; exact hen; exact za; exact rfl; exact fun _ hw => hpa hw) | refine zgd ?_ | (refine zge ?_ ?_ <;> intro _ <;> try (exfalso; omega)) | (refine zgh ?_; intro _) | fail)
      apply hK ⟨i, j + 1, M⟩
      · exact ⟨hM, by simp only; omega, by simp only; omega, hft.symm, by simp only; rw [← List.drop_drop, ← List.drop_drop, hd]⟩
      · simp only; omega
      · exact zu
      · exact fun w hw => hw.tail
    | false =>
      rw [if_neg (by decide)] at hft
      have hMl : (M.set i a).length = M.length := List.length_set
      repeat' (first | ((first | apply YC (cs := cs)); exact rfl; exact hen; exact za; exact rfl; exact fun _ hw => hpa hw) | (apply UI T (f := celF) (l := M) (i := i) (a := a); exact rfl; exact rfl; exact rfl; exact zd; exact fun _ => rfl; exact rfl; exact rfl; exact rfl; omega) | refine zgd ?_ | (refine zge ?_ ?_ <;> intro _ <;> try (exfalso; omega)) | (refine zgh ?_; intro _) | fail)
      apply hK ⟨i + 1, j + 1, M.set i a⟩
      · refine ⟨by simp only; omega, by simp only; omega, by simp only; omega, ?_, hd1 a⟩
        simp only
        rw [hft, List.take_add_one, List.getElem?_set_self (by omega), List.take_set_of_le (Nat.le_refl _)]
        rfl
      · simp only; omega
      · dsimp only
        rw [hMl]
        exact zu
      · unfold cels
        dsimp only
        rw [hMl]
        exact fun w hw => hw.tail
  · obtain rfl : j = l.length := by omega
    clear hK
    rw [List.take_length] at ht
    have hil : (l.filter fun a => !p a).length = i := by rw [← ht, List.length_take]; omega
    have hfl : (M.flatMap celF).take (i * 5) = (l.filter fun a => !p a).flatMap celF := by rw [← JU (q := 5) (fun _ => rfl), ht]
    repeat' (first | (apply Jz T (n' := M.length - i); exact rfl; exact rfl; exact rfl; exact rfl; omega; omega) | refine zgc ?_ | (refine zge ?_ ?_ <;> intro _ <;> try (exfalso; omega)) | fail)
    rw [Int.toNat_natCast]
    apply Ybm (sl 40 5 A i cap ((l.filter fun a => !p a).flatMap celF) :: H)
    · intro w hw
      refine hw.shrink (e := 40) (size := 5) (cap := cap) (A := A) (xs := M.flatMap celF) (k := M.length) (k' := i) (by omega) ?_
      rw [hfl]
      exact Upd.here _
    apply Yh0 T T2 (e := 40) (size := 5) (k := i) (xs := (l.filter fun a => !p a).flatMap celF); exact rfl; exact List.mem_cons_self; exact rfl; exact rfl; exact rfl; omega
    repeat' (first | (apply Zd T (l := M) (n' := i); exact rfl; exact rfl; exact rfl; exact rfl; omega; omega; omega) | refine zga ?_ | fail)
    rw [YaQ]
    repeat' (first | fail)
    apply Yd; exact rfl; exact rfl
    exact ⟨by rw [hil], by rw [hil]⟩
end Go.Proofs.YtmalhidldgfeoaaGreatDoor
namespace Go.Proofs
open Go.Shelf
def Tryz.lays169_ren : Go.Shelf.Ren := ⟨fun | 169 => 78 | n => n, fun | 70 => 129 | 9 => 9 | 0 => 0 | 72 => 132 | 37 => 130 | 127 => 207 | 3 => 3 | 5 => 5 | n => n, fun | n => n⟩
theorem Tryz.lays169 : Go.Proofs.Lays.n169 Tryz.prog Tryz.lays169_ren := {
  mixed := by kernel_rfl
  f169 := Tryz.func78.trans (congrArg some (by kernel_rfl))
  t0 := Tryz.underlying0
  a0 := Tryz.isAgg0
  z0 := Tryz.sizeOf0
  v0 := Tryz.zeroValue0
  t3 := Tryz.underlying3
  a3 := Tryz.isAgg3
  z3 := Tryz.sizeOf3
  v3 := Tryz.zeroValue3
  t9 := Tryz.underlying9
  a9 := Tryz.isAgg9
  z9 := Tryz.sizeOf9
  v9 := Tryz.zeroValue9
  t37 := Tryz.underlying130
  a37 := Tryz.isAgg130
  z37 := Tryz.sizeOf130
  v37 := Tryz.zeroValue130
  t70 := Tryz.underlying129
  a70 := Tryz.isAgg129
  z70 := Tryz.sizeOf129
  v70 := Tryz.zeroValue129
  t72 := Tryz.underlying132
  a72 := Tryz.isAgg132
  z72 := Tryz.sizeOf132
  v72 := Tryz.zeroValue132
  t127 := Tryz.underlying207
  a127 := Tryz.isAgg207
  z127 := Tryz.sizeOf207
  v127 := Tryz.zeroValue207 }
theorem Tryz.Builder_Extra_169 : Builder.Extra Tryz.prog Tryz.lays169_ren := {
  sizeBuilder := by kernel_rfl
  liesBuilder := by kernel_rfl
  t5 := Tryz.underlying5
  a5 := Tryz.isAgg5
  z5 := Tryz.sizeOf5
  v5 := Tryz.zeroValue5
  infoByte := by kernel_rfl
  cellsByte := by kernel_rfl
  sizeByte := by kernel_rfl
  neB5 := by decide }
open Go.RowKit in
theorem Tryz.Builder_String_any (B b : Nat) (l : List UInt8) (w : World) (h : Lib.IsBuilder 132 5 B b (Lib.byteCells l) w) (hBw : B ≤ w.heap.size) :
    Calls Tryz.prog 78 #[.pointer (some ⟨b, 0, none⟩)] w fun e w' => e = .returned (.string ⟨l.toArray⟩) ∧ Below B w w' := Any.Builder_String_any Tryz.lays169 Tryz.Builder_Extra_169 B b l w h hBw
def Tryz.lays122_ren : Go.Shelf.Ren := ⟨fun | 122 => 99 | 215 => 158 | n => n, fun | 3 => 3 | 4 => 4 | n => n, fun | n => n⟩
theorem Tryz.lays122 : Go.Proofs.Lays.n122 Tryz.prog Tryz.lays122_ren := {
  mixed := by kernel_rfl
  f122 := Tryz.func99.trans (congrArg some (by kernel_rfl))
  f215 := Tryz.func158.trans (congrArg some (by kernel_rfl))
  t3 := Tryz.underlying3
  a3 := Tryz.isAgg3
  z3 := Tryz.sizeOf3
  v3 := Tryz.zeroValue3
  t4 := Tryz.underlying4
  a4 := Tryz.isAgg4
  z4 := Tryz.sizeOf4
  v4 := Tryz.zeroValue4 }
open Go.RowKit in
theorem Tryz.cmp_Compare_int (x y : Int) (w : World) :
    Calls Tryz.prog 99 #[.int .i64 x, .int .i64 y] w fun e w' => e = .returned (.int .i64 (Lib.compareInt x y)) ∧ w' = w := Any.cmp_Compare_int Tryz.lays122 x y w
def Tryz.laysM171_ren : Go.Shelf.Ren := ⟨fun | 171 => 137 | 243 => 197 | 246 => 239 | 283 => 275 | 284 => 276 | 285 => 277 | 286 => 278 | 129 => 224 | 317 => 295 | 318 => 296 | 319 => 297 | 320 => 298 | 337 => 304 | 338 => 305 | n => n, fun | 3 => 3 | 9 => 9 | 2 => 2 | 4 => 4 | 171 => 315 | 0 => 0 | 53 => 277 | 37 => 130 | 5 => 5 | 173 => 317 | 212 => 334 | 51 => 275 | 20 => 20 | 213 => 335 | 46 => 197 | 232 => 347 | 233 => 348 | n => n, fun | 17 => 3 | 18 => 6 | 19 => 7 | n => n⟩
theorem Tryz.laysM171 : Go.Proofs.LaysM.n171 Tryz.prog Tryz.laysM171_ren := {
  mixed := by kernel_rfl
  f129 := Tryz.func224.trans (congrArg some (by kernel_rfl))
  f171 := Tryz.func137.trans (congrArg some (by kernel_rfl))
  f243 := Tryz.func197.trans (congrArg some (by kernel_rfl))
  f246 := Tryz.func239.trans (congrArg some (by kernel_rfl))
  f283 := Tryz.func275.trans (congrArg some (by kernel_rfl))
  f284 := Tryz.func276.trans (congrArg some (by kernel_rfl))
  f285 := Tryz.func277.trans (congrArg some (by kernel_rfl))
  f286 := Tryz.func278.trans (congrArg some (by kernel_rfl))
  f317 := Tryz.func295.trans (congrArg some (by kernel_rfl))
  f318 := Tryz.func296.trans (congrArg some (by kernel_rfl))
  f319 := Tryz.func297.trans (congrArg some (by kernel_rfl))
  f320 := Tryz.func298.trans (congrArg some (by kernel_rfl))
  f337 := Tryz.func304.trans (congrArg some (by kernel_rfl))
  f338 := Tryz.func305.trans (congrArg some (by kernel_rfl))
  t0 := Tryz.underlying0
  a0 := Tryz.isAgg0
  z0 := Tryz.sizeOf0
  v0 := Tryz.zeroValue0
  t2 := Tryz.underlying2
  a2 := Tryz.isAgg2
  z2 := Tryz.sizeOf2
  v2 := Tryz.zeroValue2
  t3 := Tryz.underlying3
  a3 := Tryz.isAgg3
  z3 := Tryz.sizeOf3
  v3 := Tryz.zeroValue3
  t4 := Tryz.underlying4
  a4 := Tryz.isAgg4
  z4 := Tryz.sizeOf4
  v4 := Tryz.zeroValue4
  t5 := Tryz.underlying5
  a5 := Tryz.isAgg5
  z5 := Tryz.sizeOf5
  v5 := Tryz.zeroValue5
  t9 := Tryz.underlying9
  a9 := Tryz.isAgg9
  z9 := Tryz.sizeOf9
  v9 := Tryz.zeroValue9
  t20 := Tryz.underlying20
  a20 := Tryz.isAgg20
  z20 := Tryz.sizeOf20
  v20 := Tryz.zeroValue20
  t37 := Tryz.underlying130
  a37 := Tryz.isAgg130
  z37 := Tryz.sizeOf130
  v37 := Tryz.zeroValue130
  t46 := Tryz.underlying197
  a46 := Tryz.isAgg197
  z46 := Tryz.sizeOf197
  v46 := Tryz.zeroValue197
  t51 := Tryz.underlying275
  a51 := Tryz.isAgg275
  z51 := Tryz.sizeOf275
  v51 := Tryz.zeroValue275
  t53 := Tryz.underlying277
  a53 := Tryz.isAgg277
  z53 := Tryz.sizeOf277
  v53 := Tryz.zeroValue277
  t171 := Tryz.underlying315
  a171 := Tryz.isAgg315
  z171 := Tryz.sizeOf315
  v171 := Tryz.zeroValue315
  t173 := Tryz.underlying317
  a173 := Tryz.isAgg317
  z173 := Tryz.sizeOf317
  v173 := Tryz.zeroValue317
  t212 := Tryz.underlying334
  a212 := Tryz.isAgg334
  z212 := Tryz.sizeOf334
  v212 := Tryz.zeroValue334
  t213 := Tryz.underlying335
  a213 := Tryz.isAgg335
  z213 := Tryz.sizeOf335
  t232 := Tryz.underlying347
  a232 := Tryz.isAgg347
  z232 := Tryz.sizeOf347
  v232 := Tryz.zeroValue347
  t233 := Tryz.underlying348
  a233 := Tryz.isAgg348
  z233 := Tryz.sizeOf348
  v233 := Tryz.zeroValue348
  g17 := by kernel_rfl
  g18 := by kernel_rfl
  g19 := by kernel_rfl
  i0 := by kernel_rfl
  i2 := by kernel_rfl
  i3 := by kernel_rfl
  i4 := by kernel_rfl
  i5 := by kernel_rfl
  i9 := by kernel_rfl
  i20 := by kernel_rfl
  i37 := by kernel_rfl
  i46 := by kernel_rfl
  i51 := by kernel_rfl
  i53 := by kernel_rfl
  i171 := by kernel_rfl
  i173 := by kernel_rfl
  i212 := by kernel_rfl
  i232 := by kernel_rfl
  i233 := by kernel_rfl
  m17 := by kernel_rfl
  m18 := by kernel_rfl
  m19 := by kernel_rfl }
open Go.RowKit Go.Sort Go.Lib in
theorem Tryz.strconv_Itoa (n : Int) (h0 : -9223372036854775808 ≤ n) (h1 : n ≤ 9223372036854775807) (w : World) (htab : Lib.TabIs Tryz.prog w "internal/strconv.uint64pow10" .u64 Lib.pow10Tab) :
    Calls Tryz.prog 137 #[.int .i64 n] w fun e w' => e = .returned (.string ⟨(Lib.itoa n).toArray⟩) ∧ ∃ k os, w' = grow (w.drewN k) os := Any.strconv_Itoa Tryz.laysM171 n h0 h1 w htab
def Tryz.laysC172_ren : Go.Shelf.Ren := ⟨fun | 172 => 159 | 244 => 225 | 245 => 226 | 247 => 266 | 279 => 267 | 280 => 268 | 281 => 269 | 282 => 270 | 287 => 292 | 316 => 293 | 171 => 137 | 205 => 294 | 321 => 302 | 322 => 303 | 243 => 197 | 246 => 239 | 283 => 275 | 284 => 276 | 285 => 277 | 286 => 278 | 129 => 224 | 317 => 295 | 318 => 296 | 319 => 297 | 320 => 298 | 337 => 304 | 338 => 305 | n => n, fun | 9 => 9 | 3 => 3 | 75 => 134 | 76 => 135 | 4 => 4 | 5 => 5 | 167 => 308 | 37 => 130 | 0 => 0 | 85 => 309 | 2 => 2 | 168 => 311 | 53 => 277 | 175 => 327 | 46 => 197 | 210 => 331 | 127 => 207 | 145 => 346 | 143 => 344 | 21 => 21 | 171 => 315 | 173 => 317 | 212 => 334 | 51 => 275 | 20 => 20 | 213 => 335 | 232 => 347 | 233 => 348 | 80 => 138 | n => n, fun | 15 => 1 | 16 => 2 | 17 => 3 | 18 => 6 | 19 => 7 | n => n⟩
theorem Tryz.laysC172 : Go.Proofs.LaysC.n172 Tryz.prog Tryz.laysC172_ren := {
  mixed := by kernel_rfl
  f129 := Tryz.func224.trans (congrArg some (by kernel_rfl))
  f171 := Tryz.func137.trans (congrArg some (by kernel_rfl))
  f172 := Tryz.func159.trans (congrArg some (by kernel_rfl))
  f205 := Tryz.func294.trans (congrArg some (by kernel_rfl))
  f243 := Tryz.func197.trans (congrArg some (by kernel_rfl))
  f244 := Tryz.func225.trans (congrArg some (by kernel_rfl))
  f245 := Tryz.func226.trans (congrArg some (by kernel_rfl))
  f246 := Tryz.func239.trans (congrArg some (by kernel_rfl))
  f247 := Tryz.func266.trans (congrArg some (by kernel_rfl))
  f279 := Tryz.func267.trans (congrArg some (by kernel_rfl))
  f280 := Tryz.func268.trans (congrArg some (by kernel_rfl))
  f281 := Tryz.func269.trans (congrArg some (by kernel_rfl))
  f282 := Tryz.func270.trans (congrArg some (by kernel_rfl))
  f283 := Tryz.func275.trans (congrArg some (by kernel_rfl))
  f284 := Tryz.func276.trans (congrArg some (by kernel_rfl))
  f285 := Tryz.func277.trans (congrArg some (by kernel_rfl))
  f286 := Tryz.func278.trans (congrArg some (by kernel_rfl))
  f287 := Tryz.func292.trans (congrArg some (by kernel_rfl))
  f316 := Tryz.func293.trans (congrArg some (by kernel_rfl))
  f317 := Tryz.func295.trans (congrArg some (by kernel_rfl))
  f318 := Tryz.func296.trans (congrArg some (by kernel_rfl))
  f319 := Tryz.func297.trans (congrArg some (by kernel_rfl))
  f320 := Tryz.func298.trans (congrArg some (by kernel_rfl))
  f321 := Tryz.func302.trans (congrArg some (by kernel_rfl))
  f322 := Tryz.func303.trans (congrArg some (by kernel_rfl))
  f337 := Tryz.func304.trans (congrArg some (by kernel_rfl))
  f338 := Tryz.func305.trans (congrArg some (by kernel_rfl))
  t0 := Tryz.underlying0
  a0 := Tryz.isAgg0
  z0 := Tryz.sizeOf0
  v0 := Tryz.zeroValue0
  t2 := Tryz.underlying2
  a2 := Tryz.isAgg2
  z2 := Tryz.sizeOf2
  v2 := Tryz.zeroValue2
  t3 := Tryz.underlying3
  a3 := Tryz.isAgg3
  z3 := Tryz.sizeOf3
  v3 := Tryz.zeroValue3
  t4 := Tryz.underlying4
  a4 := Tryz.isAgg4
  z4 := Tryz.sizeOf4
  v4 := Tryz.zeroValue4
  t5 := Tryz.underlying5
  a5 := Tryz.isAgg5
  z5 := Tryz.sizeOf5
  v5 := Tryz.zeroValue5
  t9 := Tryz.underlying9
  a9 := Tryz.isAgg9
  z9 := Tryz.sizeOf9
  v9 := Tryz.zeroValue9
  t20 := Tryz.underlying20
  a20 := Tryz.isAgg20
  z20 := Tryz.sizeOf20
  v20 := Tryz.zeroValue20
  t21 := Tryz.underlying21
  a21 := Tryz.isAgg21
  z21 := Tryz.sizeOf21
  v21 := Tryz.zeroValue21
  t37 := Tryz.underlying130
  a37 := Tryz.isAgg130
  z37 := Tryz.sizeOf130
  v37 := Tryz.zeroValue130
  t46 := Tryz.underlying197
  a46 := Tryz.isAgg197
  z46 := Tryz.sizeOf197
  v46 := Tryz.zeroValue197
  t51 := Tryz.underlying275
  a51 := Tryz.isAgg275
  z51 := Tryz.sizeOf275
  v51 := Tryz.zeroValue275
  t53 := Tryz.underlying277
  a53 := Tryz.isAgg277
  z53 := Tryz.sizeOf277
  v53 := Tryz.zeroValue277
  t75 := Tryz.underlying134
  a75 := Tryz.isAgg134
  z75 := Tryz.sizeOf134
  v75 := Tryz.zeroValue134
  t76 := Tryz.underlying135
  a76 := Tryz.isAgg135
  z76 := Tryz.sizeOf135
  v76 := Tryz.zeroValue135
  t85 := Tryz.underlying309
  a85 := Tryz.isAgg309
  z85 := Tryz.sizeOf309
  v85 := Tryz.zeroValue309
  t127 := Tryz.underlying207
  a127 := Tryz.isAgg207
  z127 := Tryz.sizeOf207
  v127 := Tryz.zeroValue207
  t143 := Tryz.underlying344
  a143 := Tryz.isAgg344
  z143 := Tryz.sizeOf344
  v143 := Tryz.zeroValue344
  t145 := Tryz.underlying346
  a145 := Tryz.isAgg346
  z145 := Tryz.sizeOf346
  v145 := Tryz.zeroValue346
  t167 := Tryz.underlying308
  a167 := Tryz.isAgg308
  z167 := Tryz.sizeOf308
  v167 := Tryz.zeroValue308
  t168 := Tryz.underlying311
  a168 := Tryz.isAgg311
  z168 := Tryz.sizeOf311
  v168 := Tryz.zeroValue311
  t171 := Tryz.underlying315
  a171 := Tryz.isAgg315
  z171 := Tryz.sizeOf315
  v171 := Tryz.zeroValue315
  t173 := Tryz.underlying317
  a173 := Tryz.isAgg317
  z173 := Tryz.sizeOf317
  v173 := Tryz.zeroValue317
  t175 := Tryz.underlying327
  a175 := Tryz.isAgg327
  z175 := Tryz.sizeOf327
  v175 := Tryz.zeroValue327
  t210 := Tryz.underlying331
  a210 := Tryz.isAgg331
  z210 := Tryz.sizeOf331
  v210 := Tryz.zeroValue331
  t212 := Tryz.underlying334
  a212 := Tryz.isAgg334
  z212 := Tryz.sizeOf334
  v212 := Tryz.zeroValue334
  t213 := Tryz.underlying335
  a213 := Tryz.isAgg335
  z213 := Tryz.sizeOf335
  t232 := Tryz.underlying347
  a232 := Tryz.isAgg347
  z232 := Tryz.sizeOf347
  v232 := Tryz.zeroValue347
  t233 := Tryz.underlying348
  a233 := Tryz.isAgg348
  z233 := Tryz.sizeOf348
  v233 := Tryz.zeroValue348
  g15 := by kernel_rfl
  g16 := by kernel_rfl
  g17 := by kernel_rfl
  g18 := by kernel_rfl
  g19 := by kernel_rfl
  t80 := Tryz.underlying138
  a80 := Tryz.isAgg138
  z80 := Tryz.sizeOf138
  v80 := Tryz.zeroValue138
  i0 := by kernel_rfl
  i2 := by kernel_rfl
  i3 := by kernel_rfl
  i4 := by kernel_rfl
  i5 := by kernel_rfl
  i9 := by kernel_rfl
  i20 := by kernel_rfl
  i21 := by kernel_rfl
  i37 := by kernel_rfl
  i46 := by kernel_rfl
  i51 := by kernel_rfl
  i53 := by kernel_rfl
  i75 := by kernel_rfl
  i76 := by kernel_rfl
  i80 := by kernel_rfl
  i85 := by kernel_rfl
  i127 := by kernel_rfl
  i143 := by kernel_rfl
  i145 := by kernel_rfl
  i167 := by kernel_rfl
  i168 := by kernel_rfl
  i171 := by kernel_rfl
  i173 := by kernel_rfl
  i175 := by kernel_rfl
  i210 := by kernel_rfl
  i212 := by kernel_rfl
  i232 := by kernel_rfl
  i233 := by kernel_rfl
  m15 := by kernel_rfl
  m16 := by kernel_rfl
  m17 := by kernel_rfl
  m18 := by kernel_rfl
  m19 := by kernel_rfl
  c0 := by kernel_rfl
  c2 := by kernel_rfl
  c3 := by kernel_rfl
  c4 := by kernel_rfl
  c5 := by kernel_rfl
  c9 := by kernel_rfl
  c20 := by kernel_rfl
  c21 := by kernel_rfl
  c37 := by kernel_rfl
  c46 := by kernel_rfl
  c51 := by kernel_rfl
  c53 := by kernel_rfl
  c75 := by kernel_rfl
  c76 := by kernel_rfl
  c80 := by kernel_rfl
  c85 := by kernel_rfl
  c127 := by kernel_rfl
  c143 := by kernel_rfl
  c145 := by kernel_rfl
  c167 := by kernel_rfl
  c168 := by kernel_rfl
  c171 := by kernel_rfl
  c173 := by kernel_rfl
  c175 := by kernel_rfl
  c210 := by kernel_rfl
  c212 := by kernel_rfl
  c213 := by kernel_rfl
  c232 := by kernel_rfl
  c233 := by kernel_rfl }
open Go.RowKit in
theorem Tryz.strconv_Atoi_ok (s : ByteArray) (hmax : s.size ≤ 9223372036854775806) (v : Int) (h : Lib.atoiAll s.data.toList = .ok v) (w : World) :
    Calls Tryz.prog 159 #[.string s] w fun e w' => e = .returned (.tuple #[.int .i64 v, .nilIface]) ∧ (w' = w ∨ ∃ t, w' = Lib.bytesWorld w 5 t) := Any.strconv_Atoi_ok Tryz.laysC172 s hmax v h w
open Go.RowKit in
theorem Tryz.strconv_Atoi_range_var (s : ByteArray) (hlim : s.size ≤ 281474976710656) (h : Lib.atoiAll s.data.toList = .range) (tp : TypeId) (p : Value) (w : World) (hvar : w.var? Tryz.prog "strconv.ErrRange" = some #[.iface tp p]) :
    Calls Tryz.prog 159 #[.string s] w fun e w' => ∃ N, e = .returned (.tuple #[.int .i64 (Lib.atoiSat s.data.toList), .iface 311 (.pointer (some ⟨N, 0, none⟩))]) ∧ w.heap.size ≤ N ∧ w'.heap[N]? = some (.cells #[.string ⟨#[65, 116, 111, 105]⟩, .string s, .iface tp p] 331 (0, 0)) ∧ Below w.heap.size w w' := Any.strconv_Atoi_range_var Tryz.laysC172 s hlim h tp p w hvar
def Tryz.lays146_ren : Go.Shelf.Ren := ⟨fun | 146 => 81 | 221 => 141 | 268 => 198 | 138 => 199 | 143 => 200 | 195 => 240 | 197 => 241 | 218 => 242 | 219 => 243 | 260 => 279 | 217 => 280 | 225 => 281 | 224 => 282 | 267 => 283 | 266 => 299 | 314 => 300 | n => n, fun | 9 => 9 | 31 => 140 | 3 => 3 | 4 => 4 | 0 => 0 | 105 => 286 | 21 => 21 | 5 => 5 | 46 => 197 | 119 => 336 | 139 => 339 | 138 => 338 | 146 => 340 | 51 => 275 | n => n, fun | 1 => 0 | 3 => 4 | 4 => 5 | n => n⟩
theorem Tryz.lays146 : Go.Proofs.Lays.n146 Tryz.prog Tryz.lays146_ren := {
  mixed := by kernel_rfl
  f138 := Tryz.func199.trans (congrArg some (by kernel_rfl))
  f143 := Tryz.func200.trans (congrArg some (by kernel_rfl))
  f146 := Tryz.func81.trans (congrArg some (by kernel_rfl))
  f195 := Tryz.func240.trans (congrArg some (by kernel_rfl))
  f197 := Tryz.func241.trans (congrArg some (by kernel_rfl))
  f217 := Tryz.func280.trans (congrArg some (by kernel_rfl))
  f218 := Tryz.func242.trans (congrArg some (by kernel_rfl))
  f219 := Tryz.func243.trans (congrArg some (by kernel_rfl))
  f221 := Tryz.func141.trans (congrArg some (by kernel_rfl))
  f224 := Tryz.func282.trans (congrArg some (by kernel_rfl))
  f225 := Tryz.func281.trans (congrArg some (by kernel_rfl))
  f260 := Tryz.func279.trans (congrArg some (by kernel_rfl))
  f266 := Tryz.func299.trans (congrArg some (by kernel_rfl))
  f267 := Tryz.func283.trans (congrArg some (by kernel_rfl))
  f268 := Tryz.func198.trans (congrArg some (by kernel_rfl))
  f314 := Tryz.func300.trans (congrArg some (by kernel_rfl))
  t0 := Tryz.underlying0
  a0 := Tryz.isAgg0
  z0 := Tryz.sizeOf0
  v0 := Tryz.zeroValue0
  t3 := Tryz.underlying3
  a3 := Tryz.isAgg3
  z3 := Tryz.sizeOf3
  v3 := Tryz.zeroValue3
  t4 := Tryz.underlying4
  a4 := Tryz.isAgg4
  z4 := Tryz.sizeOf4
  v4 := Tryz.zeroValue4
  t5 := Tryz.underlying5
  a5 := Tryz.isAgg5
  z5 := Tryz.sizeOf5
  v5 := Tryz.zeroValue5
  t9 := Tryz.underlying9
  a9 := Tryz.isAgg9
  z9 := Tryz.sizeOf9
  v9 := Tryz.zeroValue9
  t21 := Tryz.underlying21
  a21 := Tryz.isAgg21
  z21 := Tryz.sizeOf21
  v21 := Tryz.zeroValue21
  t31 := Tryz.underlying140
  a31 := Tryz.isAgg140
  z31 := Tryz.sizeOf140
  v31 := Tryz.zeroValue140
  t46 := Tryz.underlying197
  a46 := Tryz.isAgg197
  z46 := Tryz.sizeOf197
  v46 := Tryz.zeroValue197
  t51 := Tryz.underlying275
  a51 := Tryz.isAgg275
  z51 := Tryz.sizeOf275
  v51 := Tryz.zeroValue275
  t105 := Tryz.underlying286
  a105 := Tryz.isAgg286
  z105 := Tryz.sizeOf286
  v105 := Tryz.zeroValue286
  t119 := Tryz.underlying336
  a119 := Tryz.isAgg336
  z119 := Tryz.sizeOf336
  t138 := Tryz.underlying338
  a138 := Tryz.isAgg338
  z138 := Tryz.sizeOf338
  v138 := Tryz.zeroValue338
  t139 := Tryz.underlying339
  a139 := Tryz.isAgg339
  z139 := Tryz.sizeOf339
  v139 := Tryz.zeroValue339
  t146 := Tryz.underlying340
  a146 := Tryz.isAgg340
  z146 := Tryz.sizeOf340
  v146 := Tryz.zeroValue340
  g1 := by kernel_rfl
  g3 := by kernel_rfl
  g4 := by kernel_rfl }
open Go.RowKit Go.Lib in
theorem Tryz.strings_Split (s sep : ByteArray) (m : Int) (w : World) (hs : s.size < 4294967281) (hm : w.cell? ⟨0, 0, none⟩ = some (.int .i64 m)) (h1 : 1 ≤ sep.size) :
    Calls Tryz.prog 81 #[.string s, .string sep] w fun e w' =>
      e = .returned (.slice (some ⟨w.heap.size, 0, none⟩) (Lib.countB s sep + 1) (Lib.countB s sep + 1)) ∧ w' = w.alloc (.cells ((Lib.splitB sep 0 (Lib.countB s sep) s).map Value.string).toArray 9) := Any.strings_Split Tryz.lays146 (by kernel_rfl) s sep m w hs hm h1
end Go.Proofs
namespace Go.Proofs.YtmalhidldgfeoaaGreatDoor
def cutC (c : UInt8) : List UInt8 → List (List UInt8)
  | [] => [[]]
  | x :: l => if x = c then [] :: cutC c l else match cutC c l with
    | [] => [[x]]
    | h :: t => (x :: h) :: t
theorem WR (c : UInt8) : ∀ l, cutC c l ≠ []
  | [] => by simp [cutC]
  | x :: l => by
    unfold cutC
    split
    · simp
    · split <;> simp
theorem YcB {c : UInt8} : ∀ {a : List UInt8} (l : List UInt8), c ∉ a → cutC c (a ++ c :: l) = a :: cutC c l
  | [], l, _ => by rw [List.nil_append, cutC, if_pos rfl]
  | x :: a, l, h => by
    have hx : x ≠ c := fun e => h (e ▸ List.mem_cons_self)
    rw [List.cons_append, cutC, if_neg hx, YcB l fun hm => h (List.mem_cons_of_mem _ hm)]
theorem Yfa {c : UInt8} : ∀ {a : List UInt8}, c ∉ a → cutC c a = [a]
  | [], _ => rfl
  | x :: a, h => by
    have hx : x ≠ c := fun e => h (e ▸ List.mem_cons_self)
    rw [cutC, if_neg hx, Yfa fun hm => h (List.mem_cons_of_mem _ hm)]
def J1 (c : UInt8) : List (List UInt8) → List UInt8
  | [] => []
  | [p] => p
  | p :: q :: r => p ++ c :: J1 c (q :: r)
theorem Yd6 {c : UInt8} : ∀ l : List UInt8, J1 c (cutC c l) = l
  | [] => rfl
  | x :: l => by
    have ih := Yd6 (c := c) l
    unfold cutC
    split
    · rename_i e
      subst e
      cases h : cutC x l with
      | nil => exact absurd h (WR x l)
      | cons a t => rw [h] at ih; show [] ++ x :: J1 x (a :: t) = _; rw [ih]; rfl
    · split
      · rename_i h; exact absurd h (WR c l)
      · rename_i a t h
        rw [h] at ih
        cases t with
        | nil => show x :: a = _; rw [show a = l from ih]
        | cons b t => show (x :: a) ++ c :: J1 c (b :: t) = _; rw [List.cons_append, show a ++ c :: J1 c (b :: t) = l from ih]
theorem QP {c : UInt8} : ∀ {ps : List (List UInt8)}, ps ≠ [] → (∀ p ∈ ps, c ∉ p) → cutC c (J1 c ps) = ps
  | [], h, _ => absurd rfl h
  | [p], _, h => Yfa (h p List.mem_cons_self)
  | p :: q :: r, _, h => by
    show cutC c (p ++ c :: J1 c (q :: r)) = _
    rw [YcB _ (h p List.mem_cons_self), QP (by simp) fun x hx => h x (List.mem_cons_of_mem _ hx)]
theorem YbQ {c : UInt8} : ∀ {a : List UInt8} (b : List UInt8), c ∉ a → Lib.index (a ++ c :: b) [c] = a.length
  | [], b, _ => by simp [Lib.index, List.isPrefixOf]
  | x :: a, b, h => by
    have hx : ¬ c = x := fun e => h (e ▸ List.mem_cons_self)
    have ih := YbQ (c := c) (a := a) b fun hm => h (List.mem_cons_of_mem _ hm)
    rw [List.cons_append, Lib.index, if_neg (by simp [List.isPrefixOf, hx]), ih, if_neg (by intro h; have := eq_of_beq h; omega)]
    simp
theorem Yd5 {c : UInt8} : ∀ {a : List UInt8}, c ∉ a → Lib.index a [c] = -1
  | [], _ => rfl
  | x :: a, h => by
    have hx : ¬ c = x := fun e => h (e ▸ List.mem_cons_self)
    have ih := Yd5 (c := c) (a := a) fun hm => h (List.mem_cons_of_mem _ hm)
    rw [Lib.index, if_neg (by simp [List.isPrefixOf, hx]), ih, if_pos (by decide)]
theorem YhE {c : UInt8} (s : List UInt8) : Lib.split s [c] = cutC c s := by
  unfold Lib.split
  obtain ⟨k, hk⟩ : ∃ k, s.length = k := ⟨_, rfl⟩
  induction k using Nat.strongRecOn generalizing s with
  | _ k ih =>
    by_cases hm : c ∈ s
    · obtain ⟨a, b, rfl, ha⟩ := List.eq_append_cons_of_mem hm
      have hi := YbQ b ha
      rw [Lib.count_hit (by simp) hi, Nat.add_comm, Lib.splitK, if_neg (by rw [hi]; intro h; have := eq_of_beq h; omega), hi, YcB b ha]
      have e1 : ((a.length : Int).toNat) = a.length := rfl
      have e2 : (a ++ c :: b).take (a.length + 0) = a := by simp
      have e3 : (a ++ c :: b).drop (a.length + [c].length) = b := by
        rw [show a ++ c :: b = (a ++ [c]) ++ b by simp, show a.length + [c].length = (a ++ [c]).length by simp, List.drop_left]
      rw [e1, e2, e3, ih b.length (by rw [← hk]; simp; omega) b rfl]
    · rw [Lib.count_miss (Yd5 hm), Lib.splitK, Yfa hm]
def digB (b : UInt8) : Bool := decide (48 ≤ b.toNat ∧ b.toNat ≤ 57)
def valN (l : List UInt8) : Nat := l.foldl (fun a b => 10 * a + (b.toNat - 48)) 0
def numW (w : List UInt8) : Int := if w.length < 1 ∨ 4 < w.length ∨ (1 < w.length ∧ w.head? = some 48) ∨ w.all digB = false then -1 else (valN w : Int)
theorem WJ (l : List UInt8) (d : UInt8) : valN (l ++ [d]) = 10 * valN l + (d.toNat - 48) := by
  unfold valN; rw [List.foldl_append]; rfl
theorem Yko : ∀ {l : List UInt8}, l ≠ [] → l.all digB = true → l.head? ≠ some 48 → 1 ≤ valN l := by
  intro l
  obtain ⟨k, hk⟩ : ∃ k, l.length = k := ⟨_, rfl⟩
  induction k generalizing l with
  | zero => intro h; exact absurd (List.length_eq_zero_iff.1 hk) h
  | succ k ih =>
    intro hne ha hh
    rcases List.eq_nil_or_concat l with rfl | ⟨m, d, rfl⟩
    · exact absurd rfl hne
    rw [List.concat_eq_append] at *
    rw [WJ]
    cases m with
    | nil =>
      have h1 : digB d = true := by simpa using ha
      unfold digB at h1
      have h2 := of_decide_eq_true h1
      have h3 : d ≠ 48 := fun e => hh (by rw [e]; rfl)
      have h4 : d.toNat ≠ 48 := fun e => h3 (UInt8.toNat_inj.1 e)
      omega
    | cons x m =>
      have := ih (l := x :: m) (by simpa using hk) (by simp) (by rw [List.all_append] at ha; simp only [Bool.and_eq_true] at ha; exact ha.1) (by simpa using hh)
      omega
theorem YjT : ∀ {l : List UInt8}, l ≠ [] → l.all digB = true → (l.length = 1 ∨ l.head? ≠ some 48) → Lib.decDigits (valN l) = l := by
  intro l
  obtain ⟨k, hk⟩ : ∃ k, l.length = k := ⟨_, rfl⟩
  induction k generalizing l with
  | zero => intro h; exact absurd (List.length_eq_zero_iff.1 hk) h
  | succ k ih =>
    intro hne ha hh
    rcases List.eq_nil_or_concat l with rfl | ⟨m, d, rfl⟩
    · exact absurd rfl hne
    rw [List.concat_eq_append] at *
    rw [List.all_append] at ha
    simp only [Bool.and_eq_true] at ha
    have h1 : digB d = true := by simpa using ha.2
    unfold digB at h1
    have h2 := of_decide_eq_true h1
    have hd : UInt8.ofNat (48 + (d.toNat - 48)) = d := by
      rw [show 48 + (d.toNat - 48) = d.toNat by omega]; exact UInt8.ofNat_toNat
    rw [WJ]
    cases m with
    | nil => rw [show 10 * valN [] + (d.toNat - 48) = d.toNat - 48 by simp [valN], Lib.decDigits_one (by omega), hd]; rfl
    | cons x m =>
      have hx : (x :: m).head? ≠ some 48 := by
        rcases hh with h | h
        · simp at h
        · simpa using h
      have hp := Yko (by simp) ha.1 hx
      rw [Lib.decDigits, dif_neg (by omega), show (10 * valN (x :: m) + (d.toNat - 48)) / 10 = valN (x :: m) by omega, show (10 * valN (x :: m) + (d.toNat - 48)) % 10 = d.toNat - 48 by omega, hd, ih (by simpa using hk) (by simp) ha.1 (.inr hx)]
theorem Ylx {l : List UInt8} (h : l.all digB = true) : valN l < 10 ^ l.length := by
  obtain ⟨k, hk⟩ : ∃ k, l.length = k := ⟨_, rfl⟩
  induction k generalizing l with
  | zero => rw [List.length_eq_zero_iff.1 hk]; decide
  | succ k ih =>
    rcases List.eq_nil_or_concat l with rfl | ⟨m, d, rfl⟩
    · simp at hk
    rw [List.concat_eq_append] at *
    rw [List.all_append] at h
    simp only [Bool.and_eq_true] at h
    have h1 : digB d = true := by simpa using h.2
    unfold digB at h1
    have h2 := of_decide_eq_true h1
    have hm : m.length = k := by simpa using hk
    have := ih h.1 hm
    rw [WJ, List.length_append, hm, List.length_singleton, Nat.pow_succ]
    rw [hm] at this
    omega
structure Dec (u : Nat) (l : List UInt8) : Prop where
  ne : l ≠ []
  dig : l.all digB = true
  head : 1 ≤ u → l.head? ≠ some 48
  one : u = 0 → l.length = 1
  val : valN l = u
theorem YcD (u : Nat) : Dec u (Lib.decDigits u) := by
  induction u using Nat.strongRecOn with
  | _ u ih =>
    have hdg : ∀ d : Nat, d < 10 → (UInt8.ofNat (48 + d)).toNat = 48 + d := fun d hd => by rw [UInt8.toNat_ofNat']; omega
    by_cases h : u < 10
    · rw [Lib.decDigits_one h]
      have e := hdg u h
      refine ⟨by simp, ?_, fun h1 => ?_, fun _ => rfl, ?_⟩
      · simp [digB]; omega
      · simp only [List.head?_cons, ne_eq, Option.some.injEq]
        intro e2
        rw [e2] at e
        have : (48 : UInt8).toNat = 48 := rfl
        omega
      · show 10 * 0 + ((UInt8.ofNat (48 + u)).toNat - 48) = u
        rw [e]; omega
    · have h2 := ih (u / 10) (by omega)
      have e := hdg (u % 10) (by omega)
      rw [Lib.decDigits, dif_neg h]
      refine ⟨by simp, ?_, fun _ => ?_, fun h0 => by omega, ?_⟩
      · rw [List.all_append, h2.dig]
        simp [digB]; omega
      · have := h2.head (by omega)
        cases hl : Lib.decDigits (u / 10) with
        | nil => exact absurd hl h2.ne
        | cons x m => rw [hl] at this; simpa using this
      · rw [WJ, h2.val, e]; omega
theorem YcM {w : List UInt8} (h : 0 ≤ numW w) : (numW w).toNat < 10000 ∧ w = Lib.decDigits (numW w).toNat := by
  unfold numW at h ⊢
  split at h
  · omega
  · rename_i hc
    rw [if_neg hc]
    have hne : w ≠ [] := fun e => hc (.inl (by rw [e]; decide))
    have hd : w.all digB = true := by
      cases hd : w.all digB with
      | true => rfl
      | false => exact absurd (.inr (.inr (.inr hd))) hc
    have hb := Ylx hd
    have h4 : w.length ≤ 4 := by omega
    refine ⟨?_, ?_⟩
    · have : 10 ^ w.length ≤ 10 ^ 4 := Nat.pow_le_pow_right (by decide) h4
      simp only [Int.toNat_natCast]
      omega
    · rw [Int.toNat_natCast, YjT hne hd]
      by_cases h1 : w.length = 1
      · exact .inl h1
      · refine .inr fun e => hc (.inr (.inr (.inl ⟨?_, e⟩)))
        have := List.length_pos_iff.2 hne
        omega
theorem Qc {u : Nat} (h : u < 10000) : (Lib.decDigits u).length ≤ 4 := by
  rw [Lib.decDigits_length]
  by_cases h1 : u < 10
  · rw [Lib.nDigits_small h1]; omega
  · rw [Lib.nDigits_big h1]
    by_cases h2 : u / 10 < 10
    · rw [Lib.nDigits_small h2]; omega
    · rw [Lib.nDigits_big h2]
      by_cases h3 : u / 10 / 10 < 10
      · rw [Lib.nDigits_small h3]; omega
      · rw [Lib.nDigits_big h3, Lib.nDigits_small (by omega)]; omega
theorem Yat {u : Nat} (h : u < 10000) : numW (Lib.decDigits u) = u := by
  have hd := YcD u
  have hl := Qc h
  unfold numW
  rw [if_neg, hd.val]
  rintro (h1 | h1 | ⟨h1, h2⟩ | h1)
  · have := List.length_pos_iff.2 hd.ne; omega
  · omega
  · rcases Nat.eq_zero_or_pos u with h0 | h0
    · have := hd.one h0; omega
    · exact hd.head h0 h2
  · rw [hd.dig] at h1; cases h1
theorem Ov : ∀ (l : List UInt8) (a : Nat), l.all digB = true → Lib.decFrom a l = some (l.foldl (fun a b => 10 * a + (b.toNat - 48)) a)
  | [], _, _ => rfl
  | b :: l, a, h => by
    simp only [List.all_cons, Bool.and_eq_true] at h
    have h1 := h.1
    unfold digB at h1
    have h2 := of_decide_eq_true h1
    rw [Lib.decFrom, show Lib.digitVal b = some (b.toNat - 48) by unfold Lib.digitVal; rw [if_pos h2]]
    show Lib.decFrom (a * 10 + (b.toNat - 48)) l = _
    rw [Ov l _ h.2, List.foldl_cons, Nat.mul_comm]
theorem YdA {u : Nat} (h : u < 10000) : Lib.atoiAll (Lib.decDigits u) = .ok (u : Int) := by
  have hd := YcD u
  have hl := Qc h
  rw [Lib.atoiAll_short _ (by omega)]
  have h1 : Lib.atoi (Lib.decDigits u) = some (u : Int) := by
    have hv := Ov _ 0 hd.dig
    have e := hd.val
    unfold valN at e
    rw [e] at hv
    have hdig := hd.dig
    cases hl : Lib.decDigits u with
    | nil => exact absurd hl hd.ne
    | cons b r =>
      rw [hl] at hv hdig
      simp only [List.all_cons, Bool.and_eq_true] at hdig
      have h1 := hdig.1
      unfold digB at h1
      have h2 := of_decide_eq_true h1
      have n1 : ¬ (b == 45) = true := fun e => by
        have := eq_of_beq e
        rw [this] at h2
        exact absurd h2.1 (by decide)
      have n2 : ¬ (b == 43) = true := fun e => by
        have := eq_of_beq e
        rw [this] at h2
        exact absurd h2.1 (by decide)
      show (if (b == 45) = true then (Lib.decNat r).map (fun (m : Nat) => -(m : Int)) else if (b == 43) = true then (Lib.decNat r).map (fun (m : Nat) => (m : Int)) else (Lib.decNat (b :: r)).map fun (m : Nat) => (m : Int)) = _
      rw [if_neg n1, if_neg n2]
      unfold Lib.decNat
      rw [if_neg (by simp), hv]
      rfl
  rw [h1]
  rfl
theorem Yi1 {w : List UInt8} {n : Int} (h : Lib.atoiAll w = .ok n) : (w.length ≤ 4 ∧ Lib.itoa n = w ∧ 0 ≤ n → numW w = n) ∧ (¬ (w.length ≤ 4 ∧ Lib.itoa n = w ∧ 0 ≤ n) → numW w < 0) := by
  constructor
  · rintro ⟨h1, h2, h3⟩
    obtain ⟨u, rfl⟩ : ∃ u : Nat, n = u := ⟨n.toNat, by omega⟩
    have h4 : Lib.itoa (u : Int) = Lib.decDigits u := by unfold Lib.itoa; rw [if_neg (by omega)]; rfl
    rw [h4] at h2
    subst h2
    refine Yat ?_
    have := Lib.lt_pow_nDigits u
    rw [Lib.decDigits_length] at h1
    have h5 : 10 ^ Lib.nDigits u ≤ 10 ^ 4 := Nat.pow_le_pow_right (by decide) h1
    omega
  · intro hc
    refine Int.not_le.1 fun h0 => hc ?_
    obtain ⟨h1, h2⟩ := YcM h0
    have h3 := YdA h1
    rw [← h2, h] at h3
    injection h3 with h3
    have h4 : Lib.itoa ((numW w).toNat : Int) = Lib.decDigits (numW w).toNat := by unfold Lib.itoa; rw [if_neg (by omega)]; rfl
    refine ⟨?_, ?_, by omega⟩
    · have := Qc h1
      rw [← h2] at this; exact this
    · rw [h3, h4]; exact h2.symm
theorem Yi0 {w : List UInt8} (h : ∀ n, Lib.atoiAll w ≠ .ok n) : numW w < 0 := by
  refine Int.not_le.1 fun h0 => ?_
  obtain ⟨h1, h2⟩ := YcM h0
  have h3 := YdA h1
  rw [← h2] at h3
  exact h _ h3
open Go.RowKit Go.Eng Go.Nw
def wordS : List UInt8 := [115, 99, 104, 101, 100, 117, 108, 101]
def wordC : List UInt8 := [99, 101, 108, 108]
def YM (w : List UInt8) (l : List Int) : List UInt8 := w ++ l.flatMap fun n => 32 :: Lib.itoa n
def XP (w : List UInt8) (l : List Int) : List UInt8 := YM w l ++ [10]
def Yjm (s : Sch) : List UInt8 := XP wordS [s.len, s.off] ++ s.cells.flatMap fun c => XP wordC (nums c)
def ZY (s : Sch) : List UInt8 × Int := if Y6 s = false then ([], 1) else (Yjm s, 0)
def J3 (ws : List (List UInt8)) : Option (List Int) := if (ws.any fun w => decide (numW w < 0)) = true then none else some (ws.map numW)
def Yay (line word : List UInt8) (many : Nat) : Option (List Int) :=
  if (cutC 32 line).length ≠ many + 1 ∨ (cutC 32 line).headD [] ≠ word then none else J3 (cutC 32 line).tail
def XB (ls : List (List UInt8)) (i : Nat) : List UInt8 := ls.getD i []
theorem Vl {c : UInt8} (p : List UInt8) : ∀ l : List (List UInt8), J1 c (p :: l) = p ++ l.flatMap fun q => c :: q
  | [] => by simp [J1]
  | q :: r => by
    show p ++ c :: J1 c (q :: r) = _
    rw [Vl q r]; rfl
theorem Yag : ∀ l : List (List UInt8), J1 10 (l ++ [[]]) = l.flatMap fun p => p ++ [10]
  | [] => rfl
  | p :: l => by
    rw [List.cons_append, Vl, List.flatMap_cons, ← Yag l]
    cases l with
    | nil => simp [J1]
    | cons q r => rw [List.cons_append, Vl, List.flatMap_cons]; simp
theorem Ybq (w : List UInt8) (l : List Int) : YM w l = J1 32 (w :: l.map Lib.itoa) := by
  rw [Vl, List.flatMap_map]; rfl
theorem YdT (u : Nat) {b : UInt8} (hb : b ∈ Lib.decDigits u) : b ≠ 32 ∧ b ≠ 10 := by
  have := List.all_eq_true.1 (YcD u).dig b hb
  unfold digB at this
  have h := of_decide_eq_true this
  constructor <;> (intro e; subst e; exact absurd h (by decide))
theorem JZ {n : Int} (h : 0 ≤ n) : Lib.itoa n = Lib.decDigits n.toNat := by unfold Lib.itoa; rw [if_neg (by omega)]
theorem Uv {w : List UInt8} {l : List Int} (hw : (10 : UInt8) ∉ w) (hl : ∀ n ∈ l, 0 ≤ n) : (10 : UInt8) ∉ YM w l := by
  unfold YM
  intro h
  rcases List.mem_append.1 h with h | h
  · exact hw h
  · obtain ⟨n, hn, h⟩ := List.mem_flatMap.1 h
    rcases List.mem_cons.1 h with h | h
    · exact absurd h (by decide)
    · rw [JZ (hl n hn)] at h
      exact (YdT _ h).2 rfl
theorem Yhq {w : List UInt8} {l : List Int} (hw : (32 : UInt8) ∉ w) (hl : ∀ n ∈ l, 0 ≤ n ∧ n < 10000) : Yay (YM w l) w l.length = some l := by
  have hc : cutC 32 (YM w l) = w :: l.map Lib.itoa := by
    rw [Ybq]
    refine QP (by simp) fun p hp => ?_
    rcases List.mem_cons.1 hp with rfl | hp
    · exact hw
    · obtain ⟨n, hn, rfl⟩ := List.mem_map.1 hp
      rw [JZ (hl n hn).1]
      exact fun h => (YdT _ h).1 rfl
  have hn : ∀ n ∈ l, numW (Lib.itoa n) = n := fun n hm => by
    have := hl n hm
    rw [JZ this.1, Yat (by omega)]
    omega
  unfold Yay
  rw [hc, if_neg (by simp), List.tail_cons]
  unfold J3
  rw [if_neg, List.map_map]
  · congr 1
    have : l.map (numW ∘ Lib.itoa) = l.map id := List.map_congr_left fun n hm => hn n hm
    rw [this, List.map_id]
  · rw [List.any_map, Bool.not_eq_true, List.any_eq_false]
    intro n hm
    show ¬ decide (numW (Lib.itoa n) < 0) = true
    rw [hn n hm, decide_eq_true_eq]
    have := hl n hm
    omega
theorem Yhr {line w : List UInt8} {k : Nat} {x : List Int} (h : Yay line w k = some x) : line = YM w x ∧ x.length = k ∧ ∀ n ∈ x, 0 ≤ n := by
  unfold Yay at h
  split at h
  · cases h
  rename_i hc
  unfold J3 at h
  split at h
  · cases h
  rename_i ha
  have h1 : (cutC 32 line).length = k + 1 := Decidable.byContradiction fun e => hc (.inl e)
  have h2 : (cutC 32 line).headD [] = w := Decidable.byContradiction fun e => hc (.inr e)
  have hj := Yd6 (c := 32) line
  cases hcl : cutC 32 line with
  | nil => exact absurd hcl (WR _ _)
  | cons p r =>
    rw [hcl] at h1 h2 hj h ha
    obtain rfl : p = w := h2
    have hx := Option.some.inj h
    rw [List.tail_cons] at hx ha
    have hpos : ∀ q ∈ r, 0 ≤ numW q := fun q hq => by
      refine Int.not_lt.1 fun hlt => ha ?_
      rw [List.any_eq_true]
      exact ⟨q, hq, decide_eq_true hlt⟩
    refine ⟨?_, ?_, ?_⟩
    · rw [Ybq, ← hj, ← hx, List.map_map]
      congr 2
      have : r.map (Lib.itoa ∘ numW) = r.map id := List.map_congr_left fun q hq => by
        show Lib.itoa (numW q) = q
        rw [JZ (hpos q hq)]
        exact (YcM (hpos q hq)).2.symm
      rw [this, List.map_id]
    · rw [← hx, List.length_map]
      simpa using h1
    · intro n hn
      rw [← hx] at hn
      obtain ⟨q, hq, rfl⟩ := List.mem_map.1 hn
      exact hpos q hq
theorem WX {s : Sch} (h : Frm s) : (∀ n ∈ [s.len, s.off], 0 ≤ n ∧ n < 10000) ∧ ∀ c ∈ s.cells, ∀ n ∈ nums c, 0 ≤ n ∧ n < 10000 := by
  have h1 := h.sized
  unfold ZZ at h1
  have h2 := of_decide_eq_true h1
  constructor
  · intro n hn
    simp only [List.mem_cons, List.not_mem_nil, or_false] at hn
    omega
  · intro c hc n hn
    have h3 := h.formed c hc
    unfold JF Zm insE at h3
    simp only [Bool.and_eq_true, decide_eq_true_eq] at h3
    unfold nums at hn
    simp only [List.mem_cons, List.not_mem_nil, or_false] at hn
    omega
theorem Yea {ls : List (List UInt8)} {k : Nat} (h : k < ls.length) : ls.take (k + 1) = ls.take k ++ [XB ls k] := by
  unfold XB
  rw [List.take_add_one, List.getD_eq_getElem?_getD, List.getElem?_eq_getElem h]
  rfl
open Go.RowKit Go.Eng Go.Nw
structure Tabs (w : World) : Prop where
  pow : Lib.TabIs Tryz.prog w "internal/strconv.uint64pow10" .u64 Lib.pow10Tab
  syn : ∃ tp p, w.var? Tryz.prog "strconv.ErrSyntax" = some #[.iface tp p]
  rng : ∃ tp p, w.var? Tryz.prog "strconv.ErrRange" = some #[.iface tp p]
  mx : ∃ m, w.cell? ⟨0, 0, none⟩ = some (.int .i64 m)
def TabsB (B : Nat) (w0 : World) : Prop := ∀ w, Below B w0 w → Tabs w
theorem TabsB.here {B : Nat} {w0 w : World} {H : List HP} (h : TabsB B w0) (hw : St B w0 H w) : TabsB w.heap.size w := fun w1 h1 => h w1 (hw.below.trans (h1.mono hw.le))
abbrev strV (l : List UInt8) : Value := .string ⟨l.toArray⟩
def strL (l : List UInt8) : List Value := [strV l]
theorem WY (n : Int) (h0 : -9223372036854775808 ≤ n) (h1 : n ≤ 9223372036854775807) {B : Nat} {w0 : World} {H : List HP} {w : World} (ht : TabsB B w0) (hw : St B w0 H w) :
    Calls Tryz.prog 137 [.int .i64 n].toArray w (Post B w0 fun v K => v = strV (Lib.itoa n) ∧ K = H) :=
  QG hw ((Tryz.strconv_Itoa n h0 h1 w (ht w hw.below).pow).mono fun e w' ⟨h1, k, os, h2⟩ => ⟨h1, by rw [h2]; exact Lib.below_grow _ w (Nat.le_refl _) k os⟩)
theorem YjQ (l : List UInt8) (hl : l.length ≤ 1000000) (v : Int) (h : Lib.atoiAll l = .ok v) {B : Nat} {w0 : World} {H : List HP} {w : World} (hw : St B w0 H w) :
    Calls Tryz.prog 159 [strV l].toArray w (Post B w0 fun u K => u = .tuple #[.int .i64 v, .nilIface] ∧ K = H) := by
  have hs : (⟨l.toArray⟩ : ByteArray).size = l.length := by simp [ByteArray.size]
  refine QG hw ((Tryz.strconv_Atoi_ok ⟨l.toArray⟩ (by omega) v h w).mono ?_)
  rintro e w' ⟨rfl, h2 | ⟨t, rfl⟩⟩
  · rw [h2]; exact ⟨rfl, Below.refl _ _⟩
  · exact ⟨rfl, Go.Joins.below_bytesWorld _ _ _ _ (Nat.le_refl _)⟩
theorem Yio (l : List UInt8) (hl : l.length ≤ 1000000) (h : ∀ v, Lib.atoiAll l ≠ .ok v) {B : Nat} {w0 : World} {H : List HP} {w : World} (ht : TabsB B w0) (hw : St B w0 H w) :
    Calls Tryz.prog 159 [strV l].toArray w (Post B w0 fun u K => (∃ n t p, u = .tuple #[.int .i64 n, .iface t p]) ∧ K = H) := by
  have hs : (⟨l.toArray⟩ : ByteArray).size = l.length := by simp [ByteArray.size]
  have hT := ht w hw.below
  obtain ⟨tp1, p1, hv1⟩ := hT.syn
  obtain ⟨tp2, p2, hv2⟩ := hT.rng
  cases ha : Lib.atoiAll l
  · exact absurd ha (h _)
  · refine (Any.strconv_Atoi_syntax_var Tryz.laysC172 ⟨l.toArray⟩ (by omega) ha tp1 p1 w hv1).mono ?_
    rintro e w' ⟨N, rfl, _, _, hb⟩
    exact ⟨_, H, rfl, hw.grow hb, ⟨_, _, _, rfl⟩, rfl⟩
  · refine (Any.strconv_Atoi_range_var Tryz.laysC172 ⟨l.toArray⟩ (by omega) ha tp2 p2 w hv2).mono ?_
    rintro e w' ⟨N, rfl, _, _, hb⟩
    exact ⟨_, H, rfl, hw.grow hb, ⟨_, _, _, rfl⟩, rfl⟩
theorem YaO (l : List UInt8) (c : UInt8) (hl : l.length ≤ 1000000) {B : Nat} {w0 : World} {H : List HP} {w : World} (ht : TabsB B w0) (hw : St B w0 H w) :
    Calls Tryz.prog 81 [strV l, .string ⟨#[c]⟩].toArray w (Post B w0 fun v K => ∃ g, v = .slice (some ⟨g, 0, none⟩) (cutC c l).length (cutC c l).length ∧ K = blk g (.cells ((cutC c l).map strV).toArray 9 (0, 0)) :: H) := by
  have hs : (⟨l.toArray⟩ : ByteArray).size = l.length := by simp [ByteArray.size]
  have hc : (⟨#[c]⟩ : ByteArray).size = 1 := rfl
  obtain ⟨m, hm⟩ := (ht w hw.below).mx
  have hlen := Lib.splitB_all ⟨#[c]⟩ (by rw [hc]; exact Nat.le_refl _) 0 _ (⟨l.toArray⟩ : ByteArray) rfl
  have hd := Lib.splitB_data ⟨#[c]⟩ 0 (Lib.countB ⟨l.toArray⟩ ⟨#[c]⟩) ⟨l.toArray⟩
  have e1 : (Lib.splitB ⟨#[c]⟩ 0 (Lib.countB ⟨l.toArray⟩ ⟨#[c]⟩) ⟨l.toArray⟩).map (·.data.toList) = cutC c l := by
    rw [hd]
    exact YhE l
  have e2 : (cutC c l).length = Lib.countB ⟨l.toArray⟩ ⟨#[c]⟩ + 1 := by
    rw [← e1, List.length_map, hlen]
  have e3 : (Lib.splitB ⟨#[c]⟩ 0 (Lib.countB ⟨l.toArray⟩ ⟨#[c]⟩) ⟨l.toArray⟩).map Value.string = (cutC c l).map strV := by
    rw [← e1, List.map_map]
    refine List.map_congr_left fun x _ => ?_
    rfl
  refine (Tryz.strings_Split ⟨l.toArray⟩ ⟨#[c]⟩ m w (by omega) hm (by rw [hc]; exact Nat.le_refl _)).mono ?_
  rintro e w' ⟨rfl, hw'⟩
  rw [e3] at hw'
  refine ⟨_, _, rfl, by rw [hw']; exact hw.alloc _, w.heap.size, ?_, rfl⟩
  rw [e2]
open Go.RowKit Go.Eng Go.Nw
def inI (s : Sch) (slot : Int) (k : Nat) : List Nat := (List.range k).filter fun i => decide ((Ym s i).1 = slot)
def inXs (s : Sch) (slot : Int) : List (List Value) := (inI s slot s.cells.length).map fun (i : Nat) => [Value.int .i64 (i : Int)]
theorem Ygo {s : Sch} {slot : Int} {k : Nat} (h : (Ym s k).1 = slot) : inI s slot (k + 1) = inI s slot k ++ [k] := by
  unfold inI; rw [List.range_succ, List.filter_append]; simp [h]
theorem YiG {s : Sch} {slot : Int} {k : Nat} (h : (Ym s k).1 ≠ slot) : inI s slot (k + 1) = inI s slot k := by
  unfold inI; rw [List.range_succ, List.filter_append]; simp [h]
theorem YjX {s : Sch} {slot : Int} {k n : Nat} (h : (Ym s k).1 = slot) (hk : k < n) : (inI s slot n)[(inI s slot k).length]? = some k := by
  obtain ⟨m, rfl⟩ : ∃ m, n = k + (m + 1) := ⟨n - k - 1, by omega⟩
  have e : inI s slot (k + (m + 1)) = inI s slot k ++ ((List.range (m + 1)).map (k + ·)).filter fun i => decide ((Ym s i).1 = slot) := by
    unfold inI; rw [List.range_add, List.filter_append]
  rw [e, List.getElem?_append_right (Nat.le_refl _), Nat.sub_self, List.range_succ_eq_map]
  simp [h]
theorem UA {s : Sch} {slot : Int} {k i : Nat} : i ∈ inI s slot k ↔ i < k ∧ (Ym s i).1 = slot := by
  unfold inI; simp
def schB (g : Nat) (s : SchM) : HP := blk g (.cells #[.int .i64 s.len, .int .i64 s.off, .slice s.A s.cells.length s.cap] 30 (0, 0))
def intB (g : Nat) (x : Int) : HP := blk g (.cells #[.int .i64 x] 3 (0, 0))
set_option maxRecDepth 10000 in
set_option maxHeartbeats 1000000 in
theorem Yaa (s : SchM) (slot : Int) (gs gt : Nat) {B : Nat} {w0 : World} {HI : List HP} (hr : Rd B w0 HI s.A (s.cells.flatMap celF)) (hl : s.cells.length ≤ 1000000000000)
    (hms : blk gs (.cells #[.int .i64 s.len, .int .i64 s.off, .slice s.A s.cells.length s.cap] 30 (0, 0)) ∈ HI) (hmt : blk gt (.cells #[.int .i64 slot] 3 (0, 0)) ∈ HI) :
    Ybk Tryz.prog 118 [.pointer (some ⟨gs, 0, none⟩), .pointer (some ⟨gt, 0, none⟩)] (inXs s.sch slot) B w0 HI := by
  refine Yc7 Tryz.func118 Tryz.ntmps118 rfl rfl ?_
  intro l SS X hy L0 h0
  repeat' (first | refine zgb ?_ | fail)
  refine Yl (fun (x : Nat × List HP) => [(9, .int .i64 x.1), (8, .int .i64 s.cells.length), (7, .slice s.A s.cells.length s.cap), (0, .func (.yield l) #[] #[]), (1, .pointer (some ⟨gs, 0, none⟩)), (2, .pointer (some ⟨gt, 0, none⟩))]) (fun x => many x.2 :: HI) (fun x => x.1 ≤ s.cells.length ∧ SS (inI s.sch slot x.1).length x.2) (fun x => s.cells.length - x.1) (0, L0) ⟨Nat.zero_le _, h0⟩ ?_ (fun w hw => hw) ?_
  · exact zu
  rintro ⟨i, L⟩ ⟨hi, hS⟩ K hK
  dsimp only at hi hS ⊢
  have hr := hr.cons (X := many L)
  by_cases hlt : i < s.cells.length
  · have hget : s.cells[i]? = some (Ym s.sch i) := YG (s := s.sch) hlt
    have hlt2 : i < s.sch.cells.length := hlt
    iterate 22 (first | refine zgd ?_ | (refine zge ?_ ?_ <;> intro _ <;> try (exfalso; omega)) | (refine zgh ?_; intro _) | fail)
    refine Qp 7 rfl rfl (by rintro ⟨_, _, _, _, h, _⟩; cases h) ?_
    repeat' (first | refine zgc ?_ | (refine zgf ?_ ?_ <;> intro _ <;> try (exfalso; omega)) | fail)
    · rename_i g5 hs
      have hx : (inXs s.sch slot)[(inI s.sch slot i).length]? = some [.int .i64 (i : Int)] := by
        rw [inXs, List.getElem?_map, YjX hs hlt2]; rfl
      have hY := hy _ _ hx [blk g5 (.cells (celF (Ym s.sch i)).toArray 40 (0, 0))] L hS
      apply Ydv _ _ (hy := hY)
      · exact YeN (j := 4) (s := 18) rfl rfl rfl
      · exact rfl
      · exact za
      · exact rfl
      · rintro ⟨_, _, _, _, h, _⟩; cases h
      · rintro _ ⟨L', hS', rfl⟩
        repeat' (first | refine zgc ?_ | fail)
        apply hK (i + 1, L')
        · exact ⟨by omega, by rw [Ygo hs, List.length_append]; exact hS'⟩
        · dsimp only; omega
        · exact zu
        · exact fun w hw => hw.tail
      · rintro _ ⟨L', hX', rfl⟩
        repeat' (first | refine zgd ?_ | fail)
        apply Yi (many L' :: HI)
        · exact fun w hw => hw.tail
        apply XU; exact rfl
        exact .inr ⟨L', hX', rfl⟩
    · rename_i hs
      apply Yij (by rintro ⟨_, _, _, _, h, _⟩; cases h)
      repeat' (first | refine zgc ?_ | fail)
      apply hK (i + 1, L)
      · exact ⟨by omega, by rw [YiG hs]; exact hS⟩
      · dsimp only; omega
      · exact zu
      · exact fun w hw => hw.tail
  · repeat' (first | refine zgc ?_ | (refine zge ?_ ?_ <;> intro _ <;> try (exfalso; omega)) | fail)
    apply Xq; exact rfl
    rw [show i = s.cells.length by omega] at hS
    exact .inl ⟨L, by rw [inXs, List.length_map]; exact hS, rfl⟩
theorem Yab (s : SchM) (slot : Int) {B : Nat} {w0 : World} {H : List HP} {w : World} (hw : St B w0 H w) :
    Calls Tryz.prog 59 [s.val, .int .i64 slot].toArray w (Post B w0 fun v K => ∃ gs gt, v = .func (.func 118) #[] #[.pointer (some ⟨gs, 0, none⟩), .pointer (some ⟨gt, 0, none⟩)] ∧ K = intB gt slot :: schB gs s :: H) := by
  refine Yc Tryz.func59 Tryz.ntmps59 rfl rfl hw ?_
  repeat' (first | (apply zg23; first | (refine zs52 ?_; intro _) | (refine zs53 ?_; intro _)) | (apply zg29; (apply Yq; exact za ; exact rfl)) | refine zga ?_ | fail)
  apply Yd; exact rfl; exact rfl
  exact ⟨_, _, rfl, rfl⟩
open Go.RowKit Go.Eng Go.Nw
def Vc (s : Sch) (slot : Int) (k : Nat) : List Cel := ((inI s slot s.cells.length).take k).map (Ym s)
theorem Ye6 (s : Sch) (slot : Int) : Vc s slot (inXs s slot).length = s.cells.filter fun c => decide (c.1 = slot) := by
  have e : s.cells = (List.range s.cells.length).map (Ym s) := by
    apply List.ext_getElem?
    intro i
    by_cases h : i < s.cells.length
    · rw [YG h, List.getElem?_map, List.getElem?_range h]; rfl
    · rw [List.getElem?_eq_none (by omega), List.getElem?_eq_none (by simpa using h)]
  unfold Vc inXs
  rw [List.length_map, List.take_length]
  conv => rhs; rw [e]
  rw [List.filter_map]
  rfl
theorem YdH {s : Sch} {slot : Int} {k i : Nat} (h : (inI s slot s.cells.length)[k]? = some i) : Vc s slot (k + 1) = Vc s slot k ++ [Ym s i] := by
  unfold Vc
  rw [List.take_add_one, h, List.map_append]; rfl
theorem JY {s : Sch} {slot : Int} {k : Nat} {args : List Value} (h : (inXs s slot)[k]? = some args) : ∃ i, (inI s slot s.cells.length)[k]? = some i ∧ i < s.cells.length ∧ args = [.int .i64 (i : Int)] := by
  unfold inXs at h
  rw [List.getElem?_map] at h
  cases hi : (inI s slot s.cells.length)[k]? with
  | none => rw [hi] at h; cases h
  | some i =>
    rw [hi] at h
    cases h
    exact ⟨i, rfl, (UA.1 (List.mem_of_getElem? hi)).1, rfl⟩
theorem YgQ {s : Sch} {slot : Int} {k : Nat} : (Vc s slot k).length ≤ s.cells.length := by
  unfold Vc inI
  rw [List.length_map, List.length_take]
  have := List.length_filter_le (fun i => decide ((Ym s i).1 = slot)) (List.range s.cells.length)
  rw [List.length_range] at this
  omega
structure AcM where
  A : Option Addr
  cap : Nat
  l : List Cel
set_option maxRecDepth 10000 in
set_option maxHeartbeats 1000000 in
theorem YjP (s : SchM) (slot : Int) {B : Nat} {w0 : World} {H : List HP} {w : World} (hr : Rd B w0 H s.A (s.cells.flatMap celF)) (hl : s.cells.length ≤ 1000000000000) (hw : St B w0 H w) :
    Calls Tryz.prog 14 [s.val, .int .i64 slot].toArray w (Post B w0 fun v K => ∃ A cap, v = .slice A (atE s.sch slot).length cap ∧ K = cels A cap (atE s.sch slot) :: H) := by
  refine XF Tryz.func14 Tryz.ntmps14 rfl rfl hw ?_
  have e1 : s.sch.cells = s.cells := rfl
  by_cases hf : Y6 s.sch = true
  rotate_left
  · have hf : Y6 s.sch = false := by simpa using hf
    repeat' (first | ((first | apply Ya en58 | apply Yb en58); exact za; exact rfl; exact fun _ hw => (JP (congrArg Value.bool hf) (fun _ hw => JV s hr.cons hl hw) hw)) | refine zgd ?_ | (refine zgh ?_; intro _) | fail)
    apply Yi (cels none 0 [] :: H)
    · exact fun w hw => hw.tail.nilSlice _ _
    apply VQ_m
    apply Yd; exact rfl; exact rfl
    exact ⟨none, 0, by rw [atE, if_pos (.inl hf)]; rfl, by rw [atE, if_pos (.inl hf)]⟩
  have hfr := Wq.1 hf
  have hsz : 1 ≤ s.len ∧ s.len ≤ 512 := by
    have := of_decide_eq_true hfr.sized
    exact ⟨this.1, this.2.1⟩
  by_cases h0 : slot < 0
  · skip
    repeat' (first | ((first | apply Ya en58 | apply Yb en58); exact za; exact rfl; exact fun _ hw => (JP (congrArg Value.bool hf) (fun _ hw => JV s hr.cons hl hw) hw)) | refine zgc ?_ | (refine zge ?_ ?_ <;> intro _ <;> try (exfalso; omega)) | (refine zgh ?_; intro _) | fail)
    apply Yi (cels none 0 [] :: H)
    · exact fun w hw => hw.tail.nilSlice _ _
    apply VQ_m
    apply Yd; exact rfl; exact rfl
    exact ⟨none, 0, by rw [atE, if_pos (.inr h0)]; rfl, by rw [atE, if_pos (.inr h0)]⟩
  obtain ⟨tz, hto⟩ : ∃ tz, slot % s.len = tz := ⟨_, rfl⟩
  have hat : atE s.sch slot = s.cells.filter fun c => decide (c.1 = tz) := by
    rw [atE, if_neg (by simp [hf, h0]), ← hto, ← Int.tmod_eq_emod_of_nonneg (by omega)]; rfl
  rw [hat]
  repeat' (first | ((first | apply Ya en58 | apply Yb en58); exact za; exact rfl; exact fun _ hw => (JP (congrArg Value.bool hf) (fun _ hw => JV s hr.cons hl hw) hw)) | refine zgc ?_ | (refine zge ?_ ?_ <;> intro _ <;> try (exfalso; omega)) | (refine zgh ?_; intro _) | fail)
  rename_i gB _ gO
  apply YZ [0, 1, 2, 3, 4] [5] [true, true]
  kernel_rfl
  kernel_rfl
  exact zy
  (simp only [Yj, nthO]; rfl)
  (simp only [Yj, nthO]; rfl)
  repeat' (first | refine zgd ?_ | fail)
  apply Yo _ en59
  exact za
  exact rfl
  exact fun _ hw => (Yab s _ (hw))
  rintro _ _ ⟨gs, gt, rfl, rfl⟩
  rw [hto]
  repeat' (first | refine zgd ?_ | fail)
  have hr4 : Rd B w0 (intB gt tz :: schB gs s :: schB gB s :: H) s.A (s.cells.flatMap celF) := hr.cons.cons.cons
  refine ZL 40 5 ?_
  refine XG (gf := 118) (lb := [.pointer (some ⟨gs, 0, none⟩), .pointer (some ⟨gt, 0, none⟩)]) (xs := inXs s.sch tz) (intB gt tz :: schB gs s :: schB gB s :: H) (fun x : AcM => [blk gO (.cells #[.slice x.A x.l.length x.cap] 28 (0, 0)), cels x.A x.cap x.l]) (fun i x => x.l = Vc s.sch tz i) (fun _ _ => False) ⟨none, 0, []⟩ rfl Yix (Yaa s tz gs gt hr4 hl (.tail _ (.head _)) (.head _)) rfl ?_ (by kernel_rfl) (by kernel_rfl) ?_ rfl ?_ ?_ (fun _ _ _ h => h.elim)
  · intro args h
    obtain ⟨k, hk⟩ := List.mem_iff_getElem?.1 h
    obtain ⟨i, _, _, rfl⟩ := JY hk
    rfl
  · unfold schB intB cels
    simp only [List.cons_append, List.nil_append, List.length_nil, List.flatMap_nil]
    exact fun w hw => hw.perm (.trans (.cons _ (.cons _ (.swap _ _ _))) (.trans (.cons _ (.swap _ _ _)) (.swap _ _ _)))
  · rintro l k args R ⟨A, cap, xs⟩ hk hI
    obtain ⟨i, hi, hlt, rfl⟩ := JY hk
    have hlt2 : i < s.cells.length := hlt
    dsimp only at hI ⊢
    dsimp only [Vy, List.cons_append, List.nil_append]
    have hget : s.cells[i]? = some (Ym s.sch i) := YG (s := s.sch) hlt
    repeat' (first | refine zga ?_ | fail)
    apply Ja Yf
    intro R'
    unfold cels intB schB
    refine VR (R' :: blk gO (.cells #[.slice A xs.length cap] 28 (0, 0)) :: sl 40 5 A xs.length cap (xs.flatMap celF) :: blk gt (.cells #[.int .i64 tz] 3 (0, 0)) :: blk gs (.cells #[.int .i64 s.len, .int .i64 s.off, .slice s.A s.cells.length s.cap] 30 (0, 0)) :: blk gB (.cells #[.int .i64 s.len, .int .i64 s.off, .slice s.A s.cells.length s.cap] 30 (0, 0)) :: [many H]) (fun w hw => hw.perm (.cons _ (.cons _ (.cons _ (.cons _ (.cons _ (.cons _ (.closeT _)))))))) ?_
    have hrt : Rd B w0 [many H] s.A (s.cells.flatMap celF) := hr.tail
    repeat' (first | refine zgb ?_ | fail)
    apply JO [0, 1, 2, 3, 4, 5, 6] [7, 8] [false, true, false, false, false, true, true]
    kernel_rfl
    kernel_rfl
    exact zy
    (simp only [Yj, nthO]; rfl)
    (simp only [Yj, nthO]; rfl)
    have hxl : xs.length ≤ 512 := by
      have h1 := YgQ (s := s.sch) (slot := tz) (k := k)
      rw [← hI] at h1
      exact Nat.le_trans h1 hfr.few
    repeat' (first | (apply Yk; (repeat (first | with_reducible exact Yh | (with_reducible apply Yg; (repeat (first | with_reducible exact Yf | with_reducible apply Ye)))))) | refine zgd ?_ | (refine zgh ?_; intro _) | (refine zgi ?_; intro _ _) | fail)
    rename_i A' cap'
    apply JA (AcM.mk A' cap' (xs ++ [Ym s.sch i]))
    · show xs ++ [Ym s.sch i] = Vc s.sch tz (k + 1)
      rw [YdH hi, hI]
    · intro w hw
      rw [UV, Yaj xs (Ym s.sch i)] at hw
      unfold cels at hw
      have h5 : St B w0 (R' :: blk gO (.cells #[.slice A' (xs ++ [Ym s.sch i]).length cap'] 28 (0, 0)) :: sl 40 5 A' (xs ++ [Ym s.sch i]).length cap' ((xs ++ [Ym s.sch i]).flatMap celF) :: blk gt (.cells #[.int .i64 tz] 3 (0, 0)) :: blk gs (.cells #[.int .i64 s.len, .int .i64 s.off, .slice s.A s.cells.length s.cap] 30 (0, 0)) :: blk gB (.cells #[.int .i64 s.len, .int .i64 s.off, .slice s.A s.cells.length s.cap] 30 (0, 0)) :: [many H]) w := by
        revert w
        exact zk
      exact h5.perm (.cons _ (.cons _ (.cons _ (.cons _ (.cons _ (.cons _ (.openT _)))))))
  · rintro D ⟨A, cap, xs⟩ hI
    dsimp only at hI ⊢
    rw [Ye6, e1] at hI
    subst hI
    dsimp only [List.cons_append, List.nil_append]
    unfold cels intB schB
    repeat' (first | refine zgc ?_ | fail)
    apply Zf Yf
    apply VQ_m
    apply Yi (cels A cap (s.cells.filter fun c => decide (c.1 = tz)) :: H)
    · unfold cels
      exact zk
    apply Yd; exact rfl; exact rfl
    exact ⟨A, cap, rfl, rfl⟩
end Go.Proofs.YtmalhidldgfeoaaGreatDoor
