/- The seat's table of types, printed by a program of mine (gen_tab.py), checked by the kernel. -/
import Derived.Test.YtfobgjhjigkigaaProg
import Derived.Test.YtfobgjhjigkigaaE8
import Derived.KernelRfl
namespace Go.Proofs.Ytfobgjhjigkigaa
open Go.Eng

theorem tab_sc : ([(3, ()), (4, ()), (5, ()), (9, ()), (27, ()), (32, ()), (39, ()), (40, ()), (43, ()), (77, ()), (89, ()), (92, ()), (100, ()), (103, ()), (121, ()), (155, ())].all fun x : Nat × Unit => oneT Try.prog x.1) = true := by kernel_rfl
theorem tab_ag : ([(23, 5), (61, 6), (64, 2), (105, 7), (131, 3)].all fun x : Nat × Nat => aggT Try.prog x.1 == some x.2) = true := by kernel_rfl
theorem tab_fo : ([(23, 0, 0), (23, 1, 1), (23, 2, 2), (23, 3, 3), (23, 4, 4), (61, 0, 0), (61, 1, 1), (79, 0, 0), (79, 1, 1), (79, 2, 2), (84, 0, 0), (84, 1, 1), (84, 2, 2), (84, 3, 3), (84, 4, 4), (84, 5, 5), (102, 0, 0), (102, 1, 1), (102, 2, 2), (105, 0, 0), (105, 1, 1), (105, 2, 2), (105, 3, 3), (105, 4, 4), (105, 5, 5), (105, 6, 6), (117, 0, 0), (117, 1, 1), (117, 2, 2), (120, 0, 0), (120, 1, 1), (123, 0, 0), (123, 1, 1), (131, 0, 0), (131, 1, 1), (131, 2, 2), (137, 0, 0), (137, 1, 1), (137, 2, 2)].all fun x : Nat × Nat × Nat => fieldOff Try.prog x.1 x.2.1 == some x.2.2) = true := by kernel_rfl
theorem tab_sl : ([(26, (23, 5, 48)), (32, (3, 1, 8)), (39, (5, 1, 1)), (55, (61, 6, 56)), (89, (9, 1, 16)), (100, (105, 7, 88)), (103, (4, 1, 1))].all fun x : Nat × (Nat × Nat × Nat) => sliceT Try.prog x.1 == some x.2) = true := by kernel_rfl
theorem tab_ar : ([(24, (4, 3, 1)), (64, (2, 3, 1)), (82, (32, 9, 1))].all fun x : Nat × (Nat × Nat × Nat) => arrayT Try.prog x.1 == some x.2) = true := by kernel_rfl
theorem tab_ik : ([(3, .i64), (5, .u8), (21, .i32), (115, .u64), (132, .u64), (150, .u32), (155, .u64)].all fun x : Nat × IntKind => decide (intT Try.prog x.1 = some x.2)) = true := by kernel_rfl
theorem tab_st : ([(9, ())].all fun x : Nat × Unit => stringT Try.prog x.1) = true := by kernel_rfl
def T : Tab Try.prog := ⟨_, _, _, _, _, _, _, tab_sc, tab_ag, tab_fo, tab_sl, tab_ar, tab_ik, tab_st⟩

theorem tab_zt : ([(3, .int .i64 0), (4, .bool false), (5, .int .u8 0), (9, .string ⟨#[]⟩), (23, .agg #[.int .i64 0, .int .i64 0, .int .i64 0, .int .i64 0, .string ⟨#[]⟩]), (43, .map none), (61, .agg #[.int .i64 0, .int .i64 0, .int .i64 0, .int .i64 0, .int .i64 0, .string ⟨#[]⟩]), (79, .agg #[.int .i64 0, .int .i64 0, .map none]), (84, .agg #[.int .i64 0, .int .i64 0, .int .i64 0, .int .i64 0, .int .i64 0, .string ⟨#[]⟩, .string ⟨#[]⟩, .string ⟨#[]⟩, .string ⟨#[]⟩, .string ⟨#[]⟩, .string ⟨#[]⟩, .string ⟨#[]⟩, .string ⟨#[]⟩, .string ⟨#[]⟩, .string ⟨#[]⟩, .string ⟨#[]⟩, .string ⟨#[]⟩, .string ⟨#[]⟩, .string ⟨#[]⟩, .string ⟨#[]⟩, .string ⟨#[]⟩, .string ⟨#[]⟩, .string ⟨#[]⟩, .string ⟨#[]⟩, .string ⟨#[]⟩, .string ⟨#[]⟩, .string ⟨#[]⟩, .string ⟨#[]⟩, .string ⟨#[]⟩, .string ⟨#[]⟩, .string ⟨#[]⟩, .string ⟨#[]⟩, .string ⟨#[]⟩, .string ⟨#[]⟩, .string ⟨#[]⟩, .string ⟨#[]⟩, .string ⟨#[]⟩]), (102, .agg #[.int .i64 0, .int .i64 0, .slice none 0 0]), (105, .agg #[.int .i64 0, .int .i64 0, .int .i64 0, .int .i64 0, .int .i64 0, .slice none 0 0, .slice none 0 0]), (117, .agg #[.slice none 0 0, .int .i64 0, .int .i64 0]), (120, .agg #[.slice none 0 0, .int .i64 0]), (123, .agg #[.pointer none, .slice none 0 0]), (131, .agg #[.string ⟨#[]⟩, .int .i64 0, .int .i64 0]), (137, .agg #[.string ⟨#[]⟩, .int .i64 0, .int .i64 0]), (155, .int .u64 0)].map fun x : Nat × Value => zeroT Try.prog x.1) = [(3, .int .i64 0), (4, .bool false), (5, .int .u8 0), (9, .string ⟨#[]⟩), (23, .agg #[.int .i64 0, .int .i64 0, .int .i64 0, .int .i64 0, .string ⟨#[]⟩]), (43, .map none), (61, .agg #[.int .i64 0, .int .i64 0, .int .i64 0, .int .i64 0, .int .i64 0, .string ⟨#[]⟩]), (79, .agg #[.int .i64 0, .int .i64 0, .map none]), (84, .agg #[.int .i64 0, .int .i64 0, .int .i64 0, .int .i64 0, .int .i64 0, .string ⟨#[]⟩, .string ⟨#[]⟩, .string ⟨#[]⟩, .string ⟨#[]⟩, .string ⟨#[]⟩, .string ⟨#[]⟩, .string ⟨#[]⟩, .string ⟨#[]⟩, .string ⟨#[]⟩, .string ⟨#[]⟩, .string ⟨#[]⟩, .string ⟨#[]⟩, .string ⟨#[]⟩, .string ⟨#[]⟩, .string ⟨#[]⟩, .string ⟨#[]⟩, .string ⟨#[]⟩, .string ⟨#[]⟩, .string ⟨#[]⟩, .string ⟨#[]⟩, .string ⟨#[]⟩, .string ⟨#[]⟩, .string ⟨#[]⟩, .string ⟨#[]⟩, .string ⟨#[]⟩, .string ⟨#[]⟩, .string ⟨#[]⟩, .string ⟨#[]⟩, .string ⟨#[]⟩, .string ⟨#[]⟩, .string ⟨#[]⟩, .string ⟨#[]⟩]), (102, .agg #[.int .i64 0, .int .i64 0, .slice none 0 0]), (105, .agg #[.int .i64 0, .int .i64 0, .int .i64 0, .int .i64 0, .int .i64 0, .slice none 0 0, .slice none 0 0]), (117, .agg #[.slice none 0 0, .int .i64 0, .int .i64 0]), (120, .agg #[.slice none 0 0, .int .i64 0]), (123, .agg #[.pointer none, .slice none 0 0]), (131, .agg #[.string ⟨#[]⟩, .int .i64 0, .int .i64 0]), (137, .agg #[.string ⟨#[]⟩, .int .i64 0, .int .i64 0]), (155, .int .u64 0)].map fun x : Nat × Value => some x.2 := by kernel_rfl
theorem tab_bt : ([(23, [(0, 1), (1, 1), (2, 1), (3, 1), (4, 1)]), (79, [(0, 1), (1, 1), (2, 1)]), (84, [(0, 1), (1, 1), (2, 1), (3, 1), (4, 1), (5, 32)]), (102, [(0, 1), (1, 1), (2, 1)]), (105, [(0, 1), (1, 1), (2, 1), (3, 1), (4, 1), (5, 1), (6, 1)]), (117, [(0, 1), (1, 1), (2, 1)]), (120, [(0, 1), (1, 1)]), (131, [(0, 1), (1, 1), (2, 1)]), (137, [(0, 1), (1, 1), (2, 1)])].map fun x : Nat × List (Nat × Nat) => structPl Try.prog x.1) = [(23, [(0, 1), (1, 1), (2, 1), (3, 1), (4, 1)]), (79, [(0, 1), (1, 1), (2, 1)]), (84, [(0, 1), (1, 1), (2, 1), (3, 1), (4, 1), (5, 32)]), (102, [(0, 1), (1, 1), (2, 1)]), (105, [(0, 1), (1, 1), (2, 1), (3, 1), (4, 1), (5, 1), (6, 1)]), (117, [(0, 1), (1, 1), (2, 1)]), (120, [(0, 1), (1, 1)]), (131, [(0, 1), (1, 1), (2, 1)]), (137, [(0, 1), (1, 1), (2, 1)])].map fun x : Nat × List (Nat × Nat) => some x.2 := by kernel_rfl
def T2 : Tab2 Try.prog := ⟨_, _, tab_zt, tab_bt⟩

theorem en3 (xs : Array Value) (w : World) : (callFunc 3 xs).run Try.prog w = .ok (.enter 3 xs) w := by kernel_rfl
theorem en4 (xs : Array Value) (w : World) : (callFunc 4 xs).run Try.prog w = .ok (.enter 4 xs) w := by kernel_rfl
theorem en5 (xs : Array Value) (w : World) : (callFunc 5 xs).run Try.prog w = .ok (.enter 5 xs) w := by kernel_rfl
theorem en6 (xs : Array Value) (w : World) : (callFunc 6 xs).run Try.prog w = .ok (.enter 6 xs) w := by kernel_rfl
theorem en7 (xs : Array Value) (w : World) : (callFunc 7 xs).run Try.prog w = .ok (.enter 7 xs) w := by kernel_rfl
theorem en8 (xs : Array Value) (w : World) : (callFunc 8 xs).run Try.prog w = .ok (.enter 8 xs) w := by kernel_rfl
theorem en9 (xs : Array Value) (w : World) : (callFunc 9 xs).run Try.prog w = .ok (.enter 9 xs) w := by kernel_rfl
theorem en10 (xs : Array Value) (w : World) : (callFunc 10 xs).run Try.prog w = .ok (.enter 10 xs) w := by kernel_rfl
theorem en11 (xs : Array Value) (w : World) : (callFunc 11 xs).run Try.prog w = .ok (.enter 11 xs) w := by kernel_rfl
theorem en12 (xs : Array Value) (w : World) : (callFunc 12 xs).run Try.prog w = .ok (.enter 12 xs) w := by kernel_rfl
theorem en13 (xs : Array Value) (w : World) : (callFunc 13 xs).run Try.prog w = .ok (.enter 13 xs) w := by kernel_rfl
theorem en14 (xs : Array Value) (w : World) : (callFunc 14 xs).run Try.prog w = .ok (.enter 14 xs) w := by kernel_rfl
theorem en15 (xs : Array Value) (w : World) : (callFunc 15 xs).run Try.prog w = .ok (.enter 15 xs) w := by kernel_rfl
theorem en16 (xs : Array Value) (w : World) : (callFunc 16 xs).run Try.prog w = .ok (.enter 16 xs) w := by kernel_rfl
theorem en17 (xs : Array Value) (w : World) : (callFunc 17 xs).run Try.prog w = .ok (.enter 17 xs) w := by kernel_rfl
theorem en18 (xs : Array Value) (w : World) : (callFunc 18 xs).run Try.prog w = .ok (.enter 18 xs) w := by kernel_rfl
theorem en19 (xs : Array Value) (w : World) : (callFunc 19 xs).run Try.prog w = .ok (.enter 19 xs) w := by kernel_rfl
theorem en20 (xs : Array Value) (w : World) : (callFunc 20 xs).run Try.prog w = .ok (.enter 20 xs) w := by kernel_rfl
theorem en21 (xs : Array Value) (w : World) : (callFunc 21 xs).run Try.prog w = .ok (.enter 21 xs) w := by kernel_rfl
theorem en22 (xs : Array Value) (w : World) : (callFunc 22 xs).run Try.prog w = .ok (.enter 22 xs) w := by kernel_rfl
theorem en23 (xs : Array Value) (w : World) : (callFunc 23 xs).run Try.prog w = .ok (.enter 23 xs) w := by kernel_rfl
theorem en24 (xs : Array Value) (w : World) : (callFunc 24 xs).run Try.prog w = .ok (.enter 24 xs) w := by kernel_rfl
theorem en25 (xs : Array Value) (w : World) : (callFunc 25 xs).run Try.prog w = .ok (.enter 25 xs) w := by kernel_rfl
theorem en26 (xs : Array Value) (w : World) : (callFunc 26 xs).run Try.prog w = .ok (.enter 26 xs) w := by kernel_rfl
theorem en27 (xs : Array Value) (w : World) : (callFunc 27 xs).run Try.prog w = .ok (.enter 27 xs) w := by kernel_rfl
theorem en28 (xs : Array Value) (w : World) : (callFunc 28 xs).run Try.prog w = .ok (.enter 28 xs) w := by kernel_rfl
theorem en29 (xs : Array Value) (w : World) : (callFunc 29 xs).run Try.prog w = .ok (.enter 29 xs) w := by kernel_rfl
theorem en30 (xs : Array Value) (w : World) : (callFunc 30 xs).run Try.prog w = .ok (.enter 30 xs) w := by kernel_rfl
theorem en31 (xs : Array Value) (w : World) : (callFunc 31 xs).run Try.prog w = .ok (.enter 31 xs) w := by kernel_rfl
theorem en32 (xs : Array Value) (w : World) : (callFunc 32 xs).run Try.prog w = .ok (.enter 32 xs) w := by kernel_rfl
theorem en33 (xs : Array Value) (w : World) : (callFunc 33 xs).run Try.prog w = .ok (.enter 33 xs) w := by kernel_rfl
theorem en34 (xs : Array Value) (w : World) : (callFunc 34 xs).run Try.prog w = .ok (.enter 34 xs) w := by kernel_rfl
theorem en35 (xs : Array Value) (w : World) : (callFunc 35 xs).run Try.prog w = .ok (.enter 35 xs) w := by kernel_rfl
theorem en36 (xs : Array Value) (w : World) : (callFunc 36 xs).run Try.prog w = .ok (.enter 36 xs) w := by kernel_rfl
theorem en37 (xs : Array Value) (w : World) : (callFunc 37 xs).run Try.prog w = .ok (.enter 37 xs) w := by kernel_rfl
theorem en38 (xs : Array Value) (w : World) : (callFunc 38 xs).run Try.prog w = .ok (.enter 38 xs) w := by kernel_rfl
theorem en39 (xs : Array Value) (w : World) : (callFunc 39 xs).run Try.prog w = .ok (.enter 39 xs) w := by kernel_rfl
theorem en40 (xs : Array Value) (w : World) : (callFunc 40 xs).run Try.prog w = .ok (.enter 40 xs) w := by kernel_rfl
theorem en41 (xs : Array Value) (w : World) : (callFunc 41 xs).run Try.prog w = .ok (.enter 41 xs) w := by kernel_rfl
theorem en42 (xs : Array Value) (w : World) : (callFunc 42 xs).run Try.prog w = .ok (.enter 42 xs) w := by kernel_rfl
theorem en43 (xs : Array Value) (w : World) : (callFunc 43 xs).run Try.prog w = .ok (.enter 43 xs) w := by kernel_rfl
theorem en44 (xs : Array Value) (w : World) : (callFunc 44 xs).run Try.prog w = .ok (.enter 44 xs) w := by kernel_rfl
theorem en45 (xs : Array Value) (w : World) : (callFunc 45 xs).run Try.prog w = .ok (.enter 45 xs) w := by kernel_rfl
theorem en46 (xs : Array Value) (w : World) : (callFunc 46 xs).run Try.prog w = .ok (.enter 46 xs) w := by kernel_rfl
theorem en47 (xs : Array Value) (w : World) : (callFunc 47 xs).run Try.prog w = .ok (.enter 47 xs) w := by kernel_rfl
theorem en48 (xs : Array Value) (w : World) : (callFunc 48 xs).run Try.prog w = .ok (.enter 48 xs) w := by kernel_rfl
theorem en49 (xs : Array Value) (w : World) : (callFunc 49 xs).run Try.prog w = .ok (.enter 49 xs) w := by kernel_rfl
theorem en50 (xs : Array Value) (w : World) : (callFunc 50 xs).run Try.prog w = .ok (.enter 50 xs) w := by kernel_rfl
theorem en51 (xs : Array Value) (w : World) : (callFunc 51 xs).run Try.prog w = .ok (.enter 51 xs) w := by kernel_rfl
theorem en52 (xs : Array Value) (w : World) : (callFunc 52 xs).run Try.prog w = .ok (.enter 52 xs) w := by kernel_rfl
theorem en53 (xs : Array Value) (w : World) : (callFunc 53 xs).run Try.prog w = .ok (.enter 53 xs) w := by kernel_rfl
theorem en54 (xs : Array Value) (w : World) : (callFunc 54 xs).run Try.prog w = .ok (.enter 54 xs) w := by kernel_rfl
theorem en55 (xs : Array Value) (w : World) : (callFunc 55 xs).run Try.prog w = .ok (.enter 55 xs) w := by kernel_rfl
theorem en56 (xs : Array Value) (w : World) : (callFunc 56 xs).run Try.prog w = .ok (.enter 56 xs) w := by kernel_rfl
theorem en57 (xs : Array Value) (w : World) : (callFunc 57 xs).run Try.prog w = .ok (.enter 57 xs) w := by kernel_rfl
theorem en58 (xs : Array Value) (w : World) : (callFunc 58 xs).run Try.prog w = .ok (.enter 58 xs) w := by kernel_rfl
theorem en59 (xs : Array Value) (w : World) : (callFunc 59 xs).run Try.prog w = .ok (.enter 59 xs) w := by kernel_rfl
theorem en60 (xs : Array Value) (w : World) : (callFunc 60 xs).run Try.prog w = .ok (.enter 60 xs) w := by kernel_rfl
theorem en61 (xs : Array Value) (w : World) : (callFunc 61 xs).run Try.prog w = .ok (.enter 61 xs) w := by kernel_rfl
theorem en62 (xs : Array Value) (w : World) : (callFunc 62 xs).run Try.prog w = .ok (.enter 62 xs) w := by kernel_rfl
theorem en63 (xs : Array Value) (w : World) : (callFunc 63 xs).run Try.prog w = .ok (.enter 63 xs) w := by kernel_rfl
theorem en64 (xs : Array Value) (w : World) : (callFunc 64 xs).run Try.prog w = .ok (.enter 64 xs) w := by kernel_rfl
theorem en65 (xs : Array Value) (w : World) : (callFunc 65 xs).run Try.prog w = .ok (.enter 65 xs) w := by kernel_rfl
theorem en66 (xs : Array Value) (w : World) : (callFunc 66 xs).run Try.prog w = .ok (.enter 66 xs) w := by kernel_rfl
theorem en67 (xs : Array Value) (w : World) : (callFunc 67 xs).run Try.prog w = .ok (.enter 67 xs) w := by kernel_rfl
theorem en68 (xs : Array Value) (w : World) : (callFunc 68 xs).run Try.prog w = .ok (.enter 68 xs) w := by kernel_rfl
theorem en69 (xs : Array Value) (w : World) : (callFunc 69 xs).run Try.prog w = .ok (.enter 69 xs) w := by kernel_rfl
theorem en70 (xs : Array Value) (w : World) : (callFunc 70 xs).run Try.prog w = .ok (.enter 70 xs) w := by kernel_rfl
theorem en71 (xs : Array Value) (w : World) : (callFunc 71 xs).run Try.prog w = .ok (.enter 71 xs) w := by kernel_rfl
theorem en72 (xs : Array Value) (w : World) : (callFunc 72 xs).run Try.prog w = .ok (.enter 72 xs) w := by kernel_rfl
theorem en73 (xs : Array Value) (w : World) : (callFunc 73 xs).run Try.prog w = .ok (.enter 73 xs) w := by kernel_rfl
theorem en74 (xs : Array Value) (w : World) : (callFunc 74 xs).run Try.prog w = .ok (.enter 74 xs) w := by kernel_rfl
theorem en75 (xs : Array Value) (w : World) : (callFunc 75 xs).run Try.prog w = .ok (.enter 75 xs) w := by kernel_rfl
theorem en76 (xs : Array Value) (w : World) : (callFunc 76 xs).run Try.prog w = .ok (.enter 76 xs) w := by kernel_rfl
theorem en77 (xs : Array Value) (w : World) : (callFunc 77 xs).run Try.prog w = .ok (.enter 77 xs) w := by kernel_rfl
theorem en78 (xs : Array Value) (w : World) : (callFunc 78 xs).run Try.prog w = .ok (.enter 78 xs) w := by kernel_rfl
theorem en79 (xs : Array Value) (w : World) : (callFunc 79 xs).run Try.prog w = .ok (.enter 79 xs) w := by kernel_rfl
theorem en80 (xs : Array Value) (w : World) : (callFunc 80 xs).run Try.prog w = .ok (.enter 80 xs) w := by kernel_rfl
theorem en81 (xs : Array Value) (w : World) : (callFunc 81 xs).run Try.prog w = .ok (.enter 81 xs) w := by kernel_rfl
theorem en82 (xs : Array Value) (w : World) : (callFunc 82 xs).run Try.prog w = .ok (.enter 82 xs) w := by kernel_rfl
theorem en83 (xs : Array Value) (w : World) : (callFunc 83 xs).run Try.prog w = .ok (.enter 83 xs) w := by kernel_rfl
theorem en84 (xs : Array Value) (w : World) : (callFunc 84 xs).run Try.prog w = .ok (.enter 84 xs) w := by kernel_rfl
theorem en85 (xs : Array Value) (w : World) : (callFunc 85 xs).run Try.prog w = .ok (.enter 85 xs) w := by kernel_rfl
theorem en86 (xs : Array Value) (w : World) : (callFunc 86 xs).run Try.prog w = .ok (.enter 86 xs) w := by kernel_rfl
theorem en87 (xs : Array Value) (w : World) : (callFunc 87 xs).run Try.prog w = .ok (.enter 87 xs) w := by kernel_rfl
theorem en88 (xs : Array Value) (w : World) : (callFunc 88 xs).run Try.prog w = .ok (.enter 88 xs) w := by kernel_rfl
theorem en89 (xs : Array Value) (w : World) : (callFunc 89 xs).run Try.prog w = .ok (.enter 89 xs) w := by kernel_rfl
theorem en90 (xs : Array Value) (w : World) : (callFunc 90 xs).run Try.prog w = .ok (.enter 90 xs) w := by kernel_rfl
theorem en91 (xs : Array Value) (w : World) : (callFunc 91 xs).run Try.prog w = .ok (.enter 91 xs) w := by kernel_rfl
theorem en92 (xs : Array Value) (w : World) : (callFunc 92 xs).run Try.prog w = .ok (.enter 92 xs) w := by kernel_rfl
theorem en93 (xs : Array Value) (w : World) : (callFunc 93 xs).run Try.prog w = .ok (.enter 93 xs) w := by kernel_rfl
theorem en94 (xs : Array Value) (w : World) : (callFunc 94 xs).run Try.prog w = .ok (.enter 94 xs) w := by kernel_rfl
theorem en95 (xs : Array Value) (w : World) : (callFunc 95 xs).run Try.prog w = .ok (.enter 95 xs) w := by kernel_rfl
theorem en96 (xs : Array Value) (w : World) : (callFunc 96 xs).run Try.prog w = .ok (.enter 96 xs) w := by kernel_rfl
theorem en97 (xs : Array Value) (w : World) : (callFunc 97 xs).run Try.prog w = .ok (.enter 97 xs) w := by kernel_rfl
theorem en98 (xs : Array Value) (w : World) : (callFunc 98 xs).run Try.prog w = .ok (.enter 98 xs) w := by kernel_rfl
theorem en99 (xs : Array Value) (w : World) : (callFunc 99 xs).run Try.prog w = .ok (.enter 99 xs) w := by kernel_rfl
theorem en100 (xs : Array Value) (w : World) : (callFunc 100 xs).run Try.prog w = .ok (.enter 100 xs) w := by kernel_rfl
theorem en101 (xs : Array Value) (w : World) : (callFunc 101 xs).run Try.prog w = .ok (.enter 101 xs) w := by kernel_rfl
theorem en102 (xs : Array Value) (w : World) : (callFunc 102 xs).run Try.prog w = .ok (.enter 102 xs) w := by kernel_rfl
theorem en103 (xs : Array Value) (w : World) : (callFunc 103 xs).run Try.prog w = .ok (.enter 103 xs) w := by kernel_rfl
theorem en106 (xs : Array Value) (w : World) : (callFunc 106 xs).run Try.prog w = .ok (.enter 106 xs) w := by kernel_rfl
theorem z3 (w : World) : (zeroValue 3).run Try.prog w = .ok (.int .i64 0) w := by kernel_rfl
theorem z23 (w : World) : (zeroValue 23).run Try.prog w = .ok (.agg #[.int .i64 0, .int .i64 0, .int .i64 0, .int .i64 0, .string ⟨#[]⟩]) w := by kernel_rfl
theorem z43 (w : World) : (zeroValue 43).run Try.prog w = .ok (.map none) w := by kernel_rfl
theorem z61 (w : World) : (zeroValue 61).run Try.prog w = .ok (.agg #[.int .i64 0, .int .i64 0, .int .i64 0, .int .i64 0, .int .i64 0, .string ⟨#[]⟩]) w := by kernel_rfl
theorem z123 (w : World) : (zeroValue 123).run Try.prog w = .ok (.agg #[.pointer none, .slice none 0 0]) w := by kernel_rfl
theorem z131 (w : World) : (zeroValue 131).run Try.prog w = .ok (.agg #[.string ⟨#[]⟩, .int .i64 0, .int .i64 0]) w := by kernel_rfl
theorem z155 (w : World) : (zeroValue 155).run Try.prog w = .ok (.int .u64 0) w := by kernel_rfl
theorem zi5 : ((Try.prog.info? 5).bind (·.zero)) = some (.int .u8 0) := by kernel_rfl
theorem zi9 : ((Try.prog.info? 9).bind (·.zero)) = some (.string ⟨#[]⟩) := by kernel_rfl
theorem zi4 : ((Try.prog.info? 4).bind (·.zero)) = some (.bool false) := by kernel_rfl

end Go.Proofs.Ytfobgjhjigkigaa
