/-
  What functions of the seat's program answer, for every input of theirs (small types, where it says so).
-/
import Derived.Test.YtjgfjfdodekkpaaGreatDoorCtx
import Derived.Test.YtjgfjfdodekkpaaGreatDoorAbs5
set_option linter.all false

section
namespace Go.Abs
open Go.Proofs

theorem G_fn (f : Nat) : TryzG.fn f = Tryz.prog.funcs[f]? := by unfold TryzG mkG; rfl
theorem G_und (t : Nat) : TryzG.und t = Tryz.prog.underlying t := by unfold TryzG mkG; with_reducible rfl
theorem KF3 (i : Nat) : TryzG.kept 3 i = lookK [(17, [2]), (7, [3, 4, 5]), (16, [3, 4, 5]), (15, [3, 4, 70]), (11, [3, 4, 5, 6, 7]), (14, [3, 4, 5, 6, 7]), (13, [2]), (12, [3, 4, 5, 6, 7, 67]), (10, [3, 4, 5, 6, 7, 45]), (9, [3, 4, 5, 6, 7]), (8, [3, 4, 5, 6]), (6, [3, 4, 5, 32]), (5, [3, 4, 5]), (4, [1, 3, 4]), (3, [1, 3]), (2, [2]), (1, [1, 14]), (0, [1])] i := by kernel_rfl
theorem MF3 : TryzG.mode 3 = 0 := by kernel_rfl
theorem MF12 : TryzG.mode 12 = 0 := by kernel_rfl
theorem MF14 : TryzG.mode 14 = 0 := by kernel_rfl
theorem MF13 : TryzG.mode 13 = 0 := by kernel_rfl
theorem MF11 : TryzG.mode 11 = 0 := by kernel_rfl
theorem MF10 : TryzG.mode 10 = 0 := by kernel_rfl
theorem KF4 (i : Nat) : TryzG.kept 4 i = lookK [(6, [6]), (5, [9, 10, 11, 12]), (4, [1, 2, 3, 8, 9, 10]), (3, [6]), (2, [1, 2, 3, 7, 8, 35]), (1, [1, 2, 3, 7, 8]), (0, [1, 2, 3])] i := by kernel_rfl
theorem MF4 : TryzG.mode 4 = 0 := by kernel_rfl
theorem MF19 : TryzG.mode 19 = 0 := by kernel_rfl
theorem MF18 : TryzG.mode 18 = 0 := by kernel_rfl
theorem MF17 : TryzG.mode 17 = 0 := by kernel_rfl
theorem MF16 : TryzG.mode 16 = 0 := by kernel_rfl
theorem MF15 : TryzG.mode 15 = 0 := by kernel_rfl
theorem KF5 (i : Nat) : TryzG.kept 5 i = lookK [(8, [8]), (7, [3, 4, 5, 11, 12, 13, 14, 15, 16, 17]), (6, [3, 4, 5, 11, 12, 13, 14, 15, 16]), (5, [2, 3, 4, 5, 10, 11, 12, 13]), (4, [2, 3, 4, 5, 9, 10, 11]), (3, [8]), (2, [2, 3, 4, 5, 9, 10, 45]), (1, [2, 3, 4, 5, 9, 10]), (0, [2, 3, 4, 5])] i := by kernel_rfl
theorem MF5 : TryzG.mode 5 = 0 := by kernel_rfl
theorem MF30 : TryzG.mode 30 = 0 := by kernel_rfl
theorem MF29 : TryzG.mode 29 = 0 := by kernel_rfl
theorem MF28 : TryzG.mode 28 = 0 := by kernel_rfl
theorem MF27 : TryzG.mode 27 = 0 := by kernel_rfl
theorem MF25 : TryzG.mode 25 = 0 := by kernel_rfl
theorem MF26 : TryzG.mode 26 = 0 := by kernel_rfl
theorem MF20 : TryzG.mode 20 = 0 := by kernel_rfl
theorem MF24 : TryzG.mode 24 = 0 := by kernel_rfl
theorem MF23 : TryzG.mode 23 = 0 := by kernel_rfl
theorem MF22 : TryzG.mode 22 = 0 := by kernel_rfl
theorem MF21 : TryzG.mode 21 = 0 := by kernel_rfl
theorem KF6 (i : Nat) : TryzG.kept 6 i = lookK [(9, [6]), (8, [3, 25, 26, 27]), (7, [6]), (6, [3, 25, 26, 27, 38]), (5, [3, 8, 25, 26, 27]), (4, [3, 25, 26, 27, 28]), (3, [3, 25, 26, 27]), (2, [6]), (1, [2, 3, 4, 19]), (0, [2, 3, 4])] i := by kernel_rfl
theorem MF6 : TryzG.mode 6 = 0 := by kernel_rfl
theorem MF31 : TryzG.mode 31 = 0 := by kernel_rfl
theorem MF34 : TryzG.mode 34 = 0 := by kernel_rfl
theorem MF33 : TryzG.mode 33 = 0 := by kernel_rfl
theorem MF32 : TryzG.mode 32 = 0 := by kernel_rfl
theorem KF7 (i : Nat) : TryzG.kept 7 i = lookK [(17, [6]), (14, [12, 13, 14]), (16, [6]), (15, [12, 13, 14, 85]), (13, [12, 13, 14, 76]), (12, [12, 13, 14]), (11, [12, 13]), (10, [9, 11, 12]), (9, [9, 10, 11]), (6, [1, 2, 3, 7, 8]), (8, [6]), (7, [1, 2, 3, 7, 8, 53]), (5, [1, 2, 3, 7, 8, 40]), (4, [1, 2, 3, 7, 8]), (3, [1, 2, 3, 7]), (2, [6]), (1, [1, 2, 3, 32]), (0, [1, 2, 3])] i := by kernel_rfl
theorem MF7 : TryzG.mode 7 = 0 := by kernel_rfl
theorem MF35 : TryzG.mode 35 = 0 := by kernel_rfl
theorem KF8 (i : Nat) : TryzG.kept 8 i = lookK [(9, [6]), (8, [11, 12, 13, 14]), (7, [6]), (6, [2, 7, 9, 11, 12, 59]), (5, [2, 7, 9, 10, 11, 12]), (4, [1, 2, 3, 7, 9, 10]), (3, [6]), (2, [1, 2, 3, 7, 34]), (1, [1, 2, 3, 7]), (0, [1, 2, 3])] i := by kernel_rfl
theorem MF8 : TryzG.mode 8 = 0 := by kernel_rfl
theorem KF9 (i : Nat) : TryzG.kept 9 i = lookK [(24, [6]), (23, [3, 9, 12, 14]), (22, [6]), (21, [3, 7, 8, 9, 12, 86]), (18, [3, 7, 8, 9, 12, 13]), (20, [6]), (19, [3, 7, 8, 9, 12, 13, 82]), (17, [3, 7, 8, 9, 12, 13, 68]), (16, [3, 7, 8, 9, 12, 13]), (15, [3, 7, 8, 9, 12]), (13, [3, 7, 8, 9, 11]), (14, [3, 7, 8, 9, 11]), (12, [3, 7, 8, 9, 11, 50]), (11, [3, 7, 8, 9, 11]), (6, [1, 2, 3, 7, 8, 9, 10]), (10, [1, 2, 3, 7, 8, 9, 10]), (9, [1, 2, 3, 7, 8, 9, 10, 40]), (8, [1, 2, 3, 7, 8, 9, 10]), (7, [1, 2, 3, 7, 8, 9, 10, 28]), (5, [1, 2, 3, 7, 8, 9, 10, 22]), (4, [1, 2, 3, 7, 8, 9, 10]), (3, [1, 2, 3, 7, 8, 9]), (2, [6]), (1, [1, 2, 3, 16]), (0, [1, 2, 3])] i := by kernel_rfl
theorem MF9 : TryzG.mode 9 = 0 := by kernel_rfl
theorem KF10 (i : Nat) : TryzG.kept 10 i = lookK [(8, [4]), (5, [1, 2, 5]), (7, [4]), (6, [1, 2, 5, 34]), (4, [1, 2, 5, 24]), (3, [1, 2, 5]), (2, [4]), (1, [1, 2, 19]), (0, [1, 2])] i := by kernel_rfl
theorem KF11 (i : Nat) : TryzG.kept 11 i = lookK [(5, [2]), (4, [2]), (3, [1, 49]), (2, [1, 3, 4]), (1, [1, 3]), (0, [1])] i := by kernel_rfl
theorem KF13 (i : Nat) : TryzG.kept 13 i = lookK [(17, [2]), (16, [3]), (15, [1, 3, 22, 23, 24]), (14, [1, 3, 5, 22, 23, 24, 29, 30, 31]), (13, [1, 3, 5, 22, 23, 24, 29, 30, 31]), (12, [1, 3, 5, 7, 22, 23, 24, 29, 30, 31]), (11, [1, 3, 5, 22, 23, 24, 29, 30, 31, 32]), (10, [1, 3, 5, 22, 23, 24, 29, 30, 31]), (9, [1, 3, 5, 22, 23, 24]), (8, [1, 3, 22, 23, 24, 25]), (7, [1, 3, 22, 23, 24]), (6, [2]), (5, [1, 3, 17]), (4, [1, 3, 12]), (3, [1, 3, 9, 10]), (2, [1, 3, 9]), (1, [1, 3]), (0, [1])] i := by kernel_rfl
theorem MF36 : TryzG.mode 36 = 0 := by kernel_rfl
theorem KF14 (i : Nat) : TryzG.kept 14 i = lookK [(4, [2]), (3, [3]), (2, [1, 3, 21]), (1, [1, 3]), (0, [1])] i := by kernel_rfl
theorem MF37 : TryzG.mode 37 = 0 := by kernel_rfl
theorem KF16 (i : Nat) : TryzG.kept 16 i = lookK [(1, [4]), (0, [1, 2])] i := by kernel_rfl
theorem KF17 (i : Nat) : TryzG.kept 17 i = lookK [(24, [8, 9]), (23, [3, 8, 10]), (22, [3, 8, 10, 15]), (21, [0, 2, 3, 5, 8, 10, 15]), (20, [0, 2, 3, 5, 8, 10, 97]), (7, [0, 2, 3, 5, 8, 10]), (6, [0, 2, 3, 5, 8, 10]), (5, [0, 2, 3, 5, 8, 10, 29]), (19, [0, 2, 3, 5, 8, 10, 77, 78]), (18, [0, 2, 3, 5, 8, 10, 77, 78]), (17, [0, 2, 3, 5, 8, 10, 77, 78, 79]), (16, [0, 2, 3, 5, 8, 10, 77, 78]), (15, [0, 2, 3, 5, 8, 10, 13, 74]), (14, [0, 2, 3, 5, 8, 10, 13, 14]), (13, [0, 2, 3, 5, 8, 10, 46, 47, 48]), (12, [0, 2, 3, 5, 8, 10, 46, 47, 48]), (11, [0, 2, 3, 5, 8, 10, 12, 46, 47, 48]), (10, [0, 2, 3, 5, 8, 10, 46, 47, 48, 49]), (9, [0, 2, 3, 5, 8, 10, 46, 47, 48]), (8, [0, 2, 3, 5, 8, 10, 43]), (4, [0, 2, 3, 5, 8, 10, 22, 23]), (3, [0, 2, 3, 5, 8, 10, 22, 23]), (2, [0, 2, 3, 5, 8, 10, 22]), (1, [0, 2, 3, 5, 8, 10]), (0, [0, 2, 3, 5, 8])] i := by kernel_rfl
theorem MF43 : TryzG.mode 43 = 0 := by kernel_rfl
theorem MF42 : TryzG.mode 42 = 0 := by kernel_rfl
theorem MF41 : TryzG.mode 41 = 0 := by kernel_rfl
theorem KF18 (i : Nat) : TryzG.kept 18 i = lookK [(24, [8, 9]), (11, [3, 5, 8, 10, 12, 14]), (13, [3, 5, 8, 10, 12, 14]), (12, [3, 5, 8, 10, 12, 14]), (10, [3, 5, 8, 10, 12, 14, 62]), (9, [3, 5, 8, 10, 12, 14]), (8, [3, 5, 8, 10, 12]), (6, [0, 2, 3, 5, 8, 10, 11]), (7, [0, 2, 3, 5, 8, 10, 11]), (5, [0, 2, 3, 5, 8, 10, 11, 30]), (4, [0, 2, 3, 5, 8, 10, 11]), (23, [3, 8, 10]), (22, [8, 10, 16]), (21, [8, 10, 15, 16]), (20, [0, 2, 3, 5, 8, 10, 96]), (17, [0, 2, 3, 5, 8, 10]), (19, [0, 2, 3, 5, 8, 10]), (18, [0, 2, 3, 5, 8, 10]), (16, [0, 2, 3, 5, 8, 10, 79]), (15, [0, 2, 3, 5, 8, 10, 73]), (14, [0, 2, 3, 5, 8, 10, 23, 73]), (3, [0, 2, 3, 5, 8, 10, 23, 24]), (2, [0, 2, 3, 5, 8, 10, 23]), (1, [0, 2, 3, 5, 8, 10]), (0, [0, 2, 3, 5, 8])] i := by kernel_rfl
theorem MF44 : TryzG.mode 44 = 0 := by kernel_rfl
theorem MF45 : TryzG.mode 45 = 0 := by kernel_rfl
theorem KF19 (i : Nat) : TryzG.kept 19 i = lookK [(13, [4]), (10, [2, 3, 6]), (12, [4]), (11, [2, 3, 6, 47]), (9, [2, 3, 6, 33]), (8, [2, 3, 6]), (5, [2, 3, 5]), (7, [4]), (6, [2, 3, 5, 28]), (4, [2, 3, 5, 15]), (3, [2, 3, 5]), (2, [4]), (1, [2, 3, 10]), (0, [2, 3])] i := by kernel_rfl
theorem KF20 (i : Nat) : TryzG.kept 20 i = lookK [(13, [4]), (11, [1, 2, 4, 5, 8]), (12, [1, 2, 4, 5, 8]), (10, [1, 2, 4, 5, 8, 48]), (9, [1, 2, 4, 5, 8]), (4, [1, 2, 4, 5, 6]), (8, [1, 2, 4, 5, 6]), (7, [1, 2, 4, 5, 6, 7]), (6, [1, 2, 4, 5, 6, 7, 33]), (5, [1, 2, 4, 5, 6, 7]), (3, [1, 2, 4, 5, 6, 18]), (2, [1, 2, 4, 5, 6]), (1, [1, 2, 4, 5]), (0, [1, 2, 4])] i := by kernel_rfl
theorem KF21 (i : Nat) : TryzG.kept 21 i = lookK [(14, [6, 7]), (13, [0, 6, 8, 14, 15, 16]), (12, [6, 7]), (11, [0, 6, 8, 9, 11, 14, 15, 16, 47]), (8, [0, 6, 8, 9, 11, 14, 15, 16]), (10, [0, 6, 8, 9, 11, 14, 15, 16]), (6, [0, 6, 8, 9, 11, 14, 15, 16]), (9, [0, 6, 8, 9, 11, 14, 15, 16, 35]), (7, [0, 6, 8, 9, 10, 11, 14, 15, 16, 25]), (5, [0, 6, 8, 9, 10, 11, 14, 15, 16]), (4, [0, 6, 8, 9, 10, 14, 15, 16]), (3, [0, 6, 8, 14, 15, 16, 17]), (2, [0, 6, 8, 14, 15, 16]), (1, [0, 2, 6, 8]), (0, [0, 2, 4, 6])] i := by kernel_rfl
theorem MF47 : TryzG.mode 47 = 0 := by kernel_rfl
theorem MF46 : TryzG.mode 46 = 0 := by kernel_rfl
theorem KF22 (i : Nat) : TryzG.kept 22 i = lookK [(8, [6, 7, 8]), (3, [0, 2, 4, 6, 9]), (7, [0, 2, 4, 6, 9]), (6, [6, 7, 8]), (5, [0, 2, 4, 6, 9, 10, 11, 29]), (4, [0, 2, 4, 6, 9, 10, 11]), (2, [0, 2, 4, 6, 9, 15]), (1, [0, 2, 4, 6, 9]), (0, [0, 2, 4, 6])] i := by kernel_rfl
theorem MF48 : TryzG.mode 48 = 0 := by kernel_rfl
theorem KF23 (i : Nat) : TryzG.kept 23 i = lookK [(14, [4]), (13, [1, 4, 5, 42, 43, 44]), (12, [1, 4, 5, 42, 43, 44]), (11, [1, 4, 5, 9, 42, 43, 44]), (10, [1, 4, 5, 42, 43, 44, 45]), (9, [1, 4, 5, 42, 43, 44]), (8, [1, 2, 4, 5, 16, 17, 18]), (7, [1, 2, 4, 5, 16, 17, 18]), (6, [1, 2, 4, 5, 7, 16, 17, 18]), (5, [1, 2, 4, 5, 7, 16, 17, 18, 29]), (4, [1, 2, 4, 5, 7, 16, 17, 18]), (3, [1, 2, 4, 5, 16, 17, 18, 19]), (2, [1, 2, 4, 5, 16, 17, 18]), (1, [1, 2, 4, 5]), (0, [1, 2, 4])] i := by kernel_rfl
theorem KF24 (i : Nat) : TryzG.kept 24 i = lookK [(2, [6]), (1, [1, 2, 7, 8]), (0, [0, 1, 2])] i := by kernel_rfl
theorem MF49 : TryzG.mode 49 = 0 := by kernel_rfl
theorem KF25 (i : Nat) : TryzG.kept 25 i = lookK [(8, [4]), (5, [0, 1, 5]), (7, [4]), (6, [0, 1, 5, 25]), (4, [0, 1, 5, 14]), (3, [0, 1, 5]), (2, [4]), (1, [0, 1, 10]), (0, [0, 1])] i := by kernel_rfl
theorem KF26 (i : Nat) : TryzG.kept 26 i = lookK [(10, [2]), (9, [3]), (8, [1, 3, 27]), (4, [1, 3]), (7, [1, 3]), (6, [1, 3, 12]), (5, [1, 3, 5, 12]), (3, [1, 3, 5, 6]), (2, [1, 3, 5]), (1, [1, 3]), (0, [1])] i := by kernel_rfl
theorem KF27 (i : Nat) : TryzG.kept 27 i = lookK [(1, [4]), (0, [2, 3])] i := by kernel_rfl
theorem MF50 : TryzG.mode 50 = 0 := by kernel_rfl
theorem KF28 (i : Nat) : TryzG.kept 28 i = lookK [(8, [4]), (5, [2, 3, 5]), (7, [4]), (6, [2, 3, 5, 54]), (4, [2, 3, 5, 40]), (3, [2, 3, 5]), (2, [4]), (1, [2, 3, 35]), (0, [2, 3])] i := by kernel_rfl
theorem KF29 (i : Nat) : TryzG.kept 29 i = lookK [(1, [2]), (0, [1])] i := by kernel_rfl
theorem KF30 (i : Nat) : TryzG.kept 30 i = lookK [(1, [2]), (0, [1])] i := by kernel_rfl
theorem KF31 (i : Nat) : TryzG.kept 31 i = lookK [(8, [4]), (5, [0, 1, 5]), (7, [4]), (6, [0, 1, 5, 25]), (4, [0, 1, 5, 14]), (3, [0, 1, 5]), (2, [4]), (1, [0, 1, 10]), (0, [0, 1])] i := by kernel_rfl
theorem KF32 (i : Nat) : TryzG.kept 32 i = lookK [(3, [4]), (2, [4]), (1, [2, 3, 8]), (0, [2, 3])] i := by kernel_rfl
theorem MF51 : TryzG.mode 51 = 0 := by kernel_rfl
theorem KF33 (i : Nat) : TryzG.kept 33 i = lookK [(26, [4]), (9, [5, 6, 7, 8]), (10, [5, 6, 7, 8]), (8, [5, 6, 7, 8, 28]), (7, [5, 6, 7, 8]), (24, [5, 10, 11, 12]), (25, [5, 10, 11, 12]), (23, [5, 10, 11, 12, 111]), (22, [5, 10, 11, 12]), (21, [5, 10, 11]), (20, [4]), (19, [2, 3, 5, 80]), (18, [4]), (17, [2, 3, 5, 76]), (15, [2, 3, 5, 6, 7, 9]), (16, [2, 3, 5, 6, 7, 9]), (14, [2, 3, 5, 6, 7, 9, 58]), (13, [2, 3, 5, 6, 7, 9]), (12, [2, 3, 5, 6, 7, 52]), (11, [2, 3, 5, 6, 7, 22, 52]), (6, [2, 3, 5, 6, 7, 22, 23]), (5, [2, 3, 5, 6, 7, 22]), (4, [2, 3, 5, 6, 7]), (3, [2, 3, 5]), (2, [4]), (1, [2, 3, 16]), (0, [2, 3])] i := by kernel_rfl
theorem KF34 (i : Nat) : TryzG.kept 34 i = lookK [(9, [2]), (7, [1, 3, 4, 5]), (8, [1, 3, 4, 5]), (6, [1, 3, 4, 5, 34]), (5, [1, 3, 4, 5]), (4, [1, 3, 4]), (3, [2]), (2, [1, 3, 19]), (1, [1, 3]), (0, [1])] i := by kernel_rfl
theorem KF35 (i : Nat) : TryzG.kept 35 i = lookK [(18, [4]), (4, [0, 3, 5, 6]), (9, [0, 3, 5, 6, 7]), (17, [0, 3, 5, 6, 7]), (16, [0, 3, 5, 6, 7, 62]), (14, [0, 3, 5, 6, 7, 8, 9]), (15, [0, 3, 5, 6, 7, 8, 9]), (13, [0, 3, 5, 6, 7, 8, 9, 45]), (12, [0, 3, 5, 6, 7, 8, 9]), (11, [0, 3, 5, 6, 7, 8]), (10, [0, 3, 5, 6, 7, 41]), (8, [0, 3, 5, 6, 7, 29]), (7, [0, 3, 5, 6, 7]), (6, [4]), (5, [0, 3, 5, 6, 25]), (3, [0, 3, 5, 6, 16]), (2, [0, 3, 5, 6]), (1, [0, 3, 5]), (0, [0, 3])] i := by kernel_rfl
theorem KF36 (i : Nat) : TryzG.kept 36 i = lookK [(1, [2]), (0, [1])] i := by kernel_rfl
theorem KF37 (i : Nat) : TryzG.kept 37 i = lookK [(7, [2]), (3, [2]), (6, [2]), (5, [1, 9]), (4, [1, 4, 9]), (2, [1, 4, 5]), (1, [1, 4]), (0, [1])] i := by kernel_rfl
theorem KF41 (i : Nat) : TryzG.kept 41 i = lookK [(7, [4]), (6, [0, 1, 7, 8]), (5, [4]), (4, [0, 1, 5, 7, 8, 16]), (3, [0, 1, 5, 7, 8]), (2, [0, 1, 7, 8, 9]), (1, [0, 1, 7, 8]), (0, [0, 1])] i := by kernel_rfl
theorem KF42 (i : Nat) : TryzG.kept 42 i = lookK [(4, [4, 5]), (3, [4, 6, 7]), (2, [4, 5]), (1, [0, 1, 4, 9]), (0, [0, 1, 4])] i := by kernel_rfl
theorem MF61 : TryzG.mode 61 = 0 := by kernel_rfl
theorem KF43 (i : Nat) : TryzG.kept 43 i = lookK [(1, [2]), (0, [0])] i := by kernel_rfl
theorem KF44 (i : Nat) : TryzG.kept 44 i = lookK [(6, [4]), (3, [0, 1, 5]), (5, [4]), (4, [0, 1, 5, 17]), (2, [0, 1, 5, 9]), (1, [0, 1, 5]), (0, [0, 1])] i := by kernel_rfl
theorem KF45 (i : Nat) : TryzG.kept 45 i = lookK [(18, [4, 5]), (8, [0, 1, 4, 7]), (12, [0, 1, 4, 7, 8, 9]), (17, [4, 5]), (16, [4, 10]), (15, [4, 8, 10]), (14, [0, 1, 4, 7, 8, 9, 10, 75]), (13, [0, 1, 4, 7, 8, 9, 10]), (11, [0, 1, 4, 7, 8, 9, 60]), (10, [0, 1, 4, 7, 8, 9]), (9, [0, 1, 4, 7, 8]), (7, [0, 1, 4, 7, 46]), (6, [0, 1, 4, 7]), (3, [0, 1, 4, 6]), (5, [4, 5]), (4, [0, 1, 4, 6, 31]), (2, [0, 1, 4, 6, 18]), (1, [0, 1, 4, 6]), (0, [0, 1, 4])] i := by kernel_rfl
theorem MF69 : TryzG.mode 69 = 0 := by kernel_rfl
theorem KF46 (i : Nat) : TryzG.kept 46 i = lookK [(11, [6, 7]), (10, [0, 2, 4, 6, 8, 30, 31, 32]), (9, [6, 7]), (8, [4, 6, 12]), (7, [0, 2, 4, 6, 8, 11, 30, 31, 32, 39]), (6, [0, 2, 4, 6, 8, 11, 30, 31, 32]), (5, [0, 2, 4, 6, 8, 30, 31, 32, 33]), (4, [0, 2, 4, 6, 8, 30, 31, 32]), (3, [6, 7]), (2, [0, 2, 4, 6, 8, 27]), (1, [0, 2, 4, 6, 8, 9]), (0, [0, 2, 4, 6])] i := by kernel_rfl
theorem KF47 (i : Nat) : TryzG.kept 47 i = lookK [(3, [4]), (2, [4]), (1, [0, 1, 6]), (0, [0, 1])] i := by kernel_rfl
theorem KF48 (i : Nat) : TryzG.kept 48 i = lookK [(14, [6, 7]), (10, [0, 2, 4, 6, 8, 10]), (13, [6, 7]), (12, [4, 6, 11]), (11, [0, 2, 4, 6, 8, 10, 63]), (9, [0, 2, 4, 6, 8, 10, 53]), (8, [0, 2, 4, 6, 8, 10]), (7, [6, 7]), (6, [0, 2, 4, 6, 8, 47]), (5, [0, 2, 4, 6, 8, 9]), (4, [6, 7]), (3, [6, 7]), (2, [4, 6, 28]), (1, [0, 2, 4, 6, 14]), (0, [0, 2, 4, 6])] i := by kernel_rfl
theorem KF49 (i : Nat) : TryzG.kept 49 i = lookK [(14, [2, 3]), (9, [4, 6, 7, 8]), (13, [4, 6, 7, 8]), (12, [4, 6, 8]), (11, [6, 7, 8, 9, 49]), (10, [6, 7, 8, 9, 10]), (8, [4, 6, 7, 8, 33]), (7, [4, 6, 7, 8]), (6, [4, 6, 7]), (5, [2, 3]), (4, [4, 23]), (3, [4, 5]), (2, [2, 3]), (1, [0, 12]), (0, [0])] i := by kernel_rfl
theorem KF50 (i : Nat) : TryzG.kept 50 i = lookK [(10, [6]), (9, [1, 2, 15, 16, 17]), (8, [6]), (7, [1, 2, 15, 16, 17, 30]), (6, [1, 2, 8, 9, 15, 16, 17]), (5, [1, 2, 7, 8, 15, 16, 17]), (4, [1, 2, 15, 16, 17, 18]), (3, [1, 2, 15, 16, 17]), (2, [6]), (1, [0, 1, 2, 14]), (0, [0, 1, 2])] i := by kernel_rfl
theorem KF51 (i : Nat) : TryzG.kept 51 i = lookK [(20, [4]), (17, [2, 3, 5, 6, 39, 40]), (16, [2, 3, 5, 6, 39, 40]), (15, [2, 3, 5, 6, 39, 40]), (14, [2, 3, 5, 6, 8, 39, 40, 45]), (13, [2, 3, 5, 6, 8, 39, 40]), (12, [2, 3, 5, 6, 39, 40, 41]), (11, [2, 3, 5, 6, 39, 40]), (10, [2, 3, 5, 6, 17, 18]), (9, [2, 3, 5, 6, 17, 18]), (8, [2, 3, 5, 6, 7, 17, 18]), (7, [2, 3, 5, 6, 17, 18, 19]), (6, [2, 3, 5, 6, 17, 18]), (19, [5]), (18, [2, 3, 5, 6, 74]), (5, [2, 3, 5, 6, 11, 12]), (4, [2, 3, 5, 6, 11, 12]), (3, [2, 3, 5, 6, 11]), (2, [2, 3, 5, 6]), (1, [2, 3, 5]), (0, [2, 3])] i := by kernel_rfl
theorem KF61 (i : Nat) : TryzG.kept 61 i = lookK [(3, [2]), (2, [1, 2]), (1, [1, 2]), (0, [1, 2])] i := by kernel_rfl
theorem MF100 : TryzG.mode 100 = 0 := by kernel_rfl
theorem MF99 : TryzG.mode 99 = 0 := by kernel_rfl
theorem KF70 (i : Nat) : TryzG.kept 70 i = lookK [(4, [0, 1, 2, 7, 8]), (3, [0, 1, 2, 7, 8]), (2, [0, 1, 2, 5, 7, 8]), (1, [0, 1, 2, 7, 8, 9]), (0, [0, 1, 2, 7, 8])] i := by kernel_rfl
theorem MF70 : TryzG.mode 70 = 1 := by kernel_rfl
theorem KF99 (i : Nat) : TryzG.kept 99 i = lookK [(1, [2]), (0, [0])] i := by kernel_rfl
theorem KF100 (i : Nat) : TryzG.kept 100 i = lookK [(8, [2]), (7, [3, 6, 7, 8]), (6, [3, 6, 7, 8]), (5, [3, 5, 6, 7, 8]), (4, [3, 5, 6, 7, 8]), (3, [3, 6, 7, 8, 9]), (2, [3, 6, 7, 8]), (1, [0, 3]), (0, [0])] i := by kernel_rfl
theorem MF106 : TryzG.mode 106 = 0 := by kernel_rfl
theorem KF106 (i : Nat) : TryzG.kept 106 i = lookK [(9, [2]), (8, [1, 2]), (7, [1, 2, 3, 11, 12, 13]), (6, [1, 2, 3, 11, 12, 13]), (5, [1, 2, 3, 5, 11, 12, 13]), (4, [1, 2, 3, 11, 12, 13, 14]), (3, [1, 2, 3, 11, 12, 13]), (2, [1, 2, 3]), (1, [1, 2]), (0, [1, 2])] i := by kernel_rfl
theorem YT0 : TryzG.size 0 = some 1 ∧ TryzG.bytes 0 = some 0 ∧ TryzG.agg 0 = some false ∧ TryzG.elem0 0 = 0 := ⟨by kernel_rfl, by kernel_rfl, by kernel_rfl, by kernel_rfl⟩
theorem YT1 : TryzG.size 1 = some 1 ∧ TryzG.bytes 1 = some 8 ∧ TryzG.agg 1 = some false ∧ TryzG.zeroDV 1 = some (.nilf) ∧ TryzG.zero 1 = some [.dv (.nilf)] ∧ TryzG.elem0 1 = 0 := ⟨by kernel_rfl, by kernel_rfl, by kernel_rfl, by kernel_rfl, by kernel_rfl, by kernel_rfl⟩
theorem YT2 : TryzG.size 2 = some 1 ∧ TryzG.bytes 2 = some 8 ∧ TryzG.agg 2 = some false ∧ TryzG.zeroDV 2 = some (.int .i64 0) ∧ TryzG.zero 2 = some [.dv (.int .i64 0)] ∧ TryzG.elem0 2 = 0 := ⟨by kernel_rfl, by kernel_rfl, by kernel_rfl, by kernel_rfl, by kernel_rfl, by kernel_rfl⟩
theorem YT3 : TryzG.size 3 = some 1 ∧ TryzG.bytes 3 = some 8 ∧ TryzG.agg 3 = some false ∧ TryzG.zeroDV 3 = some (.int .i64 0) ∧ TryzG.zero 3 = some [.dv (.int .i64 0)] ∧ TryzG.elem0 3 = 0 := ⟨by kernel_rfl, by kernel_rfl, by kernel_rfl, by kernel_rfl, by kernel_rfl, by kernel_rfl⟩
theorem YT4 : TryzG.size 4 = some 1 ∧ TryzG.bytes 4 = some 1 ∧ TryzG.agg 4 = some false ∧ TryzG.zeroDV 4 = some (.bool false) ∧ TryzG.zero 4 = some [.dv (.bool false)] ∧ TryzG.elem0 4 = 0 := ⟨by kernel_rfl, by kernel_rfl, by kernel_rfl, by kernel_rfl, by kernel_rfl, by kernel_rfl⟩
theorem YT5 : TryzG.size 5 = some 1 ∧ TryzG.bytes 5 = some 1 ∧ TryzG.agg 5 = some false ∧ TryzG.zeroDV 5 = some (.int .u8 0) ∧ TryzG.zero 5 = some [.dv (.int .u8 0)] ∧ TryzG.elem0 5 = 0 := ⟨by kernel_rfl, by kernel_rfl, by kernel_rfl, by kernel_rfl, by kernel_rfl, by kernel_rfl⟩
theorem YT6 : TryzG.size 6 = some 1 ∧ TryzG.bytes 6 = some 1 ∧ TryzG.agg 6 = some false ∧ TryzG.zeroDV 6 = some (.int .u8 0) ∧ TryzG.zero 6 = some [.dv (.int .u8 0)] ∧ TryzG.elem0 6 = 0 := ⟨by kernel_rfl, by kernel_rfl, by kernel_rfl, by kernel_rfl, by kernel_rfl, by kernel_rfl⟩
theorem YT7 : TryzG.size 7 = some 4 ∧ TryzG.bytes 7 = some 24 ∧ TryzG.agg 7 = some true ∧ TryzG.zeroDV 7 = some (.agg [.int .i64 0, .int .i64 0, .bool false, .int .u8 0]) ∧ TryzG.zero 7 = some [.dv (.int .i64 0), .dv (.int .i64 0), .dv (.bool false), .dv (.int .u8 0)] ∧ TryzG.elem0 7 = 0 := ⟨by kernel_rfl, by kernel_rfl, by kernel_rfl, by kernel_rfl, by kernel_rfl, by kernel_rfl⟩
theorem YT8 : TryzG.size 8 = some 4 ∧ TryzG.bytes 8 = some 24 ∧ TryzG.agg 8 = some true ∧ TryzG.zeroDV 8 = some (.agg [.int .i64 0, .int .i64 0, .bool false, .int .u8 0]) ∧ TryzG.zero 8 = some [.dv (.int .i64 0), .dv (.int .i64 0), .dv (.bool false), .dv (.int .u8 0)] ∧ TryzG.elem0 8 = 0 := ⟨by kernel_rfl, by kernel_rfl, by kernel_rfl, by kernel_rfl, by kernel_rfl, by kernel_rfl⟩
theorem YT9 : TryzG.size 9 = some 1 ∧ TryzG.bytes 9 = some 16 ∧ TryzG.agg 9 = some false ∧ TryzG.zeroDV 9 = some (.str ⟨#[]⟩) ∧ TryzG.zero 9 = some [.dv (.str ⟨#[]⟩)] ∧ TryzG.elem0 9 = 0 := ⟨by kernel_rfl, by kernel_rfl, by kernel_rfl, by kernel_rfl, by kernel_rfl, by kernel_rfl⟩
theorem YT10 : TryzG.size 10 = some 1 ∧ TryzG.bytes 10 = some 16 ∧ TryzG.agg 10 = some false ∧ TryzG.zeroDV 10 = some (.str ⟨#[]⟩) ∧ TryzG.zero 10 = some [.dv (.str ⟨#[]⟩)] ∧ TryzG.elem0 10 = 0 := ⟨by kernel_rfl, by kernel_rfl, by kernel_rfl, by kernel_rfl, by kernel_rfl, by kernel_rfl⟩
theorem YT12 : TryzG.size 12 = some 1 ∧ TryzG.bytes 12 = some 8 ∧ TryzG.agg 12 = some false ∧ TryzG.zeroDV 12 = some (.int .u64 0) ∧ TryzG.zero 12 = some [.dv (.int .u64 0)] ∧ TryzG.elem0 12 = 0 := ⟨by kernel_rfl, by kernel_rfl, by kernel_rfl, by kernel_rfl, by kernel_rfl, by kernel_rfl⟩
theorem YT13 : TryzG.size 13 = some 2 ∧ TryzG.bytes 13 = some 24 ∧ TryzG.agg 13 = some true ∧ TryzG.zeroDV 13 = some (.agg [.str ⟨#[]⟩, .int .u64 0]) ∧ TryzG.zero 13 = some [.dv (.str ⟨#[]⟩), .dv (.int .u64 0)] ∧ TryzG.elem0 13 = 0 := ⟨by kernel_rfl, by kernel_rfl, by kernel_rfl, by kernel_rfl, by kernel_rfl, by kernel_rfl⟩
theorem YT14 : TryzG.size 14 = some 2 ∧ TryzG.bytes 14 = some 24 ∧ TryzG.agg 14 = some true ∧ TryzG.zeroDV 14 = some (.agg [.str ⟨#[]⟩, .int .u64 0]) ∧ TryzG.zero 14 = some [.dv (.str ⟨#[]⟩), .dv (.int .u64 0)] ∧ TryzG.elem0 14 = 0 := ⟨by kernel_rfl, by kernel_rfl, by kernel_rfl, by kernel_rfl, by kernel_rfl, by kernel_rfl⟩
theorem YT16 : TryzG.size 16 = some 1 ∧ TryzG.bytes 16 = some 8 ∧ TryzG.agg 16 = some false ∧ TryzG.zeroDV 16 = some (.nilp) ∧ TryzG.zero 16 = some [.dv (.nilp)] ∧ TryzG.elem0 16 = 0 := ⟨by kernel_rfl, by kernel_rfl, by kernel_rfl, by kernel_rfl, by kernel_rfl, by kernel_rfl⟩
theorem YT17 : TryzG.size 17 = some 1 ∧ TryzG.bytes 17 = some 8 ∧ TryzG.agg 17 = some false ∧ TryzG.zeroDV 17 = some (.nilp) ∧ TryzG.zero 17 = some [.dv (.nilp)] ∧ TryzG.elem0 17 = 0 := ⟨by kernel_rfl, by kernel_rfl, by kernel_rfl, by kernel_rfl, by kernel_rfl, by kernel_rfl⟩
theorem YT20 : TryzG.size 20 = some 1 ∧ TryzG.bytes 20 = some 16 ∧ TryzG.agg 20 = some false ∧ TryzG.zeroDV 20 = some (.nili) ∧ TryzG.zero 20 = some [.dv (.nili)] ∧ TryzG.elem0 20 = 0 := ⟨by kernel_rfl, by kernel_rfl, by kernel_rfl, by kernel_rfl, by kernel_rfl, by kernel_rfl⟩
theorem YT21 : TryzG.size 21 = some 1 ∧ TryzG.bytes 21 = some 4 ∧ TryzG.agg 21 = some false ∧ TryzG.zeroDV 21 = some (.int .i32 0) ∧ TryzG.zero 21 = some [.dv (.int .i32 0)] ∧ TryzG.elem0 21 = 0 := ⟨by kernel_rfl, by kernel_rfl, by kernel_rfl, by kernel_rfl, by kernel_rfl, by kernel_rfl⟩
theorem YT22 : TryzG.size 22 = some 1 ∧ TryzG.bytes 22 = some 24 ∧ TryzG.agg 22 = some false ∧ TryzG.zeroDV 22 = some (.lst []) ∧ TryzG.zero 22 = some [.nils 3] ∧ TryzG.elem0 22 = 3 := ⟨by kernel_rfl, by kernel_rfl, by kernel_rfl, by kernel_rfl, by kernel_rfl, by kernel_rfl⟩
theorem YT23 : TryzG.size 23 = some 1 ∧ TryzG.bytes 23 = some 24 ∧ TryzG.agg 23 = some false ∧ TryzG.zeroDV 23 = some (.lst []) ∧ TryzG.zero 23 = some [.nils 25] ∧ TryzG.elem0 23 = 25 := ⟨by kernel_rfl, by kernel_rfl, by kernel_rfl, by kernel_rfl, by kernel_rfl, by kernel_rfl⟩
theorem YT24 : TryzG.size 24 = some 4 ∧ TryzG.bytes 24 = some 72 ∧ TryzG.agg 24 = some true ∧ TryzG.zeroDV 24 = some (.agg [.int .i64 0, .str ⟨#[]⟩, .lst [], .lst []]) ∧ TryzG.zero 24 = some [.dv (.int .i64 0), .dv (.str ⟨#[]⟩), .nils 3, .nils 25] ∧ TryzG.elem0 24 = 0 := ⟨by kernel_rfl, by kernel_rfl, by kernel_rfl, by kernel_rfl, by kernel_rfl, by kernel_rfl⟩
theorem YT25 : TryzG.size 25 = some 4 ∧ TryzG.bytes 25 = some 72 ∧ TryzG.agg 25 = some true ∧ TryzG.zeroDV 25 = some (.agg [.int .i64 0, .str ⟨#[]⟩, .lst [], .lst []]) ∧ TryzG.zero 25 = some [.dv (.int .i64 0), .dv (.str ⟨#[]⟩), .nils 3, .nils 25] ∧ TryzG.elem0 25 = 0 := ⟨by kernel_rfl, by kernel_rfl, by kernel_rfl, by kernel_rfl, by kernel_rfl, by kernel_rfl⟩
theorem YT29 : TryzG.size 29 = some 1 ∧ TryzG.bytes 29 = some 24 ∧ TryzG.agg 29 = some false ∧ TryzG.zeroDV 29 = some (.lst []) ∧ TryzG.zero 29 = some [.nils 32] ∧ TryzG.elem0 29 = 32 := ⟨by kernel_rfl, by kernel_rfl, by kernel_rfl, by kernel_rfl, by kernel_rfl, by kernel_rfl⟩
theorem YT32 : TryzG.size 32 = some 2 ∧ TryzG.bytes 32 = some 16 ∧ TryzG.agg 32 = some true ∧ TryzG.zeroDV 32 = some (.agg [.int .i64 0, .int .i64 0]) ∧ TryzG.zero 32 = some [.dv (.int .i64 0), .dv (.int .i64 0)] ∧ TryzG.elem0 32 = 0 := ⟨by kernel_rfl, by kernel_rfl, by kernel_rfl, by kernel_rfl, by kernel_rfl, by kernel_rfl⟩
theorem YT33 : TryzG.size 33 = some 1 ∧ TryzG.bytes 33 = some 24 ∧ TryzG.agg 33 = some false ∧ TryzG.zeroDV 33 = some (.lst []) ∧ TryzG.zero 33 = some [.nils 9] ∧ TryzG.elem0 33 = 9 := ⟨by kernel_rfl, by kernel_rfl, by kernel_rfl, by kernel_rfl, by kernel_rfl, by kernel_rfl⟩
theorem YT34 : TryzG.size 34 = some 1 ∧ TryzG.bytes 34 = some 24 ∧ TryzG.agg 34 = some false ∧ TryzG.zeroDV 34 = some (.lst []) ∧ TryzG.zero 34 = some [.nils 36] ∧ TryzG.elem0 34 = 36 := ⟨by kernel_rfl, by kernel_rfl, by kernel_rfl, by kernel_rfl, by kernel_rfl, by kernel_rfl⟩
theorem YT36 : TryzG.size 36 = some 4 ∧ TryzG.bytes 36 = some 72 ∧ TryzG.agg 36 = some true ∧ TryzG.zeroDV 36 = some (.agg [.int .i64 0, .str ⟨#[]⟩, .lst [], .lst []]) ∧ TryzG.zero 36 = some [.dv (.int .i64 0), .dv (.str ⟨#[]⟩), .nils 9, .nils 36] ∧ TryzG.elem0 36 = 0 := ⟨by kernel_rfl, by kernel_rfl, by kernel_rfl, by kernel_rfl, by kernel_rfl, by kernel_rfl⟩
theorem YT37 : TryzG.size 37 = some 1 ∧ TryzG.bytes 37 = some 8 ∧ TryzG.agg 37 = some false ∧ TryzG.zeroDV 37 = some (.nilp) ∧ TryzG.zero 37 = some [.dv (.nilp)] ∧ TryzG.elem0 37 = 0 := ⟨by kernel_rfl, by kernel_rfl, by kernel_rfl, by kernel_rfl, by kernel_rfl, by kernel_rfl⟩
theorem YT38 : TryzG.size 38 = some 1 ∧ TryzG.bytes 38 = some 8 ∧ TryzG.agg 38 = some false ∧ TryzG.zeroDV 38 = some (.nilp) ∧ TryzG.zero 38 = some [.dv (.nilp)] ∧ TryzG.elem0 38 = 0 := ⟨by kernel_rfl, by kernel_rfl, by kernel_rfl, by kernel_rfl, by kernel_rfl, by kernel_rfl⟩
theorem YT39 : TryzG.size 39 = some 1 ∧ TryzG.bytes 39 = some 0 ∧ TryzG.agg 39 = some false ∧ TryzG.elem0 39 = 0 := ⟨by kernel_rfl, by kernel_rfl, by kernel_rfl, by kernel_rfl⟩
theorem YT40 : TryzG.size 40 = some 1 ∧ TryzG.bytes 40 = some 8 ∧ TryzG.agg 40 = some false ∧ TryzG.zeroDV 40 = some (.nilf) ∧ TryzG.zero 40 = some [.dv (.nilf)] ∧ TryzG.elem0 40 = 0 := ⟨by kernel_rfl, by kernel_rfl, by kernel_rfl, by kernel_rfl, by kernel_rfl, by kernel_rfl⟩
theorem YT42 : TryzG.size 42 = some 1 ∧ TryzG.bytes 42 = some 0 ∧ TryzG.agg 42 = some false ∧ TryzG.elem0 42 = 0 := ⟨by kernel_rfl, by kernel_rfl, by kernel_rfl, by kernel_rfl⟩
theorem YT44 : TryzG.size 44 = some 1 ∧ TryzG.bytes 44 = some 8 ∧ TryzG.agg 44 = some false ∧ TryzG.zeroDV 44 = some (.nilf) ∧ TryzG.zero 44 = some [.dv (.nilf)] ∧ TryzG.elem0 44 = 0 := ⟨by kernel_rfl, by kernel_rfl, by kernel_rfl, by kernel_rfl, by kernel_rfl, by kernel_rfl⟩
theorem YT45 : TryzG.size 45 = some 1 ∧ TryzG.bytes 45 = some 8 ∧ TryzG.agg 45 = some false ∧ TryzG.zeroDV 45 = some (.nilf) ∧ TryzG.zero 45 = some [.dv (.nilf)] ∧ TryzG.elem0 45 = 0 := ⟨by kernel_rfl, by kernel_rfl, by kernel_rfl, by kernel_rfl, by kernel_rfl, by kernel_rfl⟩
theorem YT48 : TryzG.size 48 = some 1 ∧ TryzG.bytes 48 = some 16 ∧ TryzG.agg 48 = some false ∧ TryzG.zeroDV 48 = some (.nili) ∧ TryzG.zero 48 = some [.dv (.nili)] ∧ TryzG.elem0 48 = 0 := ⟨by kernel_rfl, by kernel_rfl, by kernel_rfl, by kernel_rfl, by kernel_rfl, by kernel_rfl⟩
theorem YT49 : TryzG.size 49 = some 1 ∧ TryzG.bytes 49 = some 16 ∧ TryzG.agg 49 = some false ∧ TryzG.zeroDV 49 = some (.nili) ∧ TryzG.zero 49 = some [.dv (.nili)] ∧ TryzG.elem0 49 = 0 := ⟨by kernel_rfl, by kernel_rfl, by kernel_rfl, by kernel_rfl, by kernel_rfl, by kernel_rfl⟩
theorem YT50 : TryzG.size 50 = some 1 ∧ TryzG.bytes 50 = some 0 ∧ TryzG.agg 50 = some false ∧ TryzG.elem0 50 = 0 := ⟨by kernel_rfl, by kernel_rfl, by kernel_rfl, by kernel_rfl⟩
theorem YT52 : TryzG.size 52 = some 1 ∧ TryzG.bytes 52 = some 0 ∧ TryzG.agg 52 = some false ∧ TryzG.elem0 52 = 0 := ⟨by kernel_rfl, by kernel_rfl, by kernel_rfl, by kernel_rfl⟩
theorem YT63 : TryzG.size 63 = some 1 ∧ TryzG.bytes 63 = some 24 ∧ TryzG.agg 63 = some false ∧ TryzG.zeroDV 63 = some (.lst []) ∧ TryzG.zero 63 = some [.nils 76] ∧ TryzG.elem0 63 = 76 := ⟨by kernel_rfl, by kernel_rfl, by kernel_rfl, by kernel_rfl, by kernel_rfl, by kernel_rfl⟩
theorem YT64 : TryzG.size 64 = some 1 ∧ TryzG.bytes 64 = some 24 ∧ TryzG.agg 64 = some false ∧ TryzG.zeroDV 64 = some (.lst []) ∧ TryzG.zero 64 = some [.nils 102] ∧ TryzG.elem0 64 = 102 := ⟨by kernel_rfl, by kernel_rfl, by kernel_rfl, by kernel_rfl, by kernel_rfl, by kernel_rfl⟩
theorem YT66 : TryzG.size 66 = some 2 ∧ TryzG.bytes 66 = some 48 ∧ TryzG.agg 66 = some true ∧ TryzG.zeroDV 66 = some (.agg [.lst [], .lst []]) ∧ TryzG.zero 66 = some [.nils 76, .nils 102] ∧ TryzG.elem0 66 = 0 := ⟨by kernel_rfl, by kernel_rfl, by kernel_rfl, by kernel_rfl, by kernel_rfl, by kernel_rfl⟩
theorem YT72 : TryzG.size 72 = some 1 ∧ TryzG.bytes 72 = some 8 ∧ TryzG.agg 72 = some false ∧ TryzG.zeroDV 72 = some (.nilf) ∧ TryzG.zero 72 = some [.dv (.nilf)] ∧ TryzG.elem0 72 = 0 := ⟨by kernel_rfl, by kernel_rfl, by kernel_rfl, by kernel_rfl, by kernel_rfl, by kernel_rfl⟩
theorem YT74 : TryzG.size 74 = some 1 ∧ TryzG.bytes 74 = some 24 ∧ TryzG.agg 74 = some false ∧ TryzG.zeroDV 74 = some (.lst []) ∧ TryzG.zero 74 = some [.nils 125] ∧ TryzG.elem0 74 = 125 := ⟨by kernel_rfl, by kernel_rfl, by kernel_rfl, by kernel_rfl, by kernel_rfl, by kernel_rfl⟩
theorem YT76 : TryzG.size 76 = some 5 ∧ TryzG.bytes 76 = some 80 ∧ TryzG.agg 76 = some true ∧ TryzG.zeroDV 76 = some (.agg [.bool false, .str ⟨#[]⟩, .lst [], .lst [], .int .i64 0]) ∧ TryzG.zero 76 = some [.dv (.bool false), .dv (.str ⟨#[]⟩), .nils 9, .nils 125, .dv (.int .i64 0)] ∧ TryzG.elem0 76 = 0 := ⟨by kernel_rfl, by kernel_rfl, by kernel_rfl, by kernel_rfl, by kernel_rfl, by kernel_rfl⟩
theorem YT77 : TryzG.size 77 = some 1 ∧ TryzG.bytes 77 = some 0 ∧ TryzG.agg 77 = some false ∧ TryzG.elem0 77 = 0 := ⟨by kernel_rfl, by kernel_rfl, by kernel_rfl, by kernel_rfl⟩
theorem YT80 : TryzG.size 80 = some 1 ∧ TryzG.bytes 80 = some 8 ∧ TryzG.agg 80 = some false ∧ TryzG.zeroDV 80 = some (.int .i64 0) ∧ TryzG.zero 80 = some [.dv (.int .i64 0)] ∧ TryzG.elem0 80 = 0 := ⟨by kernel_rfl, by kernel_rfl, by kernel_rfl, by kernel_rfl, by kernel_rfl, by kernel_rfl⟩
theorem YT81 : TryzG.size 81 = some 1 ∧ TryzG.bytes 81 = some 0 ∧ TryzG.agg 81 = some false ∧ TryzG.elem0 81 = 0 := ⟨by kernel_rfl, by kernel_rfl, by kernel_rfl, by kernel_rfl⟩
theorem YT85 : TryzG.size 85 = some 1 ∧ TryzG.bytes 85 = some 0 ∧ TryzG.agg 85 = some false ∧ TryzG.elem0 85 = 0 := ⟨by kernel_rfl, by kernel_rfl, by kernel_rfl, by kernel_rfl⟩
theorem YT99 : TryzG.size 99 = some 1 ∧ TryzG.bytes 99 = some 24 ∧ TryzG.agg 99 = some false ∧ TryzG.zeroDV 99 = some (.lst []) ∧ TryzG.zero 99 = some [.nils 151] ∧ TryzG.elem0 99 = 151 := ⟨by kernel_rfl, by kernel_rfl, by kernel_rfl, by kernel_rfl, by kernel_rfl, by kernel_rfl⟩
theorem YT100 : TryzG.size 100 = some 1 ∧ TryzG.bytes 100 = some 24 ∧ TryzG.agg 100 = some false ∧ TryzG.zeroDV 100 = some (.lst []) ∧ TryzG.zero 100 = some [.nils 170] ∧ TryzG.elem0 100 = 170 := ⟨by kernel_rfl, by kernel_rfl, by kernel_rfl, by kernel_rfl, by kernel_rfl, by kernel_rfl⟩
theorem YT102 : TryzG.size 102 = some 10 ∧ TryzG.bytes 102 = some 176 ∧ TryzG.agg 102 = some true ∧ TryzG.zeroDV 102 = some (.agg [.bool false, .str ⟨#[]⟩, .lst [], .lst [], .int .i64 0, .str ⟨#[]⟩, .lst [], .lst [], .lst [], .int .i64 0]) ∧ TryzG.zero 102 = some [.dv (.bool false), .dv (.str ⟨#[]⟩), .nils 151, .nils 125, .dv (.int .i64 0), .dv (.str ⟨#[]⟩), .nils 9, .nils 36, .nils 170, .dv (.int .i64 0)] ∧ TryzG.elem0 102 = 0 := ⟨by kernel_rfl, by kernel_rfl, by kernel_rfl, by kernel_rfl, by kernel_rfl, by kernel_rfl⟩
theorem YT104 : TryzG.size 104 = some 1 ∧ TryzG.bytes 104 = some 24 ∧ TryzG.agg 104 = some false ∧ TryzG.zeroDV 104 = some (.lst []) ∧ TryzG.zero 104 = some [.nils 111] ∧ TryzG.elem0 104 = 111 := ⟨by kernel_rfl, by kernel_rfl, by kernel_rfl, by kernel_rfl, by kernel_rfl, by kernel_rfl⟩
theorem YT106 : TryzG.size 106 = some 1 ∧ TryzG.bytes 106 = some 8 ∧ TryzG.agg 106 = some false ∧ TryzG.zeroDV 106 = some (.nilm) ∧ TryzG.zero 106 = some [.dv (.nilm)] ∧ TryzG.elem0 106 = 0 := ⟨by kernel_rfl, by kernel_rfl, by kernel_rfl, by kernel_rfl, by kernel_rfl, by kernel_rfl⟩
theorem YT107 : TryzG.size 107 = some 1 ∧ TryzG.bytes 107 = some 8 ∧ TryzG.agg 107 = some false ∧ TryzG.zeroDV 107 = some (.nilm) ∧ TryzG.zero 107 = some [.dv (.nilm)] ∧ TryzG.elem0 107 = 0 := ⟨by kernel_rfl, by kernel_rfl, by kernel_rfl, by kernel_rfl, by kernel_rfl, by kernel_rfl⟩
theorem YT109 : TryzG.size 109 = some 2 ∧ TryzG.bytes 109 = some 16 ∧ TryzG.agg 109 = some true ∧ TryzG.zeroDV 109 = some (.agg [.nilm, .nilm]) ∧ TryzG.zero 109 = some [.dv (.nilm), .dv (.nilm)] ∧ TryzG.elem0 109 = 0 := ⟨by kernel_rfl, by kernel_rfl, by kernel_rfl, by kernel_rfl, by kernel_rfl, by kernel_rfl⟩
theorem YT111 : TryzG.size 111 = some 3 ∧ TryzG.bytes 111 = some 64 ∧ TryzG.agg 111 = some true ∧ TryzG.zeroDV 111 = some (.agg [.str ⟨#[]⟩, .lst [], .lst []]) ∧ TryzG.zero 111 = some [.dv (.str ⟨#[]⟩), .nils 76, .nils 102] ∧ TryzG.elem0 111 = 0 := ⟨by kernel_rfl, by kernel_rfl, by kernel_rfl, by kernel_rfl, by kernel_rfl, by kernel_rfl⟩
theorem YT120 : TryzG.size 120 = some 3 ∧ TryzG.bytes 120 = some 72 ∧ TryzG.agg 120 = some true ∧ TryzG.zeroDV 120 = some (.agg [.lst [], .lst [], .lst []]) ∧ TryzG.zero 120 = some [.nils 76, .nils 102, .nils 111] ∧ TryzG.elem0 120 = 0 := ⟨by kernel_rfl, by kernel_rfl, by kernel_rfl, by kernel_rfl, by kernel_rfl, by kernel_rfl⟩
theorem YT125 : TryzG.size 125 = some 6 ∧ TryzG.bytes 125 = some 96 ∧ TryzG.agg 125 = some true ∧ TryzG.zeroDV 125 = some (.agg [.bool false, .str ⟨#[]⟩, .int .i64 0, .str ⟨#[]⟩, .lst [], .lst []]) ∧ TryzG.zero 125 = some [.dv (.bool false), .dv (.str ⟨#[]⟩), .dv (.int .i64 0), .dv (.str ⟨#[]⟩), .nils 9, .nils 36] ∧ TryzG.elem0 125 = 0 := ⟨by kernel_rfl, by kernel_rfl, by kernel_rfl, by kernel_rfl, by kernel_rfl, by kernel_rfl⟩
theorem YT126 : TryzG.size 126 = some 1 ∧ TryzG.bytes 126 = some 8 ∧ TryzG.agg 126 = some false ∧ TryzG.zeroDV 126 = some (.nilp) ∧ TryzG.zero 126 = some [.dv (.nilp)] ∧ TryzG.elem0 126 = 0 := ⟨by kernel_rfl, by kernel_rfl, by kernel_rfl, by kernel_rfl, by kernel_rfl, by kernel_rfl⟩
theorem YT128 : TryzG.size 128 = some 3 ∧ TryzG.bytes 128 = some 32 ∧ TryzG.agg 128 = some true ∧ TryzG.zeroDV 128 = some (.agg [.int .i64 0, .int .i64 0, .nili]) ∧ TryzG.zero 128 = some [.dv (.int .i64 0), .dv (.int .i64 0), .dv (.nili)] ∧ TryzG.elem0 128 = 0 := ⟨by kernel_rfl, by kernel_rfl, by kernel_rfl, by kernel_rfl, by kernel_rfl, by kernel_rfl⟩
theorem YT129 : TryzG.size 129 = some 1 ∧ TryzG.bytes 129 = some 0 ∧ TryzG.agg 129 = some false ∧ TryzG.elem0 129 = 0 := ⟨by kernel_rfl, by kernel_rfl, by kernel_rfl, by kernel_rfl⟩
theorem YT130 : TryzG.size 130 = some 1 ∧ TryzG.bytes 130 = some 8 ∧ TryzG.agg 130 = some false ∧ TryzG.zeroDV 130 = some (.nilf) ∧ TryzG.zero 130 = some [.dv (.nilf)] ∧ TryzG.elem0 130 = 0 := ⟨by kernel_rfl, by kernel_rfl, by kernel_rfl, by kernel_rfl, by kernel_rfl, by kernel_rfl⟩
theorem YT144 : TryzG.size 144 = some 1 ∧ TryzG.bytes 144 = some 8 ∧ TryzG.agg 144 = some false ∧ TryzG.zeroDV 144 = some (.nilf) ∧ TryzG.zero 144 = some [.dv (.nilf)] ∧ TryzG.elem0 144 = 0 := ⟨by kernel_rfl, by kernel_rfl, by kernel_rfl, by kernel_rfl, by kernel_rfl, by kernel_rfl⟩
theorem YT151 : TryzG.size 151 = some 2 ∧ TryzG.bytes 151 = some 40 ∧ TryzG.agg 151 = some true ∧ TryzG.zeroDV 151 = some (.agg [.str ⟨#[]⟩, .lst []]) ∧ TryzG.zero 151 = some [.dv (.str ⟨#[]⟩), .nils 9] ∧ TryzG.elem0 151 = 0 := ⟨by kernel_rfl, by kernel_rfl, by kernel_rfl, by kernel_rfl, by kernel_rfl, by kernel_rfl⟩
theorem YT163 : TryzG.size 163 = some 2 ∧ TryzG.bytes 163 = some 40 ∧ TryzG.agg 163 = some true ∧ TryzG.zeroDV 163 = some (.agg [.str ⟨#[]⟩, .lst []]) ∧ TryzG.zero 163 = some [.dv (.str ⟨#[]⟩), .nils 9] ∧ TryzG.elem0 163 = 0 := ⟨by kernel_rfl, by kernel_rfl, by kernel_rfl, by kernel_rfl, by kernel_rfl, by kernel_rfl⟩
theorem YT165 : TryzG.size 165 = some 4 ∧ TryzG.bytes 165 = some 56 ∧ TryzG.agg 165 = some true ∧ TryzG.zeroDV 165 = some (.agg [.int .i64 0, .int .i64 0, .str ⟨#[]⟩, .lst []]) ∧ TryzG.zero 165 = some [.dv (.int .i64 0), .dv (.int .i64 0), .dv (.str ⟨#[]⟩), .nils 9] ∧ TryzG.elem0 165 = 0 := ⟨by kernel_rfl, by kernel_rfl, by kernel_rfl, by kernel_rfl, by kernel_rfl, by kernel_rfl⟩
theorem YT166 : TryzG.size 166 = some 1 ∧ TryzG.bytes 166 = some 24 ∧ TryzG.agg 166 = some false ∧ TryzG.zeroDV 166 = some (.lst []) ∧ TryzG.zero 166 = some [.nils 165] ∧ TryzG.elem0 166 = 165 := ⟨by kernel_rfl, by kernel_rfl, by kernel_rfl, by kernel_rfl, by kernel_rfl, by kernel_rfl⟩
theorem YT168 : TryzG.size 168 = some 15 ∧ TryzG.bytes 168 = some 232 ∧ TryzG.agg 168 = some true ∧ TryzG.zeroDV 168 = some (.agg [.int .i64 0, .int .i64 0, .int .i64 0, .str ⟨#[]⟩, .lst [], .int .i64 0, .int .i64 0, .str ⟨#[]⟩, .lst [], .int .i64 0, .str ⟨#[]⟩, .lst [], .str ⟨#[]⟩, .lst [], .lst []]) ∧ TryzG.zero 168 = some [.dv (.int .i64 0), .dv (.int .i64 0), .dv (.int .i64 0), .dv (.str ⟨#[]⟩), .nils 9, .dv (.int .i64 0), .dv (.int .i64 0), .dv (.str ⟨#[]⟩), .nils 9, .dv (.int .i64 0), .dv (.str ⟨#[]⟩), .nils 9, .dv (.str ⟨#[]⟩), .nils 9, .nils 165] ∧ TryzG.elem0 168 = 0 := ⟨by kernel_rfl, by kernel_rfl, by kernel_rfl, by kernel_rfl, by kernel_rfl, by kernel_rfl⟩
theorem YT170 : TryzG.size 170 = some 32 ∧ TryzG.bytes 170 = some 496 ∧ TryzG.agg 170 = some true ∧ TryzG.zeroDV 170 = some (.agg [.int .i64 0, .int .i64 0, .bool false, .str ⟨#[]⟩, .int .i64 0, .str ⟨#[]⟩, .lst [], .lst [], .bool false, .str ⟨#[]⟩, .lst [], .int .i64 0, .int .i64 0, .int .i64 0, .str ⟨#[]⟩, .lst [], .int .i64 0, .int .i64 0, .str ⟨#[]⟩, .lst [], .int .i64 0, .str ⟨#[]⟩, .lst [], .str ⟨#[]⟩, .lst [], .lst [], .int .i64 0, .int .i64 0, .str ⟨#[]⟩, .lst [], .lst [], .lst []]) ∧ TryzG.zero 170 = some [.dv (.int .i64 0), .dv (.int .i64 0), .dv (.bool false), .dv (.str ⟨#[]⟩), .dv (.int .i64 0), .dv (.str ⟨#[]⟩), .nils 9, .nils 36, .dv (.bool false), .dv (.str ⟨#[]⟩), .nils 9, .dv (.int .i64 0), .dv (.int .i64 0), .dv (.int .i64 0), .dv (.str ⟨#[]⟩), .nils 9, .dv (.int .i64 0), .dv (.int .i64 0), .dv (.str ⟨#[]⟩), .nils 9, .dv (.int .i64 0), .dv (.str ⟨#[]⟩), .nils 9, .dv (.str ⟨#[]⟩), .nils 9, .nils 165, .dv (.int .i64 0), .dv (.int .i64 0), .dv (.str ⟨#[]⟩), .nils 9, .nils 170, .nils 170] ∧ TryzG.elem0 170 = 0 := ⟨by kernel_rfl, by kernel_rfl, by kernel_rfl, by kernel_rfl, by kernel_rfl, by kernel_rfl⟩
theorem YT184 : TryzG.size 184 = some 1 ∧ TryzG.bytes 184 = some 8 ∧ TryzG.agg 184 = some false ∧ TryzG.zeroDV 184 = some (.nilf) ∧ TryzG.zero 184 = some [.dv (.nilf)] ∧ TryzG.elem0 184 = 0 := ⟨by kernel_rfl, by kernel_rfl, by kernel_rfl, by kernel_rfl, by kernel_rfl, by kernel_rfl⟩
theorem YT204 : TryzG.size 204 = some 1 ∧ TryzG.bytes 204 = some 1 ∧ TryzG.agg 204 = some false ∧ TryzG.zeroDV 204 = some (.int .u8 0) ∧ TryzG.zero 204 = some [.dv (.int .u8 0)] ∧ TryzG.elem0 204 = 0 := ⟨by kernel_rfl, by kernel_rfl, by kernel_rfl, by kernel_rfl, by kernel_rfl, by kernel_rfl⟩
theorem YT208 : TryzG.size 208 = some 1 ∧ TryzG.bytes 208 = some 8 ∧ TryzG.agg 208 = some false ∧ TryzG.zeroDV 208 = some (.nilf) ∧ TryzG.zero 208 = some [.dv (.nilf)] ∧ TryzG.elem0 208 = 0 := ⟨by kernel_rfl, by kernel_rfl, by kernel_rfl, by kernel_rfl, by kernel_rfl, by kernel_rfl⟩
theorem YT251 : TryzG.size 251 = some 1 ∧ TryzG.bytes 251 = some 4 ∧ TryzG.agg 251 = some false ∧ TryzG.zeroDV 251 = some (.int .u32 0) ∧ TryzG.zero 251 = some [.dv (.int .u32 0)] ∧ TryzG.elem0 251 = 0 := ⟨by kernel_rfl, by kernel_rfl, by kernel_rfl, by kernel_rfl, by kernel_rfl, by kernel_rfl⟩
theorem YT257 : TryzG.size 257 = some 0 ∧ TryzG.bytes 257 = some 0 ∧ TryzG.agg 257 = some true ∧ TryzG.zeroDV 257 = some (.agg []) ∧ TryzG.zero 257 = some [] ∧ TryzG.elem0 257 = 0 := ⟨by kernel_rfl, by kernel_rfl, by kernel_rfl, by kernel_rfl, by kernel_rfl, by kernel_rfl⟩
theorem YT259 : TryzG.size 259 = some 0 ∧ TryzG.bytes 259 = some 0 ∧ TryzG.agg 259 = some true ∧ TryzG.zeroDV 259 = some (.agg []) ∧ TryzG.zero 259 = some [] ∧ TryzG.elem0 259 = 0 := ⟨by kernel_rfl, by kernel_rfl, by kernel_rfl, by kernel_rfl, by kernel_rfl, by kernel_rfl⟩
theorem YT262 : TryzG.size 262 = some 1 ∧ TryzG.bytes 262 = some 1 ∧ TryzG.agg 262 = some false ∧ TryzG.zeroDV 262 = some (.int .u8 0) ∧ TryzG.zero 262 = some [.dv (.int .u8 0)] ∧ TryzG.elem0 262 = 0 := ⟨by kernel_rfl, by kernel_rfl, by kernel_rfl, by kernel_rfl, by kernel_rfl, by kernel_rfl⟩
theorem YT263 : TryzG.size 263 = some 1 ∧ TryzG.bytes 263 = some 8 ∧ TryzG.agg 263 = some false ∧ TryzG.zeroDV 263 = some (.nilf) ∧ TryzG.zero 263 = some [.dv (.nilf)] ∧ TryzG.elem0 263 = 0 := ⟨by kernel_rfl, by kernel_rfl, by kernel_rfl, by kernel_rfl, by kernel_rfl, by kernel_rfl⟩
theorem YT264 : TryzG.size 264 = some 1 ∧ TryzG.bytes 264 = some 8 ∧ TryzG.agg 264 = some false ∧ TryzG.zeroDV 264 = some (.nilp) ∧ TryzG.zero 264 = some [.dv (.nilp)] ∧ TryzG.elem0 264 = 0 := ⟨by kernel_rfl, by kernel_rfl, by kernel_rfl, by kernel_rfl, by kernel_rfl, by kernel_rfl⟩
theorem YT265 : TryzG.size 265 = some 1 ∧ TryzG.bytes 265 = some 4 ∧ TryzG.agg 265 = some false ∧ TryzG.zeroDV 265 = some (.int .i32 0) ∧ TryzG.zero 265 = some [.dv (.int .i32 0)] ∧ TryzG.elem0 265 = 0 := ⟨by kernel_rfl, by kernel_rfl, by kernel_rfl, by kernel_rfl, by kernel_rfl, by kernel_rfl⟩
theorem YT266 : TryzG.size 266 = some 1 ∧ TryzG.bytes 266 = some 4 ∧ TryzG.agg 266 = some false ∧ TryzG.zeroDV 266 = some (.int .i32 0) ∧ TryzG.zero 266 = some [.dv (.int .i32 0)] ∧ TryzG.elem0 266 = 0 := ⟨by kernel_rfl, by kernel_rfl, by kernel_rfl, by kernel_rfl, by kernel_rfl, by kernel_rfl⟩
theorem YT268 : TryzG.size 268 = some 11 ∧ TryzG.bytes 268 = some 48 ∧ TryzG.agg 268 = some true ∧ TryzG.zeroDV 268 = some (.agg [.int .u64 0, .int .u64 0, .int .u32 0, .int .u8 0, .int .u8 0, .int .u8 0, .int .u8 0, .nilf, .nilp, .int .i32 0, .int .i32 0]) ∧ TryzG.zero 268 = some [.dv (.int .u64 0), .dv (.int .u64 0), .dv (.int .u32 0), .dv (.int .u8 0), .dv (.int .u8 0), .dv (.int .u8 0), .dv (.int .u8 0), .dv (.nilf), .dv (.nilp), .dv (.int .i32 0), .dv (.int .i32 0)] ∧ TryzG.elem0 268 = 0 := ⟨by kernel_rfl, by kernel_rfl, by kernel_rfl, by kernel_rfl, by kernel_rfl, by kernel_rfl⟩
theorem G_as : TryzG.asFn = 125 := by kernel_rfl
theorem G_ix : TryzG.ixFn = 192 := by kernel_rfl
attribute [go_sem] G_und lookK G_as G_ix KF3 MF3 MF12 MF14 MF13 MF11 MF10 KF4 MF4 MF19 MF18 MF17 MF16 MF15 KF5 MF5 MF30 MF29 MF28 MF27 MF25 MF26 MF20 MF24 MF23 MF22 MF21 KF6 MF6 MF31 MF34 MF33 MF32 KF7 MF7 MF35 KF8 MF8 KF9 MF9 KF10 KF11 KF13 MF36 KF14 MF37 KF16 KF17 MF43 MF42 MF41 KF18 MF44 MF45 KF19 KF20 KF21 MF47 MF46 KF22 MF48 KF23 KF24 MF49 KF25 KF26 KF27 MF50 KF28 KF29 KF30 KF31 KF32 MF51 KF33 KF34 KF35 KF36 KF37 KF41 KF42 MF61 KF43 KF44 KF45 MF69 KF46 KF47 KF48 KF49 KF50 KF51 KF61 MF100 MF99 KF70 MF70 KF99 KF100 MF106 KF106 Tryz.underlying0 YT0 Tryz.underlying1 YT1 Tryz.underlying2 YT2 Tryz.underlying3 YT3 Tryz.underlying4 YT4 Tryz.underlying5 YT5 Tryz.underlying6 YT6 Tryz.underlying7 YT7 Tryz.underlying8 YT8 Tryz.underlying9 YT9 Tryz.underlying10 YT10 Tryz.underlying12 YT12 Tryz.underlying13 YT13 Tryz.underlying14 YT14 Tryz.underlying16 YT16 Tryz.underlying17 YT17 Tryz.underlying20 YT20 Tryz.underlying21 YT21 Tryz.underlying22 YT22 Tryz.underlying23 YT23 Tryz.underlying24 YT24 Tryz.underlying25 YT25 Tryz.underlying29 YT29 Tryz.underlying32 YT32 Tryz.underlying33 YT33 Tryz.underlying34 YT34 Tryz.underlying36 YT36 Tryz.underlying37 YT37 Tryz.underlying38 YT38 Tryz.underlying39 YT39 Tryz.underlying40 YT40 Tryz.underlying42 YT42 Tryz.underlying44 YT44 Tryz.underlying45 YT45 Tryz.underlying48 YT48 Tryz.underlying49 YT49 Tryz.underlying50 YT50 Tryz.underlying52 YT52 Tryz.underlying63 YT63 Tryz.underlying64 YT64 Tryz.underlying66 YT66 Tryz.underlying72 YT72 Tryz.underlying74 YT74 Tryz.underlying76 YT76 Tryz.underlying77 YT77 Tryz.underlying80 YT80 Tryz.underlying81 YT81 Tryz.underlying85 YT85 Tryz.underlying99 YT99 Tryz.underlying100 YT100 Tryz.underlying102 YT102 Tryz.underlying104 YT104 Tryz.underlying106 YT106 Tryz.underlying107 YT107 Tryz.underlying109 YT109 Tryz.underlying111 YT111 Tryz.underlying120 YT120 Tryz.underlying125 YT125 Tryz.underlying126 YT126 Tryz.underlying128 YT128 Tryz.underlying129 YT129 Tryz.underlying130 YT130 Tryz.underlying144 YT144 Tryz.underlying151 YT151 Tryz.underlying163 YT163 Tryz.underlying165 YT165 Tryz.underlying166 YT166 Tryz.underlying168 YT168 Tryz.underlying170 YT170 Tryz.underlying184 YT184 Tryz.underlying204 YT204 Tryz.underlying208 YT208 Tryz.underlying251 YT251 Tryz.underlying257 YT257 Tryz.underlying259 YT259 Tryz.underlying262 YT262 Tryz.underlying263 YT263 Tryz.underlying264 YT264 Tryz.underlying265 YT265 Tryz.underlying266 YT266 Tryz.underlying268 YT268

end Go.Abs
end

section
namespace Go.Abs
open Go.Proofs
set_option maxRecDepth 10000

theorem w_refers (c : CallF) (k : Int) (n : Nat) : callStep TryzG n c 43 [.dv (.int .i64 k)] [] [] 0 = some (.dv (.bool (isRef k)), []) := by
  rw [callStepW TryzG _ _ _ (G_fn 43 |>.trans Tryz.func43) rfl rfl]
  by_cases h1 : k = 4
  · simp (disch := omega) only [go_sem, reduceCtorEq, Nat.reduceLT, Nat.reduceLeDiff, Nat.reduceEqDiff, Nat.reduceAdd, Nat.reduceMul, Nat.reducePow, Nat.reduceDiv, Nat.reduceMod, Nat.reduceOr, Int.reduceLE, Int.reduceLT, Int.reduceEq, Int.reduceAdd, Int.reduceSub, Int.reduceNeg, KF43, Tryz.f43, isRef, h1]
  · simp (disch := omega) only [go_sem, reduceCtorEq, Nat.reduceLT, Nat.reduceLeDiff, Nat.reduceEqDiff, Nat.reduceAdd, Nat.reduceMul, Nat.reducePow, Nat.reduceDiv, Nat.reduceMod, Nat.reduceOr, Int.reduceLE, Int.reduceLT, Int.reduceEq, Int.reduceAdd, Int.reduceSub, Int.reduceNeg, KF43, Tryz.f43, isRef, h1]

def RT.rg1 (t : RT) : List Int := t.rg.take 1
theorem w_own (c : CallF) (t : RT) (n : Nat) : callStep TryzG n c 36 [.dv t.dv] [] [] 0 = some (.dv (.lst (t.rg1.map (DV.int .i64))), []) := by
  rw [callStepW TryzG _ _ _ (G_fn 36 |>.trans Tryz.func36) rfl rfl]
  simp (disch := omega) only [go_sem, reduceCtorEq, Nat.reduceLT, Nat.reduceLeDiff, Nat.reduceEqDiff, Nat.reduceAdd, Nat.reduceMul, Nat.reducePow, Nat.reduceDiv, Nat.reduceMod, Nat.reduceOr, Int.reduceLE, Int.reduceLT, Int.reduceEq, Int.reduceAdd, Int.reduceSub, Int.reduceNeg, KF36, Tryz.f36, RT.rg1]
def RT.ownAV : RT → AV
  | .mk k _ rg _ => bif decide (k = 3) || isRef k then .dv (.lst ((ownK k rg).map (DV.int .i64))) else .own 3 []
theorem RT.ownAV_eq (t : RT) : t.ownAV = bif decide (t.k = 3) || isRef t.k then .dv (.lst ((ownK t.k t.rg).map (DV.int .i64))) else .own 3 [] := by cases t; rfl
theorem w_ownR (c : CallF) (t : RT) (n : Nat) : callStep TryzG n c 37 [.dv t.dv] [] [] 0 = some (t.ownAV, []) := by
  rw [callStepW TryzG _ _ _ (G_fn 37 |>.trans Tryz.func37) rfl rfl]
  obtain ⟨k, nm, rg, el⟩ := t
  by_cases h3 : k = 3
  · simp (disch := omega) only [go_sem, reduceCtorEq, Nat.reduceLT, Nat.reduceLeDiff, Nat.reduceEqDiff, Nat.reduceAdd, Nat.reduceMul, Nat.reducePow, Nat.reduceDiv, Nat.reduceMod, Nat.reduceOr, Int.reduceLE, Int.reduceLT, Int.reduceEq, Int.reduceAdd, Int.reduceSub, Int.reduceNeg, KF37, Tryz.f37, RT.ownAV, ownK, h3, isRef]
  · by_cases h4 : k = 4
    · simp (disch := omega) only [go_sem, reduceCtorEq, Nat.reduceLT, Nat.reduceLeDiff, Nat.reduceEqDiff, Nat.reduceAdd, Nat.reduceMul, Nat.reducePow, Nat.reduceDiv, Nat.reduceMod, Nat.reduceOr, Int.reduceLE, Int.reduceLT, Int.reduceEq, Int.reduceAdd, Int.reduceSub, Int.reduceNeg, KF37, Tryz.f37, RT.ownAV, ownK, h4, isRef]
    · by_cases h5 : k = 5
      · simp (disch := omega) only [go_sem, reduceCtorEq, Nat.reduceLT, Nat.reduceLeDiff, Nat.reduceEqDiff, Nat.reduceAdd, Nat.reduceMul, Nat.reducePow, Nat.reduceDiv, Nat.reduceMod, Nat.reduceOr, Int.reduceLE, Int.reduceLT, Int.reduceEq, Int.reduceAdd, Int.reduceSub, Int.reduceNeg, KF37, Tryz.f37, RT.ownAV, ownK, h5, isRef]
      · simp (disch := omega) only [go_sem, reduceCtorEq, Nat.reduceLT, Nat.reduceLeDiff, Nat.reduceEqDiff, Nat.reduceAdd, Nat.reduceMul, Nat.reducePow, Nat.reduceDiv, Nat.reduceMod, Nat.reduceOr, Int.reduceLE, Int.reduceLT, Int.reduceEq, Int.reduceAdd, Int.reduceSub, Int.reduceNeg, KF37, Tryz.f37, RT.ownAV, ownK, h3, h4, h5, isRef]
theorem w_Deep0 (c : CallF) (t : RT) (n : Nat) : callStep TryzG n c 10 [.dv t.dv, .dv (.int .i64 0)] [] [] 0 = some (.dv (.bool true), []) := by
  rw [callStepW TryzG _ _ _ (G_fn 10 |>.trans Tryz.func10) rfl rfl]
  obtain ⟨k, nm, rg, el⟩ := t
  simp (disch := omega) only [go_sem, reduceCtorEq, Nat.reduceLT, Nat.reduceLeDiff, Nat.reduceEqDiff, Nat.reduceAdd, Nat.reduceMul, Nat.reducePow, Nat.reduceDiv, Nat.reduceMod, Nat.reduceOr, Int.reduceLE, Int.reduceLT, Int.reduceEq, Int.reduceAdd, Int.reduceSub, Int.reduceNeg, KF10, Tryz.f10]
theorem w_Deep1 (c : CallF) (m : Nat) (hm : m ≤ 1000) (ih : ∀ t : RT, c 10 [.dv t.dv, .dv (.int .i64 (m : Nat))] [] [] 0 = some (.dv (.bool (t.deep m)), [])) (t : RT) :
    ∃ n, callStep TryzG n c 10 [.dv t.dv, .dv (.int .i64 ((m + 1 : Nat) : Int))] [] [] 0 = some (.dv (.bool (t.deep (m + 1))), []) := by
  obtain ⟨k, nm, rg, el⟩ := t
  refine ⟨3, ?_⟩
  rw [callStepW TryzG _ _ _ (G_fn 10 |>.trans Tryz.func10) rfl rfl]
  have h0 : ¬ ((m + 1 : Nat) : Int) ≤ 0 := by omega
  have hw : wrapI .i64 (((m + 1 : Nat) : Int) - 1) = (m : Nat) := by rw [wrapE (by omega) (by omega)]; omega
  by_cases h1 : el.length ≤ 2
  · by_cases h2 : rg.length ≤ 70
    · simp (disch := omega) only [go_sem, reduceCtorEq, Nat.reduceLT, Nat.reduceLeDiff, Nat.reduceEqDiff, Nat.reduceAdd, Nat.reduceMul, Nat.reducePow, Nat.reduceDiv, Nat.reduceMod, Nat.reduceOr, Int.reduceLE, Int.reduceLT, Int.reduceEq, Int.reduceAdd, Int.reduceSub, Int.reduceNeg, KF10, Tryz.f10, h0, h1, h2]
      generalize hX : loopW _ _ _ _ _ _ _ _ = X
      have hr : RT.deep (m + 1) (RT.mk k nm rg el) = el.any (RT.deep m) := by simp only [RT.deep, show ¬ 2 < el.length by omega, show ¬ 70 < rg.length by omega, decide_false, Bool.false_or]
      rw [hr]
      generalize hr : el.any (RT.deep m) = r
      apply loopU el (fun l => l.any (RT.deep m)) (fun i => [(5, .dv (.int .i64 (i : Nat)))]) hX hr (by omega) rfl ?_ (fun i x q hi hx hq => ?_) <;> clear hX
      · simp (disch := omega) only [go_sem, reduceCtorEq, Nat.reduceLT, Nat.reduceLeDiff, Nat.reduceEqDiff, Nat.reduceAdd, Nat.reduceMul, Nat.reducePow, Nat.reduceDiv, Nat.reduceMod, Nat.reduceOr, Int.reduceLE, Int.reduceLT, Int.reduceEq, Int.reduceAdd, Int.reduceSub, Int.reduceNeg, KF10, Tryz.f10, List.any_nil]
      · have hi' : ¬ el.length ≤ i := by omega
        have hx' : (el.map RT.dv)[i]? = some x.dv := by simp [hx]
        have hw' : wrapI .i64 ((i : Int) + 1) = ((i + 1 : Nat) : Int) := wrapS (n := 3) (by omega) (by decide)
        cases hd : x.deep m with
        | true => simp (disch := omega) only [go_sem, reduceCtorEq, Nat.reduceLT, Nat.reduceLeDiff, Nat.reduceEqDiff, Nat.reduceAdd, Nat.reduceMul, Nat.reducePow, Nat.reduceDiv, Nat.reduceMod, Nat.reduceOr, Int.reduceLE, Int.reduceLT, Int.reduceEq, Int.reduceAdd, Int.reduceSub, Int.reduceNeg, KF10, Tryz.f10, hi', hx', hw, ih, hd, List.any_cons]
        | false => simp (disch := omega) only [go_sem, reduceCtorEq, Nat.reduceLT, Nat.reduceLeDiff, Nat.reduceEqDiff, Nat.reduceAdd, Nat.reduceMul, Nat.reducePow, Nat.reduceDiv, Nat.reduceMod, Nat.reduceOr, Int.reduceLE, Int.reduceLT, Int.reduceEq, Int.reduceAdd, Int.reduceSub, Int.reduceNeg, KF10, Tryz.f10, hi', hx', hw, hw', ih, hd, List.any_cons]
    · have h3 : 70 < rg.length := by omega
      simp (disch := omega) only [go_sem, reduceCtorEq, Nat.reduceLT, Nat.reduceLeDiff, Nat.reduceEqDiff, Nat.reduceAdd, Nat.reduceMul, Nat.reducePow, Nat.reduceDiv, Nat.reduceMod, Nat.reduceOr, Int.reduceLE, Int.reduceLT, Int.reduceEq, Int.reduceAdd, Int.reduceSub, Int.reduceNeg, KF10, Tryz.f10, RT.deep, h0, h1, h2, h3]
  · have h3 : 2 < el.length := by omega
    simp (disch := omega) only [go_sem, reduceCtorEq, Nat.reduceLT, Nat.reduceLeDiff, Nat.reduceEqDiff, Nat.reduceAdd, Nat.reduceMul, Nat.reducePow, Nat.reduceDiv, Nat.reduceMod, Nat.reduceOr, Int.reduceLE, Int.reduceLT, Int.reduceEq, Int.reduceAdd, Int.reduceSub, Int.reduceNeg, KF10, Tryz.f10, RT.deep, h0, h1, h3]
end Go.Abs
end
