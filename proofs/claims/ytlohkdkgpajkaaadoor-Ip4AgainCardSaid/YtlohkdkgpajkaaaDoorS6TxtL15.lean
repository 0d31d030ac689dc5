import Derived.Test.YtlohkdkgpajkaaaDoorG2
import Derived.Test.YtlohkdkgpajkaaaDoorG3
import Derived.KernelRfl
open Go Go.Vc Go.Vc.S6 Go.Proofs
set_option maxRecDepth 100000
set_option linter.unusedVariables false
namespace Go.Vc.S6
def vc15 (b : Sl) (w : World) (R : SV → World → Prop) : Prop := Ret Tryd.prog 18 [] w fun (r : SV) (w1 : World) => ∃ (b_1 : Bool), r = SV.bool b_1 ∧ Ret
  Tryd.prog 23 [SV.slice b] w1 fun (r : SV) (w1 : World) => ∃ (s : Sl), r = SV.slice s ∧ Ret Tryd.prog 23 [SV.slice b] w1 fun (r : SV) (w1 : World) => ∃ (s_1
  : Sl), r = SV.slice s_1 ∧ Ret Tryd.prog 20 [SV.slice s] w1 fun (r : SV) (w1 : World) => ∃ (n : Int), ∃ (n_1 : Int), ∃ (b : Bool), ∃ (b_2 : Bool), ∃ (n_2
  : Int), ∃ (n_3 : Int), ∃ (n_4 : Int), ∃ (n_5 : Int), ∃ (f : Nat → Int), ∃ (n_6 : Int), ∃ (f_1 : Nat → Int), ∃ (s_2 : Sl), ∃ (s_3 : Sl), ∃ (n_7 : Int), r
  = SV.tuple [SV.struct [SV.int IntKind.i64 n, SV.int IntKind.i64 n_1, SV.bool b, SV.bool b_2, SV.int IntKind.i64 n_2, SV.int IntKind.i64 n_3, SV.int IntKind.i64
  n_4, SV.struct [SV.int IntKind.i64 n_5, SV.arr IntKind.u8 16 f], SV.struct [SV.int IntKind.i64 n_6, SV.arr IntKind.u8 16 f_1], SV.slice s_2, SV.slice s_3],
  SV.int IntKind.i64 n_7] ∧ ∀ (b_3 : Nat) (w1_1 : World), Upd [] [b_3] w1 w1_1 → Ret Tryd.prog 46 [SV.slice s_1] w1_1 fun (r : SV) (w1 : World) => ∃ (n_8
  : Int), r = SV.int IntKind.i64 n_8 ∧ Keeps [b_3] w1_1 w1 ∧ Br (!b_1) (R (SV.bool false) w1) (Ret Tryd.prog 21 [SV.int IntKind.i64 n_7] w1 fun (r : SV) (w1_2
  : World) => ∃ (n_9 : Int), r = SV.int IntKind.i64 n_9 ∧ Keeps [b_3] w1 w1_2 ∧ Br (n_9 != 0) (Ret Tryd.prog 21 [SV.int IntKind.i64 n_8] w1_2 fun (r : SV)
  (w1 : World) => ∃ (n : Int), r = SV.int IntKind.i64 n ∧ Keeps [b_3] w1_2 w1 ∧ Ret Tryd.prog 21 [SV.int IntKind.i64 n_7] w1 fun (r : SV) (w1_3 : World) =>
  ∃ (n_10 : Int), r = SV.int IntKind.i64 n_10 ∧ Keeps [b_3] w1 w1_3 ∧ Br (n == n_10) (Ret Tryd.prog 24 [SV.slice s_1, SV.slice s] w1_3 fun (r : SV) (w1 :
  World) => ∃ (b : Bool), r = SV.bool b ∧ Keeps [b_3] w1_3 w1 ∧ R (SV.bool b) w1) (R (SV.bool false) w1_3)) (Br (decide (n_3 < 2)) (Ret Tryd.prog 21 [SV.int
  IntKind.i64 n_8] w1_2 fun (r : SV) (w1 : World) => ∃ (n : Int), r = SV.int IntKind.i64 n ∧ Keeps [b_3] w1_2 w1 ∧ Br (n == 67) (Ret Tryd.prog 24 [SV.slice
  s_1, SV.slice s] w1 fun (r : SV) (w1_3 : World) => ∃ (b : Bool), r = SV.bool b ∧ Keeps [b_3] w1 w1_3 ∧ R (SV.bool b) w1_3) (R (SV.bool false) w1)) (Ret
  Tryd.prog 20 [SV.slice s_1] w1_2 fun (r : SV) (w1 : World) => ∃ (n_10 : Int), ∃ (n_11 : Int), ∃ (b_4 : Bool), ∃ (b_5 : Bool), ∃ (n_12 : Int), ∃ (n_13 :
  Int), ∃ (n_14 : Int), ∃ (n_15 : Int), ∃ (f_2 : Nat → Int), ∃ (n_16 : Int), ∃ (f_3 : Nat → Int), ∃ (s_4 : Sl), ∃ (s_5 : Sl), ∃ (n_17 : Int), r = SV.tuple
  [SV.struct [SV.int IntKind.i64 n_10, SV.int IntKind.i64 n_11, SV.bool b_4, SV.bool b_5, SV.int IntKind.i64 n_12, SV.int IntKind.i64 n_13, SV.int IntKind.i64
  n_14, SV.struct [SV.int IntKind.i64 n_15, SV.arr IntKind.u8 16 f_2], SV.struct [SV.int IntKind.i64 n_16, SV.arr IntKind.u8 16 f_3], SV.slice s_4, SV.slice
  s_5], SV.int IntKind.i64 n_17] ∧ Keeps [b_3] w1_2 w1 ∧ ∀ (b_6 : Nat) (w1_3 : World), Upd [] [b_6] w1 w1_3 → Ret Tryd.prog 26 [SV.struct [SV.int IntKind.i64
  n, SV.int IntKind.i64 n_1, SV.bool b, SV.bool b_2, SV.int IntKind.i64 n_2, SV.int IntKind.i64 n_3, SV.int IntKind.i64 n_4, SV.struct [SV.int IntKind.i64
  n_5, SV.arr IntKind.u8 16 f], SV.struct [SV.int IntKind.i64 n_6, SV.arr IntKind.u8 16 f_1], SV.slice s_2, SV.slice s_3]] w1_3 fun (r : SV) (w1 : World)
  => ∃ (n_18 : Int), ∃ (n_19 : Int), ∃ (b_7 : Bool), ∃ (b_8 : Bool), ∃ (n_20 : Int), ∃ (n_21 : Int), ∃ (n_22 : Int), ∃ (n_23 : Int), ∃ (f_4 : Nat → Int),
  ∃ (n_24 : Int), ∃ (f_5 : Nat → Int), ∃ (s_6 : Sl), ∃ (s_7 : Sl), r = SV.struct [SV.int IntKind.i64 n_18, SV.int IntKind.i64 n_19, SV.bool b_7, SV.bool b_8,
  SV.int IntKind.i64 n_20, SV.int IntKind.i64 n_21, SV.int IntKind.i64 n_22, SV.struct [SV.int IntKind.i64 n_23, SV.arr IntKind.u8 16 f_4], SV.struct [SV.int
  IntKind.i64 n_24, SV.arr IntKind.u8 16 f_5], SV.slice s_6, SV.slice s_7] ∧ Keeps [b_3, b_6] w1_3 w1 ∧ ∀ (b_9 : Nat), ∃ (I : Int → World → Prop), ∃ (M :
  Int → World → Nat), (∀ (w1_4 : World), Upd [] [b_9] w1 w1_4 → I 0 w1_4) ∧ ∀ (n_25 : Int) (w1 : World), I n_25 w1 → Br (decide (n_25 < (↑s.2 : Int))) (∀
  (J : World → Prop), (∀ (w1_4 : World), some (SV.box b_3 30 (SV.struct [SV.int IntKind.i64 n, SV.int IntKind.i64 n_1, SV.bool b, SV.bool b_2, SV.int IntKind.i64
  n_2, SV.int IntKind.i64 n_3, SV.int IntKind.i64 n_4, SV.struct [SV.int IntKind.i64 n_5, SV.arr IntKind.u8 16 f], SV.struct [SV.int IntKind.i64 n_6, SV.arr
  IntKind.u8 16 f_1], SV.slice s_2, SV.slice s_3])) = some (SV.box b_3 30 (SV.struct [SV.int IntKind.i64 n, SV.int IntKind.i64 n_1, SV.bool b, SV.bool b_2,
  SV.int IntKind.i64 n_2, SV.int IntKind.i64 n_3, SV.int IntKind.i64 n_4, SV.struct [SV.int IntKind.i64 n_5, SV.arr IntKind.u8 16 f], SV.struct [SV.int IntKind.i64
  n_6, SV.arr IntKind.u8 16 f_1], SV.slice s_2, SV.slice s_3])) ∧ some (SV.box b_6 30 (SV.struct [SV.int IntKind.i64 n_10, SV.int IntKind.i64 n_11, SV.bool
  b_4, SV.bool b_5, SV.int IntKind.i64 n_12, SV.int IntKind.i64 n_13, SV.int IntKind.i64 n_14, SV.struct [SV.int IntKind.i64 n_15, SV.arr IntKind.u8 16 f_2],
  SV.struct [SV.int IntKind.i64 n_16, SV.arr IntKind.u8 16 f_3], SV.slice s_4, SV.slice s_5])) = some (SV.box b_6 30 (SV.struct [SV.int IntKind.i64 n_10,
  SV.int IntKind.i64 n_11, SV.bool b_4, SV.bool b_5, SV.int IntKind.i64 n_12, SV.int IntKind.i64 n_13, SV.int IntKind.i64 n_14, SV.struct [SV.int IntKind.i64
  n_15, SV.arr IntKind.u8 16 f_2], SV.struct [SV.int IntKind.i64 n_16, SV.arr IntKind.u8 16 f_3], SV.slice s_4, SV.slice s_5])) ∧ some (SV.box b_9 30 (SV.struct
  [SV.int IntKind.i64 n_18, SV.int IntKind.i64 n_19, SV.bool b_7, SV.bool b_8, SV.int IntKind.i64 n_20, SV.int IntKind.i64 (wr IntKind.i64 (n_3 - 1)), SV.int
  IntKind.i64 n_22, SV.struct [SV.int IntKind.i64 n_23, SV.arr IntKind.u8 16 f_4], SV.struct [SV.int IntKind.i64 n_24, SV.arr IntKind.u8 16 f_5], SV.slice
  s_6, SV.slice s_7])) = some (SV.box b_9 30 (SV.struct [SV.int IntKind.i64 n_18, SV.int IntKind.i64 n_19, SV.bool b_7, SV.bool b_8, SV.int IntKind.i64 n_20,
  SV.int IntKind.i64 (wr IntKind.i64 (n_3 - 1)), SV.int IntKind.i64 n_22, SV.struct [SV.int IntKind.i64 n_23, SV.arr IntKind.u8 16 f_4], SV.struct [SV.int
  IntKind.i64 n_24, SV.arr IntKind.u8 16 f_5], SV.slice s_6, SV.slice s_7])) ∧ I (wr IntKind.i64 (n_25 + 1)) w1_4 ∧ M (wr IntKind.i64 (n_25 + 1)) w1_4 < M
  n_25 w1 → J w1_4) → Need (decide (0 ≤ n_25) && decide (n_25 < (↑s_1.2 : Int)) && Option.isSome s_1.1) (∃ (n_26 : Int), World.cell? w1 (Sl.at s_1 1 (Int.toNat
  n_25)) = some (Value.int IntKind.u8 n_26) ∧ Need (decide (0 ≤ n_25) && decide (n_25 < (↑s.2 : Int)) && Option.isSome s.1) (∃ (n_27 : Int), World.cell? w1
  (Sl.at s 1 (Int.toNat n_25)) = some (Value.int IntKind.u8 n_27) ∧ Br (n_26 != n_27) (Br (n_25 != 8) (Br (n_25 != 10) (Br (n_25 != 11) (∀ (w1_4 : World),
  Upd [] [] w1 w1_4 → R (SV.bool false) w1_4) (∀ (w1_4 : World), Upd [] [] w1 w1_4 → some (SV.box b_3 30 (SV.struct [SV.int IntKind.i64 n, SV.int IntKind.i64
  n_1, SV.bool b, SV.bool b_2, SV.int IntKind.i64 n_2, SV.int IntKind.i64 n_3, SV.int IntKind.i64 n_4, SV.struct [SV.int IntKind.i64 n_5, SV.arr IntKind.u8
  16 f], SV.struct [SV.int IntKind.i64 n_6, SV.arr IntKind.u8 16 f_1], SV.slice s_2, SV.slice s_3])) = some (SV.box b_3 30 (SV.struct [SV.int IntKind.i64
  n, SV.int IntKind.i64 n_1, SV.bool b, SV.bool b_2, SV.int IntKind.i64 n_2, SV.int IntKind.i64 n_3, SV.int IntKind.i64 n_4, SV.struct [SV.int IntKind.i64
  n_5, SV.arr IntKind.u8 16 f], SV.struct [SV.int IntKind.i64 n_6, SV.arr IntKind.u8 16 f_1], SV.slice s_2, SV.slice s_3])) ∧ some (SV.box b_6 30 (SV.struct
  [SV.int IntKind.i64 n_10, SV.int IntKind.i64 n_11, SV.bool b_4, SV.bool b_5, SV.int IntKind.i64 n_12, SV.int IntKind.i64 n_13, SV.int IntKind.i64 n_14,
  SV.struct [SV.int IntKind.i64 n_15, SV.arr IntKind.u8 16 f_2], SV.struct [SV.int IntKind.i64 n_16, SV.arr IntKind.u8 16 f_3], SV.slice s_4, SV.slice s_5]))
  = some (SV.box b_6 30 (SV.struct [SV.int IntKind.i64 n_10, SV.int IntKind.i64 n_11, SV.bool b_4, SV.bool b_5, SV.int IntKind.i64 n_12, SV.int IntKind.i64
  n_13, SV.int IntKind.i64 n_14, SV.struct [SV.int IntKind.i64 n_15, SV.arr IntKind.u8 16 f_2], SV.struct [SV.int IntKind.i64 n_16, SV.arr IntKind.u8 16 f_3],
  SV.slice s_4, SV.slice s_5])) ∧ some (SV.box b_9 30 (SV.struct [SV.int IntKind.i64 n_18, SV.int IntKind.i64 n_19, SV.bool b_7, SV.bool b_8, SV.int IntKind.i64
  n_20, SV.int IntKind.i64 (wr IntKind.i64 (n_3 - 1)), SV.int IntKind.i64 n_22, SV.struct [SV.int IntKind.i64 n_23, SV.arr IntKind.u8 16 f_4], SV.struct [SV.int
  IntKind.i64 n_24, SV.arr IntKind.u8 16 f_5], SV.slice s_6, SV.slice s_7])) = some (SV.box b_9 30 (SV.struct [SV.int IntKind.i64 n_18, SV.int IntKind.i64
  n_19, SV.bool b_7, SV.bool b_8, SV.int IntKind.i64 n_20, SV.int IntKind.i64 (wr IntKind.i64 (n_3 - 1)), SV.int IntKind.i64 n_22, SV.struct [SV.int IntKind.i64
  n_23, SV.arr IntKind.u8 16 f_4], SV.struct [SV.int IntKind.i64 n_24, SV.arr IntKind.u8 16 f_5], SV.slice s_6, SV.slice s_7])) ∧ J w1_4)) (∀ (w1_4 : World),
  Upd [] [] w1 w1_4 → some (SV.box b_3 30 (SV.struct [SV.int IntKind.i64 n, SV.int IntKind.i64 n_1, SV.bool b, SV.bool b_2, SV.int IntKind.i64 n_2, SV.int
  IntKind.i64 n_3, SV.int IntKind.i64 n_4, SV.struct [SV.int IntKind.i64 n_5, SV.arr IntKind.u8 16 f], SV.struct [SV.int IntKind.i64 n_6, SV.arr IntKind.u8
  16 f_1], SV.slice s_2, SV.slice s_3])) = some (SV.box b_3 30 (SV.struct [SV.int IntKind.i64 n, SV.int IntKind.i64 n_1, SV.bool b, SV.bool b_2, SV.int IntKind.i64
  n_2, SV.int IntKind.i64 n_3, SV.int IntKind.i64 n_4, SV.struct [SV.int IntKind.i64 n_5, SV.arr IntKind.u8 16 f], SV.struct [SV.int IntKind.i64 n_6, SV.arr
  IntKind.u8 16 f_1], SV.slice s_2, SV.slice s_3])) ∧ some (SV.box b_6 30 (SV.struct [SV.int IntKind.i64 n_10, SV.int IntKind.i64 n_11, SV.bool b_4, SV.bool
  b_5, SV.int IntKind.i64 n_12, SV.int IntKind.i64 n_13, SV.int IntKind.i64 n_14, SV.struct [SV.int IntKind.i64 n_15, SV.arr IntKind.u8 16 f_2], SV.struct
  [SV.int IntKind.i64 n_16, SV.arr IntKind.u8 16 f_3], SV.slice s_4, SV.slice s_5])) = some (SV.box b_6 30 (SV.struct [SV.int IntKind.i64 n_10, SV.int IntKind.i64
  n_11, SV.bool b_4, SV.bool b_5, SV.int IntKind.i64 n_12, SV.int IntKind.i64 n_13, SV.int IntKind.i64 n_14, SV.struct [SV.int IntKind.i64 n_15, SV.arr IntKind.u8
  16 f_2], SV.struct [SV.int IntKind.i64 n_16, SV.arr IntKind.u8 16 f_3], SV.slice s_4, SV.slice s_5])) ∧ some (SV.box b_9 30 (SV.struct [SV.int IntKind.i64
  n_18, SV.int IntKind.i64 n_19, SV.bool b_7, SV.bool b_8, SV.int IntKind.i64 n_20, SV.int IntKind.i64 (wr IntKind.i64 (n_3 - 1)), SV.int IntKind.i64 n_22,
  SV.struct [SV.int IntKind.i64 n_23, SV.arr IntKind.u8 16 f_4], SV.struct [SV.int IntKind.i64 n_24, SV.arr IntKind.u8 16 f_5], SV.slice s_6, SV.slice s_7]))
  = some (SV.box b_9 30 (SV.struct [SV.int IntKind.i64 n_18, SV.int IntKind.i64 n_19, SV.bool b_7, SV.bool b_8, SV.int IntKind.i64 n_20, SV.int IntKind.i64
  (wr IntKind.i64 (n_3 - 1)), SV.int IntKind.i64 n_22, SV.struct [SV.int IntKind.i64 n_23, SV.arr IntKind.u8 16 f_4], SV.struct [SV.int IntKind.i64 n_24,
  SV.arr IntKind.u8 16 f_5], SV.slice s_6, SV.slice s_7])) ∧ J w1_4)) (∀ (w1_4 : World), Upd [] [] w1 w1_4 → some (SV.box b_3 30 (SV.struct [SV.int IntKind.i64
  n, SV.int IntKind.i64 n_1, SV.bool b, SV.bool b_2, SV.int IntKind.i64 n_2, SV.int IntKind.i64 n_3, SV.int IntKind.i64 n_4, SV.struct [SV.int IntKind.i64
  n_5, SV.arr IntKind.u8 16 f], SV.struct [SV.int IntKind.i64 n_6, SV.arr IntKind.u8 16 f_1], SV.slice s_2, SV.slice s_3])) = some (SV.box b_3 30 (SV.struct
  [SV.int IntKind.i64 n, SV.int IntKind.i64 n_1, SV.bool b, SV.bool b_2, SV.int IntKind.i64 n_2, SV.int IntKind.i64 n_3, SV.int IntKind.i64 n_4, SV.struct
  [SV.int IntKind.i64 n_5, SV.arr IntKind.u8 16 f], SV.struct [SV.int IntKind.i64 n_6, SV.arr IntKind.u8 16 f_1], SV.slice s_2, SV.slice s_3])) ∧ some (SV.box
  b_6 30 (SV.struct [SV.int IntKind.i64 n_10, SV.int IntKind.i64 n_11, SV.bool b_4, SV.bool b_5, SV.int IntKind.i64 n_12, SV.int IntKind.i64 n_13, SV.int
  IntKind.i64 n_14, SV.struct [SV.int IntKind.i64 n_15, SV.arr IntKind.u8 16 f_2], SV.struct [SV.int IntKind.i64 n_16, SV.arr IntKind.u8 16 f_3], SV.slice
  s_4, SV.slice s_5])) = some (SV.box b_6 30 (SV.struct [SV.int IntKind.i64 n_10, SV.int IntKind.i64 n_11, SV.bool b_4, SV.bool b_5, SV.int IntKind.i64 n_12,
  SV.int IntKind.i64 n_13, SV.int IntKind.i64 n_14, SV.struct [SV.int IntKind.i64 n_15, SV.arr IntKind.u8 16 f_2], SV.struct [SV.int IntKind.i64 n_16, SV.arr
  IntKind.u8 16 f_3], SV.slice s_4, SV.slice s_5])) ∧ some (SV.box b_9 30 (SV.struct [SV.int IntKind.i64 n_18, SV.int IntKind.i64 n_19, SV.bool b_7, SV.bool
  b_8, SV.int IntKind.i64 n_20, SV.int IntKind.i64 (wr IntKind.i64 (n_3 - 1)), SV.int IntKind.i64 n_22, SV.struct [SV.int IntKind.i64 n_23, SV.arr IntKind.u8
  16 f_4], SV.struct [SV.int IntKind.i64 n_24, SV.arr IntKind.u8 16 f_5], SV.slice s_6, SV.slice s_7])) = some (SV.box b_9 30 (SV.struct [SV.int IntKind.i64
  n_18, SV.int IntKind.i64 n_19, SV.bool b_7, SV.bool b_8, SV.int IntKind.i64 n_20, SV.int IntKind.i64 (wr IntKind.i64 (n_3 - 1)), SV.int IntKind.i64 n_22,
  SV.struct [SV.int IntKind.i64 n_23, SV.arr IntKind.u8 16 f_4], SV.struct [SV.int IntKind.i64 n_24, SV.arr IntKind.u8 16 f_5], SV.slice s_6, SV.slice s_7]))
  ∧ J w1_4)) (∀ (w1_4 : World), Upd [] [] w1 w1_4 → some (SV.box b_3 30 (SV.struct [SV.int IntKind.i64 n, SV.int IntKind.i64 n_1, SV.bool b, SV.bool b_2,
  SV.int IntKind.i64 n_2, SV.int IntKind.i64 n_3, SV.int IntKind.i64 n_4, SV.struct [SV.int IntKind.i64 n_5, SV.arr IntKind.u8 16 f], SV.struct [SV.int IntKind.i64
  n_6, SV.arr IntKind.u8 16 f_1], SV.slice s_2, SV.slice s_3])) = some (SV.box b_3 30 (SV.struct [SV.int IntKind.i64 n, SV.int IntKind.i64 n_1, SV.bool b,
  SV.bool b_2, SV.int IntKind.i64 n_2, SV.int IntKind.i64 n_3, SV.int IntKind.i64 n_4, SV.struct [SV.int IntKind.i64 n_5, SV.arr IntKind.u8 16 f], SV.struct
  [SV.int IntKind.i64 n_6, SV.arr IntKind.u8 16 f_1], SV.slice s_2, SV.slice s_3])) ∧ some (SV.box b_6 30 (SV.struct [SV.int IntKind.i64 n_10, SV.int IntKind.i64
  n_11, SV.bool b_4, SV.bool b_5, SV.int IntKind.i64 n_12, SV.int IntKind.i64 n_13, SV.int IntKind.i64 n_14, SV.struct [SV.int IntKind.i64 n_15, SV.arr IntKind.u8
  16 f_2], SV.struct [SV.int IntKind.i64 n_16, SV.arr IntKind.u8 16 f_3], SV.slice s_4, SV.slice s_5])) = some (SV.box b_6 30 (SV.struct [SV.int IntKind.i64
  n_10, SV.int IntKind.i64 n_11, SV.bool b_4, SV.bool b_5, SV.int IntKind.i64 n_12, SV.int IntKind.i64 n_13, SV.int IntKind.i64 n_14, SV.struct [SV.int IntKind.i64
  n_15, SV.arr IntKind.u8 16 f_2], SV.struct [SV.int IntKind.i64 n_16, SV.arr IntKind.u8 16 f_3], SV.slice s_4, SV.slice s_5])) ∧ some (SV.box b_9 30 (SV.struct
  [SV.int IntKind.i64 n_18, SV.int IntKind.i64 n_19, SV.bool b_7, SV.bool b_8, SV.int IntKind.i64 n_20, SV.int IntKind.i64 (wr IntKind.i64 (n_3 - 1)), SV.int
  IntKind.i64 n_22, SV.struct [SV.int IntKind.i64 n_23, SV.arr IntKind.u8 16 f_4], SV.struct [SV.int IntKind.i64 n_24, SV.arr IntKind.u8 16 f_5], SV.slice
  s_6, SV.slice s_7])) = some (SV.box b_9 30 (SV.struct [SV.int IntKind.i64 n_18, SV.int IntKind.i64 n_19, SV.bool b_7, SV.bool b_8, SV.int IntKind.i64 n_20,
  SV.int IntKind.i64 (wr IntKind.i64 (n_3 - 1)), SV.int IntKind.i64 n_22, SV.struct [SV.int IntKind.i64 n_23, SV.arr IntKind.u8 16 f_4], SV.struct [SV.int
  IntKind.i64 n_24, SV.arr IntKind.u8 16 f_5], SV.slice s_6, SV.slice s_7])) ∧ J w1_4)))) (Ret Tryd.prog 21 [SV.int IntKind.i64 n_8] w1 fun (r : SV) (w1_4
  : World) => ∃ (n : Int), r = SV.int IntKind.i64 n ∧ Keeps [b_3, b_6, b_9] w1 w1_4 ∧ Br (n == 0) (Ret Tryd.prog 21 [SV.int IntKind.i64 n_17] w1_4 fun (r
  : SV) (w1 : World) => ∃ (n : Int), r = SV.int IntKind.i64 n ∧ Keeps [b_3, b_6, b_9] w1_4 w1 ∧ Br (n == 0) (Ret Tryd.prog 29 [SV.struct [SV.int IntKind.i64
  n_10, SV.int IntKind.i64 n_11, SV.bool b_4, SV.bool b_5, SV.int IntKind.i64 n_12, SV.int IntKind.i64 n_13, SV.int IntKind.i64 n_14, SV.struct [SV.int IntKind.i64
  n_15, SV.arr IntKind.u8 16 f_2], SV.struct [SV.int IntKind.i64 n_16, SV.arr IntKind.u8 16 f_3], SV.slice s_4, SV.slice s_5], SV.struct [SV.int IntKind.i64
  n_18, SV.int IntKind.i64 n_19, SV.bool b_7, SV.bool b_8, SV.int IntKind.i64 n_20, SV.int IntKind.i64 (wr IntKind.i64 (n_3 - 1)), SV.int IntKind.i64 n_22,
  SV.struct [SV.int IntKind.i64 n_23, SV.arr IntKind.u8 16 f_4], SV.struct [SV.int IntKind.i64 n_24, SV.arr IntKind.u8 16 f_5], SV.slice s_6, SV.slice s_7]]
  w1 fun (r : SV) (w1_5 : World) => ∃ (b : Bool), r = SV.bool b ∧ Keeps [b_3, b_6, b_9] w1 w1_5 ∧ Br b (Ret Tryd.prog 43 [SV.slice s] w1_5 fun (r : SV) (w1
  : World) => ∃ (b : Bool), r = SV.bool b ∧ Keeps [b_3, b_6, b_9] w1_5 w1 ∧ Br (!b) (R (SV.bool true) w1) (Ret Tryd.prog 43 [SV.slice s_1] w1 fun (r : SV)
  (w1_6 : World) => ∃ (b : Bool), r = SV.bool b ∧ Keeps [b_3, b_6, b_9] w1 w1_6 ∧ R (SV.bool b) w1_6)) (R (SV.bool false) w1_5)) (R (SV.bool false) w1)) (R
  (SV.bool false) w1_4)))))
theorem f15_of (b : Sl) (w : World) (R : SV → World → Prop) (h : vc15 b w R) : Ret Tryd.prog 15 [.slice b] w R :=
  have e : vc15 b w R = fnVC X Tryd.f15 a15 [.slice b] w R := by kernel_rfl
  fnVC_sound X_ok (n := a15) (e ▸ h) (by kernel_rfl) (by kernel_rfl) rfl rfl

end Go.Vc.S6
