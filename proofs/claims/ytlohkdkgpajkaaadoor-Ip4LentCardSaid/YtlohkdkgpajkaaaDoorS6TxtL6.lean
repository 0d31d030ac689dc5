import Derived.Test.YtlohkdkgpajkaaaDoorG2
import Derived.Test.YtlohkdkgpajkaaaDoorG3
import Derived.KernelRfl
open Go Go.Vc Go.Vc.S6 Go.Proofs
set_option maxRecDepth 100000
set_option linter.unusedVariables false
namespace Go.Vc.S6
def vc6 (h_0 : Int) (h_1 : Int) (h_2 : Bool) (h_3 : Bool) (h_4 : Int) (h_5 : Int) (h_6 : Int) (h_7_0 : Int) (h_7_1 : Nat → Int) (h_8_0 : Int) (h_8_1 : Nat
  → Int) (h_9 : Sl) (h_10 : Sl) (l : Sl) (turns : Sl) (w : World) (R : SV → World → Prop) : Prop := ∀ (b : Nat) (w1 : World), Upd [] [b] w w1 → Ret Tryd.prog
  18 [] w1 fun (r : SV) (w1_1 : World) => ∃ (b_1 : Bool), r = SV.bool b_1 ∧ Keeps [b] w1 w1_1 ∧ Br (!b_1) (R (SV.bool false) w1_1) (Ret Tryd.prog 26 [SV.struct
  [SV.int IntKind.i64 h_0, SV.int IntKind.i64 h_1, SV.bool h_2, SV.bool h_3, SV.int IntKind.i64 h_4, SV.int IntKind.i64 h_5, SV.int IntKind.i64 h_6, SV.struct
  [SV.int IntKind.i64 h_7_0, SV.arr IntKind.u8 16 h_7_1], SV.struct [SV.int IntKind.i64 h_8_0, SV.arr IntKind.u8 16 h_8_1], SV.slice h_9, SV.slice h_10]]
  w1_1 fun (r : SV) (w1 : World) => ∃ (n : Int), ∃ (n_1 : Int), ∃ (b_2 : Bool), ∃ (b_3 : Bool), ∃ (n_2 : Int), ∃ (n_3 : Int), ∃ (n_4 : Int), ∃ (n_5 : Int),
  ∃ (f : Nat → Int), ∃ (n_6 : Int), ∃ (f_1 : Nat → Int), ∃ (s : Sl), ∃ (s_1 : Sl), r = SV.struct [SV.int IntKind.i64 n, SV.int IntKind.i64 n_1, SV.bool b_2,
  SV.bool b_3, SV.int IntKind.i64 n_2, SV.int IntKind.i64 n_3, SV.int IntKind.i64 n_4, SV.struct [SV.int IntKind.i64 n_5, SV.arr IntKind.u8 16 f], SV.struct
  [SV.int IntKind.i64 n_6, SV.arr IntKind.u8 16 f_1], SV.slice s, SV.slice s_1] ∧ Keeps [b] w1_1 w1 ∧ ∀ (b_4 : Nat) (w1_2 : World), Upd [] [b_4] w1 w1_2 →
  Ret Tryd.prog 26 [SV.struct [SV.int IntKind.i64 0, SV.int IntKind.i64 0, SV.bool false, SV.bool false, SV.int IntKind.i64 0, SV.int IntKind.i64 0, SV.int
  IntKind.i64 0, SV.struct [SV.int IntKind.i64 0, SV.arr IntKind.u8 16 fun (x : Nat) => 0], SV.struct [SV.int IntKind.i64 0, SV.arr IntKind.u8 16 fun (x :
  Nat) => 0], SV.slice l, SV.slice { ptr := none, len := 0, cap := 0 }]] w1_2 fun (r : SV) (w1 : World) => ∃ (n_7 : Int), ∃ (n_8 : Int), ∃ (b_5 : Bool), ∃
  (b_6 : Bool), ∃ (n_9 : Int), ∃ (n_10 : Int), ∃ (n_11 : Int), ∃ (n_12 : Int), ∃ (f_2 : Nat → Int), ∃ (n_13 : Int), ∃ (f_3 : Nat → Int), ∃ (s_2 : Sl), ∃ (s_3
  : Sl), r = SV.struct [SV.int IntKind.i64 n_7, SV.int IntKind.i64 n_8, SV.bool b_5, SV.bool b_6, SV.int IntKind.i64 n_9, SV.int IntKind.i64 n_10, SV.int
  IntKind.i64 n_11, SV.struct [SV.int IntKind.i64 n_12, SV.arr IntKind.u8 16 f_2], SV.struct [SV.int IntKind.i64 n_13, SV.arr IntKind.u8 16 f_3], SV.slice
  s_2, SV.slice s_3] ∧ Keeps [b, b_4] w1_2 w1 ∧ ∀ (b_7 b_8 b_9 b_10 : Nat) (w1_3 : World), Upd [] [b_10, b_9, b_8, b_7] w1 w1_3 → (World.heap w1_3)[b_7]?
  = some (Obj.cells { toList := SV.cells (SV.struct [SV.slice { ptr := none, len := 0, cap := 0 }, SV.int IntKind.i64 0]) } 52) → Off b_7 [b, b_4, b_8, b_9,
  b_10] → (World.heap w1_3)[b_8]? = some (Obj.cells { toList := SV.cells (SV.struct [SV.slice { ptr := none, len := 0, cap := 0 }, SV.int IntKind.i64 0, SV.slice { ptr := none, len := 0, cap := 0 }]) }
  56) → Off b_8 [b, b_4, b_9, b_10] → (World.heap w1_3)[b_9]? = some (Obj.cells { toList := SV.cells (SV.struct [SV.slice { ptr := none, len := 0, cap := 0 }, SV.int IntKind.i64 0, SV.slice { ptr := none, len := 0, cap := 0 }]) }
  56) → Off b_9 [b, b_4, b_10] → (World.heap w1_3)[b_10]? = some (Obj.cells { toList := SV.cells (SV.struct [SV.slice { ptr := none, len := 0, cap := 0 }, SV.slice { ptr := none, len := 0, cap := 0 }]) }
  59) → Off b_10 [b, b_4] → ∃ (I : Int → World → Prop), ∃ (M : Int → World → Nat), I 0 w1_3 ∧ ∀ (n_14 : Int) (w1 : World), I n_14 w1 → ∀ (J : World → Prop),
  (∀ (w1_4 : World), (∀ (J : World → Prop), (∀ (w1_5 : World), some (SV.box b 30 (SV.struct [SV.int IntKind.i64 h_0, SV.int IntKind.i64 h_1, SV.bool h_2,
  SV.bool h_3, SV.int IntKind.i64 h_4, SV.int IntKind.i64 h_5, SV.int IntKind.i64 h_6, SV.struct [SV.int IntKind.i64 h_7_0, SV.arr IntKind.u8 16 h_7_1], SV.struct
  [SV.int IntKind.i64 h_8_0, SV.arr IntKind.u8 16 h_8_1], SV.slice h_9, SV.slice h_10])) = some (SV.box b 30 (SV.struct [SV.int IntKind.i64 h_0, SV.int IntKind.i64
  h_1, SV.bool h_2, SV.bool h_3, SV.int IntKind.i64 h_4, SV.int IntKind.i64 h_5, SV.int IntKind.i64 h_6, SV.struct [SV.int IntKind.i64 h_7_0, SV.arr IntKind.u8
  16 h_7_1], SV.struct [SV.int IntKind.i64 h_8_0, SV.arr IntKind.u8 16 h_8_1], SV.slice h_9, SV.slice h_10])) ∧ some (SV.box b_4 30 (SV.struct [SV.int IntKind.i64
  n, SV.int IntKind.i64 n_1, SV.bool b_2, SV.bool b_3, SV.int IntKind.i64 n_2, SV.int IntKind.i64 n_3, SV.int IntKind.i64 n_4, SV.struct [SV.int IntKind.i64
  n_5, SV.arr IntKind.u8 16 f], SV.struct [SV.int IntKind.i64 n_6, SV.arr IntKind.u8 16 f_1], SV.slice s, SV.slice s_1])) = some (SV.box b_4 30 (SV.struct
  [SV.int IntKind.i64 n, SV.int IntKind.i64 n_1, SV.bool b_2, SV.bool b_3, SV.int IntKind.i64 n_2, SV.int IntKind.i64 n_3, SV.int IntKind.i64 n_4, SV.struct
  [SV.int IntKind.i64 n_5, SV.arr IntKind.u8 16 f], SV.struct [SV.int IntKind.i64 n_6, SV.arr IntKind.u8 16 f_1], SV.slice s, SV.slice s_1])) ∧ I (wr IntKind.i64
  (n_14 + 1)) w1_5 ∧ M (wr IntKind.i64 (n_14 + 1)) w1_5 < M n_14 w1 → J w1_5) → ∀ (b_11 : Nat) (w1 : World), Upd [] [b_11] w1_4 w1 → Ret Tryd.prog 31 [SV.ptr
  (some { block := b_7, off := 0 }), SV.slice s_1] w1 fun (r : SV) (w1_5 : World) => ∃ (s_4 : Sl), r = SV.slice s_4 ∧ Keeps [b, b_4, b_11] w1 w1_5 ∧ ∀ (w1
  : World), Upd [b_11] [] w1_5 w1 → Ret Tryd.prog 32 [SV.ptr (some { block := b_8, off := 0 }), SV.slice s] w1 fun (r : SV) (w1_6 : World) => ∃ (s_5 : Sl),
  r = SV.slice s_5 ∧ Keeps [b, b_4, b_11] w1 w1_6 ∧ ∀ (w1 : World), Upd [b_11] [] w1_6 w1 → Ret Tryd.prog 32 [SV.ptr (some { block := b_9, off := 0 }), SV.slice
  s_2] w1 fun (r : SV) (w1_7 : World) => ∃ (s_6 : Sl), r = SV.slice s_6 ∧ Keeps [b, b_4, b_11] w1 w1_7 ∧ Ret Tryd.prog 33 [SV.struct [SV.int IntKind.i64 n,
  SV.int IntKind.i64 n_1, SV.bool b_2, SV.bool b_3, SV.int IntKind.i64 n_2, SV.int IntKind.i64 n_3, SV.int IntKind.i64 n_4, SV.struct [SV.int IntKind.i64
  n_5, SV.arr IntKind.u8 16 f], SV.struct [SV.int IntKind.i64 n_6, SV.arr IntKind.u8 16 f_1], SV.slice s_5, SV.slice s_4]] w1_7 fun (r : SV) (w1 : World)
  => ∃ (n_15 : Int), r = SV.int IntKind.i64 n_15 ∧ Keeps [b, b_4, b_11] w1_7 w1 ∧ Ret Tryd.prog 25 [SV.struct [SV.int IntKind.i64 n, SV.int IntKind.i64 n_1,
  SV.bool b_2, SV.bool b_3, SV.int IntKind.i64 n_2, SV.int IntKind.i64 n_3, SV.int IntKind.i64 n_4, SV.struct [SV.int IntKind.i64 n_5, SV.arr IntKind.u8 16
  f], SV.struct [SV.int IntKind.i64 n_6, SV.arr IntKind.u8 16 f_1], SV.slice s_5, SV.slice s_4]] w1 fun (r : SV) (w1_8 : World) => ∃ (s_7 : Sl), ∃ (n_16 :
  Int), r = SV.tuple [SV.slice s_7, SV.int IntKind.i64 n_16] ∧ Keeps [b, b_4, b_11] w1 w1_8 ∧ Ret Tryd.prog 25 [SV.struct [SV.int IntKind.i64 n, SV.int IntKind.i64
  n_1, SV.bool b_2, SV.bool b_3, SV.int IntKind.i64 n_2, SV.int IntKind.i64 n_3, SV.int IntKind.i64 n_4, SV.struct [SV.int IntKind.i64 n_5, SV.arr IntKind.u8
  16 f], SV.struct [SV.int IntKind.i64 n_6, SV.arr IntKind.u8 16 f_1], SV.slice s_5, SV.slice s_4]] w1_8 fun (r : SV) (w1 : World) => ∃ (s_8 : Sl), ∃ (n_17
  : Int), r = SV.tuple [SV.slice s_8, SV.int IntKind.i64 n_17] ∧ Keeps [b, b_4, b_11] w1_8 w1 ∧ Ret Tryd.prog 27 [SV.slice s_6] w1 fun (r : SV) (w1_9 : World)
  => ∃ (s_9 : Sl), ∃ (n_18 : Int), r = SV.tuple [SV.slice s_9, SV.int IntKind.i64 n_18] ∧ Keeps [b, b_4, b_11] w1 w1_9 ∧ Ret Tryd.prog 27 [SV.slice s_6] w1_9
  fun (r : SV) (w1 : World) => ∃ (s_10 : Sl), ∃ (n_19 : Int), r = SV.tuple [SV.slice s_10, SV.int IntKind.i64 n_19] ∧ Keeps [b, b_4, b_11] w1_9 w1 ∧ Ret Tryd.prog
  26 [SV.struct [SV.int IntKind.i64 n, SV.int IntKind.i64 n_1, SV.bool b_2, SV.bool b_3, SV.int IntKind.i64 n_2, SV.int IntKind.i64 n_3, SV.int IntKind.i64
  n_4, SV.struct [SV.int IntKind.i64 n_5, SV.arr IntKind.u8 16 f], SV.struct [SV.int IntKind.i64 n_6, SV.arr IntKind.u8 16 f_1], SV.slice s, SV.slice s_1]]
  w1 fun (r : SV) (w1_10 : World) => ∃ (n_20 : Int), ∃ (n_21 : Int), ∃ (b_12 : Bool), ∃ (b_13 : Bool), ∃ (n_22 : Int), ∃ (n_23 : Int), ∃ (n_24 : Int), ∃ (n_25
  : Int), ∃ (f_4 : Nat → Int), ∃ (n_26 : Int), ∃ (f_5 : Nat → Int), ∃ (s_11 : Sl), ∃ (s_12 : Sl), r = SV.struct [SV.int IntKind.i64 n_20, SV.int IntKind.i64
  n_21, SV.bool b_12, SV.bool b_13, SV.int IntKind.i64 n_22, SV.int IntKind.i64 n_23, SV.int IntKind.i64 n_24, SV.struct [SV.int IntKind.i64 n_25, SV.arr
  IntKind.u8 16 f_4], SV.struct [SV.int IntKind.i64 n_26, SV.arr IntKind.u8 16 f_5], SV.slice s_11, SV.slice s_12] ∧ Keeps [b, b_4, b_11] w1 w1_10 ∧ Ret Tryd.prog
  34 [SV.struct [SV.int IntKind.i64 n_20, SV.int IntKind.i64 n_21, SV.bool b_12, SV.bool b_13, SV.int IntKind.i64 n_22, SV.int IntKind.i64 n_23, SV.int IntKind.i64
  n_24, SV.struct [SV.int IntKind.i64 n_25, SV.arr IntKind.u8 16 f_4], SV.struct [SV.int IntKind.i64 n_26, SV.arr IntKind.u8 16 f_5], SV.slice s_11, SV.slice
  s_12]] w1_10 fun (r : SV) (w1 : World) => ∃ (s_13 : Sl), ∃ (n_27 : Int), r = SV.tuple [SV.slice s_13, SV.int IntKind.i64 n_27] ∧ Keeps [b, b_4, b_11] w1_10
  w1 ∧ Ret Tryd.prog 26 [SV.struct [SV.int IntKind.i64 0, SV.int IntKind.i64 0, SV.bool false, SV.bool false, SV.int IntKind.i64 0, SV.int IntKind.i64 0,
  SV.int IntKind.i64 0, SV.struct [SV.int IntKind.i64 0, SV.arr IntKind.u8 16 fun (x : Nat) => 0], SV.struct [SV.int IntKind.i64 0, SV.arr IntKind.u8 16 fun
  (x : Nat) => 0], SV.slice s_2, SV.slice { ptr := none, len := 0, cap := 0 }]] w1 fun (r : SV) (w1_11 : World) => ∃ (n_28 : Int), ∃ (n_29 : Int), ∃ (b_14
  : Bool), ∃ (b_15 : Bool), ∃ (n_30 : Int), ∃ (n_31 : Int), ∃ (n_32 : Int), ∃ (n_33 : Int), ∃ (f_6 : Nat → Int), ∃ (n_34 : Int), ∃ (f_7 : Nat → Int), ∃ (s_14
  : Sl), ∃ (s_15 : Sl), r = SV.struct [SV.int IntKind.i64 n_28, SV.int IntKind.i64 n_29, SV.bool b_14, SV.bool b_15, SV.int IntKind.i64 n_30, SV.int IntKind.i64
  n_31, SV.int IntKind.i64 n_32, SV.struct [SV.int IntKind.i64 n_33, SV.arr IntKind.u8 16 f_6], SV.struct [SV.int IntKind.i64 n_34, SV.arr IntKind.u8 16 f_7],
  SV.slice s_14, SV.slice s_15] ∧ Keeps [b, b_4, b_11] w1 w1_11 ∧ Ret Tryd.prog 35 [SV.slice s_14] w1_11 fun (r : SV) (w1 : World) => ∃ (s_16 : Sl), ∃ (n_35
  : Int), r = SV.tuple [SV.slice s_16, SV.int IntKind.i64 n_35] ∧ Keeps [b, b_4, b_11] w1_11 w1 ∧ ∀ (J_1 : World → Prop), (∀ (w1 : World), (∀ (J_2 : World
  → Prop), (∀ (w1 : World), (Ret Tryd.prog 39 [SV.ptr (some { block := b_10, off := 0 }), SV.slice s_7] w1 fun (r : SV) (w1_12 : World) => r = SV.tuple []
  ∧ Keeps [b, b_4, b_11] w1 w1_12 ∧ Ret Tryd.prog 39 [SV.ptr (some { block := b_10, off := 0 }), SV.slice s_8] w1_12 fun (r : SV) (w1 : World) => r = SV.tuple
  [] ∧ Keeps [b, b_4, b_11] w1_12 w1 ∧ Ret Tryd.prog 39 [SV.ptr (some { block := b_10, off := 0 }), SV.slice s_9] w1 fun (r : SV) (w1_13 : World) => r = SV.tuple
  [] ∧ Keeps [b, b_4, b_11] w1 w1_13 ∧ Ret Tryd.prog 39 [SV.ptr (some { block := b_10, off := 0 }), SV.slice s_10] w1_13 fun (r : SV) (w1 : World) => r =
  SV.tuple [] ∧ Keeps [b, b_4, b_11] w1_13 w1 ∧ Ret Tryd.prog 40 [SV.ptr (some { block := b_10, off := 0 })] w1 fun (r : SV) (w1_14 : World) => ∃ (b_16 :
  Bool), r = SV.bool b_16 ∧ Keeps [b, b_4, b_11] w1 w1_14 ∧ Br (!b_16) (R (SV.bool false) w1_14) (Br (decide (n_14 < (↑turns.2 : Int))) (Need (decide (0 ≤
  n_14) && decide (n_14 < (↑turns.2 : Int)) && Option.isSome turns.1) (∃ (f_8 : Nat → Int), (∀ (i : Nat), i < 2 → World.cell? w1_14 (Addr.add (Sl.at turns
  2 (Int.toNat n_14)) (0 + i)) = some (Value.int IntKind.i64 (f_8 i))) ∧ ∀ (w1 : World), Upd [] [] w1_14 w1 → Ret Tryd.prog 41 [SV.slice s_1, SV.slice s,
  SV.arr IntKind.i64 2 f_8] w1 fun (r : SV) (w1_15 : World) => r = SV.tuple [] ∧ Keeps [b, b_4, b_11] w1 w1_15 ∧ Need (decide (0 ≤ n_14) && decide (n_14 <
  (↑turns.2 : Int)) && Option.isSome turns.1) (∃ (f_9 : Nat → Int), (∀ (i : Nat), i < 2 → World.cell? w1_15 (Addr.add (Sl.at turns 2 (Int.toNat n_14)) (0
  + i)) = some (Value.int IntKind.i64 (f_9 i))) ∧ Ret Tryd.prog 41 [SV.slice { ptr := none, len := 0, cap := 0 }, SV.slice s_2, SV.arr IntKind.i64 2 f_9]
  w1_15 fun (r : SV) (w1 : World) => r = SV.tuple [] ∧ Keeps [b, b_4, b_11] w1_15 w1 ∧ some (SV.box b 30 (SV.struct [SV.int IntKind.i64 h_0, SV.int IntKind.i64
  h_1, SV.bool h_2, SV.bool h_3, SV.int IntKind.i64 h_4, SV.int IntKind.i64 h_5, SV.int IntKind.i64 h_6, SV.struct [SV.int IntKind.i64 h_7_0, SV.arr IntKind.u8
  16 h_7_1], SV.struct [SV.int IntKind.i64 h_8_0, SV.arr IntKind.u8 16 h_8_1], SV.slice h_9, SV.slice h_10])) = some (SV.box b 30 (SV.struct [SV.int IntKind.i64
  h_0, SV.int IntKind.i64 h_1, SV.bool h_2, SV.bool h_3, SV.int IntKind.i64 h_4, SV.int IntKind.i64 h_5, SV.int IntKind.i64 h_6, SV.struct [SV.int IntKind.i64
  h_7_0, SV.arr IntKind.u8 16 h_7_1], SV.struct [SV.int IntKind.i64 h_8_0, SV.arr IntKind.u8 16 h_8_1], SV.slice h_9, SV.slice h_10])) ∧ some (SV.box b_4
  30 (SV.struct [SV.int IntKind.i64 n, SV.int IntKind.i64 n_1, SV.bool b_2, SV.bool b_3, SV.int IntKind.i64 n_2, SV.int IntKind.i64 n_3, SV.int IntKind.i64
  n_4, SV.struct [SV.int IntKind.i64 n_5, SV.arr IntKind.u8 16 f], SV.struct [SV.int IntKind.i64 n_6, SV.arr IntKind.u8 16 f_1], SV.slice s, SV.slice s_1]))
  = some (SV.box b_4 30 (SV.struct [SV.int IntKind.i64 n, SV.int IntKind.i64 n_1, SV.bool b_2, SV.bool b_3, SV.int IntKind.i64 n_2, SV.int IntKind.i64 n_3,
  SV.int IntKind.i64 n_4, SV.struct [SV.int IntKind.i64 n_5, SV.arr IntKind.u8 16 f], SV.struct [SV.int IntKind.i64 n_6, SV.arr IntKind.u8 16 f_1], SV.slice
  s, SV.slice s_1])) ∧ J w1))) (some (SV.box b 30 (SV.struct [SV.int IntKind.i64 h_0, SV.int IntKind.i64 h_1, SV.bool h_2, SV.bool h_3, SV.int IntKind.i64
  h_4, SV.int IntKind.i64 h_5, SV.int IntKind.i64 h_6, SV.struct [SV.int IntKind.i64 h_7_0, SV.arr IntKind.u8 16 h_7_1], SV.struct [SV.int IntKind.i64 h_8_0,
  SV.arr IntKind.u8 16 h_8_1], SV.slice h_9, SV.slice h_10])) = some (SV.box b 30 (SV.struct [SV.int IntKind.i64 h_0, SV.int IntKind.i64 h_1, SV.bool h_2,
  SV.bool h_3, SV.int IntKind.i64 h_4, SV.int IntKind.i64 h_5, SV.int IntKind.i64 h_6, SV.struct [SV.int IntKind.i64 h_7_0, SV.arr IntKind.u8 16 h_7_1], SV.struct
  [SV.int IntKind.i64 h_8_0, SV.arr IntKind.u8 16 h_8_1], SV.slice h_9, SV.slice h_10])) ∧ some (SV.box b_4 30 (SV.struct [SV.int IntKind.i64 n, SV.int IntKind.i64
  n_1, SV.bool b_2, SV.bool b_3, SV.int IntKind.i64 n_2, SV.int IntKind.i64 n_3, SV.int IntKind.i64 n_4, SV.struct [SV.int IntKind.i64 n_5, SV.arr IntKind.u8
  16 f], SV.struct [SV.int IntKind.i64 n_6, SV.arr IntKind.u8 16 f_1], SV.slice s, SV.slice s_1])) = some (SV.box b_4 30 (SV.struct [SV.int IntKind.i64 n,
  SV.int IntKind.i64 n_1, SV.bool b_2, SV.bool b_3, SV.int IntKind.i64 n_2, SV.int IntKind.i64 n_3, SV.int IntKind.i64 n_4, SV.struct [SV.int IntKind.i64
  n_5, SV.arr IntKind.u8 16 f], SV.struct [SV.int IntKind.i64 n_6, SV.arr IntKind.u8 16 f_1], SV.slice s, SV.slice s_1])) ∧ J w1_14))) → J_2 w1) → Ret Tryd.prog
  21 [SV.int IntKind.i64 n_18] w1 fun (r : SV) (w1_12 : World) => ∃ (n_36 : Int), r = SV.int IntKind.i64 n_36 ∧ Keeps [b, b_4, b_11] w1 w1_12 ∧ Br (n_36 !=
  n_35) (R (SV.bool false) w1_12) (Ret Tryd.prog 21 [SV.int IntKind.i64 n_19] w1_12 fun (r : SV) (w1 : World) => ∃ (n_37 : Int), r = SV.int IntKind.i64 n_37
  ∧ Keeps [b, b_4, b_11] w1_12 w1 ∧ Br (n_37 != n_35) (R (SV.bool false) w1) (Ret Tryd.prog 24 [SV.slice s_9, SV.slice s_16] w1 fun (r : SV) (w1_13 : World)
  => ∃ (b_16 : Bool), r = SV.bool b_16 ∧ Keeps [b, b_4, b_11] w1 w1_13 ∧ Br (!b_16) (R (SV.bool false) w1_13) (Ret Tryd.prog 24 [SV.slice s_10, SV.slice s_16]
  w1_13 fun (r : SV) (w1 : World) => ∃ (b_17 : Bool), r = SV.bool b_17 ∧ Keeps [b, b_4, b_11] w1_13 w1 ∧ Br (!b_17) (R (SV.bool false) w1) (Ret Tryd.prog
  37 [SV.ptr (some { block := b_7, off := 0 }), SV.slice s_1] w1 fun (r : SV) (w1_14 : World) => ∃ (b_18 : Bool), r = SV.bool b_18 ∧ Keeps [b, b_4, b_11]
  w1 w1_14 ∧ Br (!b_18) (R (SV.bool false) w1_14) (Ret Tryd.prog 38 [SV.ptr (some { block := b_8, off := 0 }), SV.slice s] w1_14 fun (r : SV) (w1 : World)
  => ∃ (b_19 : Bool), r = SV.bool b_19 ∧ Keeps [b, b_4, b_11] w1_14 w1 ∧ Br (!b_19) (R (SV.bool false) w1) (Ret Tryd.prog 38 [SV.ptr (some { block := b_9, off := 0 }),
  SV.slice s_2] w1 fun (r : SV) (w1_15 : World) => ∃ (b_20 : Bool), r = SV.bool b_20 ∧ Keeps [b, b_4, b_11] w1 w1_15 ∧ Br (!b_20) (R (SV.bool false) w1_15)
  (some (SV.box b 30 (SV.struct [SV.int IntKind.i64 h_0, SV.int IntKind.i64 h_1, SV.bool h_2, SV.bool h_3, SV.int IntKind.i64 h_4, SV.int IntKind.i64 h_5,
  SV.int IntKind.i64 h_6, SV.struct [SV.int IntKind.i64 h_7_0, SV.arr IntKind.u8 16 h_7_1], SV.struct [SV.int IntKind.i64 h_8_0, SV.arr IntKind.u8 16 h_8_1],
  SV.slice h_9, SV.slice h_10])) = some (SV.box b 30 (SV.struct [SV.int IntKind.i64 h_0, SV.int IntKind.i64 h_1, SV.bool h_2, SV.bool h_3, SV.int IntKind.i64
  h_4, SV.int IntKind.i64 h_5, SV.int IntKind.i64 h_6, SV.struct [SV.int IntKind.i64 h_7_0, SV.arr IntKind.u8 16 h_7_1], SV.struct [SV.int IntKind.i64 h_8_0,
  SV.arr IntKind.u8 16 h_8_1], SV.slice h_9, SV.slice h_10])) ∧ some (SV.box b_4 30 (SV.struct [SV.int IntKind.i64 n, SV.int IntKind.i64 n_1, SV.bool b_2,
  SV.bool b_3, SV.int IntKind.i64 n_2, SV.int IntKind.i64 n_3, SV.int IntKind.i64 n_4, SV.struct [SV.int IntKind.i64 n_5, SV.arr IntKind.u8 16 f], SV.struct
  [SV.int IntKind.i64 n_6, SV.arr IntKind.u8 16 f_1], SV.slice s, SV.slice s_1])) = some (SV.box b_4 30 (SV.struct [SV.int IntKind.i64 n, SV.int IntKind.i64
  n_1, SV.bool b_2, SV.bool b_3, SV.int IntKind.i64 n_2, SV.int IntKind.i64 n_3, SV.int IntKind.i64 n_4, SV.struct [SV.int IntKind.i64 n_5, SV.arr IntKind.u8
  16 f], SV.struct [SV.int IntKind.i64 n_6, SV.arr IntKind.u8 16 f_1], SV.slice s, SV.slice s_1])) ∧ some (SV.box b_11 30 (SV.struct [SV.int IntKind.i64 n,
  SV.int IntKind.i64 n_1, SV.bool b_2, SV.bool b_3, SV.int IntKind.i64 n_2, SV.int IntKind.i64 n_3, SV.int IntKind.i64 n_4, SV.struct [SV.int IntKind.i64
  n_5, SV.arr IntKind.u8 16 f], SV.struct [SV.int IntKind.i64 n_6, SV.arr IntKind.u8 16 f_1], SV.slice s_5, SV.slice s_4])) = some (SV.box b_11 30 (SV.struct
  [SV.int IntKind.i64 n, SV.int IntKind.i64 n_1, SV.bool b_2, SV.bool b_3, SV.int IntKind.i64 n_2, SV.int IntKind.i64 n_3, SV.int IntKind.i64 n_4, SV.struct
  [SV.int IntKind.i64 n_5, SV.arr IntKind.u8 16 f], SV.struct [SV.int IntKind.i64 n_6, SV.arr IntKind.u8 16 f_1], SV.slice s_5, SV.slice s_4])) ∧ J_2 w1_15))))))))
  → J_1 w1) → ∀ (w1_12 : World), Upd [] [] w1 w1_12 → Ret Tryd.prog 21 [SV.int IntKind.i64 n_15] w1_12 fun (r : SV) (w1_13 : World) => ∃ (n_36 : Int), r =
  SV.int IntKind.i64 n_36 ∧ Keeps [b, b_4, b_11] w1_12 w1_13 ∧ Upd [] [] w1 w1_13 ∧ Ret Tryd.prog 36 [SV.struct [SV.int IntKind.i64 n, SV.int IntKind.i64
  n_1, SV.bool b_2, SV.bool b_3, SV.int IntKind.i64 n_2, SV.int IntKind.i64 n_3, SV.int IntKind.i64 n_4, SV.struct [SV.int IntKind.i64 n_5, SV.arr IntKind.u8
  16 f], SV.struct [SV.int IntKind.i64 n_6, SV.arr IntKind.u8 16 f_1], SV.slice s, SV.slice s_1]] w1_13 fun (r : SV) (w1 : World) => ∃ (n_37 : Int), r = SV.int
  IntKind.i64 n_37 ∧ Keeps [b, b_4, b_11] w1_13 w1 ∧ Br (n_36 != n_37) (R (SV.bool false) w1) (Ret Tryd.prog 21 [SV.int IntKind.i64 n_16] w1 fun (r : SV)
  (w1_14 : World) => ∃ (n_38 : Int), r = SV.int IntKind.i64 n_38 ∧ Keeps [b, b_4, b_11] w1 w1_14 ∧ Br (n_38 != n_27) (R (SV.bool false) w1_14) (Ret Tryd.prog
  21 [SV.int IntKind.i64 n_17] w1_14 fun (r : SV) (w1 : World) => ∃ (n_39 : Int), r = SV.int IntKind.i64 n_39 ∧ Keeps [b, b_4, b_11] w1_14 w1 ∧ Br (n_39 !=
  n_27) (R (SV.bool false) w1) (Ret Tryd.prog 24 [SV.slice s_7, SV.slice s_13] w1 fun (r : SV) (w1_15 : World) => ∃ (b_16 : Bool), r = SV.bool b_16 ∧ Keeps
  [b, b_4, b_11] w1 w1_15 ∧ Br (!b_16) (R (SV.bool false) w1_15) (Ret Tryd.prog 24 [SV.slice s_8, SV.slice s_13] w1_15 fun (r : SV) (w1 : World) => ∃ (b_17
  : Bool), r = SV.bool b_17 ∧ Keeps [b, b_4, b_11] w1_15 w1 ∧ Br (!b_17) (R (SV.bool false) w1) (some (SV.box b 30 (SV.struct [SV.int IntKind.i64 h_0, SV.int
  IntKind.i64 h_1, SV.bool h_2, SV.bool h_3, SV.int IntKind.i64 h_4, SV.int IntKind.i64 h_5, SV.int IntKind.i64 h_6, SV.struct [SV.int IntKind.i64 h_7_0,
  SV.arr IntKind.u8 16 h_7_1], SV.struct [SV.int IntKind.i64 h_8_0, SV.arr IntKind.u8 16 h_8_1], SV.slice h_9, SV.slice h_10])) = some (SV.box b 30 (SV.struct
  [SV.int IntKind.i64 h_0, SV.int IntKind.i64 h_1, SV.bool h_2, SV.bool h_3, SV.int IntKind.i64 h_4, SV.int IntKind.i64 h_5, SV.int IntKind.i64 h_6, SV.struct
  [SV.int IntKind.i64 h_7_0, SV.arr IntKind.u8 16 h_7_1], SV.struct [SV.int IntKind.i64 h_8_0, SV.arr IntKind.u8 16 h_8_1], SV.slice h_9, SV.slice h_10]))
  ∧ some (SV.box b_4 30 (SV.struct [SV.int IntKind.i64 n, SV.int IntKind.i64 n_1, SV.bool b_2, SV.bool b_3, SV.int IntKind.i64 n_2, SV.int IntKind.i64 n_3,
  SV.int IntKind.i64 n_4, SV.struct [SV.int IntKind.i64 n_5, SV.arr IntKind.u8 16 f], SV.struct [SV.int IntKind.i64 n_6, SV.arr IntKind.u8 16 f_1], SV.slice
  s, SV.slice s_1])) = some (SV.box b_4 30 (SV.struct [SV.int IntKind.i64 n, SV.int IntKind.i64 n_1, SV.bool b_2, SV.bool b_3, SV.int IntKind.i64 n_2, SV.int
  IntKind.i64 n_3, SV.int IntKind.i64 n_4, SV.struct [SV.int IntKind.i64 n_5, SV.arr IntKind.u8 16 f], SV.struct [SV.int IntKind.i64 n_6, SV.arr IntKind.u8
  16 f_1], SV.slice s, SV.slice s_1])) ∧ some (SV.box b_11 30 (SV.struct [SV.int IntKind.i64 n, SV.int IntKind.i64 n_1, SV.bool b_2, SV.bool b_3, SV.int IntKind.i64
  n_2, SV.int IntKind.i64 n_3, SV.int IntKind.i64 n_4, SV.struct [SV.int IntKind.i64 n_5, SV.arr IntKind.u8 16 f], SV.struct [SV.int IntKind.i64 n_6, SV.arr
  IntKind.u8 16 f_1], SV.slice s_5, SV.slice s_4])) = some (SV.box b_11 30 (SV.struct [SV.int IntKind.i64 n, SV.int IntKind.i64 n_1, SV.bool b_2, SV.bool
  b_3, SV.int IntKind.i64 n_2, SV.int IntKind.i64 n_3, SV.int IntKind.i64 n_4, SV.struct [SV.int IntKind.i64 n_5, SV.arr IntKind.u8 16 f], SV.struct [SV.int
  IntKind.i64 n_6, SV.arr IntKind.u8 16 f_1], SV.slice s_5, SV.slice s_4])) ∧ J_1 w1)))))) → J w1_4) → Br (decide (n_14 ≤ (↑turns.2 : Int))) (Br (decide (n_14
  < 12)) (some (SV.box b 30 (SV.struct [SV.int IntKind.i64 h_0, SV.int IntKind.i64 h_1, SV.bool h_2, SV.bool h_3, SV.int IntKind.i64 h_4, SV.int IntKind.i64
  h_5, SV.int IntKind.i64 h_6, SV.struct [SV.int IntKind.i64 h_7_0, SV.arr IntKind.u8 16 h_7_1], SV.struct [SV.int IntKind.i64 h_8_0, SV.arr IntKind.u8 16
  h_8_1], SV.slice h_9, SV.slice h_10])) = some (SV.box b 30 (SV.struct [SV.int IntKind.i64 h_0, SV.int IntKind.i64 h_1, SV.bool h_2, SV.bool h_3, SV.int
  IntKind.i64 h_4, SV.int IntKind.i64 h_5, SV.int IntKind.i64 h_6, SV.struct [SV.int IntKind.i64 h_7_0, SV.arr IntKind.u8 16 h_7_1], SV.struct [SV.int IntKind.i64
  h_8_0, SV.arr IntKind.u8 16 h_8_1], SV.slice h_9, SV.slice h_10])) ∧ some (SV.box b_4 30 (SV.struct [SV.int IntKind.i64 n, SV.int IntKind.i64 n_1, SV.bool
  b_2, SV.bool b_3, SV.int IntKind.i64 n_2, SV.int IntKind.i64 n_3, SV.int IntKind.i64 n_4, SV.struct [SV.int IntKind.i64 n_5, SV.arr IntKind.u8 16 f], SV.struct
  [SV.int IntKind.i64 n_6, SV.arr IntKind.u8 16 f_1], SV.slice s, SV.slice s_1])) = some (SV.box b_4 30 (SV.struct [SV.int IntKind.i64 n, SV.int IntKind.i64
  n_1, SV.bool b_2, SV.bool b_3, SV.int IntKind.i64 n_2, SV.int IntKind.i64 n_3, SV.int IntKind.i64 n_4, SV.struct [SV.int IntKind.i64 n_5, SV.arr IntKind.u8
  16 f], SV.struct [SV.int IntKind.i64 n_6, SV.arr IntKind.u8 16 f_1], SV.slice s, SV.slice s_1])) ∧ J w1) (Ret Tryd.prog 42 [SV.ptr (some { block := b_10, off := 0 })]
  w1 fun (r : SV) (w1_4 : World) => ∃ (b_11 : Bool), r = SV.bool b_11 ∧ Keeps [b, b_4] w1 w1_4 ∧ R (SV.bool b_11) w1_4)) (Ret Tryd.prog 42 [SV.ptr (some { block := b_10, off := 0 })]
  w1 fun (r : SV) (w1_4 : World) => ∃ (b_11 : Bool), r = SV.bool b_11 ∧ Keeps [b, b_4] w1 w1_4 ∧ R (SV.bool b_11) w1_4))
theorem f6_of (h_0 : Int) (h_1 : Int) (h_2 : Bool) (h_3 : Bool) (h_4 : Int) (h_5 : Int) (h_6 : Int) (h_7_0 : Int) (h_7_1 : Nat → Int) (h_8_0 : Int) (h_8_1 : Nat → Int) (h_9 : Sl) (h_10 : Sl) (l : Sl) (turns : Sl) (w : World) (R : SV → World → Prop) (hV : vc6 h_0 h_1 h_2 h_3 h_4 h_5 h_6 h_7_0 h_7_1 h_8_0 h_8_1 h_9 h_10 l turns w R) : Ret Tryd.prog 6 [.struct [.int .i64 h_0, .int .i64 h_1, .bool h_2, .bool h_3, .int .i64 h_4, .int .i64 h_5, .int .i64 h_6, .struct [.int .i64 h_7_0, .arr .u8 16 h_7_1], .struct [.int .i64 h_8_0, .arr .u8 16 h_8_1], .slice h_9, .slice h_10], .slice l, .slice turns] w R :=
  have e : vc6 h_0 h_1 h_2 h_3 h_4 h_5 h_6 h_7_0 h_7_1 h_8_0 h_8_1 h_9 h_10 l turns w R = fnVC X Tryd.f6 a6 [.struct [.int .i64 h_0, .int .i64 h_1, .bool h_2, .bool h_3, .int .i64 h_4, .int .i64 h_5, .int .i64 h_6, .struct [.int .i64 h_7_0, .arr .u8 16 h_7_1], .struct [.int .i64 h_8_0, .arr .u8 16 h_8_1], .slice h_9, .slice h_10], .slice l, .slice turns] w R := by kernel_rfl
  fnVC_sound X_ok (n := a6) (e ▸ hV) (by kernel_rfl) (by kernel_rfl) rfl rfl

end Go.Vc.S6
