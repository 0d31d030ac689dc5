import Derived.Test.YtopobapmncbjhaaG3
import Derived.KernelRfl
open Go Go.Vc Go.Vc.S5 Go.Proofs
set_option maxRecDepth 100000
set_option linter.unusedVariables false
namespace Go.Vc.S5
def vc11 (b : Sl) (f_0 : Nat → Int) (f_1 : Nat → Int) (f_2 : Sl) (f_3 : Int) (f_4 : Sl) (turns : Sl) (w : World) (R : SV → World → Prop) : Prop := ∀ (b_1
  : Nat) (w1 : World), Upd [] [b_1] w w1 → Ret Try.prog 25 [] w1 fun (r : SV) (w1_1 : World) => ∃ (b_2 : Bool), r = SV.bool b_2 ∧ Keeps [b_1] w1 w1_1 ∧ Br
  (!b_2) (R (SV.bool false) w1_1) (Ret Try.prog 29 [SV.struct [SV.arr IntKind.u8 6 f_0, SV.arr IntKind.u8 6 f_1, SV.slice f_2, SV.int IntKind.i64 f_3, SV.slice
  f_4]] w1_1 fun (r : SV) (w1 : World) => ∃ (f : Nat → Int), ∃ (f_5 : Nat → Int), ∃ (s : Sl), ∃ (n : Int), ∃ (s_1 : Sl), r = SV.struct [SV.arr IntKind.u8
  6 f, SV.arr IntKind.u8 6 f_5, SV.slice s, SV.int IntKind.i64 n, SV.slice s_1] ∧ Keeps [b_1] w1_1 w1 ∧ ∀ (J : Sl → World → Prop), (∀ (s_2 : Sl) (w1 : World),
  (Ret Try.prog 35 [SV.struct [SV.arr IntKind.u8 6 f, SV.arr IntKind.u8 6 f_5, SV.slice s, SV.int IntKind.i64 n, SV.slice s_1]] w1 fun (r : SV) (w1_2 : World)
  => ∃ (f_6 : Nat → Int), ∃ (f_7 : Nat → Int), ∃ (s_3 : Sl), ∃ (n_1 : Int), ∃ (s_4 : Sl), r = SV.struct [SV.arr IntKind.u8 6 f_6, SV.arr IntKind.u8 6 f_7,
  SV.slice s_3, SV.int IntKind.i64 n_1, SV.slice s_4] ∧ Keeps [b_1] w1 w1_2 ∧ Ret Try.prog 36 [SV.slice s_2] w1_2 fun (r : SV) (w1 : World) => ∃ (s_5 : Sl),
  r = SV.slice s_5 ∧ Keeps [b_1] w1_2 w1 ∧ ∀ (b : Nat), ∃ (I : Int → World → Prop), ∃ (M : Int → World → Nat), (∀ (w1_3 : World), Upd [] [b] w1 w1_3 → I 0
  w1_3) ∧ ∀ (n_2 : Int) (w1 : World), I n_2 w1 → ∀ (J : World → Prop), (∀ (w1_3 : World), (∀ (J : World → Prop), (∀ (w1_4 : World), some (SV.box b_1 50 (SV.struct
  [SV.arr IntKind.u8 6 f, SV.arr IntKind.u8 6 f_5, SV.slice s, SV.int IntKind.i64 n, SV.slice s_1])) = some (SV.box b_1 50 (SV.struct [SV.arr IntKind.u8 6
  f, SV.arr IntKind.u8 6 f_5, SV.slice s, SV.int IntKind.i64 n, SV.slice s_1])) ∧ some (SV.box b 50 (SV.struct [SV.arr IntKind.u8 6 f_6, SV.arr IntKind.u8
  6 f_7, SV.slice s_3, SV.int IntKind.i64 n_1, SV.slice s_4])) = some (SV.box b 50 (SV.struct [SV.arr IntKind.u8 6 f_6, SV.arr IntKind.u8 6 f_7, SV.slice
  s_3, SV.int IntKind.i64 n_1, SV.slice s_4])) ∧ I (wr IntKind.i64 (n_2 + 1)) w1_4 ∧ M (wr IntKind.i64 (n_2 + 1)) w1_4 < M n_2 w1 → J w1_4) → Ret Try.prog
  29 [SV.struct [SV.arr IntKind.u8 6 f_6, SV.arr IntKind.u8 6 f_7, SV.slice s_3, SV.int IntKind.i64 n_1, SV.slice s_4]] w1_3 fun (r : SV) (w1 : World) =>
  ∃ (f_8 : Nat → Int), ∃ (f_9 : Nat → Int), ∃ (s_6 : Sl), ∃ (n_3 : Int), ∃ (s_7 : Sl), r = SV.struct [SV.arr IntKind.u8 6 f_8, SV.arr IntKind.u8 6 f_9, SV.slice
  s_6, SV.int IntKind.i64 n_3, SV.slice s_7] ∧ Keeps [b_1, b] w1_3 w1 ∧ Ret Try.prog 17 [SV.slice s_5] w1 fun (r : SV) (w1_4 : World) => ∃ (s_8 : Sl), r =
  SV.slice s_8 ∧ Keeps [b_1, b] w1 w1_4 ∧ ∀ (b_3 : Nat) (w1 : World), Upd [] [b_3] w1_4 w1 → Ret Try.prog 26 [SV.slice s_5] w1 fun (r : SV) (w1_5 : World)
  => ∃ (f_10 : Nat → Int), ∃ (f_11 : Nat → Int), ∃ (s_9 : Sl), ∃ (n_4 : Int), ∃ (s_10 : Sl), ∃ (n_5 : Int), r = SV.tuple [SV.struct [SV.arr IntKind.u8 6 f_10,
  SV.arr IntKind.u8 6 f_11, SV.slice s_9, SV.int IntKind.i64 n_4, SV.slice s_10], SV.int IntKind.i64 n_5] ∧ Keeps [b_1, b, b_3] w1 w1_5 ∧ ∀ (b_4 : Nat) (w1
  : World), Upd [] [b_4] w1_5 w1 → Ret Try.prog 17 [SV.slice s_5] w1 fun (r : SV) (w1_6 : World) => ∃ (s_11 : Sl), r = SV.slice s_11 ∧ Keeps [b_1, b, b_3,
  b_4] w1 w1_6 ∧ Ret Try.prog 27 [SV.slice s_11] w1_6 fun (r : SV) (w1 : World) => ∃ (f_12 : Nat → Int), ∃ (f_13 : Nat → Int), ∃ (s_12 : Sl), ∃ (n_6 : Int),
  ∃ (s_13 : Sl), ∃ (n_7 : Int), r = SV.tuple [SV.struct [SV.arr IntKind.u8 6 f_12, SV.arr IntKind.u8 6 f_13, SV.slice s_12, SV.int IntKind.i64 n_6, SV.slice
  s_13], SV.int IntKind.i64 n_7] ∧ Keeps [b_1, b, b_3, b_4] w1_6 w1 ∧ ∀ (b_5 : Nat) (J_1 : World → Prop), (∀ (w1 : World), (Ret Try.prog 22 [SV.slice s_5]
  w1 fun (r : SV) (w1_7 : World) => ∃ (n_8 : Int), ∃ (f_14 : Nat → Int), ∃ (n_9 : Int), ∃ (f_15 : Nat → Int), ∃ (f_16 : Nat → Int), ∃ (n_10 : Int), ∃ (f_17
  : Nat → Int), ∃ (n_11 : Int), r = SV.tuple [SV.struct [SV.int IntKind.i64 n_8, SV.arr IntKind.u8 6 f_14, SV.struct [SV.int IntKind.i64 n_9, SV.arr IntKind.u8
  16 f_15], SV.arr IntKind.u8 6 f_16, SV.struct [SV.int IntKind.i64 n_10, SV.arr IntKind.u8 16 f_17]], SV.int IntKind.i64 n_11] ∧ Keeps [b_1, b, b_3, b_4,
  b_5] w1 w1_7 ∧ ∀ (b_6 : Nat) (w1 : World), Upd [] [b_6] w1_7 w1 → Ret Try.prog 17 [SV.slice s_5] w1 fun (r : SV) (w1_8 : World) => ∃ (s_14 : Sl), r = SV.slice
  s_14 ∧ Keeps [b_1, b, b_3, b_4, b_5, b_6] w1 w1_8 ∧ Ret Try.prog 23 [SV.slice s_14] w1_8 fun (r : SV) (w1 : World) => ∃ (n_12 : Int), ∃ (f_18 : Nat → Int),
  ∃ (n_13 : Int), ∃ (f_19 : Nat → Int), ∃ (f_20 : Nat → Int), ∃ (n_14 : Int), ∃ (f_21 : Nat → Int), ∃ (n_15 : Int), r = SV.tuple [SV.struct [SV.int IntKind.i64
  n_12, SV.arr IntKind.u8 6 f_18, SV.struct [SV.int IntKind.i64 n_13, SV.arr IntKind.u8 16 f_19], SV.arr IntKind.u8 6 f_20, SV.struct [SV.int IntKind.i64
  n_14, SV.arr IntKind.u8 16 f_21]], SV.int IntKind.i64 n_15] ∧ Keeps [b_1, b, b_3, b_4, b_5, b_6] w1_8 w1 ∧ ∀ (b_7 : Nat) (J_2 : World → Prop), (∀ (w1 :
  World), (Ret Try.prog 31 [SV.struct [SV.arr IntKind.u8 6 f_6, SV.arr IntKind.u8 6 f_7, SV.slice s_3, SV.int IntKind.i64 n_1, SV.slice s_4]] w1 fun (r :
  SV) (w1_9 : World) => ∃ (s_15 : Sl), ∃ (n_16 : Int), r = SV.tuple [SV.slice s_15, SV.int IntKind.i64 n_16] ∧ Keeps [b_1, b, b_3, b_4, b_5, b_6, b_7] w1
  w1_9 ∧ Ret Try.prog 32 [SV.struct [SV.arr IntKind.u8 6 f_8, SV.arr IntKind.u8 6 f_9, SV.slice s_6, SV.int IntKind.i64 n_3, SV.slice s_7]] w1_9 fun (r :
  SV) (w1 : World) => ∃ (s_16 : Sl), ∃ (n_17 : Int), r = SV.tuple [SV.slice s_16, SV.int IntKind.i64 n_17] ∧ Keeps [b_1, b, b_3, b_4, b_5, b_6, b_7] w1_9
  w1 ∧ ∀ (J_3 : World → Prop), (∀ (w1 : World), Br (decide (n_2 < (↑turns.2 : Int))) (Need (decide (0 ≤ n_2) && decide (n_2 < (↑turns.2 : Int)) && Option.isSome
  turns.1) (∃ (n_18 : Int), World.cell? w1 (Sl.at turns 3 (Int.toNat n_2)) = some (Value.int IntKind.i64 n_18) ∧ ∃ (n_19 : Int), World.cell? w1 (Addr.add
  (Sl.at turns 3 (Int.toNat n_2)) 1) = some (Value.int IntKind.i64 n_19) ∧ ∃ (n_20 : Int), World.cell? w1 (Addr.add (Sl.at turns 3 (Int.toNat n_2)) 2) = some
  (Value.int IntKind.i64 n_20) ∧ ∀ (w1_10 : World), Upd [] [] w1 w1_10 → Ret Try.prog 39 [SV.slice s_5, SV.struct [SV.arr IntKind.u8 6 f_6, SV.arr IntKind.u8
  6 f_7, SV.slice s_3, SV.int IntKind.i64 n_1, SV.slice s_4], SV.struct [SV.int IntKind.i64 n_18, SV.int IntKind.i64 n_19, SV.int IntKind.i64 n_20]] w1_10
  fun (r : SV) (w1 : World) => r = SV.tuple [] ∧ Keeps [b_1, b, b_3, b_4, b_5, b_6, b_7] w1_10 w1 ∧ some (SV.box b_1 50 (SV.struct [SV.arr IntKind.u8 6 f,
  SV.arr IntKind.u8 6 f_5, SV.slice s, SV.int IntKind.i64 n, SV.slice s_1])) = some (SV.box b_1 50 (SV.struct [SV.arr IntKind.u8 6 f, SV.arr IntKind.u8 6
  f_5, SV.slice s, SV.int IntKind.i64 n, SV.slice s_1])) ∧ some (SV.box b 50 (SV.struct [SV.arr IntKind.u8 6 f_6, SV.arr IntKind.u8 6 f_7, SV.slice s_3, SV.int
  IntKind.i64 n_1, SV.slice s_4])) = some (SV.box b 50 (SV.struct [SV.arr IntKind.u8 6 f_6, SV.arr IntKind.u8 6 f_7, SV.slice s_3, SV.int IntKind.i64 n_1,
  SV.slice s_4])) ∧ J w1)) (some (SV.box b_1 50 (SV.struct [SV.arr IntKind.u8 6 f, SV.arr IntKind.u8 6 f_5, SV.slice s, SV.int IntKind.i64 n, SV.slice s_1]))
  = some (SV.box b_1 50 (SV.struct [SV.arr IntKind.u8 6 f, SV.arr IntKind.u8 6 f_5, SV.slice s, SV.int IntKind.i64 n, SV.slice s_1])) ∧ some (SV.box b 50
  (SV.struct [SV.arr IntKind.u8 6 f_6, SV.arr IntKind.u8 6 f_7, SV.slice s_3, SV.int IntKind.i64 n_1, SV.slice s_4])) = some (SV.box b 50 (SV.struct [SV.arr
  IntKind.u8 6 f_6, SV.arr IntKind.u8 6 f_7, SV.slice s_3, SV.int IntKind.i64 n_1, SV.slice s_4])) ∧ J w1) → J_3 w1) → Br (n_16 != n_17) (R (SV.bool false)
  w1) (Ret Try.prog 30 [SV.struct [SV.arr IntKind.u8 6 f_6, SV.arr IntKind.u8 6 f_7, SV.slice s_3, SV.int IntKind.i64 n_1, SV.slice s_4]] w1 fun (r : SV)
  (w1_10 : World) => ∃ (n_18 : Int), r = SV.int IntKind.i64 n_18 ∧ Keeps [b_1, b, b_3, b_4, b_5, b_6, b_7] w1 w1_10 ∧ Br (n_18 != n_17) (R (SV.bool false)
  w1_10) (Ret Try.prog 19 [SV.slice s_15, SV.slice s_16] w1_10 fun (r : SV) (w1 : World) => ∃ (b_8 : Bool), r = SV.bool b_8 ∧ Keeps [b_1, b, b_3, b_4, b_5,
  b_6, b_7] w1_10 w1 ∧ Br (!b_8) (R (SV.bool false) w1) (Ret Try.prog 37 [SV.struct [SV.arr IntKind.u8 6 f_6, SV.arr IntKind.u8 6 f_7, SV.slice s_3, SV.int
  IntKind.i64 n_1, SV.slice s_4], SV.struct [SV.arr IntKind.u8 6 f_8, SV.arr IntKind.u8 6 f_9, SV.slice s_6, SV.int IntKind.i64 n_3, SV.slice s_7]] w1 fun
  (r : SV) (w1_11 : World) => ∃ (b_9 : Bool), r = SV.bool b_9 ∧ Keeps [b_1, b, b_3, b_4, b_5, b_6, b_7] w1 w1_11 ∧ Br (!b_9) (R (SV.bool false) w1_11) (Ret
  Try.prog 38 [SV.slice s_5, SV.slice s_8] w1_11 fun (r : SV) (w1 : World) => ∃ (b_10 : Bool), r = SV.bool b_10 ∧ Keeps [b_1, b, b_3, b_4, b_5, b_6, b_7]
  w1_11 w1 ∧ Br (!b_10) (R (SV.bool false) w1) (some (SV.box b_1 50 (SV.struct [SV.arr IntKind.u8 6 f, SV.arr IntKind.u8 6 f_5, SV.slice s, SV.int IntKind.i64
  n, SV.slice s_1])) = some (SV.box b_1 50 (SV.struct [SV.arr IntKind.u8 6 f, SV.arr IntKind.u8 6 f_5, SV.slice s, SV.int IntKind.i64 n, SV.slice s_1])) ∧
  some (SV.box b 50 (SV.struct [SV.arr IntKind.u8 6 f_6, SV.arr IntKind.u8 6 f_7, SV.slice s_3, SV.int IntKind.i64 n_1, SV.slice s_4])) = some (SV.box b 50
  (SV.struct [SV.arr IntKind.u8 6 f_6, SV.arr IntKind.u8 6 f_7, SV.slice s_3, SV.int IntKind.i64 n_1, SV.slice s_4])) ∧ some (SV.box b_3 50 (SV.struct [SV.arr
  IntKind.u8 6 f_8, SV.arr IntKind.u8 6 f_9, SV.slice s_6, SV.int IntKind.i64 n_3, SV.slice s_7])) = some (SV.box b_3 50 (SV.struct [SV.arr IntKind.u8 6 f_8,
  SV.arr IntKind.u8 6 f_9, SV.slice s_6, SV.int IntKind.i64 n_3, SV.slice s_7])) ∧ some (SV.box b_4 50 (SV.struct [SV.arr IntKind.u8 6 f_10, SV.arr IntKind.u8
  6 f_11, SV.slice s_9, SV.int IntKind.i64 n_4, SV.slice s_10])) = some (SV.box b_4 50 (SV.struct [SV.arr IntKind.u8 6 f_10, SV.arr IntKind.u8 6 f_11, SV.slice
  s_9, SV.int IntKind.i64 n_4, SV.slice s_10])) ∧ some (SV.box b_5 50 (SV.struct [SV.arr IntKind.u8 6 f_12, SV.arr IntKind.u8 6 f_13, SV.slice s_12, SV.int
  IntKind.i64 n_6, SV.slice s_13])) = some (SV.box b_5 50 (SV.struct [SV.arr IntKind.u8 6 f_12, SV.arr IntKind.u8 6 f_13, SV.slice s_12, SV.int IntKind.i64
  n_6, SV.slice s_13])) ∧ some (SV.box b_6 35 (SV.struct [SV.int IntKind.i64 n_8, SV.arr IntKind.u8 6 f_14, SV.struct [SV.int IntKind.i64 n_9, SV.arr IntKind.u8
  16 f_15], SV.arr IntKind.u8 6 f_16, SV.struct [SV.int IntKind.i64 n_10, SV.arr IntKind.u8 16 f_17]])) = some (SV.box b_6 35 (SV.struct [SV.int IntKind.i64
  n_8, SV.arr IntKind.u8 6 f_14, SV.struct [SV.int IntKind.i64 n_9, SV.arr IntKind.u8 16 f_15], SV.arr IntKind.u8 6 f_16, SV.struct [SV.int IntKind.i64 n_10,
  SV.arr IntKind.u8 16 f_17]])) ∧ some (SV.box b_7 35 (SV.struct [SV.int IntKind.i64 n_12, SV.arr IntKind.u8 6 f_18, SV.struct [SV.int IntKind.i64 n_13, SV.arr
  IntKind.u8 16 f_19], SV.arr IntKind.u8 6 f_20, SV.struct [SV.int IntKind.i64 n_14, SV.arr IntKind.u8 16 f_21]])) = some (SV.box b_7 35 (SV.struct [SV.int
  IntKind.i64 n_12, SV.arr IntKind.u8 6 f_18, SV.struct [SV.int IntKind.i64 n_13, SV.arr IntKind.u8 16 f_19], SV.arr IntKind.u8 6 f_20, SV.struct [SV.int
  IntKind.i64 n_14, SV.arr IntKind.u8 16 f_21]])) ∧ J_3 w1)))))) → J_2 w1) → Br (n_11 != n_15) (∀ (w1_9 : World), Upd [] [b_7] w1 w1_9 → R (SV.bool false)
  w1_9) (Br (!(n_8 == n_12 && (eqArr 6 f_14 f_18 && (n_9 == n_13 && eqArr 16 f_15 f_19 && (eqArr 6 f_16 f_20 && (n_10 == n_14 && eqArr 16 f_17 f_21))))))
  (∀ (w1_9 : World), Upd [] [b_7] w1 w1_9 → R (SV.bool false) w1_9) (∀ (w1_9 : World), Upd [] [b_7] w1 w1_9 → Ret Try.prog 13 [SV.slice s_5] w1_9 fun (r :
  SV) (w1 : World) => ∃ (s_15 : Sl), r = SV.slice s_15 ∧ Keeps [b_1, b, b_3, b_4, b_5, b_6, b_7] w1_9 w1 ∧ Ret Try.prog 18 [SV.slice s_8] w1 fun (r : SV)
  (w1_10 : World) => ∃ (s_16 : Sl), r = SV.slice s_16 ∧ Keeps [b_1, b, b_3, b_4, b_5, b_6, b_7] w1 w1_10 ∧ Ret Try.prog 19 [SV.slice s_15, SV.slice s_16]
  w1_10 fun (r : SV) (w1 : World) => ∃ (b_8 : Bool), r = SV.bool b_8 ∧ Keeps [b_1, b, b_3, b_4, b_5, b_6, b_7] w1_10 w1 ∧ Br (!b_8) (R (SV.bool false) w1)
  (some (SV.box b_1 50 (SV.struct [SV.arr IntKind.u8 6 f, SV.arr IntKind.u8 6 f_5, SV.slice s, SV.int IntKind.i64 n, SV.slice s_1])) = some (SV.box b_1 50
  (SV.struct [SV.arr IntKind.u8 6 f, SV.arr IntKind.u8 6 f_5, SV.slice s, SV.int IntKind.i64 n, SV.slice s_1])) ∧ some (SV.box b 50 (SV.struct [SV.arr IntKind.u8
  6 f_6, SV.arr IntKind.u8 6 f_7, SV.slice s_3, SV.int IntKind.i64 n_1, SV.slice s_4])) = some (SV.box b 50 (SV.struct [SV.arr IntKind.u8 6 f_6, SV.arr IntKind.u8
  6 f_7, SV.slice s_3, SV.int IntKind.i64 n_1, SV.slice s_4])) ∧ some (SV.box b_3 50 (SV.struct [SV.arr IntKind.u8 6 f_8, SV.arr IntKind.u8 6 f_9, SV.slice
  s_6, SV.int IntKind.i64 n_3, SV.slice s_7])) = some (SV.box b_3 50 (SV.struct [SV.arr IntKind.u8 6 f_8, SV.arr IntKind.u8 6 f_9, SV.slice s_6, SV.int IntKind.i64
  n_3, SV.slice s_7])) ∧ some (SV.box b_4 50 (SV.struct [SV.arr IntKind.u8 6 f_10, SV.arr IntKind.u8 6 f_11, SV.slice s_9, SV.int IntKind.i64 n_4, SV.slice
  s_10])) = some (SV.box b_4 50 (SV.struct [SV.arr IntKind.u8 6 f_10, SV.arr IntKind.u8 6 f_11, SV.slice s_9, SV.int IntKind.i64 n_4, SV.slice s_10])) ∧ some
  (SV.box b_5 50 (SV.struct [SV.arr IntKind.u8 6 f_12, SV.arr IntKind.u8 6 f_13, SV.slice s_12, SV.int IntKind.i64 n_6, SV.slice s_13])) = some (SV.box b_5
  50 (SV.struct [SV.arr IntKind.u8 6 f_12, SV.arr IntKind.u8 6 f_13, SV.slice s_12, SV.int IntKind.i64 n_6, SV.slice s_13])) ∧ some (SV.box b_6 35 (SV.struct
  [SV.int IntKind.i64 n_8, SV.arr IntKind.u8 6 f_14, SV.struct [SV.int IntKind.i64 n_9, SV.arr IntKind.u8 16 f_15], SV.arr IntKind.u8 6 f_16, SV.struct [SV.int
  IntKind.i64 n_10, SV.arr IntKind.u8 16 f_17]])) = some (SV.box b_6 35 (SV.struct [SV.int IntKind.i64 n_8, SV.arr IntKind.u8 6 f_14, SV.struct [SV.int IntKind.i64
  n_9, SV.arr IntKind.u8 16 f_15], SV.arr IntKind.u8 6 f_16, SV.struct [SV.int IntKind.i64 n_10, SV.arr IntKind.u8 16 f_17]])) ∧ some (SV.box b_7 35 (SV.struct
  [SV.int IntKind.i64 n_12, SV.arr IntKind.u8 6 f_18, SV.struct [SV.int IntKind.i64 n_13, SV.arr IntKind.u8 16 f_19], SV.arr IntKind.u8 6 f_20, SV.struct
  [SV.int IntKind.i64 n_14, SV.arr IntKind.u8 16 f_21]])) = some (SV.box b_7 35 (SV.struct [SV.int IntKind.i64 n_12, SV.arr IntKind.u8 6 f_18, SV.struct [SV.int
  IntKind.i64 n_13, SV.arr IntKind.u8 16 f_19], SV.arr IntKind.u8 6 f_20, SV.struct [SV.int IntKind.i64 n_14, SV.arr IntKind.u8 16 f_21]])) ∧ J_2 w1)))) →
  J_1 w1) → Br (n_5 != n_7) (∀ (w1_7 : World), Upd [] [b_5] w1 w1_7 → R (SV.bool false) w1_7) (∀ (w1_7 : World), Upd [] [b_5] w1 w1_7 → Ret Try.prog 28 [SV.struct
  [SV.arr IntKind.u8 6 f_10, SV.arr IntKind.u8 6 f_11, SV.slice s_9, SV.int IntKind.i64 n_4, SV.slice s_10], SV.struct [SV.arr IntKind.u8 6 f_12, SV.arr IntKind.u8
  6 f_13, SV.slice s_12, SV.int IntKind.i64 n_6, SV.slice s_13]] w1_7 fun (r : SV) (w1 : World) => ∃ (b_6 : Bool), r = SV.bool b_6 ∧ Keeps [b_1, b, b_3, b_4,
  b_5] w1_7 w1 ∧ Br (!b_6) (R (SV.bool false) w1) (some (SV.box b_1 50 (SV.struct [SV.arr IntKind.u8 6 f, SV.arr IntKind.u8 6 f_5, SV.slice s, SV.int IntKind.i64
  n, SV.slice s_1])) = some (SV.box b_1 50 (SV.struct [SV.arr IntKind.u8 6 f, SV.arr IntKind.u8 6 f_5, SV.slice s, SV.int IntKind.i64 n, SV.slice s_1])) ∧
  some (SV.box b 50 (SV.struct [SV.arr IntKind.u8 6 f_6, SV.arr IntKind.u8 6 f_7, SV.slice s_3, SV.int IntKind.i64 n_1, SV.slice s_4])) = some (SV.box b 50
  (SV.struct [SV.arr IntKind.u8 6 f_6, SV.arr IntKind.u8 6 f_7, SV.slice s_3, SV.int IntKind.i64 n_1, SV.slice s_4])) ∧ some (SV.box b_3 50 (SV.struct [SV.arr
  IntKind.u8 6 f_8, SV.arr IntKind.u8 6 f_9, SV.slice s_6, SV.int IntKind.i64 n_3, SV.slice s_7])) = some (SV.box b_3 50 (SV.struct [SV.arr IntKind.u8 6 f_8,
  SV.arr IntKind.u8 6 f_9, SV.slice s_6, SV.int IntKind.i64 n_3, SV.slice s_7])) ∧ some (SV.box b_4 50 (SV.struct [SV.arr IntKind.u8 6 f_10, SV.arr IntKind.u8
  6 f_11, SV.slice s_9, SV.int IntKind.i64 n_4, SV.slice s_10])) = some (SV.box b_4 50 (SV.struct [SV.arr IntKind.u8 6 f_10, SV.arr IntKind.u8 6 f_11, SV.slice
  s_9, SV.int IntKind.i64 n_4, SV.slice s_10])) ∧ some (SV.box b_5 50 (SV.struct [SV.arr IntKind.u8 6 f_12, SV.arr IntKind.u8 6 f_13, SV.slice s_12, SV.int
  IntKind.i64 n_6, SV.slice s_13])) = some (SV.box b_5 50 (SV.struct [SV.arr IntKind.u8 6 f_12, SV.arr IntKind.u8 6 f_13, SV.slice s_12, SV.int IntKind.i64
  n_6, SV.slice s_13])) ∧ J_1 w1))) → J w1_3) → Br (decide (n_2 ≤ (↑turns.2 : Int))) (Br (decide (n_2 ≤ 12)) (some (SV.box b_1 50 (SV.struct [SV.arr IntKind.u8
  6 f, SV.arr IntKind.u8 6 f_5, SV.slice s, SV.int IntKind.i64 n, SV.slice s_1])) = some (SV.box b_1 50 (SV.struct [SV.arr IntKind.u8 6 f, SV.arr IntKind.u8
  6 f_5, SV.slice s, SV.int IntKind.i64 n, SV.slice s_1])) ∧ some (SV.box b 50 (SV.struct [SV.arr IntKind.u8 6 f_6, SV.arr IntKind.u8 6 f_7, SV.slice s_3,
  SV.int IntKind.i64 n_1, SV.slice s_4])) = some (SV.box b 50 (SV.struct [SV.arr IntKind.u8 6 f_6, SV.arr IntKind.u8 6 f_7, SV.slice s_3, SV.int IntKind.i64
  n_1, SV.slice s_4])) ∧ J w1) (Ret Try.prog 25 [] w1 fun (r : SV) (w1_3 : World) => ∃ (b_3 : Bool), r = SV.bool b_3 ∧ Keeps [b_1, b] w1 w1_3 ∧ R (SV.bool
  b_3) w1_3)) (Ret Try.prog 25 [] w1 fun (r : SV) (w1_3 : World) => ∃ (b_3 : Bool), r = SV.bool b_3 ∧ Keeps [b_1, b] w1 w1_3 ∧ R (SV.bool b_3) w1_3)) → J
  s_2 w1) → Br (decide ((↑b.2 : Int) > 70000)) (Need (decide (70000 ≤ (↑b.3 : Int))) (∀ (w1_2 : World), Upd [b_1] [] w1 w1_2 → some (SV.box b_1 50 (SV.struct
  [SV.arr IntKind.u8 6 f, SV.arr IntKind.u8 6 f_5, SV.slice s, SV.int IntKind.i64 n, SV.slice s_1])) = some (SV.box b_1 50 (SV.struct [SV.arr IntKind.u8 6
  f, SV.arr IntKind.u8 6 f_5, SV.slice s, SV.int IntKind.i64 n, SV.slice s_1])) ∧ J (Sl.sub b 1 0 70000 b.3) w1_2)) (∀ (w1_2 : World), Upd [b_1] [] w1 w1_2
  → some (SV.box b_1 50 (SV.struct [SV.arr IntKind.u8 6 f, SV.arr IntKind.u8 6 f_5, SV.slice s, SV.int IntKind.i64 n, SV.slice s_1])) = some (SV.box b_1 50
  (SV.struct [SV.arr IntKind.u8 6 f, SV.arr IntKind.u8 6 f_5, SV.slice s, SV.int IntKind.i64 n, SV.slice s_1])) ∧ J b w1_2))
theorem f11_of (b : Sl) (f_0 : Nat → Int) (f_1 : Nat → Int) (f_2 : Sl) (f_3 : Int) (f_4 : Sl) (turns : Sl) (w : World) (R : SV → World → Prop) (hV : vc11 b f_0 f_1 f_2 f_3 f_4 turns w R) : Ret Try.prog 11 [.slice b, .struct [.arr .u8 6 f_0, .arr .u8 6 f_1, .slice f_2, .int .i64 f_3, .slice f_4], .slice turns] w R :=
  have e : vc11 b f_0 f_1 f_2 f_3 f_4 turns w R = fnVC X Try.f11 a11 [.slice b, .struct [.arr .u8 6 f_0, .arr .u8 6 f_1, .slice f_2, .int .i64 f_3, .slice f_4], .slice turns] w R := by kernel_rfl
  fnVC_sound X_ok (n := a11) (e ▸ hV) (by kernel_rfl) (by kernel_rfl) rfl rfl

end Go.Vc.S5
