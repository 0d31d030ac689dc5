import Derived.Test.YtopobapmncbjhaaAnnr5
import Derived.Test.YtopobapmncbjhaaNum
import Derived.KernelRfl
open Go Go.Vc Go.Vc.S5 Go.Proofs
set_option maxRecDepth 100000
set_option linter.unusedVariables false
namespace Go.Vc.S5
def vc4 (b : Sl) (a_0 : Int) (a_1 : Nat → Int) (a_2_0 : Int) (a_2_1 : Nat → Int) (a_3 : Nat → Int) (a_4_0 : Int) (a_4_1 : Nat → Int) (w : World) (R : SV
  → World → Prop) : Prop := ∀ (b_1 : Nat) (w1 : World), Upd [] [b_1] w w1 → Ret Try.prog 21 [] w1 fun (r : SV) (w1_1 : World) => ∃ (n : Int), ∃ (f : Nat →
  Int), ∃ (n_1 : Int), ∃ (f_1 : Nat → Int), ∃ (f_2 : Nat → Int), ∃ (n_2 : Int), ∃ (f_3 : Nat → Int), r = SV.struct [SV.int IntKind.i64 n, SV.arr IntKind.u8
  6 f, SV.struct [SV.int IntKind.i64 n_1, SV.arr IntKind.u8 16 f_1], SV.arr IntKind.u8 6 f_2, SV.struct [SV.int IntKind.i64 n_2, SV.arr IntKind.u8 16 f_3]]
  ∧ Keeps [b_1] w1 w1_1 ∧ Ret Try.prog 20 [SV.struct [SV.int IntKind.i64 n, SV.arr IntKind.u8 6 f, SV.struct [SV.int IntKind.i64 n_1, SV.arr IntKind.u8 16
  f_1], SV.arr IntKind.u8 6 f_2, SV.struct [SV.int IntKind.i64 n_2, SV.arr IntKind.u8 16 f_3]]] w1_1 fun (r : SV) (w1 : World) => ∃ (s : Sl), ∃ (n : Int),
  r = SV.tuple [SV.slice s, SV.int IntKind.i64 n] ∧ Keeps [b_1] w1_1 w1 ∧ Ret Try.prog 22 [SV.slice s] w1 fun (r : SV) (w1_2 : World) => ∃ (n_3 : Int), ∃
  (f : Nat → Int), ∃ (n_4 : Int), ∃ (f_4 : Nat → Int), ∃ (f_5 : Nat → Int), ∃ (n_5 : Int), ∃ (f_6 : Nat → Int), ∃ (n_6 : Int), r = SV.tuple [SV.struct [SV.int
  IntKind.i64 n_3, SV.arr IntKind.u8 6 f, SV.struct [SV.int IntKind.i64 n_4, SV.arr IntKind.u8 16 f_4], SV.arr IntKind.u8 6 f_5, SV.struct [SV.int IntKind.i64
  n_5, SV.arr IntKind.u8 16 f_6]], SV.int IntKind.i64 n_6] ∧ Keeps [b_1] w1 w1_2 ∧ ∀ (b_2 : Nat) (J : World → Prop), (∀ (w1 : World), (Ret Try.prog 16 [SV.slice
  b] w1 fun (r : SV) (w1_3 : World) => ∃ (s_1 : Sl), ∃ (s_2 : Sl), r = SV.tuple [SV.slice s_1, SV.slice s_2] ∧ Keeps [b_1, b_2] w1 w1_3 ∧ Ret Try.prog 17
  [SV.slice s_2] w1_3 fun (r : SV) (w1 : World) => ∃ (s_3 : Sl), r = SV.slice s_3 ∧ Keeps [b_1, b_2] w1_3 w1 ∧ Ret Try.prog 22 [SV.slice s_1] w1 fun (r :
  SV) (w1_4 : World) => ∃ (n : Int), ∃ (f_7 : Nat → Int), ∃ (n_7 : Int), ∃ (f_8 : Nat → Int), ∃ (f_9 : Nat → Int), ∃ (n_8 : Int), ∃ (f_10 : Nat → Int), ∃
  (n_9 : Int), r = SV.tuple [SV.struct [SV.int IntKind.i64 n, SV.arr IntKind.u8 6 f_7, SV.struct [SV.int IntKind.i64 n_7, SV.arr IntKind.u8 16 f_8], SV.arr
  IntKind.u8 6 f_9, SV.struct [SV.int IntKind.i64 n_8, SV.arr IntKind.u8 16 f_10]], SV.int IntKind.i64 n_9] ∧ Keeps [b_1, b_2] w1 w1_4 ∧ ∀ (b : Nat) (w1 :
  World), Upd [] [b] w1_4 w1 → Ret Try.prog 17 [SV.slice s_1] w1 fun (r : SV) (w1_5 : World) => ∃ (s_4 : Sl), r = SV.slice s_4 ∧ Keeps [b_1, b_2, b] w1 w1_5
  ∧ Ret Try.prog 23 [SV.slice s_4] w1_5 fun (r : SV) (w1 : World) => ∃ (n_10 : Int), ∃ (f_11 : Nat → Int), ∃ (n_11 : Int), ∃ (f_12 : Nat → Int), ∃ (f_13 :
  Nat → Int), ∃ (n_12 : Int), ∃ (f_14 : Nat → Int), ∃ (n_13 : Int), r = SV.tuple [SV.struct [SV.int IntKind.i64 n_10, SV.arr IntKind.u8 6 f_11, SV.struct
  [SV.int IntKind.i64 n_11, SV.arr IntKind.u8 16 f_12], SV.arr IntKind.u8 6 f_13, SV.struct [SV.int IntKind.i64 n_12, SV.arr IntKind.u8 16 f_14]], SV.int
  IntKind.i64 n_13] ∧ Keeps [b_1, b_2, b] w1_5 w1 ∧ ∀ (b_3 : Nat) (J : World → Prop), (∀ (w1 : World), (Ret Try.prog 20 [SV.struct [SV.int IntKind.i64 a_0,
  SV.arr IntKind.u8 6 a_1, SV.struct [SV.int IntKind.i64 a_2_0, SV.arr IntKind.u8 16 a_2_1], SV.arr IntKind.u8 6 a_3, SV.struct [SV.int IntKind.i64 a_4_0,
  SV.arr IntKind.u8 16 a_4_1]]] w1 fun (r : SV) (w1_6 : World) => ∃ (s_5 : Sl), ∃ (n_14 : Int), r = SV.tuple [SV.slice s_5, SV.int IntKind.i64 n_14] ∧ Keeps
  [b_1, b_2, b, b_3] w1 w1_6 ∧ Ret Try.prog 24 [SV.struct [SV.int IntKind.i64 a_0, SV.arr IntKind.u8 6 a_1, SV.struct [SV.int IntKind.i64 a_2_0, SV.arr IntKind.u8
  16 a_2_1], SV.arr IntKind.u8 6 a_3, SV.struct [SV.int IntKind.i64 a_4_0, SV.arr IntKind.u8 16 a_4_1]]] w1_6 fun (r : SV) (w1 : World) => ∃ (s_6 : Sl), ∃
  (n_15 : Int), r = SV.tuple [SV.slice s_6, SV.int IntKind.i64 n_15] ∧ Keeps [b_1, b_2, b, b_3] w1_6 w1 ∧ ∀ (J : World → Prop), (∀ (w1 : World), (∃ (I : Int
  → World → Prop), ∃ (M : Int → World → Nat), I 0 w1 ∧ ∀ (n_16 : Int) (w1 : World), I n_16 w1 → Br (decide (n_16 < (↑s_5.2 : Int))) (Need (decide (0 ≤ n_16)
  && decide (n_16 < (↑s_5.2 : Int)) && Option.isSome s_5.1) (Store w1 (Sl.at s_5 1 (Int.toNat n_16)) (SV.cells (SV.int IntKind.u8 77)) [b_1, b_2, b, b_3]
  fun (w1_7 : World) => some (SV.box b_1 35 (SV.struct [SV.int IntKind.i64 a_0, SV.arr IntKind.u8 6 a_1, SV.struct [SV.int IntKind.i64 a_2_0, SV.arr IntKind.u8
  16 a_2_1], SV.arr IntKind.u8 6 a_3, SV.struct [SV.int IntKind.i64 a_4_0, SV.arr IntKind.u8 16 a_4_1]])) = some (SV.box b_1 35 (SV.struct [SV.int IntKind.i64
  a_0, SV.arr IntKind.u8 6 a_1, SV.struct [SV.int IntKind.i64 a_2_0, SV.arr IntKind.u8 16 a_2_1], SV.arr IntKind.u8 6 a_3, SV.struct [SV.int IntKind.i64 a_4_0,
  SV.arr IntKind.u8 16 a_4_1]])) ∧ some (SV.box b_2 35 (SV.struct [SV.int IntKind.i64 n_3, SV.arr IntKind.u8 6 f, SV.struct [SV.int IntKind.i64 n_4, SV.arr
  IntKind.u8 16 f_4], SV.arr IntKind.u8 6 f_5, SV.struct [SV.int IntKind.i64 n_5, SV.arr IntKind.u8 16 f_6]])) = some (SV.box b_2 35 (SV.struct [SV.int IntKind.i64
  n_3, SV.arr IntKind.u8 6 f, SV.struct [SV.int IntKind.i64 n_4, SV.arr IntKind.u8 16 f_4], SV.arr IntKind.u8 6 f_5, SV.struct [SV.int IntKind.i64 n_5, SV.arr
  IntKind.u8 16 f_6]])) ∧ some (SV.box b 35 (SV.struct [SV.int IntKind.i64 n, SV.arr IntKind.u8 6 f_7, SV.struct [SV.int IntKind.i64 n_7, SV.arr IntKind.u8
  16 f_8], SV.arr IntKind.u8 6 f_9, SV.struct [SV.int IntKind.i64 n_8, SV.arr IntKind.u8 16 f_10]])) = some (SV.box b 35 (SV.struct [SV.int IntKind.i64 n,
  SV.arr IntKind.u8 6 f_7, SV.struct [SV.int IntKind.i64 n_7, SV.arr IntKind.u8 16 f_8], SV.arr IntKind.u8 6 f_9, SV.struct [SV.int IntKind.i64 n_8, SV.arr
  IntKind.u8 16 f_10]])) ∧ some (SV.box b_3 35 (SV.struct [SV.int IntKind.i64 n_10, SV.arr IntKind.u8 6 f_11, SV.struct [SV.int IntKind.i64 n_11, SV.arr IntKind.u8
  16 f_12], SV.arr IntKind.u8 6 f_13, SV.struct [SV.int IntKind.i64 n_12, SV.arr IntKind.u8 16 f_14]])) = some (SV.box b_3 35 (SV.struct [SV.int IntKind.i64
  n_10, SV.arr IntKind.u8 6 f_11, SV.struct [SV.int IntKind.i64 n_11, SV.arr IntKind.u8 16 f_12], SV.arr IntKind.u8 6 f_13, SV.struct [SV.int IntKind.i64
  n_12, SV.arr IntKind.u8 16 f_14]])) ∧ I (wr IntKind.i64 (n_16 + 1)) w1_7 ∧ M (wr IntKind.i64 (n_16 + 1)) w1_7 < M n_16 w1)) (∃ (I : Int → World → Prop),
  ∃ (M : Int → World → Nat), I 0 w1 ∧ ∀ (n_17 : Int) (w1 : World), I n_17 w1 → Br (decide (n_17 < (↑s.2 : Int))) (Need (decide (0 ≤ n_17) && decide (n_17
  < (↑s.2 : Int)) && Option.isSome s.1) (Store w1 (Sl.at s 1 (Int.toNat n_17)) (SV.cells (SV.int IntKind.u8 78)) [b_1, b_2, b, b_3] fun (w1_7 : World) =>
  some (SV.box b_1 35 (SV.struct [SV.int IntKind.i64 a_0, SV.arr IntKind.u8 6 a_1, SV.struct [SV.int IntKind.i64 a_2_0, SV.arr IntKind.u8 16 a_2_1], SV.arr
  IntKind.u8 6 a_3, SV.struct [SV.int IntKind.i64 a_4_0, SV.arr IntKind.u8 16 a_4_1]])) = some (SV.box b_1 35 (SV.struct [SV.int IntKind.i64 a_0, SV.arr IntKind.u8
  6 a_1, SV.struct [SV.int IntKind.i64 a_2_0, SV.arr IntKind.u8 16 a_2_1], SV.arr IntKind.u8 6 a_3, SV.struct [SV.int IntKind.i64 a_4_0, SV.arr IntKind.u8
  16 a_4_1]])) ∧ some (SV.box b_2 35 (SV.struct [SV.int IntKind.i64 n_3, SV.arr IntKind.u8 6 f, SV.struct [SV.int IntKind.i64 n_4, SV.arr IntKind.u8 16 f_4],
  SV.arr IntKind.u8 6 f_5, SV.struct [SV.int IntKind.i64 n_5, SV.arr IntKind.u8 16 f_6]])) = some (SV.box b_2 35 (SV.struct [SV.int IntKind.i64 n_3, SV.arr
  IntKind.u8 6 f, SV.struct [SV.int IntKind.i64 n_4, SV.arr IntKind.u8 16 f_4], SV.arr IntKind.u8 6 f_5, SV.struct [SV.int IntKind.i64 n_5, SV.arr IntKind.u8
  16 f_6]])) ∧ some (SV.box b 35 (SV.struct [SV.int IntKind.i64 n, SV.arr IntKind.u8 6 f_7, SV.struct [SV.int IntKind.i64 n_7, SV.arr IntKind.u8 16 f_8],
  SV.arr IntKind.u8 6 f_9, SV.struct [SV.int IntKind.i64 n_8, SV.arr IntKind.u8 16 f_10]])) = some (SV.box b 35 (SV.struct [SV.int IntKind.i64 n, SV.arr IntKind.u8
  6 f_7, SV.struct [SV.int IntKind.i64 n_7, SV.arr IntKind.u8 16 f_8], SV.arr IntKind.u8 6 f_9, SV.struct [SV.int IntKind.i64 n_8, SV.arr IntKind.u8 16 f_10]]))
  ∧ some (SV.box b_3 35 (SV.struct [SV.int IntKind.i64 n_10, SV.arr IntKind.u8 6 f_11, SV.struct [SV.int IntKind.i64 n_11, SV.arr IntKind.u8 16 f_12], SV.arr
  IntKind.u8 6 f_13, SV.struct [SV.int IntKind.i64 n_12, SV.arr IntKind.u8 16 f_14]])) = some (SV.box b_3 35 (SV.struct [SV.int IntKind.i64 n_10, SV.arr IntKind.u8
  6 f_11, SV.struct [SV.int IntKind.i64 n_11, SV.arr IntKind.u8 16 f_12], SV.arr IntKind.u8 6 f_13, SV.struct [SV.int IntKind.i64 n_12, SV.arr IntKind.u8
  16 f_14]])) ∧ I (wr IntKind.i64 (n_17 + 1)) w1_7 ∧ M (wr IntKind.i64 (n_17 + 1)) w1_7 < M n_17 w1)) (∀ (b_4 : Nat) (w1_7 : World), Upd [] [b_4] w1 w1_7
  → (World.heap w1_7)[b_4]? = some (Obj.cells { toList := SV.cells (SV.struct [SV.int IntKind.u8 77]) } 5) → Vc.Append 5 1 1 s_5 { ptr := some { block := b_4, off := 0 }, len := 1, cap := 1 }
  [b_1, b_2, b, b_3] w1_7 fun (r : Sl) (w : World) => ∀ (b_5 : Nat) (w1 : World), Upd [] [b_5] w w1 → (World.heap w1)[b_5]? = some (Obj.cells { toList := SV.cells (SV.struct [SV.int IntKind.u8 78]) }
  5) → Vc.Append 5 1 1 s { ptr := some { block := b_5, off := 0 }, len := 1, cap := 1 } [b_1, b_2, b, b_3] w1 fun (r_1 : Sl) (w : World) => Ret Try.prog 20
  [SV.struct [SV.int IntKind.i64 a_0, SV.arr IntKind.u8 6 a_1, SV.struct [SV.int IntKind.i64 a_2_0, SV.arr IntKind.u8 16 a_2_1], SV.arr IntKind.u8 6 a_3,
  SV.struct [SV.int IntKind.i64 a_4_0, SV.arr IntKind.u8 16 a_4_1]]] w fun (r_2 : SV) (w1 : World) => ∃ (s_7 : Sl), ∃ (n : Int), r_2 = SV.tuple [SV.slice
  s_7, SV.int IntKind.i64 n] ∧ Keeps [b_1, b_2, b, b_3] w w1 ∧ Br (n == n_15) (Ret Try.prog 19 [SV.slice s_7, SV.slice s_6] w1 fun (r_3 : SV) (w1_8 : World)
  => ∃ (b_6 : Bool), r_3 = SV.bool b_6 ∧ Keeps [b_1, b_2, b, b_3] w1 w1_8 ∧ Br b_6 (Br ((↑s_5.2 : Int) == 0) (Need (decide (27 < (↑s.2 : Int)) && Option.isSome
  s.1) (∃ (n : Int), World.cell? w1_8 (Sl.at s 1 27) = some (Value.int IntKind.u8 n) ∧ Br (n == 78) (Need (decide (28 < (↑r_1.2 : Int)) && Option.isSome r_1.1)
  (∃ (n : Int), World.cell? w1_8 (Sl.at r_1 1 28) = some (Value.int IntKind.u8 n) ∧ R (SV.bool (n == 78)) w1_8)) (R (SV.bool false) w1_8))) (Need (decide
  (0 < (↑s_5.2 : Int)) && Option.isSome s_5.1) (∃ (n : Int), World.cell? w1_8 (Sl.at s_5 1 0) = some (Value.int IntKind.u8 n) ∧ Br (n == 77) (Need (decide
  (0 ≤ wr IntKind.i64 ((↑r.2 : Int) - 1)) && decide (wr IntKind.i64 ((↑r.2 : Int) - 1) < (↑r.2 : Int)) && Option.isSome r.1) (∃ (n : Int), World.cell? w1_8
  (Sl.at r 1 (Int.toNat (wr IntKind.i64 ((↑r.2 : Int) - 1)))) = some (Value.int IntKind.u8 n) ∧ Br (n == 77) (Need (decide (27 < (↑s.2 : Int)) && Option.isSome
  s.1) (∃ (n : Int), World.cell? w1_8 (Sl.at s 1 27) = some (Value.int IntKind.u8 n) ∧ Br (n == 78) (Need (decide (28 < (↑r_1.2 : Int)) && Option.isSome r_1.1)
  (∃ (n : Int), World.cell? w1_8 (Sl.at r_1 1 28) = some (Value.int IntKind.u8 n) ∧ R (SV.bool (n == 78)) w1_8)) (R (SV.bool false) w1_8))) (R (SV.bool false)
  w1_8))) (R (SV.bool false) w1_8)))) (R (SV.bool false) w1_8)) (R (SV.bool false) w1)))) → J w1) → Br (n_14 != n_15) (R (SV.bool false) w1) (Ret Try.prog
  19 [SV.slice s_5, SV.slice s_6] w1 fun (r : SV) (w1_7 : World) => ∃ (b_4 : Bool), r = SV.bool b_4 ∧ Keeps [b_1, b_2, b, b_3] w1 w1_7 ∧ Br (!b_4) (R (SV.bool
  false) w1_7) (some (SV.box b_1 35 (SV.struct [SV.int IntKind.i64 a_0, SV.arr IntKind.u8 6 a_1, SV.struct [SV.int IntKind.i64 a_2_0, SV.arr IntKind.u8 16
  a_2_1], SV.arr IntKind.u8 6 a_3, SV.struct [SV.int IntKind.i64 a_4_0, SV.arr IntKind.u8 16 a_4_1]])) = some (SV.box b_1 35 (SV.struct [SV.int IntKind.i64
  a_0, SV.arr IntKind.u8 6 a_1, SV.struct [SV.int IntKind.i64 a_2_0, SV.arr IntKind.u8 16 a_2_1], SV.arr IntKind.u8 6 a_3, SV.struct [SV.int IntKind.i64 a_4_0,
  SV.arr IntKind.u8 16 a_4_1]])) ∧ some (SV.box b_2 35 (SV.struct [SV.int IntKind.i64 n_3, SV.arr IntKind.u8 6 f, SV.struct [SV.int IntKind.i64 n_4, SV.arr
  IntKind.u8 16 f_4], SV.arr IntKind.u8 6 f_5, SV.struct [SV.int IntKind.i64 n_5, SV.arr IntKind.u8 16 f_6]])) = some (SV.box b_2 35 (SV.struct [SV.int IntKind.i64
  n_3, SV.arr IntKind.u8 6 f, SV.struct [SV.int IntKind.i64 n_4, SV.arr IntKind.u8 16 f_4], SV.arr IntKind.u8 6 f_5, SV.struct [SV.int IntKind.i64 n_5, SV.arr
  IntKind.u8 16 f_6]])) ∧ some (SV.box b 35 (SV.struct [SV.int IntKind.i64 n, SV.arr IntKind.u8 6 f_7, SV.struct [SV.int IntKind.i64 n_7, SV.arr IntKind.u8
  16 f_8], SV.arr IntKind.u8 6 f_9, SV.struct [SV.int IntKind.i64 n_8, SV.arr IntKind.u8 16 f_10]])) = some (SV.box b 35 (SV.struct [SV.int IntKind.i64 n,
  SV.arr IntKind.u8 6 f_7, SV.struct [SV.int IntKind.i64 n_7, SV.arr IntKind.u8 16 f_8], SV.arr IntKind.u8 6 f_9, SV.struct [SV.int IntKind.i64 n_8, SV.arr
  IntKind.u8 16 f_10]])) ∧ some (SV.box b_3 35 (SV.struct [SV.int IntKind.i64 n_10, SV.arr IntKind.u8 6 f_11, SV.struct [SV.int IntKind.i64 n_11, SV.arr IntKind.u8
  16 f_12], SV.arr IntKind.u8 6 f_13, SV.struct [SV.int IntKind.i64 n_12, SV.arr IntKind.u8 16 f_14]])) = some (SV.box b_3 35 (SV.struct [SV.int IntKind.i64
  n_10, SV.arr IntKind.u8 6 f_11, SV.struct [SV.int IntKind.i64 n_11, SV.arr IntKind.u8 16 f_12], SV.arr IntKind.u8 6 f_13, SV.struct [SV.int IntKind.i64
  n_12, SV.arr IntKind.u8 16 f_14]])) ∧ J w1_7))) → J w1) → Br (n_9 != n_13) (∀ (w1_6 : World), Upd [] [b_3] w1 w1_6 → R (SV.bool false) w1_6) (Br (!(n ==
  n_10 && (eqArr 6 f_7 f_11 && (n_7 == n_11 && eqArr 16 f_8 f_12 && (eqArr 6 f_9 f_13 && (n_8 == n_12 && eqArr 16 f_10 f_14)))))) (∀ (w1_6 : World), Upd []
  [b_3] w1 w1_6 → R (SV.bool false) w1_6) (∀ (w1_6 : World), Upd [] [b_3] w1 w1_6 → Ret Try.prog 19 [SV.slice s_2, SV.slice s_3] w1_6 fun (r : SV) (w1 : World)
  => ∃ (b_4 : Bool), r = SV.bool b_4 ∧ Keeps [b_1, b_2, b, b_3] w1_6 w1 ∧ Br (!b_4) (R (SV.bool false) w1) (some (SV.box b_1 35 (SV.struct [SV.int IntKind.i64
  a_0, SV.arr IntKind.u8 6 a_1, SV.struct [SV.int IntKind.i64 a_2_0, SV.arr IntKind.u8 16 a_2_1], SV.arr IntKind.u8 6 a_3, SV.struct [SV.int IntKind.i64 a_4_0,
  SV.arr IntKind.u8 16 a_4_1]])) = some (SV.box b_1 35 (SV.struct [SV.int IntKind.i64 a_0, SV.arr IntKind.u8 6 a_1, SV.struct [SV.int IntKind.i64 a_2_0, SV.arr
  IntKind.u8 16 a_2_1], SV.arr IntKind.u8 6 a_3, SV.struct [SV.int IntKind.i64 a_4_0, SV.arr IntKind.u8 16 a_4_1]])) ∧ some (SV.box b_2 35 (SV.struct [SV.int
  IntKind.i64 n_3, SV.arr IntKind.u8 6 f, SV.struct [SV.int IntKind.i64 n_4, SV.arr IntKind.u8 16 f_4], SV.arr IntKind.u8 6 f_5, SV.struct [SV.int IntKind.i64
  n_5, SV.arr IntKind.u8 16 f_6]])) = some (SV.box b_2 35 (SV.struct [SV.int IntKind.i64 n_3, SV.arr IntKind.u8 6 f, SV.struct [SV.int IntKind.i64 n_4, SV.arr
  IntKind.u8 16 f_4], SV.arr IntKind.u8 6 f_5, SV.struct [SV.int IntKind.i64 n_5, SV.arr IntKind.u8 16 f_6]])) ∧ some (SV.box b 35 (SV.struct [SV.int IntKind.i64
  n, SV.arr IntKind.u8 6 f_7, SV.struct [SV.int IntKind.i64 n_7, SV.arr IntKind.u8 16 f_8], SV.arr IntKind.u8 6 f_9, SV.struct [SV.int IntKind.i64 n_8, SV.arr
  IntKind.u8 16 f_10]])) = some (SV.box b 35 (SV.struct [SV.int IntKind.i64 n, SV.arr IntKind.u8 6 f_7, SV.struct [SV.int IntKind.i64 n_7, SV.arr IntKind.u8
  16 f_8], SV.arr IntKind.u8 6 f_9, SV.struct [SV.int IntKind.i64 n_8, SV.arr IntKind.u8 16 f_10]])) ∧ some (SV.box b_3 35 (SV.struct [SV.int IntKind.i64
  n_10, SV.arr IntKind.u8 6 f_11, SV.struct [SV.int IntKind.i64 n_11, SV.arr IntKind.u8 16 f_12], SV.arr IntKind.u8 6 f_13, SV.struct [SV.int IntKind.i64
  n_12, SV.arr IntKind.u8 16 f_14]])) = some (SV.box b_3 35 (SV.struct [SV.int IntKind.i64 n_10, SV.arr IntKind.u8 6 f_11, SV.struct [SV.int IntKind.i64 n_11,
  SV.arr IntKind.u8 16 f_12], SV.arr IntKind.u8 6 f_13, SV.struct [SV.int IntKind.i64 n_12, SV.arr IntKind.u8 16 f_14]])) ∧ J w1)))) → J w1) → Br (n != 0)
  (∀ (w1 : World), Upd [] [b_2] w1_2 w1 → R (SV.bool false) w1) (Br (n_6 != 0) (∀ (w1 : World), Upd [] [b_2] w1_2 w1 → R (SV.bool false) w1) (∀ (w1 : World),
  Upd [] [b_2] w1_2 w1 → Ret Try.prog 21 [] w1 fun (r : SV) (w1_3 : World) => ∃ (n : Int), ∃ (f_7 : Nat → Int), ∃ (n_7 : Int), ∃ (f_8 : Nat → Int), ∃ (f_9
  : Nat → Int), ∃ (n_8 : Int), ∃ (f_10 : Nat → Int), r = SV.struct [SV.int IntKind.i64 n, SV.arr IntKind.u8 6 f_7, SV.struct [SV.int IntKind.i64 n_7, SV.arr
  IntKind.u8 16 f_8], SV.arr IntKind.u8 6 f_9, SV.struct [SV.int IntKind.i64 n_8, SV.arr IntKind.u8 16 f_10]] ∧ Keeps [b_1, b_2] w1 w1_3 ∧ Upd [] [] w1_2
  w1_3 ∧ Br (!(n_3 == n && (eqArr 6 f f_7 && (n_4 == n_7 && eqArr 16 f_4 f_8 && (eqArr 6 f_5 f_9 && (n_5 == n_8 && eqArr 16 f_6 f_10)))))) (R (SV.bool false)
  w1_3) (Br ((↑s.2 : Int) != 28) (R (SV.bool false) w1_3) (some (SV.box b_1 35 (SV.struct [SV.int IntKind.i64 a_0, SV.arr IntKind.u8 6 a_1, SV.struct [SV.int
  IntKind.i64 a_2_0, SV.arr IntKind.u8 16 a_2_1], SV.arr IntKind.u8 6 a_3, SV.struct [SV.int IntKind.i64 a_4_0, SV.arr IntKind.u8 16 a_4_1]])) = some (SV.box
  b_1 35 (SV.struct [SV.int IntKind.i64 a_0, SV.arr IntKind.u8 6 a_1, SV.struct [SV.int IntKind.i64 a_2_0, SV.arr IntKind.u8 16 a_2_1], SV.arr IntKind.u8
  6 a_3, SV.struct [SV.int IntKind.i64 a_4_0, SV.arr IntKind.u8 16 a_4_1]])) ∧ some (SV.box b_2 35 (SV.struct [SV.int IntKind.i64 n_3, SV.arr IntKind.u8 6
  f, SV.struct [SV.int IntKind.i64 n_4, SV.arr IntKind.u8 16 f_4], SV.arr IntKind.u8 6 f_5, SV.struct [SV.int IntKind.i64 n_5, SV.arr IntKind.u8 16 f_6]]))
  = some (SV.box b_2 35 (SV.struct [SV.int IntKind.i64 n_3, SV.arr IntKind.u8 6 f, SV.struct [SV.int IntKind.i64 n_4, SV.arr IntKind.u8 16 f_4], SV.arr IntKind.u8
  6 f_5, SV.struct [SV.int IntKind.i64 n_5, SV.arr IntKind.u8 16 f_6]])) ∧ J w1_3))))
theorem f4_of (b : Sl) (a_0 : Int) (a_1 : Nat → Int) (a_2_0 : Int) (a_2_1 : Nat → Int) (a_3 : Nat → Int) (a_4_0 : Int) (a_4_1 : Nat → Int) (w : World) (R : SV → World → Prop) (h : vc4 b a_0 a_1 a_2_0 a_2_1 a_3 a_4_0 a_4_1 w R) : Ret Try.prog 4 [.slice b, .struct [.int .i64 a_0, .arr .u8 6 a_1, .struct [.int .i64 a_2_0, .arr .u8 16 a_2_1], .arr .u8 6 a_3, .struct [.int .i64 a_4_0, .arr .u8 16 a_4_1]]] w R :=
  have e : vc4 b a_0 a_1 a_2_0 a_2_1 a_3 a_4_0 a_4_1 w R = fnVC X Try.f4 a4 [.slice b, .struct [.int .i64 a_0, .arr .u8 6 a_1, .struct [.int .i64 a_2_0, .arr .u8 16 a_2_1], .arr .u8 6 a_3, .struct [.int .i64 a_4_0, .arr .u8 16 a_4_1]]] w R := by kernel_rfl
  fnVC_sound X_ok (n := a4) (e ▸ h) (by kernel_rfl) (by kernel_rfl) rfl rfl

end Go.Vc.S5
