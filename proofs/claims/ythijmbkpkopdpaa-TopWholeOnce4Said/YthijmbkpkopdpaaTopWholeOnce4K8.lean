import Derived.Test.YthijmbkpkopdpaaTopWholeOnce4K2
import Derived.KernelRfl
import Derived.Shelf.SlSortCmp.Whole1
import Derived.Test.YthijmbkpkopdpaaProg
import Derived.Test.YthijmbkpkopdpaaTopWholeOnce4K5
import Derived.RegionTactic
import Derived.ChangeAlike
import Derived.Test.YthijmbkpkopdpaaTopWholeOnce4K7
import Derived.Test.YthijmbkpkopdpaaTopWholeOnce4K6
section
open Go Go.Vc Go.Vc.Stop Go.Proofs
set_option maxRecDepth 100000
set_option linter.unusedVariables false
namespace Go.Vc.Stop
def vc4 (h_0 : Int) (h_1 : Int) (h_2 : Bool) (h_3 : Bool) (h_4 : Int) (h_5 : Int) (h_6 : Int) (h_7_0 : Int) (h_7_1 : Nat → Int) (h_8_0 : Int) (h_8_1 : Nat
  → Int) (h_9 : Sl) (h_10 : Sl) (mtu : Int) (order : Sl) (others : Sl) (w : World) (R : SV → World → Prop) : Prop := ∀ (b : Nat) (J : World → Prop), (∀ (w1
  : World), (Ret Try.prog 12 [SV.struct [SV.int IntKind.i64 h_0, SV.int IntKind.i64 h_1, SV.bool h_2, SV.bool h_3, SV.int IntKind.i64 h_4, SV.int IntKind.i64
  h_5, SV.int IntKind.i64 h_6, SV.struct [SV.int IntKind.i64 h_7_0, SV.arr IntKind.u8 16 h_7_1], SV.struct [SV.int IntKind.i64 h_8_0, SV.arr IntKind.u8 16
  h_8_1], SV.slice h_9, SV.slice h_10], SV.int IntKind.i64 mtu] w1 fun (r : SV) (w1_1 : World) => ∃ (s : Sl), ∃ (n : Int), r = SV.tuple [SV.slice s, SV.int
  IntKind.i64 n] ∧ Keeps [b] w1 w1_1 ∧ ∀ (J : World → Prop), (∀ (w1 : World), (Ret Try.prog 13 [SV.struct [SV.int IntKind.i64 h_0, SV.int IntKind.i64 h_1,
  SV.bool h_2, SV.bool h_3, SV.int IntKind.i64 h_4, SV.int IntKind.i64 h_5, SV.int IntKind.i64 h_6, SV.struct [SV.int IntKind.i64 h_7_0, SV.arr IntKind.u8
  16 h_7_1], SV.struct [SV.int IntKind.i64 h_8_0, SV.arr IntKind.u8 16 h_8_1], SV.slice h_9, SV.slice h_10], SV.int IntKind.i64 mtu] w1 fun (r : SV) (w1_2
  : World) => ∃ (s : Sl), ∃ (n : Int), r = SV.tuple [SV.slice s, SV.int IntKind.i64 n] ∧ Keeps [b] w1 w1_2 ∧ Ret Try.prog 5 [SV.int IntKind.i64 256, SV.int
  IntKind.i64 3] w1_2 fun (r : SV) (w1 : World) => ∃ (p : Option Addr), ∃ (n_1 : Int), r = SV.tuple [SV.ptr p, SV.int IntKind.i64 n_1] ∧ Keeps [b] w1_2 w1
  ∧ ∀ (J : World → Prop), (∀ (w1 : World), Br ((↑s.2 : Int) == 1) (Need (decide (0 < (↑s.2 : Int)) && Option.isSome s.1) (∃ (n : Int), World.cell? w1 (Sl.at
  s 43 0) = some (Value.int IntKind.i64 n) ∧ ∃ (n_2 : Int), World.cell? w1 (Addr.add (Sl.at s 43 0) 1) = some (Value.int IntKind.i64 n_2) ∧ ∃ (b_1 : Bool),
  World.cell? w1 (Addr.add (Sl.at s 43 0) 2) = some (Value.bool b_1) ∧ ∃ (b_2 : Bool), World.cell? w1 (Addr.add (Sl.at s 43 0) 3) = some (Value.bool b_2)
  ∧ ∃ (n_3 : Int), World.cell? w1 (Addr.add (Sl.at s 43 0) 4) = some (Value.int IntKind.i64 n_3) ∧ ∃ (n_4 : Int), World.cell? w1 (Addr.add (Sl.at s 43 0)
  5) = some (Value.int IntKind.i64 n_4) ∧ ∃ (n_5 : Int), World.cell? w1 (Addr.add (Sl.at s 43 0) 6) = some (Value.int IntKind.i64 n_5) ∧ ∃ (n_6 : Int), World.cell?
  w1 (Addr.add (Sl.at s 43 0) 7) = some (Value.int IntKind.i64 n_6) ∧ ∃ (f : Nat → Int), (∀ (i : Nat), i < 16 → World.cell? w1 (Addr.add (Sl.at s 43 0) (8
  + i)) = some (Value.int IntKind.u8 (f i))) ∧ ∃ (n_7 : Int), World.cell? w1 (Addr.add (Sl.at s 43 0) 24) = some (Value.int IntKind.i64 n_7) ∧ ∃ (f_1 : Nat
  → Int), (∀ (i : Nat), i < 16 → World.cell? w1 (Addr.add (Sl.at s 43 0) (25 + i)) = some (Value.int IntKind.u8 (f_1 i))) ∧ ∃ (s_1 : Sl), World.cell? w1 (Addr.add
  (Sl.at s 43 0) 41) = some (Sl.val s_1) ∧ ∃ (s_2 : Sl), World.cell? w1 (Addr.add (Sl.at s 43 0) 42) = some (Sl.val s_2) ∧ Ret Try.prog 7 [SV.ptr p, SV.struct
  [SV.int IntKind.i64 n, SV.int IntKind.i64 n_2, SV.bool b_1, SV.bool b_2, SV.int IntKind.i64 n_3, SV.int IntKind.i64 n_4, SV.int IntKind.i64 n_5, SV.struct
  [SV.int IntKind.i64 n_6, SV.arr IntKind.u8 16 f], SV.struct [SV.int IntKind.i64 n_7, SV.arr IntKind.u8 16 f_1], SV.slice s_1, SV.slice s_2]] w1 fun (r :
  SV) (w1_3 : World) => ∃ (n : Int), ∃ (n_8 : Int), ∃ (b_3 : Bool), ∃ (b_4 : Bool), ∃ (n_9 : Int), ∃ (n_10 : Int), ∃ (n_11 : Int), ∃ (n_12 : Int), ∃ (f :
  Nat → Int), ∃ (n_13 : Int), ∃ (f_2 : Nat → Int), ∃ (s : Sl), ∃ (s_3 : Sl), ∃ (n_14 : Int), ∃ (n_15 : Int), r = SV.tuple [SV.struct [SV.int IntKind.i64 n,
  SV.int IntKind.i64 n_8, SV.bool b_3, SV.bool b_4, SV.int IntKind.i64 n_9, SV.int IntKind.i64 n_10, SV.int IntKind.i64 n_11, SV.struct [SV.int IntKind.i64
  n_12, SV.arr IntKind.u8 16 f], SV.struct [SV.int IntKind.i64 n_13, SV.arr IntKind.u8 16 f_2], SV.slice s, SV.slice s_3], SV.int IntKind.i64 n_14, SV.int
  IntKind.i64 n_15] ∧ Keeps [b] w1 w1_3 ∧ ∀ (b_5 : Nat), Br (n_15 == 0) (Br (n_14 == 1) (∀ (w1 : World), Upd [] [b_5] w1_3 w1 → Ret Try.prog 14 [SV.struct
  [SV.int IntKind.i64 n, SV.int IntKind.i64 n_8, SV.bool b_3, SV.bool b_4, SV.int IntKind.i64 n_9, SV.int IntKind.i64 n_10, SV.int IntKind.i64 n_11, SV.struct
  [SV.int IntKind.i64 n_12, SV.arr IntKind.u8 16 f], SV.struct [SV.int IntKind.i64 n_13, SV.arr IntKind.u8 16 f_2], SV.slice s, SV.slice s_3], SV.struct [SV.int
  IntKind.i64 h_0, SV.int IntKind.i64 h_1, SV.bool h_2, SV.bool h_3, SV.int IntKind.i64 h_4, SV.int IntKind.i64 h_5, SV.int IntKind.i64 h_6, SV.struct [SV.int
  IntKind.i64 h_7_0, SV.arr IntKind.u8 16 h_7_1], SV.struct [SV.int IntKind.i64 h_8_0, SV.arr IntKind.u8 16 h_8_1], SV.slice h_9, SV.slice h_10]] w1 fun (r
  : SV) (w1_4 : World) => ∃ (b_6 : Bool), r = SV.bool b_6 ∧ Keeps [b, b_5] w1 w1_4 ∧ R (SV.bool b_6) w1_4) (∀ (w1 : World), Upd [] [b_5] w1_3 w1 → R (SV.bool
  false) w1)) (∀ (w1 : World), Upd [] [b_5] w1_3 w1 → R (SV.bool false) w1))) (Ret Try.prog 15 [SV.int IntKind.i64 (↑s.2 : Int), SV.slice order] w1 fun (r
  : SV) (w1_3 : World) => ∃ (s_1 : Sl), r = SV.slice s_1 ∧ Keeps [b] w1 w1_3 ∧ ∃ (I : Sl → Int → World → Prop), ∃ (M : Sl → Int → World → Nat), I { ptr := none, len := 0, cap := 0 }
  0 w1_3 ∧ ∀ (s_2 : Sl) (n : Int) (w1 : World), I s_2 n w1 → Br (decide (n < (↑s_1.2 : Int))) (∀ (J : Sl → World → Prop), (∀ (s : Sl) (w1_4 : World), some
  (SV.box b 28 (SV.struct [SV.int IntKind.i64 h_0, SV.int IntKind.i64 h_1, SV.bool h_2, SV.bool h_3, SV.int IntKind.i64 h_4, SV.int IntKind.i64 h_5, SV.int
  IntKind.i64 h_6, SV.struct [SV.int IntKind.i64 h_7_0, SV.arr IntKind.u8 16 h_7_1], SV.struct [SV.int IntKind.i64 h_8_0, SV.arr IntKind.u8 16 h_8_1], SV.slice
  h_9, SV.slice h_10])) = some (SV.box b 28 (SV.struct [SV.int IntKind.i64 h_0, SV.int IntKind.i64 h_1, SV.bool h_2, SV.bool h_3, SV.int IntKind.i64 h_4,
  SV.int IntKind.i64 h_5, SV.int IntKind.i64 h_6, SV.struct [SV.int IntKind.i64 h_7_0, SV.arr IntKind.u8 16 h_7_1], SV.struct [SV.int IntKind.i64 h_8_0, SV.arr
  IntKind.u8 16 h_8_1], SV.slice h_9, SV.slice h_10])) ∧ I s (wr IntKind.i64 (n + 1)) w1_4 ∧ M s (wr IntKind.i64 (n + 1)) w1_4 < M s_2 n w1 → J s w1_4) →
  ∀ (J_1 : World → Prop), (∀ (w1 : World), Need (decide (0 ≤ n) && decide (n < (↑s_1.2 : Int)) && Option.isSome s_1.1) (∃ (n_2 : Int), World.cell? w1 (Sl.at
  s_1 1 (Int.toNat n)) = some (Value.int IntKind.i64 n_2) ∧ Ret Try.prog 17 [SV.slice s_2, SV.int IntKind.i64 (↑s.2 : Int), SV.int IntKind.i64 n_2] w1 fun
  (r : SV) (w1_4 : World) => ∃ (n_3 : Int), ∃ (n_4 : Int), r = SV.tuple [SV.int IntKind.i64 n_3, SV.int IntKind.i64 n_4] ∧ Keeps [b] w1 w1_4 ∧ Need (decide
  (0 ≤ n) && decide (n < (↑s_1.2 : Int)) && Option.isSome s_1.1) (∃ (n_5 : Int), World.cell? w1_4 (Sl.at s_1 1 (Int.toNat n)) = some (Value.int IntKind.i64
  n_5) ∧ Need (decide (0 ≤ n_5) && decide (n_5 < (↑s.2 : Int)) && Option.isSome s.1) (∃ (n_6 : Int), World.cell? w1_4 (Sl.at s 43 (Int.toNat n_5)) = some
  (Value.int IntKind.i64 n_6) ∧ ∃ (n_7 : Int), World.cell? w1_4 (Addr.add (Sl.at s 43 (Int.toNat n_5)) 1) = some (Value.int IntKind.i64 n_7) ∧ ∃ (b_1 : Bool),
  World.cell? w1_4 (Addr.add (Sl.at s 43 (Int.toNat n_5)) 2) = some (Value.bool b_1) ∧ ∃ (b_2 : Bool), World.cell? w1_4 (Addr.add (Sl.at s 43 (Int.toNat n_5))
  3) = some (Value.bool b_2) ∧ ∃ (n_8 : Int), World.cell? w1_4 (Addr.add (Sl.at s 43 (Int.toNat n_5)) 4) = some (Value.int IntKind.i64 n_8) ∧ ∃ (n_9 : Int),
  World.cell? w1_4 (Addr.add (Sl.at s 43 (Int.toNat n_5)) 5) = some (Value.int IntKind.i64 n_9) ∧ ∃ (n_10 : Int), World.cell? w1_4 (Addr.add (Sl.at s 43 (Int.toNat
  n_5)) 6) = some (Value.int IntKind.i64 n_10) ∧ ∃ (n_11 : Int), World.cell? w1_4 (Addr.add (Sl.at s 43 (Int.toNat n_5)) 7) = some (Value.int IntKind.i64
  n_11) ∧ ∃ (f : Nat → Int), (∀ (i : Nat), i < 16 → World.cell? w1_4 (Addr.add (Sl.at s 43 (Int.toNat n_5)) (8 + i)) = some (Value.int IntKind.u8 (f i)))
  ∧ ∃ (n_12 : Int), World.cell? w1_4 (Addr.add (Sl.at s 43 (Int.toNat n_5)) 24) = some (Value.int IntKind.i64 n_12) ∧ ∃ (f_1 : Nat → Int), (∀ (i : Nat), i
  < 16 → World.cell? w1_4 (Addr.add (Sl.at s 43 (Int.toNat n_5)) (25 + i)) = some (Value.int IntKind.u8 (f_1 i))) ∧ ∃ (s_3 : Sl), World.cell? w1_4 (Addr.add
  (Sl.at s 43 (Int.toNat n_5)) 41) = some (Sl.val s_3) ∧ ∃ (s_4 : Sl), World.cell? w1_4 (Addr.add (Sl.at s 43 (Int.toNat n_5)) 42) = some (Sl.val s_4) ∧ Ret
  Try.prog 7 [SV.ptr p, SV.struct [SV.int IntKind.i64 n_6, SV.int IntKind.i64 n_7, SV.bool b_1, SV.bool b_2, SV.int IntKind.i64 n_8, SV.int IntKind.i64 n_9,
  SV.int IntKind.i64 n_10, SV.struct [SV.int IntKind.i64 n_11, SV.arr IntKind.u8 16 f], SV.struct [SV.int IntKind.i64 n_12, SV.arr IntKind.u8 16 f_1], SV.slice
  s_3, SV.slice s_4]] w1_4 fun (r : SV) (w1 : World) => ∃ (n_13 : Int), ∃ (n_14 : Int), ∃ (b_3 : Bool), ∃ (b_4 : Bool), ∃ (n_15 : Int), ∃ (n_16 : Int), ∃
  (n_17 : Int), ∃ (n_18 : Int), ∃ (f : Nat → Int), ∃ (n_19 : Int), ∃ (f_2 : Nat → Int), ∃ (s : Sl), ∃ (s_5 : Sl), ∃ (n_20 : Int), ∃ (n_21 : Int), r = SV.tuple
  [SV.struct [SV.int IntKind.i64 n_13, SV.int IntKind.i64 n_14, SV.bool b_3, SV.bool b_4, SV.int IntKind.i64 n_15, SV.int IntKind.i64 n_16, SV.int IntKind.i64
  n_17, SV.struct [SV.int IntKind.i64 n_18, SV.arr IntKind.u8 16 f], SV.struct [SV.int IntKind.i64 n_19, SV.arr IntKind.u8 16 f_2], SV.slice s, SV.slice s_5],
  SV.int IntKind.i64 n_20, SV.int IntKind.i64 n_21] ∧ Keeps [b] w1_4 w1 ∧ ∀ (b_5 : Nat) (J_2 : World → Prop), (∀ (w1 : World), Br (n_21 == 0) (Need (decide
  (0 ≤ n) && decide (n < (↑s_1.2 : Int)) && Option.isSome s_1.1) (∃ (n_22 : Int), World.cell? w1 (Sl.at s_1 1 (Int.toNat n)) = some (Value.int IntKind.i64
  n_22) ∧ ∀ (b_6 : Nat) (w1_5 : World), Upd [] [b_6] w1 w1_5 → (World.heap w1_5)[b_6]? = some (Obj.cells { toList := SV.cells (SV.struct [SV.int IntKind.i64 n_22]) }
  3) → Vc.Append 3 1 8 s_2 { ptr := some { block := b_6, off := 0 }, len := 1, cap := 1 } [b, b_5] w1_5 fun (r : Sl) (w : World) => some (SV.box b 28 (SV.struct
  [SV.int IntKind.i64 h_0, SV.int IntKind.i64 h_1, SV.bool h_2, SV.bool h_3, SV.int IntKind.i64 h_4, SV.int IntKind.i64 h_5, SV.int IntKind.i64 h_6, SV.struct
  [SV.int IntKind.i64 h_7_0, SV.arr IntKind.u8 16 h_7_1], SV.struct [SV.int IntKind.i64 h_8_0, SV.arr IntKind.u8 16 h_8_1], SV.slice h_9, SV.slice h_10]))
  = some (SV.box b 28 (SV.struct [SV.int IntKind.i64 h_0, SV.int IntKind.i64 h_1, SV.bool h_2, SV.bool h_3, SV.int IntKind.i64 h_4, SV.int IntKind.i64 h_5,
  SV.int IntKind.i64 h_6, SV.struct [SV.int IntKind.i64 h_7_0, SV.arr IntKind.u8 16 h_7_1], SV.struct [SV.int IntKind.i64 h_8_0, SV.arr IntKind.u8 16 h_8_1],
  SV.slice h_9, SV.slice h_10])) ∧ J r w)) (some (SV.box b 28 (SV.struct [SV.int IntKind.i64 h_0, SV.int IntKind.i64 h_1, SV.bool h_2, SV.bool h_3, SV.int
  IntKind.i64 h_4, SV.int IntKind.i64 h_5, SV.int IntKind.i64 h_6, SV.struct [SV.int IntKind.i64 h_7_0, SV.arr IntKind.u8 16 h_7_1], SV.struct [SV.int IntKind.i64
  h_8_0, SV.arr IntKind.u8 16 h_8_1], SV.slice h_9, SV.slice h_10])) = some (SV.box b 28 (SV.struct [SV.int IntKind.i64 h_0, SV.int IntKind.i64 h_1, SV.bool
  h_2, SV.bool h_3, SV.int IntKind.i64 h_4, SV.int IntKind.i64 h_5, SV.int IntKind.i64 h_6, SV.struct [SV.int IntKind.i64 h_7_0, SV.arr IntKind.u8 16 h_7_1],
  SV.struct [SV.int IntKind.i64 h_8_0, SV.arr IntKind.u8 16 h_8_1], SV.slice h_9, SV.slice h_10])) ∧ J s_2 w1) → J_2 w1) → Br (n_21 != n_4) (∀ (w1_5 : World),
  Upd [] [b_5] w1 w1_5 → R (SV.bool false) w1_5) (Br (n_20 != n_3) (∀ (w1_5 : World), Upd [] [b_5] w1 w1_5 → R (SV.bool false) w1_5) (Br (n_20 == 1) (∀ (w1_5
  : World), Upd [] [b_5] w1 w1_5 → Ret Try.prog 14 [SV.struct [SV.int IntKind.i64 n_13, SV.int IntKind.i64 n_14, SV.bool b_3, SV.bool b_4, SV.int IntKind.i64
  n_15, SV.int IntKind.i64 n_16, SV.int IntKind.i64 n_17, SV.struct [SV.int IntKind.i64 n_18, SV.arr IntKind.u8 16 f], SV.struct [SV.int IntKind.i64 n_19,
  SV.arr IntKind.u8 16 f_2], SV.slice s, SV.slice s_5], SV.struct [SV.int IntKind.i64 h_0, SV.int IntKind.i64 h_1, SV.bool h_2, SV.bool h_3, SV.int IntKind.i64
  h_4, SV.int IntKind.i64 h_5, SV.int IntKind.i64 h_6, SV.struct [SV.int IntKind.i64 h_7_0, SV.arr IntKind.u8 16 h_7_1], SV.struct [SV.int IntKind.i64 h_8_0,
  SV.arr IntKind.u8 16 h_8_1], SV.slice h_9, SV.slice h_10]] w1_5 fun (r : SV) (w1 : World) => ∃ (b_6 : Bool), r = SV.bool b_6 ∧ Keeps [b, b_5] w1_5 w1 ∧
  Br (!b_6) (R (SV.bool false) w1) (some (SV.box b 28 (SV.struct [SV.int IntKind.i64 h_0, SV.int IntKind.i64 h_1, SV.bool h_2, SV.bool h_3, SV.int IntKind.i64
  h_4, SV.int IntKind.i64 h_5, SV.int IntKind.i64 h_6, SV.struct [SV.int IntKind.i64 h_7_0, SV.arr IntKind.u8 16 h_7_1], SV.struct [SV.int IntKind.i64 h_8_0,
  SV.arr IntKind.u8 16 h_8_1], SV.slice h_9, SV.slice h_10])) = some (SV.box b 28 (SV.struct [SV.int IntKind.i64 h_0, SV.int IntKind.i64 h_1, SV.bool h_2,
  SV.bool h_3, SV.int IntKind.i64 h_4, SV.int IntKind.i64 h_5, SV.int IntKind.i64 h_6, SV.struct [SV.int IntKind.i64 h_7_0, SV.arr IntKind.u8 16 h_7_1], SV.struct
  [SV.int IntKind.i64 h_8_0, SV.arr IntKind.u8 16 h_8_1], SV.slice h_9, SV.slice h_10])) ∧ some (SV.box b_5 28 (SV.struct [SV.int IntKind.i64 n_13, SV.int
  IntKind.i64 n_14, SV.bool b_3, SV.bool b_4, SV.int IntKind.i64 n_15, SV.int IntKind.i64 n_16, SV.int IntKind.i64 n_17, SV.struct [SV.int IntKind.i64 n_18,
  SV.arr IntKind.u8 16 f], SV.struct [SV.int IntKind.i64 n_19, SV.arr IntKind.u8 16 f_2], SV.slice s, SV.slice s_5])) = some (SV.box b_5 28 (SV.struct [SV.int
  IntKind.i64 n_13, SV.int IntKind.i64 n_14, SV.bool b_3, SV.bool b_4, SV.int IntKind.i64 n_15, SV.int IntKind.i64 n_16, SV.int IntKind.i64 n_17, SV.struct
  [SV.int IntKind.i64 n_18, SV.arr IntKind.u8 16 f], SV.struct [SV.int IntKind.i64 n_19, SV.arr IntKind.u8 16 f_2], SV.slice s, SV.slice s_5])) ∧ J_2 w1))
  (∀ (w1_5 : World), Upd [] [b_5] w1 w1_5 → some (SV.box b 28 (SV.struct [SV.int IntKind.i64 h_0, SV.int IntKind.i64 h_1, SV.bool h_2, SV.bool h_3, SV.int
  IntKind.i64 h_4, SV.int IntKind.i64 h_5, SV.int IntKind.i64 h_6, SV.struct [SV.int IntKind.i64 h_7_0, SV.arr IntKind.u8 16 h_7_1], SV.struct [SV.int IntKind.i64
  h_8_0, SV.arr IntKind.u8 16 h_8_1], SV.slice h_9, SV.slice h_10])) = some (SV.box b 28 (SV.struct [SV.int IntKind.i64 h_0, SV.int IntKind.i64 h_1, SV.bool
  h_2, SV.bool h_3, SV.int IntKind.i64 h_4, SV.int IntKind.i64 h_5, SV.int IntKind.i64 h_6, SV.struct [SV.int IntKind.i64 h_7_0, SV.arr IntKind.u8 16 h_7_1],
  SV.struct [SV.int IntKind.i64 h_8_0, SV.arr IntKind.u8 16 h_8_1], SV.slice h_9, SV.slice h_10])) ∧ some (SV.box b_5 28 (SV.struct [SV.int IntKind.i64 n_13,
  SV.int IntKind.i64 n_14, SV.bool b_3, SV.bool b_4, SV.int IntKind.i64 n_15, SV.int IntKind.i64 n_16, SV.int IntKind.i64 n_17, SV.struct [SV.int IntKind.i64
  n_18, SV.arr IntKind.u8 16 f], SV.struct [SV.int IntKind.i64 n_19, SV.arr IntKind.u8 16 f_2], SV.slice s, SV.slice s_5])) = some (SV.box b_5 28 (SV.struct
  [SV.int IntKind.i64 n_13, SV.int IntKind.i64 n_14, SV.bool b_3, SV.bool b_4, SV.int IntKind.i64 n_15, SV.int IntKind.i64 n_16, SV.int IntKind.i64 n_17,
  SV.struct [SV.int IntKind.i64 n_18, SV.arr IntKind.u8 16 f], SV.struct [SV.int IntKind.i64 n_19, SV.arr IntKind.u8 16 f_2], SV.slice s, SV.slice s_5]))
  ∧ J_2 w1_5)))))) → J_1 w1) → Br (decide (n < (↑others.2 : Int))) (Need (decide (0 ≤ n) && decide (n < (↑others.2 : Int)) && Option.isSome others.1) (∃ (n_2
  : Int), World.cell? w1 (Sl.at others 43 (Int.toNat n)) = some (Value.int IntKind.i64 n_2) ∧ ∃ (n_3 : Int), World.cell? w1 (Addr.add (Sl.at others 43 (Int.toNat
  n)) 1) = some (Value.int IntKind.i64 n_3) ∧ ∃ (b_1 : Bool), World.cell? w1 (Addr.add (Sl.at others 43 (Int.toNat n)) 2) = some (Value.bool b_1) ∧ ∃ (b_2
  : Bool), World.cell? w1 (Addr.add (Sl.at others 43 (Int.toNat n)) 3) = some (Value.bool b_2) ∧ ∃ (n_4 : Int), World.cell? w1 (Addr.add (Sl.at others 43
  (Int.toNat n)) 4) = some (Value.int IntKind.i64 n_4) ∧ ∃ (n_5 : Int), World.cell? w1 (Addr.add (Sl.at others 43 (Int.toNat n)) 5) = some (Value.int IntKind.i64
  n_5) ∧ ∃ (n_6 : Int), World.cell? w1 (Addr.add (Sl.at others 43 (Int.toNat n)) 6) = some (Value.int IntKind.i64 n_6) ∧ ∃ (n_7 : Int), World.cell? w1 (Addr.add
  (Sl.at others 43 (Int.toNat n)) 7) = some (Value.int IntKind.i64 n_7) ∧ ∃ (f : Nat → Int), (∀ (i : Nat), i < 16 → World.cell? w1 (Addr.add (Sl.at others
  43 (Int.toNat n)) (8 + i)) = some (Value.int IntKind.u8 (f i))) ∧ ∃ (n_8 : Int), World.cell? w1 (Addr.add (Sl.at others 43 (Int.toNat n)) 24) = some (Value.int
  IntKind.i64 n_8) ∧ ∃ (f_1 : Nat → Int), (∀ (i : Nat), i < 16 → World.cell? w1 (Addr.add (Sl.at others 43 (Int.toNat n)) (25 + i)) = some (Value.int IntKind.u8
  (f_1 i))) ∧ ∃ (s : Sl), World.cell? w1 (Addr.add (Sl.at others 43 (Int.toNat n)) 41) = some (Sl.val s) ∧ ∃ (s_3 : Sl), World.cell? w1 (Addr.add (Sl.at others
  43 (Int.toNat n)) 42) = some (Sl.val s_3) ∧ ∀ (w1_4 : World), Upd [] [] w1 w1_4 → Ret Try.prog 16 [SV.struct [SV.int IntKind.i64 n_2, SV.int IntKind.i64
  n_3, SV.bool b_1, SV.bool b_2, SV.int IntKind.i64 n_4, SV.int IntKind.i64 n_5, SV.int IntKind.i64 n_6, SV.struct [SV.int IntKind.i64 n_7, SV.arr IntKind.u8
  16 f], SV.struct [SV.int IntKind.i64 n_8, SV.arr IntKind.u8 16 f_1], SV.slice s, SV.slice s_3], SV.struct [SV.int IntKind.i64 h_0, SV.int IntKind.i64 h_1,
  SV.bool h_2, SV.bool h_3, SV.int IntKind.i64 h_4, SV.int IntKind.i64 h_5, SV.int IntKind.i64 h_6, SV.struct [SV.int IntKind.i64 h_7_0, SV.arr IntKind.u8
  16 h_7_1], SV.struct [SV.int IntKind.i64 h_8_0, SV.arr IntKind.u8 16 h_8_1], SV.slice h_9, SV.slice h_10]] w1_4 fun (r : SV) (w1 : World) => ∃ (b_3 : Bool),
  r = SV.bool b_3 ∧ Keeps [b] w1_4 w1 ∧ Br b_3 (Need (decide (0 ≤ n) && decide (n < (↑others.2 : Int)) && Option.isSome others.1) (∃ (n_9 : Int), World.cell?
  w1 (Sl.at others 43 (Int.toNat n)) = some (Value.int IntKind.i64 n_9) ∧ ∃ (n_10 : Int), World.cell? w1 (Addr.add (Sl.at others 43 (Int.toNat n)) 1) = some
  (Value.int IntKind.i64 n_10) ∧ ∃ (b_4 : Bool), World.cell? w1 (Addr.add (Sl.at others 43 (Int.toNat n)) 2) = some (Value.bool b_4) ∧ ∃ (b_5 : Bool), World.cell?
  w1 (Addr.add (Sl.at others 43 (Int.toNat n)) 3) = some (Value.bool b_5) ∧ ∃ (n_11 : Int), World.cell? w1 (Addr.add (Sl.at others 43 (Int.toNat n)) 4) =
  some (Value.int IntKind.i64 n_11) ∧ ∃ (n_12 : Int), World.cell? w1 (Addr.add (Sl.at others 43 (Int.toNat n)) 5) = some (Value.int IntKind.i64 n_12) ∧ ∃
  (n_13 : Int), World.cell? w1 (Addr.add (Sl.at others 43 (Int.toNat n)) 6) = some (Value.int IntKind.i64 n_13) ∧ ∃ (n_14 : Int), World.cell? w1 (Addr.add
  (Sl.at others 43 (Int.toNat n)) 7) = some (Value.int IntKind.i64 n_14) ∧ ∃ (f : Nat → Int), (∀ (i : Nat), i < 16 → World.cell? w1 (Addr.add (Sl.at others
  43 (Int.toNat n)) (8 + i)) = some (Value.int IntKind.u8 (f i))) ∧ ∃ (n_15 : Int), World.cell? w1 (Addr.add (Sl.at others 43 (Int.toNat n)) 24) = some (Value.int
  IntKind.i64 n_15) ∧ ∃ (f_2 : Nat → Int), (∀ (i : Nat), i < 16 → World.cell? w1 (Addr.add (Sl.at others 43 (Int.toNat n)) (25 + i)) = some (Value.int IntKind.u8
  (f_2 i))) ∧ ∃ (s : Sl), World.cell? w1 (Addr.add (Sl.at others 43 (Int.toNat n)) 41) = some (Sl.val s) ∧ ∃ (s_4 : Sl), World.cell? w1 (Addr.add (Sl.at others
  43 (Int.toNat n)) 42) = some (Sl.val s_4) ∧ Ret Try.prog 7 [SV.ptr p, SV.struct [SV.int IntKind.i64 n_9, SV.int IntKind.i64 n_10, SV.bool b_4, SV.bool b_5,
  SV.int IntKind.i64 n_11, SV.int IntKind.i64 n_12, SV.int IntKind.i64 n_13, SV.struct [SV.int IntKind.i64 n_14, SV.arr IntKind.u8 16 f], SV.struct [SV.int
  IntKind.i64 n_15, SV.arr IntKind.u8 16 f_2], SV.slice s, SV.slice s_4]] w1 fun (r : SV) (w1_5 : World) => ∃ (n : Int), ∃ (n_16 : Int), ∃ (b_6 : Bool), ∃
  (b_7 : Bool), ∃ (n_17 : Int), ∃ (n_18 : Int), ∃ (n_19 : Int), ∃ (n_20 : Int), ∃ (f : Nat → Int), ∃ (n_21 : Int), ∃ (f_3 : Nat → Int), ∃ (s : Sl), ∃ (s_5
  : Sl), ∃ (n_22 : Int), ∃ (n_23 : Int), r = SV.tuple [SV.struct [SV.int IntKind.i64 n, SV.int IntKind.i64 n_16, SV.bool b_6, SV.bool b_7, SV.int IntKind.i64
  n_17, SV.int IntKind.i64 n_18, SV.int IntKind.i64 n_19, SV.struct [SV.int IntKind.i64 n_20, SV.arr IntKind.u8 16 f], SV.struct [SV.int IntKind.i64 n_21,
  SV.arr IntKind.u8 16 f_3], SV.slice s, SV.slice s_5], SV.int IntKind.i64 n_22, SV.int IntKind.i64 n_23] ∧ Keeps [b] w1 w1_5 ∧ some (SV.box b 28 (SV.struct
  [SV.int IntKind.i64 h_0, SV.int IntKind.i64 h_1, SV.bool h_2, SV.bool h_3, SV.int IntKind.i64 h_4, SV.int IntKind.i64 h_5, SV.int IntKind.i64 h_6, SV.struct
  [SV.int IntKind.i64 h_7_0, SV.arr IntKind.u8 16 h_7_1], SV.struct [SV.int IntKind.i64 h_8_0, SV.arr IntKind.u8 16 h_8_1], SV.slice h_9, SV.slice h_10]))
  = some (SV.box b 28 (SV.struct [SV.int IntKind.i64 h_0, SV.int IntKind.i64 h_1, SV.bool h_2, SV.bool h_3, SV.int IntKind.i64 h_4, SV.int IntKind.i64 h_5,
  SV.int IntKind.i64 h_6, SV.struct [SV.int IntKind.i64 h_7_0, SV.arr IntKind.u8 16 h_7_1], SV.struct [SV.int IntKind.i64 h_8_0, SV.arr IntKind.u8 16 h_8_1],
  SV.slice h_9, SV.slice h_10])) ∧ J_1 w1_5)) (some (SV.box b 28 (SV.struct [SV.int IntKind.i64 h_0, SV.int IntKind.i64 h_1, SV.bool h_2, SV.bool h_3, SV.int
  IntKind.i64 h_4, SV.int IntKind.i64 h_5, SV.int IntKind.i64 h_6, SV.struct [SV.int IntKind.i64 h_7_0, SV.arr IntKind.u8 16 h_7_1], SV.struct [SV.int IntKind.i64
  h_8_0, SV.arr IntKind.u8 16 h_8_1], SV.slice h_9, SV.slice h_10])) = some (SV.box b 28 (SV.struct [SV.int IntKind.i64 h_0, SV.int IntKind.i64 h_1, SV.bool
  h_2, SV.bool h_3, SV.int IntKind.i64 h_4, SV.int IntKind.i64 h_5, SV.int IntKind.i64 h_6, SV.struct [SV.int IntKind.i64 h_7_0, SV.arr IntKind.u8 16 h_7_1],
  SV.struct [SV.int IntKind.i64 h_8_0, SV.arr IntKind.u8 16 h_8_1], SV.slice h_9, SV.slice h_10])) ∧ J_1 w1))) (∀ (w1_4 : World), Upd [] [] w1 w1_4 → some
  (SV.box b 28 (SV.struct [SV.int IntKind.i64 h_0, SV.int IntKind.i64 h_1, SV.bool h_2, SV.bool h_3, SV.int IntKind.i64 h_4, SV.int IntKind.i64 h_5, SV.int
  IntKind.i64 h_6, SV.struct [SV.int IntKind.i64 h_7_0, SV.arr IntKind.u8 16 h_7_1], SV.struct [SV.int IntKind.i64 h_8_0, SV.arr IntKind.u8 16 h_8_1], SV.slice
  h_9, SV.slice h_10])) = some (SV.box b 28 (SV.struct [SV.int IntKind.i64 h_0, SV.int IntKind.i64 h_1, SV.bool h_2, SV.bool h_3, SV.int IntKind.i64 h_4,
  SV.int IntKind.i64 h_5, SV.int IntKind.i64 h_6, SV.struct [SV.int IntKind.i64 h_7_0, SV.arr IntKind.u8 16 h_7_1], SV.struct [SV.int IntKind.i64 h_8_0, SV.arr
  IntKind.u8 16 h_8_1], SV.slice h_9, SV.slice h_10])) ∧ J_1 w1_4)) (Br ((↑s_2.2 : Int) == (↑s.2 : Int)) (Ret Try.prog 18 [SV.ptr p] w1 fun (r : SV) (w1_4
  : World) => ∃ (n : Int), r = SV.int IntKind.i64 n ∧ Keeps [b] w1 w1_4 ∧ R (SV.bool (decide (n ≥ 1))) w1_4) (R (SV.bool false) w1))) → J w1) → Br (n != 0)
  (R (SV.bool false) w1) (Br (n_1 != 0) (R (SV.bool false) w1) (Br (Option.isNone p) (R (SV.bool false) w1) (Br ((↑s.2 : Int) == 0) (R (SV.bool false) w1)
  (some (SV.box b 28 (SV.struct [SV.int IntKind.i64 h_0, SV.int IntKind.i64 h_1, SV.bool h_2, SV.bool h_3, SV.int IntKind.i64 h_4, SV.int IntKind.i64 h_5,
  SV.int IntKind.i64 h_6, SV.struct [SV.int IntKind.i64 h_7_0, SV.arr IntKind.u8 16 h_7_1], SV.struct [SV.int IntKind.i64 h_8_0, SV.arr IntKind.u8 16 h_8_1],
  SV.slice h_9, SV.slice h_10])) = some (SV.box b 28 (SV.struct [SV.int IntKind.i64 h_0, SV.int IntKind.i64 h_1, SV.bool h_2, SV.bool h_3, SV.int IntKind.i64
  h_4, SV.int IntKind.i64 h_5, SV.int IntKind.i64 h_6, SV.struct [SV.int IntKind.i64 h_7_0, SV.arr IntKind.u8 16 h_7_1], SV.struct [SV.int IntKind.i64 h_8_0,
  SV.arr IntKind.u8 16 h_8_1], SV.slice h_9, SV.slice h_10])) ∧ J w1))))) → J w1) → Br (n != 0) (R (SV.bool true) w1_1) (Br (decide ((↑s.2 : Int) > 1024))
  (R (SV.bool true) w1_1) (some (SV.box b 28 (SV.struct [SV.int IntKind.i64 h_0, SV.int IntKind.i64 h_1, SV.bool h_2, SV.bool h_3, SV.int IntKind.i64 h_4,
  SV.int IntKind.i64 h_5, SV.int IntKind.i64 h_6, SV.struct [SV.int IntKind.i64 h_7_0, SV.arr IntKind.u8 16 h_7_1], SV.struct [SV.int IntKind.i64 h_8_0, SV.arr
  IntKind.u8 16 h_8_1], SV.slice h_9, SV.slice h_10])) = some (SV.box b 28 (SV.struct [SV.int IntKind.i64 h_0, SV.int IntKind.i64 h_1, SV.bool h_2, SV.bool
  h_3, SV.int IntKind.i64 h_4, SV.int IntKind.i64 h_5, SV.int IntKind.i64 h_6, SV.struct [SV.int IntKind.i64 h_7_0, SV.arr IntKind.u8 16 h_7_1], SV.struct
  [SV.int IntKind.i64 h_8_0, SV.arr IntKind.u8 16 h_8_1], SV.slice h_9, SV.slice h_10])) ∧ J w1_1))) → J w1) → ∀ (w1 : World), Upd [] [b] w w1 → Ret Try.prog
  6 [SV.struct [SV.int IntKind.i64 h_0, SV.int IntKind.i64 h_1, SV.bool h_2, SV.bool h_3, SV.int IntKind.i64 h_4, SV.int IntKind.i64 h_5, SV.int IntKind.i64
  h_6, SV.struct [SV.int IntKind.i64 h_7_0, SV.arr IntKind.u8 16 h_7_1], SV.struct [SV.int IntKind.i64 h_8_0, SV.arr IntKind.u8 16 h_8_1], SV.slice h_9, SV.slice
  h_10]] w1 fun (r : SV) (w1_1 : World) => ∃ (n : Int), r = SV.int IntKind.i64 n ∧ Keeps [b] w1 w1_1 ∧ Br (n != 0) (R (SV.bool true) w1_1) (Br h_3 (R (SV.bool
  true) w1_1) (Br (h_4 != 0) (R (SV.bool true) w1_1) (Br h_2 (R (SV.bool true) w1_1) (Br (decide (mtu < 68)) (R (SV.bool true) w1_1) (Br (decide (mtu > 65535))
  (R (SV.bool true) w1_1) (Br (decide ((↑others.2 : Int) > 100)) (R (SV.bool true) w1_1) (some (SV.box b 28 (SV.struct [SV.int IntKind.i64 h_0, SV.int IntKind.i64
  h_1, SV.bool h_2, SV.bool h_3, SV.int IntKind.i64 h_4, SV.int IntKind.i64 h_5, SV.int IntKind.i64 h_6, SV.struct [SV.int IntKind.i64 h_7_0, SV.arr IntKind.u8
  16 h_7_1], SV.struct [SV.int IntKind.i64 h_8_0, SV.arr IntKind.u8 16 h_8_1], SV.slice h_9, SV.slice h_10])) = some (SV.box b 28 (SV.struct [SV.int IntKind.i64
  h_0, SV.int IntKind.i64 h_1, SV.bool h_2, SV.bool h_3, SV.int IntKind.i64 h_4, SV.int IntKind.i64 h_5, SV.int IntKind.i64 h_6, SV.struct [SV.int IntKind.i64
  h_7_0, SV.arr IntKind.u8 16 h_7_1], SV.struct [SV.int IntKind.i64 h_8_0, SV.arr IntKind.u8 16 h_8_1], SV.slice h_9, SV.slice h_10])) ∧ J w1_1)))))))
theorem f4_of (h_0 : Int) (h_1 : Int) (h_2 : Bool) (h_3 : Bool) (h_4 : Int) (h_5 : Int) (h_6 : Int) (h_7_0 : Int) (h_7_1 : Nat → Int) (h_8_0 : Int) (h_8_1 : Nat → Int) (h_9 : Sl) (h_10 : Sl) (mtu : Int) (order : Sl) (others : Sl) (w : World) (R : SV → World → Prop) (hV : vc4 h_0 h_1 h_2 h_3 h_4 h_5 h_6 h_7_0 h_7_1 h_8_0 h_8_1 h_9 h_10 mtu order others w R) : Ret Try.prog 4 [.struct [.int .i64 h_0, .int .i64 h_1, .bool h_2, .bool h_3, .int .i64 h_4, .int .i64 h_5, .int .i64 h_6, .struct [.int .i64 h_7_0, .arr .u8 16 h_7_1], .struct [.int .i64 h_8_0, .arr .u8 16 h_8_1], .slice h_9, .slice h_10], .int .i64 mtu, .slice order, .slice others] w R :=
  have e : vc4 h_0 h_1 h_2 h_3 h_4 h_5 h_6 h_7_0 h_7_1 h_8_0 h_8_1 h_9 h_10 mtu order others w R = fnVC X Try.f4 a4 [.struct [.int .i64 h_0, .int .i64 h_1, .bool h_2, .bool h_3, .int .i64 h_4, .int .i64 h_5, .int .i64 h_6, .struct [.int .i64 h_7_0, .arr .u8 16 h_7_1], .struct [.int .i64 h_8_0, .arr .u8 16 h_8_1], .slice h_9, .slice h_10], .int .i64 mtu, .slice order, .slice others] w R := by kernel_rfl
  fnVC_sound X_ok (n := a4) (e ▸ hV) (by kernel_rfl) (by kernel_rfl) rfl rfl

end Go.Vc.Stop
end

section
/- the library's sort at this program: what the kit's plain laying wrote -/
open Go Go.Vc Go.Proofs Go.Shelf Go.RowKit Go.Lib Go.Sort
set_option linter.unusedVariables false
set_option autoImplicit false
namespace Go.Proofs
def Try.sortC_ren : Go.Shelf.Ren := ⟨fun | 6 => 59 | 15 => 67 | 14 => 66 | 28 => 78 | 29 => 79 | 20 => 70 | 21 => 71 | 22 => 72 | 23 => 73 | 24 => 74 | 25 => 75 | 26 => 76 | 27 => 77 | 46 => 81 | 47 => 82 | 48 => 83 | 49 => 84 | 50 => 85 | 57 => 86 | n => n, fun | 22 => 101 | 24 => 67 | 25 => 127 | 3 => 3 | 39 => 139 | 0 => 0 | 53 => 148 | 55 => 150 | 4 => 4 | 46 => 142 | 45 => 141 | 50 => 110 | 5 => 5 | 9 => 9 | 66 => 152 | 70 => 156 | 76 => 158 | 77 => 159 | n => n, fun | n => n⟩
theorem Try.sortC : Go.Proofs.SlLaysF.n6 Try.prog Try.sortC_ren := {
  mixed := by kernel_rfl
  f6 := ⟨Try.f59.name, by decide, Try.func59.trans (congrArg some (by kernel_rfl))⟩
  f14 := ⟨Try.f66.name, by decide, Try.func66.trans (congrArg some (by kernel_rfl))⟩
  f15 := Try.func67.trans (congrArg some (by kernel_rfl))
  f20 := ⟨Try.f70.name, by decide, Try.func70.trans (congrArg some (by kernel_rfl))⟩
  f21 := ⟨Try.f71.name, by decide, Try.func71.trans (congrArg some (by kernel_rfl))⟩
  f22 := ⟨Try.f72.name, by decide, Try.func72.trans (congrArg some (by kernel_rfl))⟩
  f23 := ⟨Try.f73.name, by decide, Try.func73.trans (congrArg some (by kernel_rfl))⟩
  f24 := ⟨Try.f74.name, by decide, Try.func74.trans (congrArg some (by kernel_rfl))⟩
  f25 := ⟨Try.f75.name, by decide, Try.func75.trans (congrArg some (by kernel_rfl))⟩
  f26 := ⟨Try.f76.name, by decide, Try.func76.trans (congrArg some (by kernel_rfl))⟩
  f27 := ⟨Try.f77.name, by decide, Try.func77.trans (congrArg some (by kernel_rfl))⟩
  f28 := Try.func78.trans (congrArg some (by kernel_rfl))
  f29 := Try.func79.trans (congrArg some (by kernel_rfl))
  f46 := ⟨Try.f81.name, by decide, Try.func81.trans (congrArg some (by kernel_rfl))⟩
  f47 := Try.func82.trans (congrArg some (by kernel_rfl))
  f48 := Try.func83.trans (congrArg some (by kernel_rfl))
  f49 := ⟨Try.f84.name, by decide, Try.func84.trans (congrArg some (by kernel_rfl))⟩
  f50 := ⟨Try.f85.name, by decide, Try.func85.trans (congrArg some (by kernel_rfl))⟩
  f57 := ⟨Try.f86.name, by decide, Try.func86.trans (congrArg some (by kernel_rfl))⟩
  t0 := Try.underlying0
  a0 := Try.isAgg0
  z0 := Try.sizeOf0
  v0 := Try.zeroValue0
  t3 := Try.underlying3
  a3 := Try.isAgg3
  z3 := Try.sizeOf3
  v3 := Try.zeroValue3
  t4 := Try.underlying4
  a4 := Try.isAgg4
  z4 := Try.sizeOf4
  v4 := Try.zeroValue4
  t5 := Try.underlying5
  a5 := Try.isAgg5
  z5 := Try.sizeOf5
  v5 := Try.zeroValue5
  t9 := Try.underlying9
  a9 := Try.isAgg9
  z9 := Try.sizeOf9
  v9 := Try.zeroValue9
  t22 := Try.underlying101
  a22 := Try.isAgg101
  z22 := Try.sizeOf101
  v22 := Try.zeroValue101
  a24 := Try.isAgg67
  z24 := Try.sizeOf67
  t25 := Try.underlying127
  a25 := Try.isAgg127
  z25 := Try.sizeOf127
  v25 := Try.zeroValue127
  t39 := Try.underlying139
  a39 := Try.isAgg139
  z39 := Try.sizeOf139
  v39 := Try.zeroValue139
  t45 := Try.underlying141
  a45 := Try.isAgg141
  z45 := Try.sizeOf141
  v45 := Try.zeroValue141
  t46 := Try.underlying142
  a46 := Try.isAgg142
  z46 := Try.sizeOf142
  v46 := Try.zeroValue142
  t50 := Try.underlying110
  a50 := Try.isAgg110
  z50 := Try.sizeOf110
  v50 := Try.zeroValue110
  t53 := Try.underlying148
  a53 := Try.isAgg148
  z53 := Try.sizeOf148
  v53 := Try.zeroValue148
  t55 := Try.underlying150
  a55 := Try.isAgg150
  z55 := Try.sizeOf150
  v55 := Try.zeroValue150
  t66 := Try.underlying152
  a66 := Try.isAgg152
  z66 := Try.sizeOf152
  v66 := Try.zeroValue152
  t70 := Try.underlying156
  a70 := Try.isAgg156
  z70 := Try.sizeOf156
  v70 := Try.zeroValue156
  t76 := Try.underlying158
  a76 := Try.isAgg158
  z76 := Try.sizeOf158
  v76 := Try.zeroValue158
  t77 := Try.underlying159
  a77 := Try.isAgg159
  z77 := Try.sizeOf159
  v77 := Try.zeroValue159 }
end Go.Proofs
end

section
open Go Go.Vc Go.Proofs Go.Shelf Go.RowKit Go.Lib Go.Sort
set_option linter.unusedVariables false
set_option autoImplicit false
namespace Go.Proofs
theorem Try.closure60 (x y : Nat) (bx by_ : Int) (W : World) (h1 : 0 ≤ bx ∧ bx ≤ 1000000) (h2 : 0 ≤ by_ ∧ by_ ≤ 1000000) (hx : W.cell? ⟨x, 36, none⟩ = some (.int .i64 bx)) (hy : W.cell? ⟨y, 36, none⟩ = some (.int .i64 by_)) :
    Calls Try.prog 60 #[.pointer (some ⟨x, 0, none⟩), .pointer (some ⟨y, 0, none⟩)] W fun e w' => e = .returned (.int .i64 (bx - by_)) ∧ ∃ q, w' = W.drewN q := by
  go_enter Try.func60, Try.ntmps60
  go_wp2
  go_region
  all_goals go_wp2
  go_ret
  exact ⟨rfl, 1, rfl⟩
end Go.Proofs
end

section
open Go Go.Vc Go.Proofs Go.Sort
set_option linter.unusedVariables false
set_option linter.unusedSimpArgs false
set_option autoImplicit false
namespace Go.Vc.Stop
def cPtr : Cod Nat := ⟨1, fun p => [.pointer (some ⟨p, 0, none⟩)], fun _ => rfl, by simp [Value.oneCell']⟩
theorem sort_keep {α : Type} [Inhabited α] {enc : α → Value} {w : World} {blk off n : Nat} {d : Array α} {os : Array Obj} {j : Nat} (hj : j < w.heap.size) (hne : j ≠ blk) : (sortWorld enc w blk off n d os).heap[j]? = w.heap[j]? := by
  unfold sortWorld grow putRow mapBlock Sort.ahead
  rw [Array.getElem?_append]
  rw [if_pos (by simpa using hj)]
  simp only [Array.getElem?_modify]
  rw [if_neg (fun e => hne e.symm)]
theorem sort_upd {α : Type} [Inhabited α] {enc : α → Value} {w : World} {blk off n : Nat} {d : Array α} {os : Array Obj} : Upd [blk] [] w (sortWorld enc w blk off n d os) :=
  ⟨rfl, rfl, rfl, by unfold sortWorld grow putRow mapBlock Sort.ahead; simp, fun j hj hm => sort_keep hj (by simpa using hm), by simp⟩
section
variable {w : World} {R : SV → World → Prop}
/-- the library's sort returns, and nothing but the row is changed -/
theorem c59 {s : Sl} {ps : List Nat} {N : Nat} (hs : Sees cPtr w s ps) (ho : Own N 1 w s) (hne : ps ≠ []) (hl : ps.length ≤ 1000000) (hb : ∀ p ∈ ps, p ∉ s.blk ∧ ∃ x : Int, (0 ≤ x ∧ x ≤ 1000000) ∧ w.cell? ⟨p, 36, none⟩ = some (.int .i64 x))
    (k : ∀ w1, Upd s.blk [] w w1 → R (.tuple []) w1) : Ret Try.prog 59 [.slice s, .clo 60 []] w R := by
  obtain ⟨p0, hp0⟩ := List.exists_mem_of_ne_nil _ hne
  let α := { p : Nat // p ∈ ps }
  let inst : Inhabited α := ⟨⟨p0, hp0⟩⟩
  let enc : α → Value := fun a => .pointer (some ⟨a.1, 0, none⟩)
  let g : α → Int := fun a => Classical.choose (hb a.1 a.2).2
  have hg : ∀ a : α, (0 ≤ g a ∧ g a ≤ 1000000) ∧ w.cell? ⟨a.1, 36, none⟩ = some (.int .i64 (g a)) := fun a => Classical.choose_spec (hb a.1 a.2).2
  let cf : α → α → Int := fun a b => g a - g b
  let d : Array α := ps.attach.toArray
  have hlen := hs.len
  have hdp : d.size = ps.length := by show ps.attach.toArray.size = _; rw [List.size_toArray, List.length_attach]
  have hds : d.size = s.len := by rw [hdp, hlen]
  obtain ⟨sp, sl, sc⟩ := s
  cases sp with
  | none =>
    have q1 : sc = 0 := ho.nil rfl
    have q2 : sl ≤ sc := ho.le
    have q3 : sl = ps.length := hlen
    have : ps.length = 0 := by omega
    exact absurd (List.length_eq_zero_iff.1 this) hne
  | some a =>
    obtain ⟨blk, off, spot⟩ := a
    have hsp : spot = none := (ho.cell _ rfl).1
    subst hsp
    have bl := (ho.blk blk (by simp [Sl.blk])).2
    have hH : Holds enc w blk off d := fun j hj => by
      have hj' : j < ps.length := by rw [← hdp]; exact hj
      have h1 := hs.elem hj' 0 (by simp [cPtr])
      have h2 := ((ho.cell _ rfl).2 j (by have := ho.le; simp at this hlen ⊢; omega)).2
      have ea : ∀ i : Nat, (⟨blk, off, none⟩ : Addr).add i = ⟨blk, off + i, none⟩ := fun i => by
        unfold Addr.add
        split
        · rename_i e; subst e; rfl
        · rfl
      rw [ea] at h2
      refine ⟨?_, h2⟩
      rw [getElem!_pos d j hj]
      have e1 : ((⟨some ⟨blk, off, none⟩, sl, sc⟩ : Sl).at 1 j).add 0 = ⟨blk, off + j, none⟩ := by
        rw [add_zero]
        show (⟨blk, off, none⟩ : Addr).add (j * 1) = _
        rw [Nat.mul_one, ea]
      have h1 : w.cell? (((⟨some ⟨blk, off, none⟩, sl, sc⟩ : Sl).at 1 j).add 0) = some (.pointer (some ⟨ps[j], 0, none⟩)) := h1
      rw [e1] at h1
      rw [h1]
      have e2 : (d[j]'hj).1 = ps[j] := by show (ps.attach.toArray[j]'hj).1 = ps[j]; rw [List.getElem_toArray]; exact congrArg Subtype.val (List.getElem_attach (xs := ps) (by rw [List.length_attach]; exact hj'))
      show _ = some (Value.pointer (some ⟨(d[j]'hj).1, 0, none⟩))
      rw [e2]
    have hO : SWO (ltOf cf) := ⟨fun x => by simp [ltOf, cf], fun x y z h1 h2 => by simp [ltOf, cf] at *; omega, fun x y z h1 h2 => by simp [ltOf, cf] at *; omega⟩
    have eg : ∀ args w, (callFunc 60 args).run Try.prog w = .ok (.enter 60 args) w := enters_of Try.func60 (by kernel_rfl) rfl
    have hcmp : CmpReads Try.prog 60 #[] enc cf blk off d.size w := fun m os dk hdk x y => by
      have cell : ∀ a : α, (sortWorld enc w blk off m dk os).cell? ⟨a.1, 36, none⟩ = some (.int .i64 (g a)) := fun a => by
        have h0 := (hg a).2
        have hlt := cell_lt h0
        have hnb : a.1 ≠ blk := fun e => (hb a.1 a.2).1 (by simp [Sl.blk, e])
        rw [← h0]
        unfold World.cell?
        rw [show (sortWorld enc w blk off m dk os).heap[(⟨a.1, 36, none⟩ : Addr).block]? = w.heap[(⟨a.1, 36, none⟩ : Addr).block]? from sort_keep hlt hnb]
      exact Try.closure60 x.1 y.1 (g x) (g y) _ (hg x).1 (hg y).1 (cell x) (cell y)
    have hcon := Any.slices_SortFunc Try.sortC enc (fun _ => rfl) cf hO 60 #[] blk off sc d w eg hcmp.lays hH bl (by rw [hdp]; omega)
    change Calls Try.prog 59 _ _ _ at hcon
    refine (?_ : Calls Try.prog 59 _ _ _)
    rw [hds] at hcon
    refine Calls.mono hcon ?_
    rintro e w' ⟨rfl, d', n, os, _, _, rfl⟩
    exact ⟨.tuple [], rfl, k _ (by simpa [Sl.blk] using sort_upd)⟩
end
end Go.Vc.Stop
end

section
open Go Go.Vc Go.Proofs
set_option linter.unusedVariables false
set_option linter.unusedSimpArgs false
set_option autoImplicit false
namespace Go.Vc.Stop
theorem nodup_le : ∀ (n : Nat) (l : List Nat), l.Nodup → (∀ x ∈ l, x < n) → l.length ≤ n
  | 0, l, _, h => by
    cases l with
    | nil => simp
    | cons x r => exact absurd (h x (by simp)) (by omega)
  | n + 1, l, hn, h => by
    have := nodup_le n (l.erase n) (hn.erase n) (fun x hx => by
      have h1 := (List.Nodup.mem_erase_iff hn).1 hx
      have := h x h1.2
      have := h1.1
      omega)
    have h2 : l.length ≤ (l.erase n).length + 1 := by rw [List.length_erase]; split <;> omega
    omega
theorem heap_lt {w : World} {b : Nat} {o : Obj} (h : w.heap[b]? = some o) : b < w.heap.size := by
  rcases Nat.lt_or_ge b w.heap.size with q | q
  · exact q
  · rw [Array.getElem?_eq_none q] at h
    cases h
theorem iterL_upd {w w1 : World} {it r : Nat} {l : List (Value × SV)} {seen m n : List Nat} (h : IterL w it r l seen) (u : Upd m n w w1) (h1 : it ∉ m) (h2 : r ∉ m) : IterL w1 it r l seen := by
  obtain ⟨es, c, S, a1, a2, a3⟩ := h
  exact ⟨es, c, S, by rw [u.keep it (heap_lt a1) h1]; exact a1, by rw [u.keep r (heap_lt a2) h2]; exact a2, a3⟩
section
variable {N t : Nat} {w : World} {R : SV → World → Prop} {T : Tv} {hd : List Nat}
set_option maxRecDepth 10000 in
/-- the contexts that are finished; there is one -/
theorem c42F (hT : TbAt N w t T hd) (hN : N ≤ w.heap.size) (hl : T.cs.length ≤ 1000) (hb : ∀ c ∈ T.cs, 0 ≤ c.began ∧ c.began ≤ 1000000) (h1 : ∃ c ∈ T.cs, c.state = 1) (k : ∀ s w1, Upd [] [] w w1 → 0 < s.len → R (.slice s) w1) : Ret Try.prog 42 [.ptr (some ⟨t, 0, none⟩), .int .i64 1] w R := by
  refine f42_of _ _ _ _ ?_
  unfold vc42
  dsimp only [deref]
  obtain ⟨mb, bT, mT, tin, mbin, tne, _⟩ := hT.more
  have lt := hT.lt
  refine ⟨_, bT.at_ 3 (v := .map (some mb)) rfl, ?_⟩
  dsimp only [derefN]
  refine ⟨und56, _, mT, fun b w1 u1 hI => ?_⟩
  have nb := u1.new (b := b) (by simp)
  have z1 := u1.size
  have el : (ents T.cs).length = T.cs.length := ents_len _
  refine ⟨fun s w' => ∃ (seen : List Nat) (ps : List Nat), Upd [] [] w w' ∧ w1.heap.size ≤ w'.heap.size ∧ IterL w' b mb (ents T.cs) seen ∧ seen.Nodup ∧ Sees cPtr w' s ps ∧ Own w1.heap.size 1 w' s ∧ ps.length ≤ seen.length ∧ (∀ p ∈ ps, ∃ c ∈ T.cs, c.p = p) ∧ (∀ i ∈ seen, ∀ hi : i < T.cs.length, T.cs[i].state = 1 → 0 < ps.length), fun _ w' => leftM T.cs.length b w',
    ⟨[], [], u1.forget, Nat.le_refl _, hI, List.nodup_nil, Sees.nil _ _ _ _, Own.none _ _ _, by simp, by simp, by simp⟩, ?_⟩
  rintro s w2 ⟨seen, ps, U2, z2, hI2, hnd, hS, oS, hle, hmem, hst⟩
  have hseen : ∀ i ∈ seen, i < T.cs.length := fun i hi => by
    obtain ⟨_, _, _, _, h⟩ := iterL_len hI2
    have := h i hi
    omega
  refine ⟨rfl, by simp, mb, _, seen, hI2, fun hall => ?_, fun i hi hns w3 u3 hI3 kk vv => ⟨rfl, ?_⟩⟩
  · obtain ⟨c, hc, hc1⟩ := h1
    obtain ⟨i, hi, rfl⟩ := List.getElem_of_mem hc
    have hpos := hst i (hall i (by omega)) hi hc1
    have hsl := nodup_le T.cs.length seen hnd hseen
    refine c59 hS oS (by intro e; rw [e] at hpos; simp at hpos) (by omega) (fun p hp => ?_) fun w3 u3 => ⟨rfl, k s w3 (U2.step0 u3 (fun x hx => by have := (oS.blk x hx).1; omega)) (by rw [hS.len]; exact hpos)⟩
    obtain ⟨c, hc, rfl⟩ := hmem p hp
    obtain ⟨i, hi, rfl⟩ := List.getElem_of_mem hc
    obtain ⟨hdi, hC, hsub, _⟩ := (hT.old U2).at hi
    obtain ⟨hp', so, sd, j, os, hb', hBk, _⟩ := hC.ex
    have hlt := lt _ (hsub _ hC.mem)
    exact ⟨fun hm => by have := (oS.blk _ hm).1; omega, T.cs[i].began, hb _ (List.getElem_mem hi), hBk.at_ 36 (v := .int .i64 T.cs[i].began) rfl⟩
  · rw [el] at hi
    have U3 : Upd [] [] w w3 := U2.step0 u3 (fun x hx => by simp at hx; omega)
    have z3 := u3.size
    obtain ⟨hdi, hC, hsub, _⟩ := (hT.old U3).at hi
    obtain ⟨hp', so, sd, j, os, hb', hBk, _⟩ := hC.ex
    have hnd' : (i :: seen).Nodup := List.nodup_cons.2 ⟨hns, hnd⟩
    have hsl := nodup_le T.cs.length (i :: seen) hnd' (fun x hx => by
      rcases List.mem_cons.1 hx with rfl | hx
      · exact hi
      · exact hseen x hx)
    simp only [List.length_cons] at hsl
    have bs := oS.blk
    have sb : ∀ x ∈ s.blk, x ∉ [b] := fun x hx hm => by have := (bs x hx).1; simp at hm; omega
    have hS3 := hS.upd u3 sb
    have oS3 := oS.upd u3 sb
    refine ⟨mb, ents T.cs, i, seen, (kSV T.cs[i].key).enc, hI3, some ⟨T.cs[i].p, 0, none⟩, by simp [EntAt, ents, hi], ?_⟩
    refine brf (by decide) ?_
    dsimp only [deref]
    refine ⟨T.cs[i].state, hBk.at_ 38 (v := .int .i64 T.cs[i].state) rfl, bre (fun h1' => ?_) (fun h1' => ?_)⟩
    · intro b4 w4 u4 hr4
      have n4 := u4.new (b := b4) (by simp)
      have hr5 : Sees cPtr w4 ⟨some ⟨b4, 0, none⟩, 1, 1⟩ [T.cs[i].p] := sees_row (c := cPtr) hr4 [T.cs[i].p] (by simp [SV.cells, SV.cellsL, SV.enc, cPtr, Cod.cells]) rfl
      refine append_own (c := cPtr) (hS3.old u4) (oS3.old u4) hr5 (by have := u4.size; omega) (by simp) (by decide) (by simp; omega) fun r w5 hr ho5 u5 hn => ?_
      have z5 := u5.size; have z4 := u4.size
      have bI : b ∉ s.blk := fun hm => by have := (bs _ hm).1; omega
      have mI : mb ∉ s.blk := fun hm => by have := (bs _ hm).1; have := (lt _ mbin).2; omega
      refine ⟨⟨i :: seen, ps ++ [T.cs[i].p], (U3.then u4).step0 u5 (fun x hx => by have := (bs x hx).1; omega), by omega, ?_, hnd', hr, ho5, by simp; omega, fun p hp => ?_, fun _ _ _ _ => by simp⟩, ?_⟩
      · exact iterL_upd (iterL_upd hI3 u4 (by simp) (by simp)) u5 bI mI
      · rcases List.mem_append.1 hp with q | q
        · exact hmem p q
        · rw [List.mem_singleton] at q
          exact ⟨_, List.getElem_mem hi, q.symm⟩
      · have := iterL_upd (iterL_upd hI3 u4 (by simp) (by simp)) u5 bI mI
        rw [leftM_eq this, leftM_eq hI2]
        simp; omega
    · refine ⟨⟨i :: seen, ps, U3, by omega, hI3, hnd', hS3, oS3, by simp; omega, hmem, fun q hq hqi hq1 => ?_⟩, ?_⟩
      · rcases List.mem_cons.1 hq with rfl | hq
        · exact absurd hq1 h1'
        · exact hst q hq hqi hq1
      · rw [leftM_eq hI3, leftM_eq hI2]
        simp; omega
theorem c18 (hT : TbAt N w t T hd) (hN : N ≤ w.heap.size) (hl : T.cs.length ≤ 1000) (hb : ∀ c ∈ T.cs, 0 ≤ c.began ∧ c.began ≤ 1000000) (h1 : ∃ c ∈ T.cs, c.state = 1) (k : ∀ (n : Nat) w1, Upd [] [] w w1 → 0 < n → R (.int .i64 n) w1) : Ret Try.prog 18 [.ptr (some ⟨t, 0, none⟩)] w R := by
  refine f18_of _ _ _ ?_
  unfold vc18
  exact c42F hT hN hl hb h1 fun s w1 u1 hs => ⟨_, rfl, k _ w1 u1 hs⟩
end
end Go.Vc.Stop
end

section
open Go Go.Vc Go.Proofs
set_option linter.unusedVariables false
set_option linter.unusedSimpArgs false
set_option autoImplicit false
namespace Go.Vc.Stop
section
variable {w : World}
set_option maxRecDepth 20000 in
set_option maxHeartbeats 4000000 in
theorem c4 {v : IpV} {so sd : Sl} {mtu : Int} {order others : Sl} {ord : List Int} {ot : List IpC} (ok : IpOk w ⟨v, so, sd⟩) (hor : Sees cI64 w order ord) (hot : Sees cIp w others ot) (hots : ∀ a ∈ ot, IpOk w a) :
    Ret Try.prog 4 [ipSV v so sd, .int .i64 mtu, .slice order, .slice others] w fun r w1 => r = .bool true ∧ Upd [] [] w w1 := by
  have hotl := hot.len
  obtain ⟨os, hO, hoc⟩ := ok.ex
  have hO : Opts w so v.opts os := hO
  have few : v.opts.length ≤ 4398046511000 := ok.few
  have small : ∀ o ∈ v.opts, o.data.length ≤ 140737488351232 := ok.small
  have bo : ∀ o ∈ v.opts, Byt o.data := ok.bo
  have dl : v.data.length ≤ 140737488351232 := ok.dl
  have hD : SeesB w sd v.data := ok.d
  have cap : sd.len ≤ sd.cap := ok.cap
  have bd : Byt v.data := ok.bd
  have fit : Fit v := ⟨ok.key.sa, ok.key.da, bo, bd⟩
  refine f4_of _ _ _ _ _ _ _ _ _ _ _ _ _ _ _ _ _ _ ?_
  unfold vc4
  intro b J hJ w1 u1
  have nb := u1.new (b := b) (by simp)
  have z1 := u1.size
  refine c6 (v := v) (hO.old u1) (by omega) (fun o ho => by have := small o ho; omega) (hD.old u1).len (by omega) fun w2 u2 => ⟨_, rfl, kp u2, bre' (fun _ => ⟨rfl, u1.then u2⟩) (fun hc => brb (fun _ => ⟨rfl, u1.then u2⟩) (fun hmf => bre' (fun _ => ⟨rfl, u1.then u2⟩) (fun hof => brb (fun _ => ⟨rfl, u1.then u2⟩) (fun hdf => brd (fun _ => ⟨rfl, u1.then u2⟩) (fun hm1 => brd (fun _ => ⟨rfl, u1.then u2⟩) (fun hm2 => brd (fun _ => ⟨rfl, u1.then u2⟩) (fun h100 => ?_)))))))⟩
  (repeat refine And.intro rfl ?_)
  refine hJ _ ?_
  clear hJ
  have hm : 68 ≤ mtu ∧ mtu ≤ 65535 := by omega
  have v2 := u1.then u2
  refine c12 (hO.old v2) few small (hD.old v2) cap dl fit hc hmf hof hdf hm fun s w3 u3 hs => ⟨_, _, rfl, kp u3, ?_⟩
  have v3 := v2.then u3
  intro J hJ
  refine brf rfl (brd (fun _ => ⟨rfl, v3⟩) (fun hle => ?_))
  (repeat refine And.intro rfl ?_)
  refine hJ _ ?_
  clear hJ
  refine c13 (hO.old v3) few small (hD.old v3) cap dl hc hmf hof hdf hm fun l ls w4 u4 hl hmap hpc => ⟨_, _, rfl, kp u4, ?_⟩
  have v4 := v3.then u4
  have z2 := u2.size; have z3 := u3.size; have z4 := u4.size
  refine c5 (by omega) (by omega) fun t mb w5 u5 hT5 ht hmb => ⟨_, _, rfl, kp u5, ?_⟩
  have v5 := v4.then u5
  have z5 := u5.size
  have hll := hl.len
  have hp : putOk v.opts := by obtain ⟨_, _, _, _, _, _, _, hp, _⟩ := ipChk_ok hc; exact hp
  have hmap' : ls.map (·.v) = if fitsV v mtu then [v] else (cutV v mtu).map (pcV v) := by rw [hmap, pcsV, cut_same hp]
  have hlen : ls.length = nPc v mtu := by
    have := congrArg List.length hmap'
    rw [List.length_map] at this
    rw [this]
    unfold nPc
    split <;> simp
  have hls : l.len = s.len := by omega
  have pos : 0 < ls.length := by
    rw [hlen]
    unfold nPc
    split
    · omega
    · rename_i hnf
      have := (cutH hc bd hm hnf (by unfold nPc at hs; rw [if_neg hnf] at hs; omega)).two
      omega
  intro J hJ
  refine brf rfl (brf rfl (brf rfl (brf (by simp; omega) ?_)))
  (repeat refine And.intro rfl ?_)
  refine hJ _ ?_
  clear hJ
  refine bre (fun hone => ?_) (fun hmany => ?_)
  · -- one piece
    have hfit : fitsV v mtu := by
      by_cases q : fitsV v mtu
      · exact q
      · have := (cutH hc bd hm q (by unfold nPc at hs; rw [if_neg q] at hs; omega)).two
        unfold nPc at hs
        rw [if_neg q] at hs
        omega
    rw [if_pos hfit] at hmap'
    obtain ⟨a, rfl, hav⟩ := List.map_eq_singleton_iff.1 hmap'
    have hav : a.v = v := hav
    have ok4 : IpOk w4 a := pc_ok (hpc a (by simp)) ok (by rw [hav]; exact hc) (by rw [hav]; exact fun o ho => ho) (by rw [hav]; exact Nat.le_refl _) (by rw [hav]; exact fun o ho => ho) (by rw [hav]; exact Nat.le_refl _) (by rw [hav])
    have he := (hl.old u5).elem (i := 0) (by simp)
    have c : ∀ j x, (cIp.enc a)[j]? = some x → w5.cell? ((l.at 43 0).add j) = some x := fun j x hx => by
      obtain ⟨hj, hv⟩ := List.getElem?_eq_some_iff.1 hx
      have := he j hj
      rw [← hv]
      exact this
    have c0 := c 0 _ rfl
    rw [add_zero] at c0
    refine need (by simp [(hl.old u5).isSome (by decide) (by simp)]; omega) ?_
    refine ⟨a.v.tos, c0, a.v.id, c 1 _ rfl, a.v.df, c 2 _ rfl, a.v.mf, c 3 _ rfl, a.v.off, c 4 _ rfl, a.v.ttl, c 5 _ rfl, a.v.proto, c 6 _ rfl, a.v.sv, c 7 _ rfl, a.v.sa, fun i hi => c _ _ (ip_sa a i hi), a.v.dv, c 24 _ rfl, a.v.da, fun i hi => c _ _ (ip_da a i hi), a.so, c 41 _ rfl, a.sd, c 42 _ rfl, ?_⟩
    refine offer ok4 u5.forget hT5 (by simp) (by simp) fun T' out o e so' sd' os' w6 hd' hoff U6 hT6 sub6 hO6 hD6 => ⟨_, _, _, _, _, _, _, _, _, _, _, _, _, _, _, rfl, kpm U6 ?_ ?_, fun b8 => ?_⟩
    · intro x hx
      simp only [List.mem_cons, List.not_mem_nil, or_false] at hx
      subst hx; omega
    · intro x hx hm
      have := hT5.lt x hm
      simp only [List.mem_cons, List.not_mem_nil, or_false] at hx
      subst hx; omega
    have v6 : Upd [] [] w w6 := v5.step0 U6 (fun x hx => by have := (hT5.lt x hx).1; omega)
    obtain ⟨rfl, rfl, rfl⟩ : out = v ∧ o = 1 ∧ e = 0 := by
      rw [hav] at hoff
      have nf : ¬ ¬ (v.mf = false ∧ v.off = 0) := fun h => h ⟨hmf, hof⟩
      cases hoff with
      | bad h => exact absurd hc h
      | plain _ _ _ => exact ⟨rfl, rfl, rfl⟩
      | _ => first | exact absurd ‹¬ (v.mf = false ∧ v.off = 0)› nf
    refine brt rfl (brt rfl fun w7 u7 => ?_)
    (repeat refine And.intro rfl ?_)
    have v7 := v6.then u7
    refine c14T (hO6.old u7) (hO.old v7) (hD6.old u7) (hD.old v7) few bo bd fun w8 u8 => ⟨_, rfl, kp u8, ?_⟩
    (repeat refine And.intro rfl ?_)
    exact v7.then u8
  · have hnf : ¬ fitsV v mtu := fun q => by
      unfold nPc at hlen
      rw [if_pos q] at hlen
      omega
    have hnc : nPc v mtu = (cutV v mtu).length := by unfold nPc; rw [if_neg hnf]
    rw [if_neg hnf] at hmap'
    have CH := cutH hc bd hm hnf (by omega)
    generalize hcsq : cutV v mtu = cs at hmap' hnc CH
    have hcl : l.len = cs.length := by omega
    have two := CH.two
    have most := CH.most
    have hpcs : ∀ a ∈ ls, IpOk w4 a := fun a ha => by
      have hv : a.v ∈ cs.map (pcV v) := by rw [← hmap']; exact List.mem_map.2 ⟨a, ha, rfl⟩
      obtain ⟨c, hcm, hv⟩ := List.mem_map.1 hv
      refine pc_ok (hpc a ha) ok (by rw [← hv]; exact CH.chk c hcm) ?_ ?_ ?_ ?_ (by rw [← hv]; rfl)
      · rw [← hv]; exact fun o ho => (List.mem_filter.1 ho).1
      · rw [← hv]; exact List.length_filter_le _ _
      · rw [← hv]; exact fun x hx => List.mem_of_mem_take (List.mem_of_mem_drop hx)
      · rw [← hv]; simp [pcV]; omega
    refine c15 (hor.old v5) (n := l.len) (by omega) fun ws way w6 u6 hway hr hall hwl how => ⟨_, rfl, kp u6, ?_⟩
    have v6 := v5.then u6
    have z6 := u6.size
    have hwayl := hway.len
    have hwb := how.blk
    have L0 : Lp4 w5.heap.size w6.heap.size w4 w6 ws way t ⟨256, 3, 0, []⟩ [t, mb] Sl.nil [] :=
      ⟨u5.then u6, by omega, by omega, hT5.old u6, fun x hx => .inl (hT5.lt x hx).2, hway, fun x hx => hwb x hx, Sees.nil _ _ _ _, Own.none _ _ _, by simp [Sl.blk, Sl.nil]⟩
    (repeat refine And.intro rfl ?_)
    refine ⟨fun s2 n w' => ∃ (q : Nat) (T : Tv) (hd : List Nat) (come : List Bool) (seen : List Int), n = q ∧ q ≤ way.length ∧ Lp4 w5.heap.size w6.heap.size w4 w' ws way t T hd s2 seen ∧ Rl4 v cs come T ∧ SeenR cs.length come seen ∧ T.cs.length ≤ min q 100 + min (nCome come) 1 ∧ ∀ j (hj : j < way.length), j < q → way[j] ∈ seen,
      fun _ n _ => (way.length - n).toNat, ⟨0, _, _, _, _, rfl, by omega, L0, Rl4.zero v cs, SeenR.zero _, by simp, by simp⟩, ?_⟩
    rintro s2 n w7 ⟨q, T, hd, come, seen, rfl, hq, L7, rl, sr, hb, hs7⟩
    have sl := L7.sn.len
    have sc := sr.cnt
    have scl := sr.le
    refine brd (fun hlt => ?_) (fun hge => ?_)
    · have hq2 : q < way.length := by omega
      intro J hJ J1 hJ1
      have z7 := L7.sz
      have ltT := L7.tb.lt
      have next : ∀ (s' : Sl) (seen' : List Int) (T9 : Tv) (hd9 : List Nat) (come' : List Bool) (w' : World), Lp4 w5.heap.size w6.heap.size w4 w' ws way t T9 hd9 s' seen' → Rl4 v cs come' T9 → SeenR cs.length come' seen' → T9.cs.length ≤ min (q + 1) 100 + min (nCome come') 1 → (∀ j (hj : j < way.length), j < q + 1 → way[j] ∈ seen') → J s' w' := fun s' seen' T9 hd9 come' w' a1 a2 a3 a4 a5 => by
        refine hJ _ _ ?_
        (repeat refine And.intro rfl ?_)
        refine ⟨⟨q + 1, T9, hd9, come', seen', wr_succ (by omega), by omega, a1, a2, a3, a4, a5⟩, by rw [wr_succ (q := q) (by omega)]; (try dsimp only); omega⟩
      clear hJ
      -- the piece is offered
      have main : ∀ (T' : Tv) (hd' : List Nat) (w8 : World), Lp4 w5.heap.size w6.heap.size w4 w8 ws way t T' hd' s2 seen → Rl4 v cs come T' → T'.cs.length ≤ min (q + 1) 100 + min (nCome come) 1 → J1 w8 := fun T' hd' w8 L8 rl8 hb8 => by
        refine hJ1 _ ?_
        clear hJ1
        have hw8 : way[q] = ((way[q].toNat : Nat) : Int) := by have := hr _ (List.getElem_mem hq2); omega
        have hk := hr _ (List.getElem_mem hq2)
        have hk2 : way[q].toNat < cs.length := by omega
        generalize hpk : way[q].toNat = k at hw8 hk2
        obtain ⟨a1, a2⟩ := i64C L8.wy q hq2
        refine needIx (by omega) (by omega) a2 ⟨_, by rw [Int.toNat_natCast]; exact a1, ?_⟩
        rw [hw8, hcl]
        refine c17 L8.sn (by omega) ⟨_, _, rfl, kp (Upd.refl _), ?_⟩
        refine needIx (by omega) (by omega) a2 ⟨_, by rw [Int.toNat_natCast]; exact a1, ?_⟩
        rw [hw8]
        have u48 : Upd [] [] w4 w8 := L8.u
        have hl8 := hl.old u48
        have hkl : k < ls.length := by omega
        have he := hl8.elem hkl
        have hcs : cs[k]? = some cs[k] := List.getElem?_eq_getElem hk2
        have hav : ls[k].v = pcV v cs[k] := by
          have := congrArg (·[k]?) hmap'
          simp only [List.getElem?_map, hcs, List.getElem?_eq_getElem hkl, Option.map_some] at this
          exact Option.some.inj this
        have okp := hpcs _ (List.getElem_mem hkl)
        generalize cs[k] = c0 at hcs hav
        generalize ls[k] = a at he hav okp
        have c : ∀ j x, (cIp.enc a)[j]? = some x → w8.cell? ((l.at 43 k).add j) = some x := fun j x hx => by
          obtain ⟨hj, hv⟩ := List.getElem?_eq_some_iff.1 hx
          have := he j hj
          rw [← hv]
          exact this
        have c0' := c 0 _ rfl
        rw [add_zero] at c0'
        refine needIx (by omega) (by omega) (hl8.isSome (by decide) (by omega)) ?_
        rw [Int.toNat_natCast]
        refine ⟨a.v.tos, c0', a.v.id, c 1 _ rfl, a.v.df, c 2 _ rfl, a.v.mf, c 3 _ rfl, a.v.off, c 4 _ rfl, a.v.ttl, c 5 _ rfl, a.v.proto, c 6 _ rfl, a.v.sv, c 7 _ rfl, a.v.sa, fun i hi => c _ _ (ip_sa a i hi), a.v.dv, c 24 _ rfl, a.v.da, fun i hi => c _ _ (ip_da a i hi), a.so, c 41 _ rfl, a.sd, c 42 _ rfl, ?_⟩
        have mx := rl8.max
        refine offer okp u48 L8.tb (by omega) rl8.st fun T9 out o e so' sd' os' w9 hd9 hoff U9 hT9 sub9 hO9 hD9 => ⟨_, _, _, _, _, _, _, _, _, _, _, _, _, _, _, rfl, kpm U9 ?_ ?_, fun b5 => ?_⟩
        · intro x hx
          have := L8.sz
          simp only [List.mem_cons, List.not_mem_nil, or_false] at hx
          subst hx; omega
        · intro x hx hm
          have := L8.tb.lt x hm
          simp only [List.mem_cons, List.not_mem_nil, or_false] at hx
          subst hx; omega
        rw [hav] at hoff
        obtain ⟨hcv, hout, come', rl9, sr9, hin, hb9, hpos⟩ := step4 rl8 sr CH hc hmf hof hcs (by omega) L8.tb.dis hoff
        have L9 := L8.tab U9 hT9 sub9
        have v9 : Upd [] [] w w9 := v4.then L9.u
        have z9 := U9.size
        intro J2 hJ2
        -- what follows the answer
        have fin : ∀ w10, Upd [] [] w9 w10 → w9.heap.size ≤ b5 → J2 w10 := fun w10 u10 n5 => by
          refine hJ2 _ ?_
          clear hJ2
          have L10 := L9.old u10
          refine bre (fun he0 => ?_) (fun he0 => ?_)
          · obtain ⟨a1, a2⟩ := i64C L10.wy q hq2
            refine needIx (by omega) (by omega) a2 ⟨_, by rw [Int.toNat_natCast]; exact a1, ?_⟩
            intro b6 w11 u11 hr11
            refine L10.app u11 hr11 (by omega) (fun y hy hm => ?_) fun r w12 L12 => ?_
            · have o9 := L9.ow.blk y hy
              simp only [List.mem_cons, List.not_mem_nil, or_false] at hm
              have := L8.sz
              rcases hm with e | e <;> subst e <;> omega
            · (repeat refine And.intro rfl ?_)
              rw [if_pos he0] at sr9 hin
              refine next r _ T9 hd9 come' w12 L12 rl9 (by rw [hw8]; exact sr9) (by omega) fun j hj hjq => ?_
              by_cases e : j = q
              · subst e; rw [hw8]; exact hin
              · exact List.mem_append_left _ (hs7 j hj (by omega))
          · (repeat refine And.intro rfl ?_)
            rw [if_neg he0] at sr9 hin
            refine next s2 _ T9 hd9 come' w10 L10 rl9 sr9 (by omega) fun j hj hjq => ?_
            by_cases e : j = q
            · subst e; rw [hw8]; exact hin
            · exact hs7 j hj (by omega)
        rw [hcv]
        refine brf (by simp) (brf (by simp) (bre (fun h1 w10 u10 => ?_) (fun _ w10 u10 => ?_)))
        · (repeat refine And.intro rfl ?_)
          have hov := hout h1
          subst hov
          have n5 := u10.new (b := b5) (by simp)
          refine c14T (hO9.old u10) (hO.old (v9.then u10)) (hD9.old u10) (hD.old (v9.then u10)) few bo bd fun w11 u11 => ⟨_, rfl, kp u11, brf rfl ?_⟩
          (repeat refine And.intro rfl ?_)
          exact fin w11 (u10.then u11) n5.1
        · (repeat refine And.intro rfl ?_)
          exact fin w10 u10.forget (u10.new (b := b5) (by simp)).1
      have v7 : Upd [] [] w w7 := v4.then L7.u
      refine brd (fun hot2 => ?_) (fun _ w8 u8 => ?_)
      · have hq3 : q < ot.length := by omega
        have ho7 := hot.old v7
        have heA : ∀ w', Upd [] [] w w' → ∀ j (hj : j < (cIp.enc ot[q]).length), w'.cell? ((others.at 43 q).add j) = some (cIp.enc ot[q])[j] := fun w' u => (hot.old u).elem hq3
        have oka := (hots _ (List.getElem_mem hq3)).old v4
        generalize ot[q] = a at heA oka
        have cA : ∀ w', Upd [] [] w w' → ∀ j x, (cIp.enc a)[j]? = some x → w'.cell? ((others.at 43 q).add j) = some x := fun w' u j x hx => by
          obtain ⟨hj, hv⟩ := List.getElem?_eq_some_iff.1 hx
          have := heA w' u j hj
          rw [← hv]
          exact this
        have c := cA w7 v7
        have c0' := c 0 _ rfl
        rw [add_zero] at c0'
        refine needIx (by omega) (by omega) (ho7.isSome (by decide) (by omega)) ?_
        rw [Int.toNat_natCast]
        refine ⟨a.v.tos, c0', a.v.id, c 1 _ rfl, a.v.df, c 2 _ rfl, a.v.mf, c 3 _ rfl, a.v.off, c 4 _ rfl, a.v.ttl, c 5 _ rfl, a.v.proto, c 6 _ rfl, a.v.sv, c 7 _ rfl, a.v.sa, fun i hi => c _ _ (ip_sa a i hi), a.v.dv, c 24 _ rfl, a.v.da, fun i hi => c _ _ (ip_da a i hi), a.so, c 41 _ rfl, a.sd, c 42 _ rfl, fun w8 u8 => ?_⟩
        (repeat refine And.intro rfl ?_)
        refine c16 (a := a.v) (h := v) fun x w9 u9 hx => ⟨_, rfl, kp u9, brb (fun hxt => ?_) (fun _ => ?_)⟩
        · have u79 := u8.then u9
          have L9 := L7.old u79
          have c := cA w9 (v7.then u79)
          have c0' := c 0 _ rfl
          rw [add_zero] at c0'
          have ho9 := hot.old (v7.then u79)
          refine needIx (by omega) (by omega) (ho9.isSome (by decide) (by omega)) ?_
          refine ⟨a.v.tos, c0', a.v.id, c 1 _ rfl, a.v.df, c 2 _ rfl, a.v.mf, c 3 _ rfl, a.v.off, c 4 _ rfl, a.v.ttl, c 5 _ rfl, a.v.proto, c 6 _ rfl, a.v.sv, c 7 _ rfl, a.v.sa, fun i hi => c _ _ (ip_sa a i hi), a.v.dv, c 24 _ rfl, a.v.da, fun i hi => c _ _ (ip_da a i hi), a.so, c 41 _ rfl, a.sd, c 42 _ rfl, ?_⟩
          have mx := rl.max
          refine offer oka L9.u L9.tb (by omega) rl.st fun T9 out o e so' sd' os' w10 hd9 hoff U10 hT10 sub10 hO10 hD10 => ⟨_, _, _, _, _, _, _, _, _, _, _, _, _, _, _, rfl, kpm U10 ?_ ?_, ?_⟩
          · intro x hx
            have := L9.sz
            simp only [List.mem_cons, List.not_mem_nil, or_false] at hx
            subst hx; omega
          · intro x hx hm
            have := L9.tb.lt x hm
            simp only [List.mem_cons, List.not_mem_nil, or_false] at hx
            subst hx; omega
          obtain ⟨rl10, hb10⟩ := rl.other (by omega) (strange_key (hx hxt)) hoff
          (repeat refine And.intro rfl ?_)
          exact main T9 hd9 w10 (L9.tab U10 hT10 sub10) rl10 (by omega)
        · (repeat refine And.intro rfl ?_)
          exact main T hd w9 (L7.old (u8.then u9)) rl (by omega)
      · (repeat refine And.intro rfl ?_)
        exact main T hd w8 (L7.old u8) rl (by omega)
    · have hal : seen.length = cs.length := by
        rw [sc]
        refine sr.all.2 fun k hk => ?_
        obtain ⟨j, hj, e⟩ := List.getElem_of_mem (hall k (by omega) (by omega))
        rw [← e]
        exact hs7 j hj (by omega)
      refine brt (by simp; omega) ?_
      refine c18 L7.tb L7.u.size (by omega) (fun c hc => ?_) ?_ fun n w8 u8 hn => ⟨_, rfl, kp u8, ?_⟩
      · have := rl.beg c hc; omega
      · rcases rl.one with ⟨h0, _⟩ | ⟨_, i, hi, _, h1 | h1⟩
        · omega
        · exact ⟨_, List.getElem_mem hi, h1.2⟩
        · omega
      · exact ⟨by simp; omega, (v4.then L7.u).then u8⟩
end
end Go.Vc.Stop
end

section
open Go Go.Vc Go.Proofs
set_option linter.unusedVariables false
set_option linter.unusedSimpArgs false
set_option autoImplicit false
namespace Go.Vc.Stop
section
variable {w : World}
end
end Go.Vc.Stop
end

section
open Go Go.Vc Go.Proofs Go.ChangeShapes Go.WideShapes Go.ChangeAt Go.RowKit
set_option linter.unusedVariables false
set_option linter.unusedSimpArgs false
set_option autoImplicit false
namespace Go.Vc.Stop
section
variable {H : Type} {W : World}
end
end Go.Vc.Stop
end

section
open Go Go.Vc Go.Proofs Go.ChangeShapes Go.WideShapes Go.ChangeAt Go.RowKit
set_option linter.unusedVariables false
set_option linter.unusedSimpArgs false
set_option autoImplicit false
namespace Go.Vc.Stop
section
variable {H : Type} {W : World}
theorem deep_ints {m : Nat} {x : SV} {d : DataW H} (h : Deep X W m (X.T 46) x d) : ∃ (s : Sl) (l : List Int), x = .slice s ∧ Sees cI64 W s l := by
  obtain ⟨s, l, rfl, h1, _⟩ := dp_slice2 (X := X) (c := cI64) (e := 3) (P := fun _ _ => True) rfl (fun m x d hh => by
    obtain ⟨n, rfl, _⟩ := dp_int (show Deep X W m (.int .i64) x d from hh)
    exact ⟨n, by simp [SV.cells, SV.cellsL, SV.enc, cI64], trivial⟩) (show Deep X W m (.slice 3) x d from h)
  exact ⟨s, l, rfl, h1⟩
theorem walk4 (svs : List SV) (ds : List (DataW H)) (h : ArgsD X W [28, 3, 46, 29] svs ds) (hw : (DataW.weightsEach Try.prog [28, 3, 46, 29] ds).all (· ≤ reachBytes) = true) :
    Ret Try.prog 4 svs W fun r w1 => r = .bool true ∧ Upd [] [] W w1 := by
  obtain ⟨x, _, d1, _, m1, rfl, rfl, h1, h⟩ := argsD_cons h
  obtain ⟨y, _, d2, _, m2, rfl, rfl, h2, h⟩ := argsD_cons h
  obtain ⟨z, _, d3, _, m3, rfl, rfl, h3, h⟩ := argsD_cons h
  obtain ⟨u, _, d4, _, m4, rfl, rfl, h4, h⟩ := argsD_cons h
  obtain ⟨rfl, rfl⟩ := argsD_nil h
  have q := light_arg hw
  have q1 := light_head q
  have q2 := light_head q1.2
  have q3 := light_head q2.2
  have q4 := light_head q3.2
  obtain ⟨a, rfl, ha⟩ := deep_ip4 h1
  obtain ⟨n, rfl, _⟩ := dp_int (show Deep X W m2 (.int .i64) y d2 from h2)
  obtain ⟨so, lo, rfl, hso⟩ := deep_ints h3
  obtain ⟨s, l, rfl, hs, hc, hok⟩ := deep_ips h4 q4.1
  exact c4 (ha q1.1) hso hs hok
end
end Go.Vc.Stop
end
