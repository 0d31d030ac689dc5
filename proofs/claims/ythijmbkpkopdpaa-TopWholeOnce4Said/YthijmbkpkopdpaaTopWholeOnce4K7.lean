import Derived.Test.YthijmbkpkopdpaaTopWholeOnce4K2
import Derived.KernelRfl
import Derived.Test.YthijmbkpkopdpaaTopWholeOnce4K6
section
open Go Go.Vc Go.Vc.Stop Go.Proofs
set_option maxRecDepth 100000
set_option linter.unusedVariables false
namespace Go.Vc.Stop
def vc12 (h_0 : Int) (h_1 : Int) (h_2 : Bool) (h_3 : Bool) (h_4 : Int) (h_5 : Int) (h_6 : Int) (h_7_0 : Int) (h_7_1 : Nat → Int) (h_8_0 : Int) (h_8_1 :
  Nat → Int) (h_9 : Sl) (h_10 : Sl) (mtu : Int) (w : World) (R : SV → World → Prop) : Prop := ∀ (b : Nat) (w1 : World), Upd [] [b] w w1 → Ret Try.prog 6 [SV.struct
  [SV.int IntKind.i64 h_0, SV.int IntKind.i64 h_1, SV.bool h_2, SV.bool h_3, SV.int IntKind.i64 h_4, SV.int IntKind.i64 h_5, SV.int IntKind.i64 h_6, SV.struct
  [SV.int IntKind.i64 h_7_0, SV.arr IntKind.u8 16 h_7_1], SV.struct [SV.int IntKind.i64 h_8_0, SV.arr IntKind.u8 16 h_8_1], SV.slice h_9, SV.slice h_10]]
  w1 fun (r : SV) (w1_1 : World) => ∃ (n : Int), r = SV.int IntKind.i64 n ∧ Keeps [b] w1 w1_1 ∧ Br (n != 0) (R (SV.tuple [SV.slice { ptr := none, len := 0, cap := 0 },
  SV.int IntKind.i64 n]) w1_1) (∀ (J : World → Prop), (∀ (w1 : World), (Ret Try.prog 31 [SV.struct [SV.int IntKind.i64 h_0, SV.int IntKind.i64 h_1, SV.bool
  h_2, SV.bool h_3, SV.int IntKind.i64 h_4, SV.int IntKind.i64 h_5, SV.int IntKind.i64 h_6, SV.struct [SV.int IntKind.i64 h_7_0, SV.arr IntKind.u8 16 h_7_1],
  SV.struct [SV.int IntKind.i64 h_8_0, SV.arr IntKind.u8 16 h_8_1], SV.slice h_9, SV.slice h_10]] w1 fun (r : SV) (w1_2 : World) => ∃ (n : Int), r = SV.int
  IntKind.i64 n ∧ Keeps [b] w1 w1_2 ∧ Br (decide (n ≤ mtu)) (Ret Try.prog 32 [SV.struct [SV.int IntKind.i64 h_0, SV.int IntKind.i64 h_1, SV.bool h_2, SV.bool
  h_3, SV.int IntKind.i64 h_4, SV.int IntKind.i64 h_5, SV.int IntKind.i64 h_6, SV.struct [SV.int IntKind.i64 h_7_0, SV.arr IntKind.u8 16 h_7_1], SV.struct
  [SV.int IntKind.i64 h_8_0, SV.arr IntKind.u8 16 h_8_1], SV.slice h_9, SV.slice h_10]] w1_2 fun (r : SV) (w1 : World) => ∃ (n : Int), ∃ (n_1 : Int), ∃ (b_1
  : Bool), ∃ (b_2 : Bool), ∃ (n_2 : Int), ∃ (n_3 : Int), ∃ (n_4 : Int), ∃ (n_5 : Int), ∃ (f : Nat → Int), ∃ (n_6 : Int), ∃ (f_1 : Nat → Int), ∃ (s : Sl),
  ∃ (s_1 : Sl), r = SV.struct [SV.int IntKind.i64 n, SV.int IntKind.i64 n_1, SV.bool b_1, SV.bool b_2, SV.int IntKind.i64 n_2, SV.int IntKind.i64 n_3, SV.int
  IntKind.i64 n_4, SV.struct [SV.int IntKind.i64 n_5, SV.arr IntKind.u8 16 f], SV.struct [SV.int IntKind.i64 n_6, SV.arr IntKind.u8 16 f_1], SV.slice s, SV.slice
  s_1] ∧ Keeps [b] w1_2 w1 ∧ ∀ (b : Nat) (w1_3 : World), Upd [] [b] w1 w1_3 → (World.heap w1_3)[b]? = some (Obj.cells { toList := SV.cells (SV.struct [SV.struct [SV.int IntKind.i64 n, SV.int IntKind.i64 n_1, SV.bool b_1, SV.bool b_2, SV.int IntKind.i64 n_2, SV.int IntKind.i64 n_3, SV.int IntKind.i64 n_4, SV.struct [SV.int IntKind.i64 n_5, SV.arr IntKind.u8 16 f], SV.struct [SV.int IntKind.i64 n_6, SV.arr IntKind.u8 16 f_1], SV.slice s, SV.slice s_1]]) }
  28) → R (SV.tuple [SV.slice { ptr := some { block := b, off := 0 }, len := 1, cap := 1 }, SV.int IntKind.i64 0]) w1_3) (Br h_2 (R (SV.tuple [SV.slice { ptr := none, len := 0, cap := 0 },
  SV.int IntKind.i64 130]) w1_2) (∃ (I : Sl → Int → World → Prop), ∃ (M : Sl → Int → World → Nat), I { ptr := none, len := 0, cap := 0 } 0 w1_2 ∧ ∀ (s : Sl)
  (n : Int) (w1 : World), I s n w1 → Br (decide (n < (↑h_10.2 : Int))) (∀ (b_1 : Nat) (J : Int → Int → Bool → Bool → Int → Int → Int → Int → (Nat → Int) →
  Int → (Nat → Int) → Sl → Sl → World → Prop), (∀ (n_1 n_2 : Int) (b_2 b_3 : Bool) (n_3 n_4 n_5 n_6 : Int) (f : Nat → Int) (n_7 : Int) (f_1 : Nat → Int) (s_1
  s_2 : Sl) (w1_3 : World), (∀ (w1_4 : World), Upd [b_1] [] w1_3 w1_4 → Ret Try.prog 31 [SV.struct [SV.int IntKind.i64 n_1, SV.int IntKind.i64 n_2, SV.bool
  b_2, SV.bool false, SV.int IntKind.i64 n_3, SV.int IntKind.i64 n_4, SV.int IntKind.i64 n_5, SV.struct [SV.int IntKind.i64 n_6, SV.arr IntKind.u8 16 f],
  SV.struct [SV.int IntKind.i64 n_7, SV.arr IntKind.u8 16 f_1], SV.slice s_1, SV.slice { ptr := none, len := 0, cap := 0 }]] w1_4 fun (r : SV) (w1_5 : World)
  => ∃ (n_8 : Int), r = SV.int IntKind.i64 n_8 ∧ Keeps [b, b_1] w1_4 w1_5 ∧ Ret Try.prog 34 [SV.int IntKind.i64 (wr IntKind.i64 ((↑h_10.2 : Int) - n)), SV.int
  IntKind.i64 n_8, SV.int IntKind.i64 mtu] w1_5 fun (r : SV) (w1_6 : World) => ∃ (n_9 : Int), r = SV.int IntKind.i64 n_9 ∧ Keeps [b, b_1] w1_5 w1_6 ∧ Br (decide
  (wr IntKind.i64 (n + n_9) < (↑h_10.2 : Int))) (Need (decide (0 ≤ wr IntKind.i64 (n + n_9)) && decide (wr IntKind.i64 (n + n_9) ≤ (↑h_10.3 : Int)) && (decide
  (0 ≤ n) && decide (n ≤ (↑(Int.toNat (wr IntKind.i64 (n + n_9))) : Int)))) (∀ (w1_7 : World), Upd [b_1] [] w1_6 w1_7 → Ret Try.prog 32 [SV.struct [SV.int
  IntKind.i64 n_1, SV.int IntKind.i64 n_2, SV.bool b_2, SV.bool true, SV.int IntKind.i64 (wr IntKind.i64 (h_4 + n)), SV.int IntKind.i64 n_4, SV.int IntKind.i64
  n_5, SV.struct [SV.int IntKind.i64 n_6, SV.arr IntKind.u8 16 f], SV.struct [SV.int IntKind.i64 n_7, SV.arr IntKind.u8 16 f_1], SV.slice s_1, SV.slice (Sl.sub
  h_10 1 (Int.toNat n) (Int.toNat (wr IntKind.i64 (n + n_9))) h_10.3)]] w1_7 fun (r : SV) (w1_8 : World) => ∃ (n_10 : Int), ∃ (n_11 : Int), ∃ (b_4 : Bool),
  ∃ (b_5 : Bool), ∃ (n_12 : Int), ∃ (n_13 : Int), ∃ (n_14 : Int), ∃ (n_15 : Int), ∃ (f : Nat → Int), ∃ (n_16 : Int), ∃ (f_2 : Nat → Int), ∃ (s_3 : Sl), ∃
  (s_4 : Sl), r = SV.struct [SV.int IntKind.i64 n_10, SV.int IntKind.i64 n_11, SV.bool b_4, SV.bool b_5, SV.int IntKind.i64 n_12, SV.int IntKind.i64 n_13,
  SV.int IntKind.i64 n_14, SV.struct [SV.int IntKind.i64 n_15, SV.arr IntKind.u8 16 f], SV.struct [SV.int IntKind.i64 n_16, SV.arr IntKind.u8 16 f_2], SV.slice
  s_3, SV.slice s_4] ∧ Keeps [b, b_1] w1_7 w1_8 ∧ ∀ (b_6 : Nat) (w1_9 : World), Upd [] [b_6] w1_8 w1_9 → (World.heap w1_9)[b_6]? = some (Obj.cells { toList := SV.cells (SV.struct [SV.struct [SV.int IntKind.i64 n_10, SV.int IntKind.i64 n_11, SV.bool b_4, SV.bool b_5, SV.int IntKind.i64 n_12, SV.int IntKind.i64 n_13, SV.int IntKind.i64 n_14, SV.struct [SV.int IntKind.i64 n_15, SV.arr IntKind.u8 16 f], SV.struct [SV.int IntKind.i64 n_16, SV.arr IntKind.u8 16 f_2], SV.slice s_3, SV.slice s_4]]) }
  28) → Vc.Append 28 43 144 s { ptr := some { block := b_6, off := 0 }, len := 1, cap := 1 } [b, b_1] w1_9 fun (r : Sl) (w : World) => some (SV.box b 28 (SV.struct
  [SV.int IntKind.i64 h_0, SV.int IntKind.i64 h_1, SV.bool h_2, SV.bool h_3, SV.int IntKind.i64 h_4, SV.int IntKind.i64 h_5, SV.int IntKind.i64 h_6, SV.struct
  [SV.int IntKind.i64 h_7_0, SV.arr IntKind.u8 16 h_7_1], SV.struct [SV.int IntKind.i64 h_8_0, SV.arr IntKind.u8 16 h_8_1], SV.slice h_9, SV.slice h_10]))
  = some (SV.box b 28 (SV.struct [SV.int IntKind.i64 h_0, SV.int IntKind.i64 h_1, SV.bool h_2, SV.bool h_3, SV.int IntKind.i64 h_4, SV.int IntKind.i64 h_5,
  SV.int IntKind.i64 h_6, SV.struct [SV.int IntKind.i64 h_7_0, SV.arr IntKind.u8 16 h_7_1], SV.struct [SV.int IntKind.i64 h_8_0, SV.arr IntKind.u8 16 h_8_1],
  SV.slice h_9, SV.slice h_10])) ∧ I r (wr IntKind.i64 (n + n_9)) w ∧ M r (wr IntKind.i64 (n + n_9)) w < M s n w1)) (Need (decide (0 ≤ wr IntKind.i64 (n +
  n_9)) && decide (wr IntKind.i64 (n + n_9) ≤ (↑h_10.3 : Int)) && (decide (0 ≤ n) && decide (n ≤ (↑(Int.toNat (wr IntKind.i64 (n + n_9))) : Int)))) (∀ (w1_7
  : World), Upd [b_1] [] w1_6 w1_7 → Ret Try.prog 32 [SV.struct [SV.int IntKind.i64 n_1, SV.int IntKind.i64 n_2, SV.bool b_2, SV.bool h_3, SV.int IntKind.i64
  (wr IntKind.i64 (h_4 + n)), SV.int IntKind.i64 n_4, SV.int IntKind.i64 n_5, SV.struct [SV.int IntKind.i64 n_6, SV.arr IntKind.u8 16 f], SV.struct [SV.int
  IntKind.i64 n_7, SV.arr IntKind.u8 16 f_1], SV.slice s_1, SV.slice (Sl.sub h_10 1 (Int.toNat n) (Int.toNat (wr IntKind.i64 (n + n_9))) h_10.3)]] w1_7 fun
  (r : SV) (w1_8 : World) => ∃ (n_10 : Int), ∃ (n_11 : Int), ∃ (b_4 : Bool), ∃ (b_5 : Bool), ∃ (n_12 : Int), ∃ (n_13 : Int), ∃ (n_14 : Int), ∃ (n_15 : Int),
  ∃ (f : Nat → Int), ∃ (n_16 : Int), ∃ (f_2 : Nat → Int), ∃ (s_3 : Sl), ∃ (s_4 : Sl), r = SV.struct [SV.int IntKind.i64 n_10, SV.int IntKind.i64 n_11, SV.bool
  b_4, SV.bool b_5, SV.int IntKind.i64 n_12, SV.int IntKind.i64 n_13, SV.int IntKind.i64 n_14, SV.struct [SV.int IntKind.i64 n_15, SV.arr IntKind.u8 16 f],
  SV.struct [SV.int IntKind.i64 n_16, SV.arr IntKind.u8 16 f_2], SV.slice s_3, SV.slice s_4] ∧ Keeps [b, b_1] w1_7 w1_8 ∧ ∀ (b_6 : Nat) (w1_9 : World), Upd
  [] [b_6] w1_8 w1_9 → (World.heap w1_9)[b_6]? = some (Obj.cells { toList := SV.cells (SV.struct [SV.struct [SV.int IntKind.i64 n_10, SV.int IntKind.i64 n_11, SV.bool b_4, SV.bool b_5, SV.int IntKind.i64 n_12, SV.int IntKind.i64 n_13, SV.int IntKind.i64 n_14, SV.struct [SV.int IntKind.i64 n_15, SV.arr IntKind.u8 16 f], SV.struct [SV.int IntKind.i64 n_16, SV.arr IntKind.u8 16 f_2], SV.slice s_3, SV.slice s_4]]) }
  28) → Vc.Append 28 43 144 s { ptr := some { block := b_6, off := 0 }, len := 1, cap := 1 } [b, b_1] w1_9 fun (r : Sl) (w : World) => some (SV.box b 28 (SV.struct
  [SV.int IntKind.i64 h_0, SV.int IntKind.i64 h_1, SV.bool h_2, SV.bool h_3, SV.int IntKind.i64 h_4, SV.int IntKind.i64 h_5, SV.int IntKind.i64 h_6, SV.struct
  [SV.int IntKind.i64 h_7_0, SV.arr IntKind.u8 16 h_7_1], SV.struct [SV.int IntKind.i64 h_8_0, SV.arr IntKind.u8 16 h_8_1], SV.slice h_9, SV.slice h_10]))
  = some (SV.box b 28 (SV.struct [SV.int IntKind.i64 h_0, SV.int IntKind.i64 h_1, SV.bool h_2, SV.bool h_3, SV.int IntKind.i64 h_4, SV.int IntKind.i64 h_5,
  SV.int IntKind.i64 h_6, SV.struct [SV.int IntKind.i64 h_7_0, SV.arr IntKind.u8 16 h_7_1], SV.struct [SV.int IntKind.i64 h_8_0, SV.arr IntKind.u8 16 h_8_1],
  SV.slice h_9, SV.slice h_10])) ∧ I r (wr IntKind.i64 (n + n_9)) w ∧ M r (wr IntKind.i64 (n + n_9)) w < M s n w1))) → J n_1 n_2 b_2 b_3 n_3 n_4 n_5 n_6 f
  n_7 f_1 s_1 s_2 w1_3) → Br (decide (n > 0)) (∀ (w1_3 : World), Upd [] [b_1] w1 w1_3 → Ret Try.prog 33 [SV.slice h_9] w1_3 fun (r : SV) (w1 : World) => ∃
  (s : Sl), r = SV.slice s ∧ Keeps [b, b_1] w1_3 w1 ∧ ∀ (w1_4 : World), Upd [b_1] [] w1 w1_4 → some (SV.box b 28 (SV.struct [SV.int IntKind.i64 h_0, SV.int
  IntKind.i64 h_1, SV.bool h_2, SV.bool h_3, SV.int IntKind.i64 h_4, SV.int IntKind.i64 h_5, SV.int IntKind.i64 h_6, SV.struct [SV.int IntKind.i64 h_7_0,
  SV.arr IntKind.u8 16 h_7_1], SV.struct [SV.int IntKind.i64 h_8_0, SV.arr IntKind.u8 16 h_8_1], SV.slice h_9, SV.slice h_10])) = some (SV.box b 28 (SV.struct
  [SV.int IntKind.i64 h_0, SV.int IntKind.i64 h_1, SV.bool h_2, SV.bool h_3, SV.int IntKind.i64 h_4, SV.int IntKind.i64 h_5, SV.int IntKind.i64 h_6, SV.struct
  [SV.int IntKind.i64 h_7_0, SV.arr IntKind.u8 16 h_7_1], SV.struct [SV.int IntKind.i64 h_8_0, SV.arr IntKind.u8 16 h_8_1], SV.slice h_9, SV.slice h_10]))
  ∧ (b_1, 28) = (b_1, 28) ∧ J h_0 h_1 h_2 h_3 h_4 h_5 h_6 h_7_0 h_7_1 h_8_0 h_8_1 s h_10 w1_4) (∀ (w1_3 : World), Upd [] [b_1] w1 w1_3 → some (SV.box b 28
  (SV.struct [SV.int IntKind.i64 h_0, SV.int IntKind.i64 h_1, SV.bool h_2, SV.bool h_3, SV.int IntKind.i64 h_4, SV.int IntKind.i64 h_5, SV.int IntKind.i64
  h_6, SV.struct [SV.int IntKind.i64 h_7_0, SV.arr IntKind.u8 16 h_7_1], SV.struct [SV.int IntKind.i64 h_8_0, SV.arr IntKind.u8 16 h_8_1], SV.slice h_9, SV.slice
  h_10])) = some (SV.box b 28 (SV.struct [SV.int IntKind.i64 h_0, SV.int IntKind.i64 h_1, SV.bool h_2, SV.bool h_3, SV.int IntKind.i64 h_4, SV.int IntKind.i64
  h_5, SV.int IntKind.i64 h_6, SV.struct [SV.int IntKind.i64 h_7_0, SV.arr IntKind.u8 16 h_7_1], SV.struct [SV.int IntKind.i64 h_8_0, SV.arr IntKind.u8 16
  h_8_1], SV.slice h_9, SV.slice h_10])) ∧ (b_1, 28) = (b_1, 28) ∧ J h_0 h_1 h_2 h_3 h_4 h_5 h_6 h_7_0 h_7_1 h_8_0 h_8_1 h_9 h_10 w1_3)) (R (SV.tuple [SV.slice
  s, SV.int IntKind.i64 0]) w1)))) → J w1) → Br (decide (mtu < 68)) (R (SV.tuple [SV.slice { ptr := none, len := 0, cap := 0 }, SV.int IntKind.i64 132]) w1_1)
  (Br (decide (mtu > 65535)) (R (SV.tuple [SV.slice { ptr := none, len := 0, cap := 0 }, SV.int IntKind.i64 132]) w1_1) (some (SV.box b 28 (SV.struct [SV.int
  IntKind.i64 h_0, SV.int IntKind.i64 h_1, SV.bool h_2, SV.bool h_3, SV.int IntKind.i64 h_4, SV.int IntKind.i64 h_5, SV.int IntKind.i64 h_6, SV.struct [SV.int
  IntKind.i64 h_7_0, SV.arr IntKind.u8 16 h_7_1], SV.struct [SV.int IntKind.i64 h_8_0, SV.arr IntKind.u8 16 h_8_1], SV.slice h_9, SV.slice h_10])) = some
  (SV.box b 28 (SV.struct [SV.int IntKind.i64 h_0, SV.int IntKind.i64 h_1, SV.bool h_2, SV.bool h_3, SV.int IntKind.i64 h_4, SV.int IntKind.i64 h_5, SV.int
  IntKind.i64 h_6, SV.struct [SV.int IntKind.i64 h_7_0, SV.arr IntKind.u8 16 h_7_1], SV.struct [SV.int IntKind.i64 h_8_0, SV.arr IntKind.u8 16 h_8_1], SV.slice
  h_9, SV.slice h_10])) ∧ J w1_1)))
theorem f12_of (h_0 : Int) (h_1 : Int) (h_2 : Bool) (h_3 : Bool) (h_4 : Int) (h_5 : Int) (h_6 : Int) (h_7_0 : Int) (h_7_1 : Nat → Int) (h_8_0 : Int) (h_8_1 : Nat → Int) (h_9 : Sl) (h_10 : Sl) (mtu : Int) (w : World) (R : SV → World → Prop) (hV : vc12 h_0 h_1 h_2 h_3 h_4 h_5 h_6 h_7_0 h_7_1 h_8_0 h_8_1 h_9 h_10 mtu w R) : Ret Try.prog 12 [.struct [.int .i64 h_0, .int .i64 h_1, .bool h_2, .bool h_3, .int .i64 h_4, .int .i64 h_5, .int .i64 h_6, .struct [.int .i64 h_7_0, .arr .u8 16 h_7_1], .struct [.int .i64 h_8_0, .arr .u8 16 h_8_1], .slice h_9, .slice h_10], .int .i64 mtu] w R :=
  have e : vc12 h_0 h_1 h_2 h_3 h_4 h_5 h_6 h_7_0 h_7_1 h_8_0 h_8_1 h_9 h_10 mtu w R = fnVC X Try.f12 a12 [.struct [.int .i64 h_0, .int .i64 h_1, .bool h_2, .bool h_3, .int .i64 h_4, .int .i64 h_5, .int .i64 h_6, .struct [.int .i64 h_7_0, .arr .u8 16 h_7_1], .struct [.int .i64 h_8_0, .arr .u8 16 h_8_1], .slice h_9, .slice h_10], .int .i64 mtu] w R := by kernel_rfl
  fnVC_sound X_ok (n := a12) (e ▸ hV) (by kernel_rfl) (by kernel_rfl) rfl rfl

def vc18 (t : Option Addr) (w : World) (R : SV → World → Prop) : Prop :=
  Ret Try.prog 42 [SV.ptr t, SV.int IntKind.i64 1] w fun (r : SV) (w1 : World) => ∃ (s : Sl), r = SV.slice s ∧ R (SV.int IntKind.i64 (↑s.2 : Int)) w1
theorem f18_of (t : Option Addr) (w : World) (R : SV → World → Prop) (hV : vc18 t w R) : Ret Try.prog 18 [.ptr t] w R :=
  have e : vc18 t w R = fnVC X Try.f18 a18 [.ptr t] w R := by kernel_rfl
  fnVC_sound X_ok (n := a18) (e ▸ hV) (by kernel_rfl) (by kernel_rfl) rfl rfl

def vc42 (t : Option Addr) (state : Int) (w : World) (R : SV → World → Prop) : Prop :=
  deref t fun (a : Addr) =>
    ∃ (r : Option Nat),
      World.cell? w (Addr.add a 3) = some (Value.map r) ∧
        derefN r fun (r : Nat) =>
          Program.underlying Try.prog 56 = some (TypeDesc.map 66 67) ∧
            ∃ (l : List (Value × SV)),
              MapL w r l ∧
                ∀ (b : Nat) (w1 : World),
                  Upd [] [b] w w1 →
                    IterL w1 b r l [] →
                      ∃ (I : Sl → World → Prop),
                        ∃ (M : Sl → World → Nat),
                          I { ptr := none, len := 0, cap := 0 } w1 ∧
                            ∀ (s : Sl) (w1 : World),
                              I s w1 →
                                Addr.off { block := b, off := 0 } = 0 ∧
                                  ¬Addr.block { block := b, off := 0 } ∈ [] ∧
                                    ∃ (r : Nat),
                                      ∃ (l : List (Value × SV)),
                                        ∃ (seen : List Nat),
                                          IterL w1 (Addr.block { block := b, off := 0 }) r l seen ∧
                                            ((∀ (i : Nat), i < List.length l → i ∈ seen) →
                                                Ret Try.prog 59 [SV.slice s, SV.clo 60 []] w1 fun (r : SV) (w1 : World) => r = SV.tuple [] ∧ R (SV.slice s) w1) ∧
                                              ∀ (i : Nat),
                                                i < List.length l →
                                                  ¬i ∈ seen →
                                                    ∀ (w1_1 : World),
                                                      Upd [Addr.block { block := b, off := 0 }] [] w1 w1_1 →
                                                        IterL w1_1 (Addr.block { block := b, off := 0 }) r l (i :: seen) →
                                                          ∀ (k v : Value),
                                                            Addr.off { block := b, off := 0 } = 0 ∧
                                                              ∃ (r : Nat),
                                                                ∃ (l : List (Value × SV)),
                                                                  ∃ (i : Nat),
                                                                    ∃ (seen : List Nat),
                                                                      ∃ (k : Value),
                                                                        IterL w1_1 (Addr.block { block := b, off := 0 }) r l (i :: seen) ∧
                                                                          ∃ (p : Option Addr),
                                                                            EntAt l i k (SV.ptr p) ∧
                                                                              Br (decide (state < 0))
                                                                                (∀ (b : Nat) (w1_2 : World),
                                                                                  Upd [] [b] w1_1 w1_2 →
                                                                                    (World.heap w1_2)[b]? = some (Obj.cells { toList := SV.cells (SV.struct [SV.ptr p]) } 67) →
                                                                                      Vc.Append 67 1 8 s { ptr := some { block := b, off := 0 }, len := 1, cap := 1 } [] w1_2
                                                                                        fun (r : Sl) (w : World) => I r w ∧ M r w < M s w1)
                                                                                (deref p fun (a : Addr) =>
                                                                                  ∃ (n : Int),
                                                                                    World.cell? w1_1 (Addr.add a 38) = some (Value.int IntKind.i64 n) ∧
                                                                                      Br (n == state)
                                                                                        (∀ (b : Nat) (w1_2 : World),
                                                                                          Upd [] [b] w1_1 w1_2 →
                                                                                            (World.heap w1_2)[b]? =
                                                                                                some (Obj.cells { toList := SV.cells (SV.struct [SV.ptr p]) } 67) →
                                                                                              Vc.Append 67 1 8 s { ptr := some { block := b, off := 0 }, len := 1, cap := 1 } [] w1_2
                                                                                                fun (r : Sl) (w : World) => I r w ∧ M r w < M s w1)
                                                                                        (I s w1_1 ∧ M s w1_1 < M s w1))
theorem f42_of (t : Option Addr) (state : Int) (w : World) (R : SV → World → Prop) (hV : vc42 t state w R) : Ret Try.prog 42 [.ptr t, .int .i64 state] w R :=
  have e : vc42 t state w R = fnVC X Try.f42 a42 [.ptr t, .int .i64 state] w R := by kernel_rfl
  fnVC_sound X_ok (n := a42) (e ▸ hV) (by kernel_rfl) (by kernel_rfl) rfl rfl

end Go.Vc.Stop
end

section
open Go Go.Vc Go.Proofs
set_option linter.unusedVariables false
set_option linter.unusedSimpArgs false
set_option autoImplicit false
namespace Go.Vc.Stop
/-- the options of a piece that is not the first -/
def copL (v : IpV) : List Opt := v.opts.filter fun o => decide (o.kind ≥ 128)
def m1 (v : IpV) (mtu : Int) : Nat := (mtu - (20 + (putO v.opts).length)).toNat
def m2 (v : IpV) (mtu : Int) : Nat := (mtu - (20 + (putO (copL v)).length)).toNat
def cutV (v : IpV) (mtu : Int) : List (Nat × Nat) := cuts v.data.length (m1 v mtu) (m2 v mtu) (v.data.length + 1) 0
def fitsV (v : IpV) (mtu : Int) : Prop := 20 + (putO v.opts).length + v.data.length ≤ mtu
instance (v : IpV) (mtu : Int) : Decidable (fitsV v mtu) := by unfold fitsV; infer_instance
def nPc (v : IpV) (mtu : Int) : Nat := if fitsV v mtu then 1 else (cutV v mtu).length
theorem rowIp {w : World} {b e : Nat} {f : Nat × Nat} {cs : List Value} {v : IpV} {s d : Sl} (h : w.heap[b]? = some (.cells cs.toArray e f)) (hcs : cs = (ipSV v s d).cells) : Sees cIp w ⟨some ⟨b, 0, none⟩, 1, 1⟩ [⟨v, s, d⟩] :=
  sees_row (c := cIp) h [⟨v, s, d⟩] (by rw [hcs, cells_ip ⟨v, s, d⟩]; simp [Cod.cells]) rfl
section
variable {w : World} {R : SV → World → Prop}
set_option maxRecDepth 10000 in
set_option maxHeartbeats 1000000 in
theorem c12 {v : IpV} {so sd : Sl} {os : List (Int × Sl)} {mtu : Int} (hO : Opts w so v.opts os) (hl : v.opts.length ≤ 4398046511000) (hod : ∀ o ∈ v.opts, o.data.length ≤ 140737488351232) (hD : SeesB w sd v.data) (hcap : sd.len ≤ sd.cap) (hdl : v.data.length ≤ 140737488351232) (f : Fit v)
    (hc : ipChk v = 0) (hmf : v.mf = false) (ho : v.off = 0) (hdf : v.df = false) (hm : 68 ≤ mtu ∧ mtu ≤ 65535)
    (k : ∀ s w1, Upd [] [] w w1 → s.len = nPc v mtu → R (.tuple [.slice s, .int .i64 0]) w1) : Ret Try.prog 12 [ipSV v so sd, .int .i64 mtu] w R := by
  refine f12_of _ _ _ _ _ _ _ _ _ _ _ _ _ _ _ _ ?_
  unfold vc12
  have hdd := hD.len
  obtain ⟨_, _, _, _, _, _, _, hp, hlen, _⟩ := ipChk_ok hc
  have pl := (putO_len hp).1
  intro b w1 u1
  refine c6 (v := v) (hO.old u1) (by omega) (fun o ho => by have := hod o ho; omega) (hD.old u1).len (by omega) fun w2 u2 => ⟨_, rfl, kp u2, brf (by simp [hc]) ?_⟩
  intro J hJ
  refine brd (fun _ => by omega) (fun _ => brd (fun _ => by omega) (fun _ => ?_))
  (repeat refine And.intro rfl ?_)
  refine hJ _ ?_
  clear hJ
  have v2 := u1.then u2
  refine c31 (v := v) (hO.old v2) hl hod (hD.old v2) hdl f fun w3 u3 => ⟨_, rfl, kp u3, ?_⟩
  have v3 := v2.then u3
  rw [serL_len hc]
  refine brd (fun hfit => ?_) (fun hfit => brf hdf ?_)
  · refine c32 (v := v) (hO.old v3) hl hod (hD.old v3) hcap hdl fun s d w4 u4 => ⟨_, _, _, _, _, _, _, _, _, _, _, _, _, rfl, kp u4, ?_⟩
    intro b5 w5 u5 _
    exact k _ w5 ((v3.then u4).then u5) (by unfold nPc; rw [if_pos (show fitsV v mtu by unfold fitsV; omega)])
  have nfit : ¬ fitsV v mtu := by unfold fitsV; omega
  have hN : nPc v mtu = (cutV v mtu).length := by unfold nPc; rw [if_neg nfit]
  have hp2 : putOk (copL v) := putOk_filter _ hp
  have pl2 := (putO_len hp2).1
  have e1 : ((m1 v mtu : Nat) : Int) = mtu - (20 + (putO v.opts).length) := by unfold m1; omega
  have e2 : ((m2 v mtu : Nat) : Int) = mtu - (20 + (putO (copL v)).length) := by unfold m2; omega
  have nb := u1.new (b := b) (by simp)
  have z1 := u1.size; have z13 := (u2.then u3).size
  refine ⟨fun s n w' => Upd [] [] w w' ∧ w3.heap.size ≤ w'.heap.size ∧ ∃ (at_ fu : Nat) (l : List IpC), n = at_ ∧ at_ ≤ v.data.length ∧ v.data.length - at_ < fu ∧ l.length ≤ at_ ∧ Sees cIp w' s l ∧ Own w1.heap.size 43 w' s ∧ l.length + (cuts v.data.length (m1 v mtu) (m2 v mtu) fu at_).length = (cutV v mtu).length, fun _ n _ => (v.data.length - n).toNat,
    ⟨v3, by omega, 0, v.data.length + 1, [], rfl, by omega, by omega, by simp, Sees.nil _ _ _ _, Own.none _ _ _, by simp [cutV]⟩, ?_⟩
  rintro s n w4 ⟨v4, z34, at_, fu, l, rfl, ha, hfu, hla, hS, oS, hsum⟩
  refine brd (fun hlt => ?_) (fun hge => ?_)
  · have hlt2 : at_ < v.data.length := by omega
    intro b1 J hJ
    have main : ∀ (ol : List Opt) (s1 : Sl) (o1 : List (Int × Sl)) (w5 : World), ol = (if at_ = 0 then v.opts else copL v) → Upd [] [] w4 w5 → (∀ w', Upd [b1] [] w5 w' → Opts w' s1 ol o1) → b1 < w5.heap.size → w4.heap.size ≤ b1 → J v.tos v.id v.df v.mf v.off v.ttl v.proto v.sv v.sa v.dv v.da s1 sd w5 := by
      intro ol s1 o1 w5 hol u5 hO5 hb1 hb4
      refine hJ _ _ _ _ _ _ _ _ _ _ _ _ _ _ ?_
      clear hJ
      intro w6 u6
      have hpol : putOk ol := by rw [hol]; split <;> assumption
      have plo := (putO_len hpol).1
      have hfew : ol.length ≤ 4398046511000 := by
        rw [hol]; split
        · exact hl
        · exact Nat.le_trans (List.length_filter_le _ _) hl
      have hsm : ∀ o ∈ ol, o.data.length ≤ 140737488351232 := by
        rw [hol]; split
        · exact hod
        · exact fun o ho => hod o (List.mem_filter.1 ho).1
      have hby : ∀ o ∈ ol, Byt o.data := by
        rw [hol]; split
        · exact f.opts
        · exact fun o ho => f.opts o (List.mem_filter.1 ho).1
      have z5 := u5.size; have z6 := u6.size; have z4 := v4.size
      have U6 : Upd [] [] w4 w6 := u5.step0 u6 (by simp; omega)
      have hO6 := hO5 w6 u6
      refine c31 (v := bare v ol) hO6 hfew hsm (Sees.nil _ _ _ _) (by show 0 ≤ _; omega) ⟨f.sa, f.da, hby, by show Byt []; simp [Byt]⟩ fun w7 u7 => ⟨_, rfl, kp u7, ?_⟩
      rw [serL_len (bare_ok hc ho hpol)]
      have z7 := u7.size
      generalize hm0 : (if at_ = 0 then m1 v mtu else m2 v mtu) = m
      generalize hk0 : (if v.data.length - at_ ≤ m then v.data.length - at_ else m / 8 * 8) = kk
      have em : (m : Int) = mtu - (20 + (putO ol).length) := by
        rw [← hm0, hol]; split <;> assumption
      obtain ⟨k1, k2, k3⟩ := cuts_k hlt2 (m := m) (by omega) hk0.symm
      obtain ⟨f', ef, es⟩ := cuts_step (m1 := m1 v mtu) (m2 := m2 v mtu) hlt2 hfu (k := kk) (by rw [hm0, hk0])
      have en : (if wr .i64 ((sd.len : Int) - (at_ : Int)) ≤ mtu - ((20 + (putO (bare v ol).opts).length + (bare v ol).data.length : Nat) : Int) then wr .i64 ((sd.len : Int) - (at_ : Int)) else (mtu - ((20 + (putO (bare v ol).opts).length + (bare v ol).data.length : Nat) : Int)) / 8 * 8) = (kk : Int) := by
        show (if wr .i64 ((sd.len : Int) - (at_ : Int)) ≤ mtu - ((20 + (putO ol).length + 0 : Nat) : Int) then wr .i64 ((sd.len : Int) - (at_ : Int)) else (mtu - ((20 + (putO ol).length + 0 : Nat) : Int)) / 8 * 8) = (kk : Int)
        rw [wr_i64 (by omega) (by omega), ← hk0]
        split <;> split <;> omega
      refine c34 ⟨by rw [wr_i64 (by omega) (by omega)]; omega, by rw [wr_i64 (by omega) (by omega)]; omega⟩ ⟨by omega, by show ((20 + (putO ol).length + 0 : Nat) : Int) ≤ mtu; omega⟩ hm.2 ?_
      rw [en]
      refine ⟨_, rfl, kp (Upd.refl _), ?_⟩
      have ew : wr .i64 ((at_ : Int) + (kk : Int)) = ((at_ + kk : Nat) : Int) := by rw [wr_i64 (by omega) (by omega)]; omega
      rw [ew]
      have U7 := U6.then u7
      have piece : ∀ (mf' : Bool) (w8 : World), Upd [b1] [] w7 w8 → ∀ R2 : SV → World → Prop, (∀ s d w9, Upd [] [] w w9 → w4.heap.size ≤ w9.heap.size → Upd [] [] w4 w9 → Keeps [b, b1] w8 w9 → R2 (ipSV { v with opts := ol, mf := mf', off := wr .i64 (v.off + (at_ : Int)), data := (v.data.take (at_ + kk)).drop at_ } s d) w9) → Ret Try.prog 32 [ipSV { v with opts := ol, mf := mf', off := wr .i64 (v.off + (at_ : Int)), data := (v.data.take (at_ + kk)).drop at_ } s1 (Sl.sub sd 1 at_ (at_ + kk) sd.cap)] w8 R2 := fun mf' w8 u8 R2 kR => by
        have U8 : Upd [] [] w4 w8 := U7.step0 u8 (by simp; omega)
        have hO8 := hO5 w8 ((u6.step u7 (by simp)).step u8 (by simp))
        refine c32 (v := { v with opts := ol, mf := mf', off := wr .i64 (v.off + (at_ : Int)), data := (v.data.take (at_ + kk)).drop at_ }) hO8 hfew hsm (((hD.old v4).old U8).subB (by omega) (by omega) (by omega)) (by simp only [Sl.sub]; omega) (by simp; omega) fun s d w9 u9 => ?_
        exact kR s d w9 (v4.then (U8.then u9)) (by have := U8.size; have := u9.size; omega) (U8.then u9) (kp u9)
      have app : ∀ (mf' : Bool) (s' d' : Sl) (w9 : World) (b6 : Nat) (w10 : World), Upd [] [] w w9 → Upd [] [] w4 w9 → Upd [] [b6] w9 w10 → w10.heap[b6]? = some (.cells (SV.struct [ipSV { v with opts := ol, mf := mf', off := wr .i64 (v.off + (at_ : Int)), data := (v.data.take (at_ + kk)).drop at_ } s' d']).cells.toArray 28 (0, 0)) →
          ∀ Q : Sl → World → Prop, (∀ r w11, (Upd [] [] w w11 ∧ w3.heap.size ≤ w11.heap.size ∧ ∃ (at_1 fu : Nat) (l : List IpC), ((at_ + kk : Nat) : Int) = at_1 ∧ at_1 ≤ v.data.length ∧ v.data.length - at_1 < fu ∧ l.length ≤ at_1 ∧ Sees cIp w11 r l ∧ Own w1.heap.size 43 w11 r ∧ l.length + (cuts v.data.length (m1 v mtu) (m2 v mtu) fu at_1).length = (cutV v mtu).length) → Q r w11) → Vc.Append 28 43 144 s ⟨some ⟨b6, 0, none⟩, 1, 1⟩ [b, b1] w10 Q := by
        intro mf' s' d' w9 b6 w10 U9 u9 u10 hr Q hQ
        have U49 := u9
        have bs := oS.blk
        have z9 := u9.size
        have v10 := U9.then u10
        refine append_own (c := cIp) (new := [⟨_, s', d'⟩]) ((hS.old u9).old u10) ((oS.old u9).old u10) (rowIp (v := { v with opts := ol, mf := mf', off := wr .i64 (v.off + (at_ : Int)), data := (v.data.take (at_ + kk)).drop at_ }) hr (by simp [SV.cells, SV.cellsL])) (by have := U49.size; have := u10.size; omega) (fun x hx hm => ?_) (by decide) (by simp; omega) fun r w11 hr1 ho1 u11 hn => ?_
        · have := bs x hx
          simp only [List.mem_cons, List.not_mem_nil, or_false] at hm
          rcases hm with e | e <;> subst e <;> omega
        · exact hQ _ _ ⟨v10.step0 u11 (fun x hx => by have := (bs x hx).1; omega), by have := U49.size; have := u10.size; have := u11.size; omega, at_ + kk, f', _, rfl, k2, by omega, by simp; omega, hr1, ho1, by rw [es] at hsum; simp at hsum ⊢; omega⟩
      refine brd (fun hmore => ?_) (fun hlast => ?_)
      · refine need (by simp; omega) fun w8 u8 => ?_
        rw [Int.toNat_natCast, Int.toNat_natCast]
        refine piece true w8 u8 _ fun s' d' w9 U9 z9 U49 kk9 => ⟨_, _, _, _, _, _, _, _, _, _, _, _, _, rfl, kk9, ?_⟩
        intro b6 w10 u10 hr
        refine app true s' d' w9 b6 w10 U9 U49 u10 hr _ fun r w11 hq => ?_
        (repeat refine And.intro rfl ?_)
        exact ⟨hq, by (try dsimp only); omega⟩
      · refine need (by simp; omega) fun w8 u8 => ?_
        rw [Int.toNat_natCast, Int.toNat_natCast]
        refine piece v.mf w8 u8 _ fun s' d' w9 U9 z9 U49 kk9 => ⟨_, _, _, _, _, _, _, _, _, _, _, _, _, rfl, kk9, ?_⟩
        intro b6 w10 u10 hr
        refine app v.mf s' d' w9 b6 w10 U9 U49 u10 hr _ fun r w11 hq => ?_
        (repeat refine And.intro rfl ?_)
        exact ⟨hq, by (try dsimp only); omega⟩
    refine brd (fun hpos w5 u5 => ?_) (fun hzero w5 u5 => ?_)
    · have n5 := u5.new (b := b1) (by simp)
      have v5 := v4.then u5
      refine c33 (hO.old v5) hl fun s1 o1 w6 u6 hO1 hT => ⟨_, rfl, kp u6, fun w7 u7 => ?_⟩
      (repeat refine And.intro rfl ?_)
      have z6 := u6.size; have z7 := u7.size; have z4 := v4.size
      have hin : OptIn (fun x => x ∉ [b1]) s1 (copL v) o1 := hT _ (OptIn.mono (Opts.inH hO) fun x hx hm => by simp at hm; omega) (fun x hx hm => by simp at hm; omega)
      have hO1 : Opts w6 s1 (copL v) o1 := hO1
      have hne : at_ ≠ 0 := by omega
      exact main (copL v) s1 o1 w7 (by rw [if_neg hne]) ((u5.then u6).step0 u7 (by simp; omega)) (fun w' u' => Opts.updP hO1 ((u7.step u' (by simp))) hin) (by omega) (by omega)
    · have n5 := u5.new (b := b1) (by simp)
      have hz : at_ = 0 := by omega
      (repeat refine And.intro rfl ?_)
      exact main v.opts so os w5 (by rw [if_pos hz]) u5.forget (fun w' u' => (hO.old v4).old (u5.step0 u' (by simp; omega))) (by omega) (by omega)
  · have : at_ = v.data.length := by omega
    subst this
    rw [cuts_end (Nat.le_refl _)] at hsum
    refine k s w4 v4 ?_
    rw [hN, hS.len]
    simpa using hsum
end
end Go.Vc.Stop
end

section
open Go Go.Vc Go.Proofs
set_option linter.unusedVariables false
set_option linter.unusedSimpArgs false
set_option autoImplicit false
namespace Go.Vc.Stop
def cPart : Cod (Int × Sl × Bool) := ⟨3, fun p => [.int .i64 p.1, p.2.1.val, .bool p.2.2], fun _ => rfl, by simp [Value.oneCell', Sl.val]⟩
/-- a piece that was cut -/
structure PcR (w : World) (l : List Int) (N : Nat) (p : Int × Sl × Bool) (c : Nat × Nat) : Prop where
  at_ : p.1 = c.1
  b : SeesB w p.2.1 ((l.take (c.1 + c.2)).drop c.1)
  o : Own N 1 w p.2.1
  last : p.2.2 = decide (l.length ≤ c.1 + c.2)
  le : c.1 + c.2 ≤ l.length
theorem meth104 (x : Value) (w : World) : (Go.method (Try.prog.types.size + Made.depth) 93 x "weir/split.head").run Try.prog w = .ok (104, x) w := by kernel_rfl
section
variable {w : World} {R : SV → World → Prop}
theorem c104 {h1 h2 : Int} {f : Bool} (k : ∀ w1, Upd [] [] w w1 → R (.int .i64 (if f then h1 else h2)) w1) : Ret Try.prog 104 [.struct [.int .i64 h1, .int .i64 h2], .bool f] w R := by
  refine f104_of _ _ _ _ _ ?_
  unfold vc104
  intro b
  cases f
  · exact brf rfl fun w1 u1 => k w1 u1.forget
  · exact brt rfl fun w1 u1 => k w1 u1.forget
set_option maxRecDepth 10000 in
set_option maxHeartbeats 1000000 in
theorem c38 {b : Sl} {l : List Int} {mtu h1 h2 : Int} (hb : SeesB w b l) (hcap : b.len ≤ b.cap) (hl : 0 < l.length ∧ l.length ≤ 1000000) (hm : mtu ≤ 65535) (hh1 : 0 ≤ h1 ∧ h1 + 8 ≤ mtu) (hh2 : 0 ≤ h2 ∧ h2 + 8 ≤ mtu)
    (k : ∀ s (z : List ((Int × Sl × Bool) × (Nat × Nat))) w1, Upd [] [] w w1 → Sees cPart w1 s (z.map (·.1)) → z.map (·.2) = cuts l.length (mtu - h1).toNat (mtu - h2).toNat (l.length + 1) 0 → (∀ p ∈ z, PcR w1 l w.heap.size p.1 p.2) → Own w.heap.size 3 w1 s → R (.slice s) w1) :
    Ret Try.prog 38 [.slice b, .int .i64 mtu, .raw (.iface 93 (SV.enc (.struct [.int .i64 h1, .int .i64 h2])))] w R := by
  refine f38_of _ _ _ _ _ ?_
  unfold vc38
  have hbl := hb.len
  generalize hM1 : (mtu - h1).toNat = M1 at k
  generalize hM2 : (mtu - h2).toNat = M2 at k
  refine ⟨fun s n w' => Upd [] [] w w' ∧ ∃ (at_ f : Nat) (z : List ((Int × Sl × Bool) × (Nat × Nat))), n = at_ ∧ at_ < l.length ∧ l.length - at_ < f ∧ z.length ≤ at_ ∧ z.map (·.2) ++ cuts l.length M1 M2 f at_ = cuts l.length M1 M2 (l.length + 1) 0 ∧ Sees cPart w' s (z.map (·.1)) ∧ Own w.heap.size 3 w' s ∧ (∀ p ∈ z, PcR w' l w.heap.size p.1 p.2 ∧ ∀ x ∈ p.1.2.1.blk, x ∉ s.blk),
    fun _ n _ => (l.length - n).toNat, ⟨Upd.refl w, 0, l.length + 1, [], rfl, hl.1, by omega, by simp, by simp, Sees.nil _ _ _ _, Own.none _ _ _, by simp⟩, ?_⟩
  rintro s n w1 ⟨U1, at_, f, z, rfl, ha, hf, hz, hsum, hS, oS, hP⟩
  refine ⟨93, _, 104, _, rfl, fun w => meth104 _ w, by rfl, ?_⟩
  refine (?_ : Ret Try.prog 104 [.struct [.int .i64 h1, .int .i64 h2], .bool ((at_ : Int) == 0)] w1 _)
  refine c104 fun w2 u2 => ⟨_, rfl, ?_⟩
  have U2 := U1.then u2
  generalize hm0 : (if at_ = 0 then M1 else M2) = m
  have em : (m : Int) = mtu - (if ((at_ : Int) == 0) = true then h1 else h2) := by
    rw [← hm0]
    by_cases e : at_ = 0
    · rw [if_pos e, if_pos (by simp [e])]; omega
    · rw [if_neg e, if_neg (by simp; omega)]; omega
  have hm8 : 8 ≤ m := by rw [← hm0]; split <;> omega
  have hmx : m ≤ 65535 := by rw [← hm0]; split <;> omega
  generalize (if ((at_ : Int) == 0) = true then h1 else h2) = hh at *
  rw [wr_i64 (x := (b.len : Int) - (at_ : Int)) (by omega) (by omega), ← em, wr_i64 (x := (m : Int)) (by omega) (by omega), tdiv_pos (by omega), wr_i64 (x := (m : Int) / 8) (by omega) (by omega), wr_i64 (x := (m : Int) / 8 * 8) (by omega) (by omega), wr_i64 (x := (at_ : Int) + (m : Int) / 8 * 8) (by omega) (by omega)]
  have bs := oS.blk
  -- one piece more
  have app : ∀ (kk f' : Nat) (d : Sl) (w3 : World) (lst : Bool), cuts l.length M1 M2 f at_ = (at_, kk) :: cuts l.length M1 M2 f' (at_ + kk) → at_ + kk ≤ l.length → lst = decide (l.length ≤ at_ + kk) → Upd [] [] w2 w3 → SeesB w3 d ((l.take (at_ + kk)).drop at_) → Own w2.heap.size 1 w3 d → ∀ (b4 : Nat) (w4 : World), Upd [] [b4] w3 w4 → w4.heap[b4]? = some (.cells (SV.struct [.struct [.int .i64 (at_ : Int), .slice d, .bool lst]]).cells.toArray 97 (0, 0)) → ∀ Q : Sl → World → Prop,
      (∀ (r : Sl) (w5 : World) (z' : List ((Int × Sl × Bool) × (Nat × Nat))), Upd [] [] w w5 → z'.length = z.length + 1 → z'.map (·.2) ++ cuts l.length M1 M2 f' (at_ + kk) = cuts l.length M1 M2 (l.length + 1) 0 → Sees cPart w5 r (z'.map (·.1)) → Own w.heap.size 3 w5 r → (∀ p ∈ z', PcR w5 l w.heap.size p.1 p.2 ∧ ∀ x ∈ p.1.2.1.blk, x ∉ r.blk) → Q r w5) → Vc.Append 97 3 40 s ⟨some ⟨b4, 0, none⟩, 1, 1⟩ [] w4 Q := by
    intro kk f' d w3 lst hc hle hlst u3 hd od b4 w4 u4 hr4 Q hQ
    have v14 : Upd [] [] w1 w4 := (u2.then u3).then u4
    have z12 := u2.size; have z23 := u3.size; have z34 := u4.size
    have hr5 : Sees cPart w4 ⟨some ⟨b4, 0, none⟩, 1, 1⟩ [((at_ : Int), d, lst)] := sees_row (c := cPart) hr4 [((at_ : Int), d, lst)] (by simp [SV.cells, SV.cellsL, SV.enc, cPart, Cod.cells]; try rfl) rfl
    refine append_own (c := cPart) (hS.old v14) (oS.old v14) hr5 (U1.then v14).size (by simp) (by decide) (by simp; omega) fun r w5 hr ho5 u5 hn => ?_
    have dis : ∀ x ∈ d.blk, x ∉ s.blk := fun x hx hm => by have := (od.blk x hx).1; have := (bs x hm).2; omega
    refine hQ r w5 (z ++ [(((at_ : Int), d, lst), (at_, kk))]) ((U1.then v14).step0 u5 (fun x hx => (bs x hx).1)) (by simp) (by rw [← hsum, hc]; simp) (by simpa using hr) ho5 (fun p hp => ?_)
    rcases List.mem_append.1 hp with q | q
    · obtain ⟨g1, g2⟩ := hP p q
      refine ⟨⟨g1.at_, (g1.b.old v14).upd u5 g2, (g1.o.old v14).upd u5 g2, g1.last, g1.le⟩, fun x hx hm => ?_⟩
      rcases hn x hm with h' | h'
      · exact g2 x hx h'
      · have := (g1.o.blk x hx).2; have := v14.size; omega
    · rw [List.mem_singleton] at q
      subst q
      refine ⟨⟨rfl, (hd.old u4).upd u5 dis, ((od.old u4).upd u5 dis).mono (by have := U2.size; omega), hlst, hle⟩, fun x hx hm => ?_⟩
      rcases hn x hm with h' | h'
      · exact dis x hx h'
      · have := (od.blk x hx).2; omega
  refine brd (fun hfit => ?_) (fun hno => ?_)
  · refine need (by simp; omega) ?_
    obtain ⟨f', ef, es⟩ := cuts_step (m1 := M1) (m2 := M2) ha hf (k := l.length - at_) (by rw [hm0, if_pos (by omega)])
    rw [Int.toNat_natCast, Int.toNat_natCast]
    have := (hb.old U2).subB (lo := at_) (hi := b.len) (mx := b.len) (by omega) (by omega) (by omega)
    have e : b.len = at_ + (l.length - at_) := by omega
    refine c54 (l := (l.take (at_ + (l.length - at_))).drop at_) (by rw [← e]; exact this) (by simp; omega) fun d w3 u3 hd od => ⟨_, rfl, ?_⟩
    intro b4 w4 u4 hr4
    refine app (l.length - at_) f' d w3 true es (by omega) (by simp; omega) u3 hd od b4 w4 u4 hr4 _ fun r w5 z' U5 hz' hs' hS' oS' hP' => ?_
    rw [cuts_end (by omega), List.append_nil] at hs'
    exact k r z' w5 U5 hS' hs' (fun p hp => (hP' p hp).1) oS'
  · have hkk : ((m / 8 * 8 : Nat) : Int) = (m : Int) / 8 * 8 := by omega
    have e0 : (at_ : Int) + (m : Int) / 8 * 8 = ((at_ + m / 8 * 8 : Nat) : Int) := by omega
    rw [e0]
    obtain ⟨f', ef, es⟩ := cuts_step (m1 := M1) (m2 := M2) ha hf (k := m / 8 * 8) (by rw [hm0, if_neg (by omega)])
    refine need (by simp; omega) ?_
    rw [Int.toNat_natCast, Int.toNat_natCast]
    have := (hb.old U2).subB (lo := at_) (hi := at_ + m / 8 * 8) (mx := at_ + m / 8 * 8) (by omega) (by omega) (by omega)
    refine c54 this (by simp; omega) fun d w3 u3 hd od => ⟨_, rfl, ?_⟩
    intro b4 w4 u4 hr4
    refine app (m / 8 * 8) f' d w3 false es (by omega) (by simp; omega) u3 hd od b4 w4 u4 hr4 _ fun r w5 z' U5 hz' hs' hS' oS' hP' => ?_
    exact ⟨⟨U5, at_ + m / 8 * 8, f', z', rfl, by omega, by omega, by omega, hs', hS', oS', hP'⟩, by (try dsimp only); omega⟩
end
end Go.Vc.Stop
end

section
open Go Go.Vc Go.Proofs
set_option linter.unusedVariables false
set_option linter.unusedSimpArgs false
set_option autoImplicit false
namespace Go.Vc.Stop
theorem filter_all (l : List Opt) : l.filter (optF false) = l := by
  apply List.filter_eq_self.2
  intro o _
  rfl
/-- memory of one's own, from N on -/
def FreshOs (N : Nat) (w : World) (s : Sl) (os : List (Int × Sl)) : Prop := Own N 2 w s ∧ ∀ x ∈ os, Own N 1 w x.2
section
variable {w : World} {R : SV → World → Prop}
theorem c37 {v : IpV} {sa da : Sl} {oa : List (Int × Sl)} (hO : Opts w sa v.opts oa) (hl : v.opts.length ≤ 4398046511000) (hod : ∀ o ∈ v.opts, o.data.length ≤ 140737488351232) (hD : SeesB w da v.data) (hdl : v.data.length ≤ 140737488351232)
    (k : ∀ s os d w1, Upd [] [] w w1 → Opts w1 s v.opts os → FreshOs w.heap.size w1 s os → SeesB w1 d v.data → Own w.heap.size 1 w1 d → R (ipSV v s d) w1) : Ret Try.prog 37 [ipSV v sa da] w R := by
  refine f37_of _ _ _ _ _ _ _ _ _ _ _ _ _ _ _ ?_
  unfold vc37
  intro b b1 w1 u1
  have n1 := u1.new (b := b) (by simp)
  have n2 := u1.new (b := b1) (by simp)
  have y1 := u1.size
  refine c36 (hO.old u1) hl hod fun s os w2 u2 hs ho oo => ⟨_, rfl, kp u2, fun w3 u3 => ?_⟩
  rw [filter_all] at hs
  have y2 := u2.size; have y3 := u3.size
  have v3 : Upd [] [] w w3 := (u1.then u2).step0 u3 (by simp; omega)
  have far : ∀ x, w1.heap.size ≤ x → x ∉ [b] ∧ x ∉ [b1, b] := fun x hx => by
    constructor
    · intro hm; simp at hm; omega
    · intro hm; simp at hm; omega
  refine c54 (hD.old v3) (by omega) fun d w4 u4 hd od => ⟨_, rfl, kp u4, fun w5 u5 => ?_⟩
  have y4 := u4.size
  have bl := ho.blk
  refine k s os d w5 ((v3.then u4).step0 u5 (by simp; omega)) ?_ ⟨?_, fun x hx => ?_⟩ ?_ ?_
  · have h3 := hs.upd u3 (fun x hx => (far x (bl x hx).1).1) (fun x hx y hy => (far y ((oo x hx).blk y hy).1).1)
    exact (h3.old u4).upd u5 (fun x hx => (far x (bl x hx).1).2) (fun x hx y hy => (far y ((oo x hx).blk y hy).1).2)
  · exact ((((ho.upd u3 (fun x hx => (far x (bl x hx).1).1)).old u4).upd u5 (fun x hx => (far x (bl x hx).1).2)).mono (by omega))
  · exact (((((oo x hx).upd u3 (fun y hy => (far y ((oo x hx).blk y hy).1).1)).old u4).upd u5 (fun y hy => (far y ((oo x hx).blk y hy).1).2)).mono (by omega))
  · exact hd.upd u5 (fun x hx => (far x (by have := (od.blk x hx).1; omega)).2)
  · exact (od.upd u5 (fun x hx => (far x (by have := (od.blk x hx).1; omega)).2)).mono (by omega)
end
end Go.Vc.Stop
end

section
open Go Go.Vc Go.Vc.Stop Go.Proofs
set_option maxRecDepth 100000
set_option linter.unusedVariables false
namespace Go.Vc.Stop
def a1013 : Ann := (.seq .leaf (.seq (.seq .leaf (.seq .leaf (.cond (.seq .leaf .leaf) .leaf))) (.cut [] [0] (.seq .leaf (.cond (.seq .leaf .leaf) .leaf)) (.seq (.draw (.early 0 (.early 1 (.early 4 (.early 5 (.fork [(2, (.early 3 (.fork [(6, (.fork [(7, (.early 8 (.early 9 (.fork [(10, (.fork [(11, .done)]))])))), (10, (.fork [(7, (.early 8 (.early 9 (.fork [(11, .done)]))))]))])), (10, (.fork [(6, (.fork [(7, (.early 8 (.early 9 (.fork [(11, .done)]))))]))]))]))), (10, (.fork [(2, (.early 3 (.fork [(6, (.fork [(7, (.early 8 (.early 9 (.fork [(11, .done)]))))]))])))]))])))))) (.seq (.seq .leaf (.cond (.seq .leaf .leaf) .leaf)) (.seq (.seq .leaf (.cond (.seq .leaf .leaf) .leaf)) (.seq .leaf (.seq (.seq .leaf (.block (.loop [(.t 8, (.slice 28)), (.t 53, (.int .i64))] [0, 1] (.seq .leaf (.seq (.cond .leaf .leaf) (.seq (.block (.seq .leaf (.seq .leaf (.seq (.drawK [3] (.early 0 (.early 1 (.early 2 (.early 3 (.early 4 (.early 5 (.early 6 (.early 7 (.early 8 (.early 9 (.early 10 (.early 11 (.early 12 (.early 13 (.early 14 (.fork [(15, (.early 16 (.fork [(17, (.early 18 (.fork [(19, .done)])))])))]))))))))))))))))) (.seq .leaf .leaf))))) .leaf)))))) (.seq .leaf .leaf)))))))))
def tail13a (p0 : Sl) (p1 : Int) (p2 : Int) (p3 : Int) (p4 : World) (p5 : Nat) (p6 : Nat) (p7 : Int) (p8 : Int) (p9 : Bool) (p10 : Bool) (p11 : Int) (p12
  : Int) (p13 : Int) (p14 : Int) (p15 : Nat → Int) (p16 : Int) (p17 : Nat → Int) (p18 : Sl) (p19 : SV → World → Prop) : Prop := Ret Try.prog 38 [SV.slice
  p0, SV.int IntKind.i64 p1, SV.raw (Value.iface 93 (SV.enc (SV.struct [SV.int IntKind.i64 (wr IntKind.i64 (20 + p2)), SV.int IntKind.i64 (wr IntKind.i64
  (20 + p3))])))] p4 fun (z0 : SV) (z1 : World) => ∃ (z2 : Sl), z0 = SV.slice z2 ∧ Keeps [p5, p6] p4 z1 ∧ ∃ (z3 : Sl → Int → World → Prop), ∃ (z4 : Sl → Int
  → World → Nat), z3 { ptr := none, len := 0, cap := 0 } 0 z1 ∧ ∀ (z5 : Sl) (z6 : Int) (z7 : World), z3 z5 z6 z7 → Br (decide (z6 < (↑z2.2 : Int))) (Need
  (decide (0 ≤ z6) && decide (z6 < (↑z2.2 : Int)) && Option.isSome z2.1) (∃ (z8 : Int), World.cell? z7 (Sl.at z2 3 (Int.toNat z6)) = some (Value.int IntKind.i64
  z8) ∧ ∃ (z9 : Sl), World.cell? z7 (Addr.add (Sl.at z2 3 (Int.toNat z6)) 1) = some (Sl.val z9) ∧ ∃ (z10 : Bool), World.cell? z7 (Addr.add (Sl.at z2 3 (Int.toNat
  z6)) 2) = some (Value.bool z10) ∧ ∀ (z11 z12 : Nat) (z13 : World), Upd [] [z12, z11] z7 z13 → (World.heap z13)[z12]? = some (Obj.cells { toList := SV.cells (SV.struct [SV.int IntKind.i64 p7, SV.int IntKind.i64 p8, SV.bool p9, SV.bool p10, SV.int IntKind.i64 p11, SV.int IntKind.i64 p12, SV.int IntKind.i64 p13, SV.struct [SV.int IntKind.i64 p14, SV.arr IntKind.u8 16 p15], SV.struct [SV.int IntKind.i64 p16, SV.arr IntKind.u8 16 p17], SV.slice p18, SV.slice p0]) }
  28) → Off z12 [p5, p6, z11] → ∃ (z14 : List Nat), (∀ (z15 : Nat), z15 ∈ z14 → z15 < List.length (World.heap z13).1) ∧ Br (!z10) (∀ (z16 : World), Upd []
  [] z13 z16 → Store z16 (Addr.add { block := z12, off := 0 } 4) (SV.cells (SV.int IntKind.i64 (wr IntKind.i64 (p11 + z8)))) [p5, p6, z11] fun (z17 : World)
  => Kept z14 z13 z17 ∧ Store z17 (Addr.add { block := z12, off := 0 } 42) (SV.cells (SV.slice z9)) [p5, p6, z11] fun (z18 : World) => Kept z14 z13 z18 ∧
  Store z18 (Addr.add { block := z12, off := 0 } 3) (SV.cells (SV.bool true)) [p5, p6, z11] fun (z19 : World) => Ret Try.prog 36 [SV.slice p18, SV.bool (decide
  (z8 > 0))] z19 fun (z20 : SV) (z21 : World) => ∃ (z22 : Sl), z20 = SV.slice z22 ∧ Keeps [p5, p6, z11] z19 z21 ∧ Store z21 (Addr.add { block := z12, off := 0 }
  41) (SV.cells (SV.slice z22)) [p5, p6, z11] fun (z23 : World) => ∃ (z24 : Int), World.cell? z23 { block := z12, off := 0 } = some (Value.int IntKind.i64
  z24) ∧ ∃ (z25 : Int), World.cell? z23 (Addr.add { block := z12, off := 0 } 1) = some (Value.int IntKind.i64 z25) ∧ ∃ (z26 : Bool), World.cell? z23 (Addr.add
  { block := z12, off := 0 } 2) = some (Value.bool z26) ∧ ∃ (z27 : Bool), World.cell? z23 (Addr.add { block := z12, off := 0 } 3) = some (Value.bool z27)
  ∧ ∃ (z28 : Int), World.cell? z23 (Addr.add { block := z12, off := 0 } 4) = some (Value.int IntKind.i64 z28) ∧ ∃ (z29 : Int), World.cell? z23 (Addr.add { block := z12, off := 0 }
  5) = some (Value.int IntKind.i64 z29) ∧ ∃ (z30 : Int), World.cell? z23 (Addr.add { block := z12, off := 0 } 6) = some (Value.int IntKind.i64 z30) ∧ ∃ (z31
  : Int), World.cell? z23 (Addr.add { block := z12, off := 0 } 7) = some (Value.int IntKind.i64 z31) ∧ ∃ (z32 : Nat → Int), (∀ (z33 : Nat), z33 < 16 → World.cell?
  z23 (Addr.add { block := z12, off := 0 } (8 + z33)) = some (Value.int IntKind.u8 (z32 z33))) ∧ ∃ (z34 : Int), World.cell? z23 (Addr.add { block := z12, off := 0 }
  24) = some (Value.int IntKind.i64 z34) ∧ ∃ (z35 : Nat → Int), (∀ (z36 : Nat), z36 < 16 → World.cell? z23 (Addr.add { block := z12, off := 0 } (25 + z36))
  = some (Value.int IntKind.u8 (z35 z36))) ∧ ∃ (z37 : Sl), World.cell? z23 (Addr.add { block := z12, off := 0 } 41) = some (Sl.val z37) ∧ ∃ (z38 : Sl), World.cell?
  z23 (Addr.add { block := z12, off := 0 } 42) = some (Sl.val z38) ∧ ∀ (z39 : Nat) (z40 : World), Upd [] [z39] z23 z40 → (World.heap z40)[z39]? = some (Obj.cells
  { toList := SV.cells (SV.struct [SV.struct [SV.int IntKind.i64 z24, SV.int IntKind.i64 z25, SV.bool z26, SV.bool z27, SV.int IntKind.i64 z28, SV.int IntKind.i64 z29, SV.int IntKind.i64 z30, SV.struct [SV.int IntKind.i64 z31, SV.arr IntKind.u8 16 z32], SV.struct [SV.int IntKind.i64 z34, SV.arr IntKind.u8 16 z35], SV.slice z37, SV.slice z38]]) }
  28) → Vc.Append 28 43 144 z5 { ptr := some { block := z39, off := 0 }, len := 1, cap := 1 } [p5, p6, z11] z40 fun (z41 : Sl) (z42 : World) => some (SV.box
  p5 28 (SV.struct [SV.int IntKind.i64 p7, SV.int IntKind.i64 p8, SV.bool p9, SV.bool p10, SV.int IntKind.i64 p11, SV.int IntKind.i64 p12, SV.int IntKind.i64
  p13, SV.struct [SV.int IntKind.i64 p14, SV.arr IntKind.u8 16 p15], SV.struct [SV.int IntKind.i64 p16, SV.arr IntKind.u8 16 p17], SV.slice p18, SV.slice
  p0])) = some (SV.box p5 28 (SV.struct [SV.int IntKind.i64 p7, SV.int IntKind.i64 p8, SV.bool p9, SV.bool p10, SV.int IntKind.i64 p11, SV.int IntKind.i64
  p12, SV.int IntKind.i64 p13, SV.struct [SV.int IntKind.i64 p14, SV.arr IntKind.u8 16 p15], SV.struct [SV.int IntKind.i64 p16, SV.arr IntKind.u8 16 p17],
  SV.slice p18, SV.slice p0])) ∧ some (SV.box p6 93 (SV.struct [SV.int IntKind.i64 (wr IntKind.i64 (20 + p2)), SV.int IntKind.i64 (wr IntKind.i64 (20 + p3))]))
  = some (SV.box p6 93 (SV.struct [SV.int IntKind.i64 (wr IntKind.i64 (20 + p2)), SV.int IntKind.i64 (wr IntKind.i64 (20 + p3))])) ∧ z3 z41 (wr IntKind.i64
  (z6 + 1)) z42 ∧ z4 z41 (wr IntKind.i64 (z6 + 1)) z42 < z4 z5 z6 z7) (∀ (z43 : World), Upd [] [] z13 z43 → Store z43 (Addr.add { block := z12, off := 0 }
  4) (SV.cells (SV.int IntKind.i64 (wr IntKind.i64 (p11 + z8)))) [p5, p6, z11] fun (z44 : World) => Kept z14 z13 z44 ∧ Store z44 (Addr.add { block := z12, off := 0 }
  42) (SV.cells (SV.slice z9)) [p5, p6, z11] fun (z45 : World) => Kept z14 z13 z45 ∧ Store z45 (Addr.add { block := z12, off := 0 } 3) (SV.cells (SV.bool
  p10)) [p5, p6, z11] fun (z46 : World) => Ret Try.prog 36 [SV.slice p18, SV.bool (decide (z8 > 0))] z46 fun (z47 : SV) (z48 : World) => ∃ (z49 : Sl), z47
  = SV.slice z49 ∧ Keeps [p5, p6, z11] z46 z48 ∧ Store z48 (Addr.add { block := z12, off := 0 } 41) (SV.cells (SV.slice z49)) [p5, p6, z11] fun (z50 : World)
  => ∃ (z51 : Int), World.cell? z50 { block := z12, off := 0 } = some (Value.int IntKind.i64 z51) ∧ ∃ (z52 : Int), World.cell? z50 (Addr.add { block := z12, off := 0 }
  1) = some (Value.int IntKind.i64 z52) ∧ ∃ (z53 : Bool), World.cell? z50 (Addr.add { block := z12, off := 0 } 2) = some (Value.bool z53) ∧ ∃ (z54 : Bool),
  World.cell? z50 (Addr.add { block := z12, off := 0 } 3) = some (Value.bool z54) ∧ ∃ (z55 : Int), World.cell? z50 (Addr.add { block := z12, off := 0 } 4)
  = some (Value.int IntKind.i64 z55) ∧ ∃ (z56 : Int), World.cell? z50 (Addr.add { block := z12, off := 0 } 5) = some (Value.int IntKind.i64 z56) ∧ ∃ (z57
  : Int), World.cell? z50 (Addr.add { block := z12, off := 0 } 6) = some (Value.int IntKind.i64 z57) ∧ ∃ (z58 : Int), World.cell? z50 (Addr.add { block := z12, off := 0 }
  7) = some (Value.int IntKind.i64 z58) ∧ ∃ (z59 : Nat → Int), (∀ (z60 : Nat), z60 < 16 → World.cell? z50 (Addr.add { block := z12, off := 0 } (8 + z60))
  = some (Value.int IntKind.u8 (z59 z60))) ∧ ∃ (z61 : Int), World.cell? z50 (Addr.add { block := z12, off := 0 } 24) = some (Value.int IntKind.i64 z61) ∧
  ∃ (z62 : Nat → Int), (∀ (z63 : Nat), z63 < 16 → World.cell? z50 (Addr.add { block := z12, off := 0 } (25 + z63)) = some (Value.int IntKind.u8 (z62 z63)))
  ∧ ∃ (z64 : Sl), World.cell? z50 (Addr.add { block := z12, off := 0 } 41) = some (Sl.val z64) ∧ ∃ (z65 : Sl), World.cell? z50 (Addr.add { block := z12, off := 0 }
  42) = some (Sl.val z65) ∧ ∀ (z66 : Nat) (z67 : World), Upd [] [z66] z50 z67 → (World.heap z67)[z66]? = some (Obj.cells { toList := SV.cells (SV.struct [SV.struct [SV.int IntKind.i64 z51, SV.int IntKind.i64 z52, SV.bool z53, SV.bool z54, SV.int IntKind.i64 z55, SV.int IntKind.i64 z56, SV.int IntKind.i64 z57, SV.struct [SV.int IntKind.i64 z58, SV.arr IntKind.u8 16 z59], SV.struct [SV.int IntKind.i64 z61, SV.arr IntKind.u8 16 z62], SV.slice z64, SV.slice z65]]) }
  28) → Vc.Append 28 43 144 z5 { ptr := some { block := z66, off := 0 }, len := 1, cap := 1 } [p5, p6, z11] z67 fun (z68 : Sl) (z69 : World) => some (SV.box
  p5 28 (SV.struct [SV.int IntKind.i64 p7, SV.int IntKind.i64 p8, SV.bool p9, SV.bool p10, SV.int IntKind.i64 p11, SV.int IntKind.i64 p12, SV.int IntKind.i64
  p13, SV.struct [SV.int IntKind.i64 p14, SV.arr IntKind.u8 16 p15], SV.struct [SV.int IntKind.i64 p16, SV.arr IntKind.u8 16 p17], SV.slice p18, SV.slice
  p0])) = some (SV.box p5 28 (SV.struct [SV.int IntKind.i64 p7, SV.int IntKind.i64 p8, SV.bool p9, SV.bool p10, SV.int IntKind.i64 p11, SV.int IntKind.i64
  p12, SV.int IntKind.i64 p13, SV.struct [SV.int IntKind.i64 p14, SV.arr IntKind.u8 16 p15], SV.struct [SV.int IntKind.i64 p16, SV.arr IntKind.u8 16 p17],
  SV.slice p18, SV.slice p0])) ∧ some (SV.box p6 93 (SV.struct [SV.int IntKind.i64 (wr IntKind.i64 (20 + p2)), SV.int IntKind.i64 (wr IntKind.i64 (20 + p3))]))
  = some (SV.box p6 93 (SV.struct [SV.int IntKind.i64 (wr IntKind.i64 (20 + p2)), SV.int IntKind.i64 (wr IntKind.i64 (20 + p3))])) ∧ z3 z68 (wr IntKind.i64
  (z6 + 1)) z69 ∧ z4 z68 (wr IntKind.i64 (z6 + 1)) z69 < z4 z5 z6 z7))) (p19 (SV.tuple [SV.slice z5, SV.int IntKind.i64 0]) z7)
def tail13b (p0 : Int) (p1 : Int) (p2 : Bool) (p3 : Bool) (p4 : Int) (p5 : Int) (p6 : Int) (p7 : Int) (p8 : Nat → Int) (p9 : Int) (p10 : Nat → Int) (p11
  : Sl) (p12 : Sl) (p13 : World) (p14 : Nat) (p15 : Nat) (p16 : SV → World → Prop) : Prop := Ret Try.prog 37 [SV.struct [SV.int IntKind.i64 p0, SV.int IntKind.i64
  p1, SV.bool p2, SV.bool p3, SV.int IntKind.i64 p4, SV.int IntKind.i64 p5, SV.int IntKind.i64 p6, SV.struct [SV.int IntKind.i64 p7, SV.arr IntKind.u8 16
  p8], SV.struct [SV.int IntKind.i64 p9, SV.arr IntKind.u8 16 p10], SV.slice p11, SV.slice p12]] p13 fun (z0 : SV) (z1 : World) => ∃ (z2 : Int), ∃ (z3 : Int),
  ∃ (z4 : Bool), ∃ (z5 : Bool), ∃ (z6 : Int), ∃ (z7 : Int), ∃ (z8 : Int), ∃ (z9 : Int), ∃ (z10 : Nat → Int), ∃ (z11 : Int), ∃ (z12 : Nat → Int), ∃ (z13 :
  Sl), ∃ (z14 : Sl), z0 = SV.struct [SV.int IntKind.i64 z2, SV.int IntKind.i64 z3, SV.bool z4, SV.bool z5, SV.int IntKind.i64 z6, SV.int IntKind.i64 z7, SV.int
  IntKind.i64 z8, SV.struct [SV.int IntKind.i64 z9, SV.arr IntKind.u8 16 z10], SV.struct [SV.int IntKind.i64 z11, SV.arr IntKind.u8 16 z12], SV.slice z13,
  SV.slice z14] ∧ Keeps [p14, p15] p13 z1 ∧ ∀ (z15 : Nat) (z16 : World), Upd [] [z15] z1 z16 → (World.heap z16)[z15]? = some (Obj.cells { toList := SV.cells (SV.struct [SV.struct [SV.int IntKind.i64 z2, SV.int IntKind.i64 z3, SV.bool z4, SV.bool z5, SV.int IntKind.i64 z6, SV.int IntKind.i64 z7, SV.int IntKind.i64 z8, SV.struct [SV.int IntKind.i64 z9, SV.arr IntKind.u8 16 z10], SV.struct [SV.int IntKind.i64 z11, SV.arr IntKind.u8 16 z12], SV.slice z13, SV.slice z14]]) }
  28) → p16 (SV.tuple [SV.slice { ptr := some { block := z15, off := 0 }, len := 1, cap := 1 }, SV.int IntKind.i64 0]) z16
def vc13 (h_0 : Int) (h_1 : Int) (h_2 : Bool) (h_3 : Bool) (h_4 : Int) (h_5 : Int) (h_6 : Int) (h_7_0 : Int) (h_7_1 : Nat → Int) (h_8_0 : Int) (h_8_1 :
  Nat → Int) (h_9 : Sl) (h_10 : Sl) (mtu : Int) (w : World) (R : SV → World → Prop) : Prop := ∀ (b : Nat) (w1 : World), Upd [] [b] w w1 → Ret Try.prog 23
  [SV.struct [SV.int IntKind.i64 h_0, SV.int IntKind.i64 h_1, SV.bool h_2, SV.bool h_3, SV.int IntKind.i64 h_4, SV.int IntKind.i64 h_5, SV.int IntKind.i64
  h_6, SV.struct [SV.int IntKind.i64 h_7_0, SV.arr IntKind.u8 16 h_7_1], SV.struct [SV.int IntKind.i64 h_8_0, SV.arr IntKind.u8 16 h_8_1], SV.slice h_9, SV.slice
  h_10]] w1 fun (r : SV) (w1_1 : World) => ∃ (n : Int), r = SV.int IntKind.i64 n ∧ Keeps [b] w1 w1_1 ∧ Br (n != 0) (R (SV.tuple [SV.slice { ptr := none, len := 0, cap := 0 },
  SV.int IntKind.i64 n]) w1_1) (∀ (J : World → Prop), (∀ (w1 : World), ((∀ (w1_2 : World), Upd [] [] w1 w1_2 → Ret Try.prog 35 [SV.slice h_9] w1_2 fun (r
  : SV) (w1_3 : World) => ∃ (n : Int), r = SV.int IntKind.i64 n ∧ Keeps [b] w1_2 w1_3 ∧ Upd [] [] w1 w1_3 ∧ (Ret Try.prog 36 [SV.slice h_9, SV.bool true]
  w1_3 fun (r : SV) (w1_4 : World) => ∃ (s : Sl), r = SV.slice s ∧ Keeps [b] w1_3 w1_4 ∧ (Ret Try.prog 35 [SV.slice s] w1_4 fun (r : SV) (w1_5 : World) =>
  ∃ (n_1 : Int), r = SV.int IntKind.i64 n_1 ∧ Keeps [b] w1_4 w1_5 ∧ ∀ (b_1 : Nat), Upd [] [] w1 w1_5 ∧ Br (decide (wr IntKind.i64 (wr IntKind.i64 (20 + n)
  + (↑h_10.2 : Int)) ≤ mtu)) (∀ (w1 : World), Upd [] [b_1] w1_5 w1 → tail13b h_0 h_1 h_2 h_3 h_4 h_5 h_6 h_7_0 h_7_1 h_8_0 h_8_1 h_9 h_10 w1 b b_1 R) (Br
  h_2 (∀ (w1 : World), Upd [] [b_1] w1_5 w1 → R (SV.tuple [SV.slice { ptr := none, len := 0, cap := 0 }, SV.int IntKind.i64 130]) w1) (∀ (w1 : World), Upd
  [] [b_1] w1_5 w1 → tail13a h_10 mtu n n_1 w1 b b_1 h_0 h_1 h_2 h_3 h_4 h_5 h_6 h_7_0 h_7_1 h_8_0 h_8_1 h_9 R))) ∧ ∀ (b_1 : Nat), Upd [] [] w1 w1_4 ∧ ∀ (w1
  : World), Upd [] [b_1] w1_4 w1 → Ret Try.prog 35 [SV.slice s] w1 fun (r : SV) (w1_5 : World) => ∃ (n_1 : Int), r = SV.int IntKind.i64 n_1 ∧ Keeps [b, b_1]
  w1 w1_5 ∧ Br (decide (wr IntKind.i64 (wr IntKind.i64 (20 + n) + (↑h_10.2 : Int)) ≤ mtu)) (∀ (w1 : World), Upd [b_1] [] w1_5 w1 → tail13b h_0 h_1 h_2 h_3
  h_4 h_5 h_6 h_7_0 h_7_1 h_8_0 h_8_1 h_9 h_10 w1 b b_1 R) (Br h_2 (∀ (w1 : World), Upd [b_1] [] w1_5 w1 → R (SV.tuple [SV.slice { ptr := none, len := 0, cap := 0 },
  SV.int IntKind.i64 130]) w1) (∀ (w1 : World), Upd [b_1] [] w1_5 w1 → tail13a h_10 mtu n n_1 w1 b b_1 h_0 h_1 h_2 h_3 h_4 h_5 h_6 h_7_0 h_7_1 h_8_0 h_8_1
  h_9 R))) ∧ ∀ (b_1 : Nat), Upd [] [] w1 w1_3 ∧ ∀ (w1 : World), Upd [] [b_1] w1_3 w1 → Ret Try.prog 36 [SV.slice h_9, SV.bool true] w1 fun (r : SV) (w1_4
  : World) => ∃ (s : Sl), r = SV.slice s ∧ Keeps [b, b_1] w1 w1_4 ∧ Ret Try.prog 35 [SV.slice s] w1_4 fun (r : SV) (w1 : World) => ∃ (n_1 : Int), r = SV.int
  IntKind.i64 n_1 ∧ Keeps [b, b_1] w1_4 w1 ∧ Br (decide (wr IntKind.i64 (wr IntKind.i64 (20 + n) + (↑h_10.2 : Int)) ≤ mtu)) (∀ (w1_5 : World), Upd [b_1] []
  w1 w1_5 → tail13b h_0 h_1 h_2 h_3 h_4 h_5 h_6 h_7_0 h_7_1 h_8_0 h_8_1 h_9 h_10 w1_5 b b_1 R) (Br h_2 (∀ (w1_5 : World), Upd [b_1] [] w1 w1_5 → R (SV.tuple
  [SV.slice { ptr := none, len := 0, cap := 0 }, SV.int IntKind.i64 130]) w1_5) (∀ (w1_5 : World), Upd [b_1] [] w1 w1_5 → tail13a h_10 mtu n n_1 w1_5 b b_1
  h_0 h_1 h_2 h_3 h_4 h_5 h_6 h_7_0 h_7_1 h_8_0 h_8_1 h_9 R))) ∧ ∀ (b_1 : Nat), Upd [] [] w1 w1 ∧ ∀ (w1_2 : World), Upd [] [b_1] w1 w1_2 → Ret Try.prog 35
  [SV.slice h_9] w1_2 fun (r : SV) (w1_3 : World) => ∃ (n : Int), r = SV.int IntKind.i64 n ∧ Keeps [b, b_1] w1_2 w1_3 ∧ Upd [] [] w1 w1_3 ∧ Ret Try.prog 36
  [SV.slice h_9, SV.bool true] w1_3 fun (r : SV) (w1 : World) => ∃ (s : Sl), r = SV.slice s ∧ Keeps [b, b_1] w1_3 w1 ∧ Ret Try.prog 35 [SV.slice s] w1 fun
  (r : SV) (w1_4 : World) => ∃ (n_1 : Int), r = SV.int IntKind.i64 n_1 ∧ Keeps [b, b_1] w1 w1_4 ∧ Br (decide (wr IntKind.i64 (wr IntKind.i64 (20 + n) + (↑h_10.2
  : Int)) ≤ mtu)) (∀ (w1 : World), Upd [b_1] [] w1_4 w1 → tail13b h_0 h_1 h_2 h_3 h_4 h_5 h_6 h_7_0 h_7_1 h_8_0 h_8_1 h_9 h_10 w1 b b_1 R) (Br h_2 (∀ (w1
  : World), Upd [b_1] [] w1_4 w1 → R (SV.tuple [SV.slice { ptr := none, len := 0, cap := 0 }, SV.int IntKind.i64 130]) w1) (∀ (w1 : World), Upd [b_1] [] w1_4
  w1 → tail13a h_10 mtu n n_1 w1 b b_1 h_0 h_1 h_2 h_3 h_4 h_5 h_6 h_7_0 h_7_1 h_8_0 h_8_1 h_9 R))) → J w1) → Br (decide (mtu < 68)) (R (SV.tuple [SV.slice
  { ptr := none, len := 0, cap := 0 }, SV.int IntKind.i64 132]) w1_1) (Br (decide (mtu > 65535)) (R (SV.tuple [SV.slice { ptr := none, len := 0, cap := 0 },
  SV.int IntKind.i64 132]) w1_1) (some (SV.box b 28 (SV.struct [SV.int IntKind.i64 h_0, SV.int IntKind.i64 h_1, SV.bool h_2, SV.bool h_3, SV.int IntKind.i64
  h_4, SV.int IntKind.i64 h_5, SV.int IntKind.i64 h_6, SV.struct [SV.int IntKind.i64 h_7_0, SV.arr IntKind.u8 16 h_7_1], SV.struct [SV.int IntKind.i64 h_8_0,
  SV.arr IntKind.u8 16 h_8_1], SV.slice h_9, SV.slice h_10])) = some (SV.box b 28 (SV.struct [SV.int IntKind.i64 h_0, SV.int IntKind.i64 h_1, SV.bool h_2,
  SV.bool h_3, SV.int IntKind.i64 h_4, SV.int IntKind.i64 h_5, SV.int IntKind.i64 h_6, SV.struct [SV.int IntKind.i64 h_7_0, SV.arr IntKind.u8 16 h_7_1], SV.struct
  [SV.int IntKind.i64 h_8_0, SV.arr IntKind.u8 16 h_8_1], SV.slice h_9, SV.slice h_10])) ∧ J w1_1)))
theorem f13_of (h_0 : Int) (h_1 : Int) (h_2 : Bool) (h_3 : Bool) (h_4 : Int) (h_5 : Int) (h_6 : Int) (h_7_0 : Int) (h_7_1 : Nat → Int) (h_8_0 : Int) (h_8_1 : Nat → Int) (h_9 : Sl) (h_10 : Sl) (mtu : Int) (w : World) (R : SV → World → Prop) (hV : vc13 h_0 h_1 h_2 h_3 h_4 h_5 h_6 h_7_0 h_7_1 h_8_0 h_8_1 h_9 h_10 mtu w R) : Ret Try.prog 13 [.struct [.int .i64 h_0, .int .i64 h_1, .bool h_2, .bool h_3, .int .i64 h_4, .int .i64 h_5, .int .i64 h_6, .struct [.int .i64 h_7_0, .arr .u8 16 h_7_1], .struct [.int .i64 h_8_0, .arr .u8 16 h_8_1], .slice h_9, .slice h_10], .int .i64 mtu] w R :=
  have e : vc13 h_0 h_1 h_2 h_3 h_4 h_5 h_6 h_7_0 h_7_1 h_8_0 h_8_1 h_9 h_10 mtu w R = fnVC X Try.f13 a1013 [.struct [.int .i64 h_0, .int .i64 h_1, .bool h_2, .bool h_3, .int .i64 h_4, .int .i64 h_5, .int .i64 h_6, .struct [.int .i64 h_7_0, .arr .u8 16 h_7_1], .struct [.int .i64 h_8_0, .arr .u8 16 h_8_1], .slice h_9, .slice h_10], .int .i64 mtu] w R := by kernel_rfl
  fnVC_sound X_ok (n := a1013) (e ▸ hV) (by kernel_rfl) (by kernel_rfl) rfl rfl

end Go.Vc.Stop
end

section
open Go Go.Vc Go.Proofs
set_option linter.unusedVariables false
set_option linter.unusedSimpArgs false
set_option autoImplicit false
namespace Go.Vc.Stop
/-- a piece -/
def pcV (v : IpV) (c : Nat × Nat) : IpV := { v with opts := v.opts.filter (optF (decide (0 < c.1))), mf := decide (c.1 + c.2 < v.data.length), off := c.1, data := (v.data.take (c.1 + c.2)).drop c.1 }
/-- a piece in memory that is not behind the slice -/
structure PcOk (w : World) (N : Nat) (s : Sl) (a : IpC) : Prop where
  ex : ∃ os, Opts w a.so a.v.opts os ∧ FreshOs N w a.so os ∧ (∀ x ∈ a.so.blk, x ∉ s.blk) ∧ ∀ y ∈ os, ∀ x ∈ y.2.blk, x ∉ s.blk
  d : SeesB w a.sd a.v.data
  od : Own N 1 w a.sd
  dis : ∀ x ∈ a.sd.blk, x ∉ s.blk
theorem cuts_len (n m1 m2 : Nat) : ∀ f a, (cuts n m1 m2 f a).length ≤ f
  | 0, _ => by simp [cuts]
  | f + 1, a => by
    rw [cuts]
    split
    · simp
    · have := cuts_len n m1 m2 f (a + if n - a ≤ (if a = 0 then m1 else m2) then n - a else (if a = 0 then m1 else m2) / 8 * 8)
      simp only [List.length_cons]; omega
section
variable {N : Nat} {w w1 : World} {s : Sl} {a : IpC} {R : SV → World → Prop}
theorem PcOk.old {n : List Nat} (h : PcOk w N s a) (u : Upd [] n w w1) : PcOk w1 N s a := by
  obtain ⟨os, h1, ⟨h2, h3⟩, h4, h5⟩ := h.ex
  exact ⟨⟨os, h1.old u, ⟨h2.old u, fun x hx => (h3 x hx).old u⟩, h4, h5⟩, h.d.old u, h.od.old u, h.dis⟩
theorem PcOk.both {r : Sl} {n : List Nat} (h : PcOk w N s a) (u : Upd s.blk n w w1) (hn : ∀ x ∈ r.blk, x ∈ s.blk ∨ w.heap.size ≤ x) : PcOk w1 N r a := by
  obtain ⟨os, h1, ⟨h2, h3⟩, h4, h5⟩ := h.ex
  refine ⟨⟨os, h1.upd u h4 h5, ⟨h2.upd u h4, fun x hx => (h3 x hx).upd u (h5 x hx)⟩, fun x hx hm => ?_, fun y hy x hx hm => ?_⟩, h.d.upd u h.dis, h.od.upd u h.dis, fun x hx hm => ?_⟩
  · rcases hn x hm with q | q
    · exact h4 x hx q
    · have := (h2.blk x hx).2; omega
  · rcases hn x hm with q | q
    · exact h5 y hy x hx q
    · have := ((h3 y hy).blk x hx).2; omega
  · rcases hn x hm with q | q
    · exact h.dis x hx q
    · have := (h.od.blk x hx).2; omega
theorem ip_len (v : IpV) (s d : Sl) : (SV.cells (ipSV v s d)).length = 43 := by simp [SV.cells, SV.cellsL]
set_option maxRecDepth 20000 in
set_option maxHeartbeats 2000000 in
/-- the pieces laid one behind another -/
theorem t13a {v : IpV} {so sd : Sl} {os : List (Int × Sl)} {mtu n n1 : Int} {b b1 : Nat} (hO : Opts w so v.opts os) (hl : v.opts.length ≤ 4398046511000) (hod : ∀ o ∈ v.opts, o.data.length ≤ 140737488351232) (hD : SeesB w sd v.data) (hcap : sd.len ≤ sd.cap) (hdl : 0 < v.data.length ∧ v.data.length ≤ 65535)
    (hmf : v.mf = false) (ho : v.off = 0) (hm : 68 ≤ mtu ∧ mtu ≤ 65535) (h1 : 0 ≤ n ∧ n ≤ 40) (h2 : 0 ≤ n1 ∧ n1 ≤ 40) (hb : b < w.heap.size) (hb1 : b1 < w.heap.size)
    (k : ∀ s (l : List IpC) w1, Upd [] [] w w1 → Sees cIp w1 s l → l.map (·.v) = (cuts v.data.length (mtu - (20 + n)).toNat (mtu - (20 + n1)).toNat (v.data.length + 1) 0).map (pcV v) → (∀ a ∈ l, PcOk w1 w.heap.size s a) → R (.tuple [.slice s, .int .i64 0]) w1) :
    tail13a sd mtu n n1 w b b1 v.tos v.id v.df v.mf v.off v.ttl v.proto v.sv v.sa v.dv v.da so R := by
  unfold tail13a
  rw [wr_i64 (x := 20 + n) (by omega) (by omega), wr_i64 (x := 20 + n1) (by omega) (by omega)]
  refine c38 hD hcap (by omega) hm.2 (by omega) (by omega) fun sz z w0 U0 hSz hz hPz oSz => ⟨_, rfl, kp U0, ?_⟩
  have z0 := U0.size
  have hszl := hSz.len
  simp only [List.length_map] at hszl
  refine ⟨fun s i w' => Upd [] [] w0 w' ∧ ∃ (q : Nat) (l : List IpC), i = q ∧ q ≤ z.length ∧ Sees cIp w' s l ∧ Own w0.heap.size 43 w' s ∧ l.map (·.v) = (z.take q).map (fun p => pcV v p.2) ∧ ∀ a ∈ l, PcOk w' w.heap.size s a, fun _ i _ => (z.length - i).toNat,
    ⟨Upd.refl _, 0, [], rfl, by omega, Sees.nil _ _ _ _, Own.none _ _ _, by simp, by simp⟩, ?_⟩
  rintro s i w1 ⟨U1, q, l, rfl, hq, hS, oS, hlv, hok⟩
  refine brd (fun hlt => ?_) (fun hge => ?_)
  · have hq2 : q < z.length := by omega
    have hSz1 := hSz.old U1
    have he := hSz1.elem (i := q) (by simpa using hq2)
    obtain ⟨p1, p2, p3, p4, p5⟩ := hPz _ (List.getElem_mem hq2)
    have ez : (z.map (·.1))[q]'(by simpa using hq2) = z[q].1 := by simp
    rw [ez] at he
    have e0 := he 0 (by simp [cPart])
    have e1 := he 1 (by simp [cPart])
    have e2 := he 2 (by simp [cPart])
    rw [add_zero] at e0
    have hzc : ∀ p ∈ z, p.1.1 = p.2.1 := fun p hp => (hPz p hp).at_
    have hl_ : l.length = q := by
      have := congrArg List.length hlv
      simp at this
      omega
    have hzl : z.length ≤ 100000 := by
      have := congrArg List.length hz
      have c := cuts_len v.data.length (mtu - (20 + n)).toNat (mtu - (20 + n1)).toNat (v.data.length + 1) 0
      simp only [List.length_map] at this
      omega
    refine needIx (by omega) (by omega) (hSz1.isSome (by decide) (by simp only [List.length_map]; omega)) ⟨z[q].1.1, by rw [Int.toNat_natCast]; exact e0, z[q].1.2.1, by rw [Int.toNat_natCast]; exact e1, z[q].1.2.2, by rw [Int.toNat_natCast]; exact e2, ?_⟩
    intro b2 b3 w2 u2 hr2 hoff
    have n3 := u2.new (b := b3) (by simp)
    have n2 := u2.new (b := b2) (by simp)
    have B2 : Blk w2 b3 (SV.cells (ipSV v so sd)) := Blk.row hr2
    have z2 := u2.size
    have z1 := U1.size
    have hoff' : b3 ∉ [b, b1, b2] := hoff
    refine ⟨[], by simp, ?_⟩
    have kn : ∀ (x y : World), Kept [] x y := fun x y b hb => by simp at hb
    have bS := oS.blk
    have p1n : z[q].1.1 = ((z[q].2.1 : Nat) : Int) := p1
    have hwr : wr .i64 (v.off + z[q].1.1) = z[q].1.1 := by rw [ho, p1n, wr_i64 (by omega) (by omega)]; omega
    have st3 : ∀ (m' : Bool) (w3 : World), Upd [] [] w2 w3 → ∀ F : World → Prop, (∀ w6, Upd [b3] [] w2 w6 → Blk w6 b3 (SV.cells (ipSV { v with off := z[q].1.1, mf := m' } so z[q].1.2.1)) → F w6) →
        Store w3 ((⟨b3, 0, none⟩ : Addr).add 4) (SV.cells (.int .i64 (wr .i64 (v.off + z[q].1.1)))) [b, b1, b2] fun w4 => Kept [] w2 w4 ∧ Store w4 ((⟨b3, 0, none⟩ : Addr).add 42) (SV.cells (.slice z[q].1.2.1)) [b, b1, b2] fun w5 => Kept [] w2 w5 ∧ Store w5 ((⟨b3, 0, none⟩ : Addr).add 3) (SV.cells (.bool m')) [b, b1, b2] F := by
      intro m' w3 u3 F hF
      rw [hwr]
      refine Blk.store (o := 4) (vs := [.int .i64 z[q].1.1]) (B2.old u3) (by rw [ip_len]; simp) hoff' fun w4 B4 u4 => ⟨kn _ _, ?_⟩
      have B4 : Blk w4 b3 (SV.cells (ipSV { v with off := z[q].1.1 } so sd)) := B4
      refine Blk.store (o := 42) (vs := [z[q].1.2.1.val]) B4 (by rw [ip_len]; simp) hoff' fun w5 B5 u5 => ⟨kn _ _, ?_⟩
      have B5 : Blk w5 b3 (SV.cells (ipSV { v with off := z[q].1.1 } so z[q].1.2.1)) := B5
      refine Blk.store (o := 3) (vs := [.bool m']) B5 (by rw [ip_len]; simp) hoff' fun w6 B6 u6 => ?_
      have B6 : Blk w6 b3 (SV.cells (ipSV { v with off := z[q].1.1, mf := m' } so z[q].1.2.1)) := B6
      exact hF w6 (((u3.wide (m' := [b3]) (by simp)).step u4 (fun x hx => .inr hx)).step u5 (fun x hx => .inr hx) |>.step u6 (fun x hx => .inr hx)) B6
    have fin : ∀ (m' : Bool) (w6 w7 w8 w9 : World) (s5 : Sl) (os5 : List (Int × Sl)) (b9 : Nat), b3 < w6.heap.size → m' = decide (z[q].2.1 + z[q].2.2 < v.data.length) → Upd [] [] w1 w6 → Upd [] [] w6 w7 → Opts w7 s5 (v.opts.filter (optF (decide (z[q].1.1 > 0)))) os5 → FreshOs w6.heap.size w7 s5 os5 → Upd [b3] [] w7 w8 → Upd [] [b9] w8 w9 → w9.heap[b9]? = some (.cells (SV.struct [ipSV { v with off := z[q].1.1, mf := m' } s5 z[q].1.2.1]).cells.toArray 28 (0, 0)) → ∀ Q : Sl → World → Prop,
        (∀ r w10, (Upd [] [] w0 w10 ∧ ∃ (q' : Nat) (l : List IpC), wr .i64 ((q : Int) + 1) = q' ∧ q' ≤ z.length ∧ Sees cIp w10 r l ∧ Own w0.heap.size 43 w10 r ∧ l.map (·.v) = (z.take q').map (fun p => pcV v p.2) ∧ ∀ a ∈ l, PcOk w10 w.heap.size r a) ∧ (z.length - wr .i64 ((q : Int) + 1)).toNat < (z.length - (q : Int)).toNat → Q r w10) → Vc.Append 28 43 144 s ⟨some ⟨b9, 0, none⟩, 1, 1⟩ [b, b1, b2] w9 Q := by
      intro m' w6 w7 w8 w9 s5 os5 b9 b3lt hm' v16 u7 hO7 hF7 u8 u9 hr9 Q hQ
      have z16 := v16.size; have z67 := u7.size; have z78 := u8.size; have z89 := u9.size
      have V19 : Upd [] [] w1 w9 := ((v16.then u7).step0 u8 (by simp; omega)).then u9
      have hdc : decide (z[q].1.1 > 0) = decide (0 < z[q].2.1) := by rw [p1n]; simp
      rw [hdc] at hO7
      refine append_own (c := cIp) (new := [⟨pcV v z[q].2, s5, z[q].1.2.1⟩]) (hS.old V19) (oS.old V19) (rowIp (v := pcV v z[q].2) hr9 (by simp [SV.cells, SV.cellsL, pcV, p1n, hm'])) (by have := V19.size; omega) (fun x hx hm => by
        have := bS x hx
        simp only [List.mem_cons, List.not_mem_nil, or_false] at hm
        rcases hm with e | e | e <;> subst e <;> omega) (by decide) (by simp; omega) fun r w10 hr ho10 u10 hn => hQ r w10 ⟨⟨(U1.then V19).step0 u10 (fun x hx => (bS x hx).1), q + 1, l ++ [⟨pcV v z[q].2, s5, z[q].1.2.1⟩], wr_succ (by omega), by omega, hr, ho10, by rw [take_snoc hq2, List.map_append, List.map_append, hlv]; rfl, fun a ha => ?_⟩, by rw [wr_succ (q := q) (by omega)]; omega⟩
      rcases List.mem_append.1 ha with ha | ha
      · exact ((hok a ha).old V19).both u10 hn
      · rw [List.mem_singleton] at ha
        subst ha
        have nb3 : ∀ x, w6.heap.size ≤ x → x ∉ [b3] := fun x hx hm => by simp at hm; omega
        have h8 := (hO7.upd u8 (fun x hx => nb3 x (hF7.1.blk x hx).1) (fun y hy x hx => nb3 x ((hF7.2 y hy).blk x hx).1)).old u9
        have Nle : w.heap.size ≤ w6.heap.size := by omega
        have new9 : PcOk w9 w.heap.size s ⟨pcV v z[q].2, s5, z[q].1.2.1⟩ := ⟨⟨os5, h8, ⟨((hF7.1.upd u8 (fun x hx => nb3 x (hF7.1.blk x hx).1)).old u9).mono Nle, fun y hy => ((((hF7.2 y hy).upd u8 (fun x hx => nb3 x ((hF7.2 y hy).blk x hx).1)).old u9)).mono Nle⟩, fun x hx hm => by have := (hF7.1.blk x hx).1; have := (bS x hm).2; omega, fun y hy x hx hm => by have := ((hF7.2 y hy).blk x hx).1; have := (bS x hm).2; omega⟩, (p2.old U1).old V19, (p3.old U1).old V19, fun x hx hm => by have := (p3.blk x hx).2; have := (bS x hm).1; omega⟩
        exact new9.both u10 hn
    have hlast : z[q].1.2.2 = decide (v.data.length ≤ z[q].2.1 + z[q].2.2) := p4
    refine brn (fun hl0 w3 u3 => ?_) (fun hl0 w3 u3 => ?_)
    · have hm' : true = decide (z[q].2.1 + z[q].2.2 < v.data.length) := by
        rw [hl0] at hlast
        have := of_decide_eq_false hlast.symm
        rw [decide_eq_true (by omega)]
      refine st3 true w3 u3 _ fun w6 u6 B6 => ?_
      have v6 : Upd [] [] w w6 := ((U0.then U1).then u2).step0 u6 (by simp; omega)
      have v16 : Upd [] [] w1 w6 := u2.forget.step0 u6 (by simp; omega)
      refine c36 (hO.old v6) hl hod fun s5 os5 w7 u7 hO7 oS7 oO7 => ⟨_, rfl, kp u7, ?_⟩
      have B7 := B6.old u7
      refine Blk.store (o := 41) (vs := [s5.val]) B7 (by rw [ip_len]; simp) hoff' fun w8 B8 u8 => ?_
      have B8 : Blk w8 b3 (SV.cells (ipSV { v with off := z[q].1.1, mf := true } s5 z[q].1.2.1)) := B8
      have c8 : ∀ i (x : Value), (SV.cells (ipSV { v with off := z[q].1.1, mf := true } s5 z[q].1.2.1))[i]? = some x → w8.cell? ((⟨b3, 0, none⟩ : Addr).add i) = some x := fun i x hx => B8.at_ i hx
      refine ⟨_, B8.at0 rfl, _, c8 1 _ rfl, _, c8 2 _ rfl, _, c8 3 _ rfl, _, c8 4 _ rfl, _, c8 5 _ rfl, _, c8 6 _ rfl, _, c8 7 _ rfl, v.sa, fun q hq => c8 (8 + q) _ ?_, _, c8 24 _ rfl, v.da, fun q hq => c8 (25 + q) _ ?_, _, c8 41 _ rfl, _, c8 42 _ rfl, ?_⟩
      · rcases q with _ | _ | _ | _ | _ | _ | _ | _ | _ | _ | _ | _ | _ | _ | _ | _ | q <;> first | rfl | omega
      · rcases q with _ | _ | _ | _ | _ | _ | _ | _ | _ | _ | _ | _ | _ | _ | _ | _ | q <;> first | rfl | omega
      intro b9 w9 u9 hr9
      exact fin true w6 w7 w8 w9 s5 os5 b9 (by have := u6.size; omega) hm' v16 u7 hO7 ⟨oS7, oO7⟩ u8 u9 hr9 _ fun r w10 hq' => by (repeat refine And.intro rfl ?_); exact hq'
    · have hm' : v.mf = decide (z[q].2.1 + z[q].2.2 < v.data.length) := by
        rw [hl0] at hlast
        have := of_decide_eq_true hlast.symm
        rw [hmf, decide_eq_false (by omega)]
      refine st3 v.mf w3 u3 _ fun w6 u6 B6 => ?_
      have v6 : Upd [] [] w w6 := ((U0.then U1).then u2).step0 u6 (by simp; omega)
      have v16 : Upd [] [] w1 w6 := u2.forget.step0 u6 (by simp; omega)
      refine c36 (hO.old v6) hl hod fun s5 os5 w7 u7 hO7 oS7 oO7 => ⟨_, rfl, kp u7, ?_⟩
      have B7 := B6.old u7
      refine Blk.store (o := 41) (vs := [s5.val]) B7 (by rw [ip_len]; simp) hoff' fun w8 B8 u8 => ?_
      have B8 : Blk w8 b3 (SV.cells (ipSV { v with off := z[q].1.1, mf := v.mf } s5 z[q].1.2.1)) := B8
      have c8 : ∀ i (x : Value), (SV.cells (ipSV { v with off := z[q].1.1, mf := v.mf } s5 z[q].1.2.1))[i]? = some x → w8.cell? ((⟨b3, 0, none⟩ : Addr).add i) = some x := fun i x hx => B8.at_ i hx
      refine ⟨_, B8.at0 rfl, _, c8 1 _ rfl, _, c8 2 _ rfl, _, c8 3 _ rfl, _, c8 4 _ rfl, _, c8 5 _ rfl, _, c8 6 _ rfl, _, c8 7 _ rfl, v.sa, fun q hq => c8 (8 + q) _ ?_, _, c8 24 _ rfl, v.da, fun q hq => c8 (25 + q) _ ?_, _, c8 41 _ rfl, _, c8 42 _ rfl, ?_⟩
      · rcases q with _ | _ | _ | _ | _ | _ | _ | _ | _ | _ | _ | _ | _ | _ | _ | _ | q <;> first | rfl | omega
      · rcases q with _ | _ | _ | _ | _ | _ | _ | _ | _ | _ | _ | _ | _ | _ | _ | _ | q <;> first | rfl | omega
      intro b9 w9 u9 hr9
      exact fin v.mf w6 w7 w8 w9 s5 os5 b9 (by have := u6.size; omega) hm' v16 u7 hO7 ⟨oS7, oO7⟩ u8 u9 hr9 _ fun r w10 hq' => by (repeat refine And.intro rfl ?_); exact hq'
  · have : q = z.length := by omega
    subst this
    rw [List.take_length] at hlv
    refine k s l w1 (U0.then U1) hS ?_ hok
    rw [hlv, ← hz, List.map_map]
    rfl
end
end Go.Vc.Stop
end

section
open Go Go.Vc Go.Proofs
set_option linter.unusedVariables false
set_option linter.unusedSimpArgs false
set_option autoImplicit false
namespace Go.Vc.Stop
def cutP (v : IpV) (mtu : Int) : List (Nat × Nat) := cuts v.data.length (mtu - (20 + ((putL v.opts).length : Int))).toNat (mtu - (20 + ((putL (v.opts.filter (optF true))).length : Int))).toNat (v.data.length + 1) 0
def pcsV (v : IpV) (mtu : Int) : List IpV := if fitsV v mtu then [v] else (cutP v mtu).map (pcV v)
section
variable {w : World} {R : SV → World → Prop}
set_option maxRecDepth 20000 in
set_option maxHeartbeats 2000000 in
theorem c13 {v : IpV} {so sd : Sl} {os : List (Int × Sl)} {mtu : Int} (hO : Opts w so v.opts os) (hl : v.opts.length ≤ 4398046511000) (hod : ∀ o ∈ v.opts, o.data.length ≤ 140737488351232) (hD : SeesB w sd v.data) (hcap : sd.len ≤ sd.cap) (hdl : v.data.length ≤ 140737488351232)
    (hc : ipChk v = 0) (hmf : v.mf = false) (ho : v.off = 0) (hdf : v.df = false) (hm : 68 ≤ mtu ∧ mtu ≤ 65535)
    (k : ∀ s (l : List IpC) w1, Upd [] [] w w1 → Sees cIp w1 s l → l.map (·.v) = pcsV v mtu → (∀ a ∈ l, PcOk w1 w.heap.size s a) → R (.tuple [.slice s, .int .i64 0]) w1) : Ret Try.prog 13 [ipSV v so sd, .int .i64 mtu] w R := by
  refine f13_of _ _ _ _ _ _ _ _ _ _ _ _ _ _ _ _ ?_
  unfold vc13
  have hdd := hD.len
  obtain ⟨_, _, _, _, _, _, _, hp, hlen, _⟩ := ipChk_ok hc
  have pl := (putO_len hp).1
  have hpL : putL v.opts = putO v.opts := by unfold putL; rw [if_pos hp]
  have hp2 : putOk (v.opts.filter (optF true)) := putOk_filter _ hp
  have pl1 := putL_len v.opts
  have pl2 := putL_len (v.opts.filter (optF true))
  intro b w1 u1
  have nb := u1.new (b := b) (by simp)
  refine c23 (v := v) (hO.old u1) (by omega) (fun o ho => by have := hod o ho; omega) (hD.old u1).len (by omega) fun w2 u2 => ⟨_, rfl, kp u2, brf (by simp [hc]) ?_⟩
  intro J hJ
  refine brd (fun _ => by omega) (fun _ => brd (fun _ => by omega) (fun _ => ?_))
  (repeat refine And.intro rfl ?_)
  refine hJ _ ?_
  clear hJ
  have v2 := u1.then u2
  have z1 := u1.size; have z2 := u2.size
  have lfew : (v.opts.filter (optF true)).length ≤ 4398046511000 := Nat.le_trans (List.length_filter_le _ _) hl
  have lsm : ∀ o ∈ v.opts.filter (optF true), o.data.length ≤ 140737488351232 := fun o ho => hod o (List.mem_filter.1 ho).1
  have ta : ∀ (w3 : World) (b1 : Nat), Upd [] [] w2 w3 → b1 < w3.heap.size → ¬ fitsV v mtu → tail13a sd mtu ((putL v.opts).length : Int) ((putL (v.opts.filter (optF true))).length : Int) w3 b b1 v.tos v.id v.df v.mf v.off v.ttl v.proto v.sv v.sa v.dv v.da so R := fun w3 b1 u3 hb1 hnf => by
    have v3 := v2.then u3
    have z3 := u3.size
    unfold fitsV at hnf
    refine t13a (hO.old v3) hl hod (hD.old v3) hcap (by omega) hmf ho hm (by omega) (by omega) (by omega) hb1 fun s l w4 u4 hs hv hok => ?_
    refine k s l w4 (v3.then u4) hs (by unfold pcsV; rw [if_neg (show ¬ fitsV v mtu by unfold fitsV; omega)]; exact hv) (fun a ha => ?_)
    obtain ⟨os', h1, ⟨h2, h3⟩, h4, h5⟩ := (hok a ha).ex
    exact ⟨⟨os', h1, ⟨h2.mono v3.size, fun x hx => (h3 x hx).mono v3.size⟩, h4, h5⟩, (hok a ha).d, (hok a ha).od.mono v3.size, (hok a ha).dis⟩
  have tb : ∀ (w3 : World) (b1 : Nat), Upd [] [] w2 w3 → fitsV v mtu → tail13b v.tos v.id v.df v.mf v.off v.ttl v.proto v.sv v.sa v.dv v.da so sd w3 b b1 R := fun w3 b1 u3 hf => by
    have v3 := v2.then u3
    unfold tail13b
    refine c37 (v := v) (hO.old v3) hl hod (hD.old v3) hdl fun s os4 d w4 u4 hO4 hF4 hD4 oD4 => ⟨_, _, _, _, _, _, _, _, _, _, _, _, _, rfl, kp u4, ?_⟩
    intro b9 w9 u9 hr9
    have n9 := u9.new (b := b9) (by simp)
    have fresh : ∀ x, x < w4.heap.size → x ∉ (⟨some ⟨b9, 0, none⟩, 1, 1⟩ : Sl).blk := fun x hx hm => by simp [Sl.blk] at hm; omega
    refine k _ [⟨v, s, d⟩] w9 ((v3.then u4).then u9) (rowIp hr9 (by simp [SV.cells, SV.cellsL])) (by unfold pcsV; rw [if_pos hf]; rfl) (fun a ha => ?_)
    rw [List.mem_singleton] at ha
    subst ha
    exact ⟨⟨os4, hO4.old u9, ⟨(hF4.1.old u9).mono v3.size, fun x hx => ((hF4.2 x hx).old u9).mono v3.size⟩, fun x hx => fresh x (hF4.1.blk x hx).2, fun y hy x hx => fresh x ((hF4.2 y hy).blk x hx).2⟩, hD4.old u9, (oD4.old u9).mono v3.size, fun x hx => fresh x (oD4.blk x hx).2⟩
  have cond : (wr .i64 (wr .i64 (20 + ((putL v.opts).length : Int)) + (sd.len : Int)) ≤ mtu) ↔ fitsV v mtu := by
    rw [wr_i64 (x := 20 + ((putL v.opts).length : Int)) (by omega) (by omega), wr_i64 (by omega) (by omega), hpL]
    unfold fitsV
    omega
  -- the three calls, wherever the struct's block is made
  have c35a : ∀ (w3 : World), Upd [] [] w2 w3 → ∀ Q : SV → World → Prop, (∀ w4, Upd [] [] w3 w4 → Q (.int .i64 ((putL v.opts).length : Int)) w4) → Ret Try.prog 35 [.slice so] w3 Q := fun w3 u3 Q hQ => c35 (hO.old (v2.then u3)) hl hod hQ
  have c36a : ∀ (w3 : World), Upd [] [] w2 w3 → ∀ Q : SV → World → Prop, (∀ s os' w4, Upd [] [] w3 w4 → Opts w4 s (v.opts.filter (optF true)) os' → Q (.slice s) w4) → Ret Try.prog 36 [.slice so, .bool true] w3 Q := fun w3 u3 Q hQ => c36 (hO.old (v2.then u3)) hl hod fun s os' w4 u4 h4 _ _ => hQ s os' w4 u4 h4
  refine ⟨fun w3 u3 => c35a w3 u3.forget _ fun w4 u4 => ⟨_, rfl, kp u4, u3.then u4, ?_⟩, fun b1 => ⟨Upd.refl _, fun w3 u3 => c35a w3 u3.forget _ fun w4 u4 => ⟨_, rfl, kp u4, u3.forget.then u4, ?_⟩⟩⟩
  · have v4 := u3.then u4
    refine ⟨c36a w4 v4 _ fun s os' w5 u5 hO5 => ⟨_, rfl, kp u5, ?_⟩, fun b1 => ⟨v4, fun w5 u5 => ?_⟩⟩
    · have v5 := v4.then u5
      refine ⟨c35 hO5 lfew lsm fun w6 u6 => ⟨_, rfl, kp u6, fun b1 => ⟨v5.then u6, ?_⟩⟩, fun b1 => ⟨v5, fun w6 u6 => ?_⟩⟩
      · have v6 := v5.then u6
        exact brd (fun h w7 u7 => tb w7 b1 (v6.then u7) (cond.1 h)) (fun h => brf hdf fun w7 u7 => ta w7 b1 (v6.then u7) (u7.new (b := b1) (by simp)).2 (fun hf => h (cond.2 hf)))
      · have n1 := u6.new (b := b1) (by simp)
        have v6 := v5.then u6
        refine c35 (hO5.old u6) lfew lsm fun w7 u7 => ⟨_, rfl, kp u7, ?_⟩
        have v7 := v6.then u7
        have z5 := v5.size; have z7 := u7.size
        exact brd (fun h w8 u8 => tb w8 b1 (v7.step0 u8 (by simp; omega)) (cond.1 h)) (fun h => brf hdf fun w8 u8 => ta w8 b1 (v7.step0 u8 (by simp; omega)) (by have := u8.size; omega) (fun hf => h (cond.2 hf)))
    · have n1 := u5.new (b := b1) (by simp)
      have v5 := v4.then u5
      refine c36a w5 v5 _ fun s os' w6 u6 hO6 => ⟨_, rfl, kp u6, ?_⟩
      refine c35 hO6 lfew lsm fun w7 u7 => ⟨_, rfl, kp u7, ?_⟩
      have v7 := (v5.then u6).then u7
      have z4 := v4.size; have z6 := u6.size; have z7 := u7.size
      exact brd (fun h w8 u8 => tb w8 b1 (v7.step0 u8 (by simp; omega)) (cond.1 h)) (fun h => brf hdf fun w8 u8 => ta w8 b1 (v7.step0 u8 (by simp; omega)) (by have := u8.size; omega) (fun hf => h (cond.2 hf)))
  · have n1 := u3.new (b := b1) (by simp)
    have v4 := u3.forget.then u4
    refine c36a w4 v4 _ fun s os' w6 u6 hO6 => ⟨_, rfl, kp u6, ?_⟩
    refine c35 hO6 lfew lsm fun w7 u7 => ⟨_, rfl, kp u7, ?_⟩
    have v7 := (v4.then u6).then u7
    have z4 := u4.size; have z6 := u6.size; have z7 := u7.size
    exact brd (fun h w8 u8 => tb w8 b1 (v7.step0 u8 (by simp; omega)) (cond.1 h)) (fun h => brf hdf fun w8 u8 => ta w8 b1 (v7.step0 u8 (by simp; omega)) (by have := u8.size; omega) (fun hf => h (cond.2 hf)))
end
end Go.Vc.Stop
end

section
open Go Go.Vc Go.Proofs
set_option linter.unusedVariables false
set_option linter.unusedSimpArgs false
set_option autoImplicit false
namespace Go.Vc.Stop
theorem cuts_ok {n m1 m2 : Nat} (h1 : 8 ≤ m1) (h2 : 8 ≤ m2) : ∀ f a, n - a < f → (a % 8 = 0 ∨ n ≤ a) → (∀ c ∈ cuts n m1 m2 f a, a ≤ c.1 ∧ c.1 % 8 = 0 ∧ 0 < c.2 ∧ c.1 + c.2 ≤ n ∧ (c.1 + c.2 < n → c.2 % 8 = 0)) ∧ (∀ i, a ≤ i → i < n → ∃ c ∈ cuts n m1 m2 f a, c.1 ≤ i ∧ i < c.1 + c.2) ∧ (cuts n m1 m2 f a).Pairwise (fun p q => p.1 + p.2 ≤ q.1)
  | 0, a, hf, _ => by omega
  | f + 1, a, hf, ha => by
    by_cases hn : n ≤ a
    · rw [cuts_end hn]
      exact ⟨by simp, fun i i1 i2 => by omega, List.Pairwise.nil⟩
    · generalize hm0 : (if a = 0 then m1 else m2) = m
      have hm : 8 ≤ m := by rw [← hm0]; split <;> assumption
      generalize hk : (if n - a ≤ m then n - a else m / 8 * 8) = kk
      obtain ⟨k1, k2, k3⟩ := cuts_k (n := n) (at_ := a) (m := m) (by omega) hm hk.symm
      obtain ⟨f', ef, es⟩ := cuts_step (m1 := m1) (m2 := m2) (f := f + 1) (at_ := a) (n := n) (by omega) hf (k := kk) (by rw [hm0, hk])
      have : f' = f := by omega
      subst this
      obtain ⟨i1, i2, i3⟩ := cuts_ok (n := n) h1 h2 f' (a + kk) (by omega) (by
        by_cases hq : a + kk < n
        · have := k3 hq; left; omega
        · right; omega)
      rw [es]
      refine ⟨fun c hc => ?_, fun i j1 j2 => ?_, List.pairwise_cons.2 ⟨fun c hc => (i1 c hc).1, i3⟩⟩
      · rcases List.mem_cons.1 hc with rfl | hc
        · exact ⟨by simp, by simp; omega, k1, k2, k3⟩
        · have := i1 c hc
          exact ⟨by omega, this.2⟩
      · by_cases hi : i < a + kk
        · exact ⟨_, List.mem_cons_self .., j1, hi⟩
        · obtain ⟨c, hc, q⟩ := i2 i (by omega) j2
          exact ⟨c, List.mem_cons_of_mem _ hc, q⟩
/-- a piece's place, bytes, more -/
def trip (D : List Int) (c : Nat × Nat) : Int × List Int × Bool := ((c.1 : Int), (D.take (c.1 + c.2)).drop c.1, decide (c.1 + c.2 < D.length))
theorem trip_len {D : List Int} {c : Nat × Nat} (h : c.1 + c.2 ≤ D.length) : (trip D c).2.1.length = c.2 := by simp [trip]; omega
theorem cutting {D : List Int} {m1 m2 f : Nat} (h1 : 8 ≤ m1) (h2 : 8 ≤ m2) (hf : D.length < f) : Cutting D ((cuts D.length m1 m2 f 0).map (trip D)) := by
  obtain ⟨a, b, c⟩ := cuts_ok (n := D.length) h1 h2 f 0 (by omega) (.inl rfl)
  refine ⟨fun p hp => ?_, fun i i0 i1 => ?_, ?_⟩
  · obtain ⟨x, hx, rfl⟩ := List.mem_map.1 hp
    obtain ⟨x1, x2, x3, x4, x5⟩ := a x hx
    have hl := trip_len x4
    refine ⟨by show (0 : Int) ≤ (x.1 : Int); omega, by show (x.1 : Int) % 8 = 0; omega, by rw [hl]; exact x3, by rw [hl]; show (x.1 : Int) + (x.2 : Int) ≤ D.length; omega, ?_, ?_, fun hm => ?_⟩
    · rw [hl]
      show (D.take (x.1 + x.2)).drop x.1 = (D.drop (x.1 : Int).toNat).take x.2
      rw [Int.toNat_natCast, List.drop_take, Nat.add_sub_cancel_left]
    · rw [hl]
      show decide (x.1 + x.2 < D.length) = decide ((x.1 : Int) + (x.2 : Int) < (D.length : Int))
      rw [decide_eq_decide]
      omega
    · rw [hl]
      have := of_decide_eq_true hm
      exact_mod_cast x5 this
  · obtain ⟨x, hx, q1, q2⟩ := b i.toNat (by omega) (by omega)
    obtain ⟨k, hk⟩ := List.getElem?_of_mem (List.mem_map_of_mem (f := trip D) hx)
    have hl := trip_len (a x hx).2.2.2.1
    exact ⟨k, _, hk, by simp [trip]; omega, by rw [hl]; simp [trip]; omega⟩
  · rw [List.pairwise_map]
    refine List.Pairwise.imp_of_mem (fun {p q} hp hq h => ?_) c
    have hl := trip_len (a p hp).2.2.2.1
    rw [hl]
    simp [trip]
    omega
end Go.Vc.Stop
end

section
open Go Go.Vc Go.Proofs
set_option linter.unusedVariables false
set_option linter.unusedSimpArgs false
set_option autoImplicit false
namespace Go.Vc.Stop
theorem iand128 : ∀ k : Fin 256, (iand .i64 (k.val : Int) 128 != 0) = decide ((k.val : Int) ≥ 128) := by decide +kernel
theorem optF_true {o : Opt} (h : okO o) : optF true o = decide (o.kind ≥ 128) := by
  obtain ⟨h1, h2, _⟩ := h
  have := iand128 ⟨o.kind.toNat, by omega⟩
  simp only [Int.toNat_of_nonneg (show 0 ≤ o.kind by omega)] at this
  unfold optF
  rw [this]; rfl
theorem filter_true {v : IpV} (h : putOk v.opts) : v.opts.filter (optF true) = copL v := by
  unfold copL
  exact List.filter_congr fun o ho => optF_true (h.1 o ho)
theorem cut_same {v : IpV} {mtu : Int} (h : putOk v.opts) : cutP v mtu = cutV v mtu := by
  unfold cutP cutV m1 m2
  rw [filter_true h]
  unfold putL
  rw [if_pos h, if_pos (show putOk (copL v) from putOk_filter _ h)]
theorem pad4_mono {a b : List Int} (h : a.length ≤ b.length) : (pad4 a).length ≤ (pad4 b).length := by
  have h1 := pad4_len a
  have h2 := pad4_len b
  omega
/-- a piece may be sent -/
theorem pcV_chk {v : IpV} {c : Nat × Nat} (hc : ipChk v = 0) (h1 : c.1 % 8 = 0) (h2 : 0 < c.2) (h3 : c.1 + c.2 ≤ v.data.length) (h4 : c.1 + c.2 < v.data.length → c.2 % 8 = 0) : ipChk (pcV v c) = 0 := by
  have hb : ¬ badF v := fun hb => by rw [bad68 hb] at hc; cases hc
  obtain ⟨_, _, _, _, _, _, _, hp, hlen, _⟩ := ipChk_ok hc
  unfold hdL at hlen
  have hb' : ¬ badF (pcV v c) := by
    rintro (x | x | x | x | x | x | x | x)
    · exact hb (.inl x)
    · exact hb (.inr (.inl x))
    · have : outN ((c.1 : Nat) : Int) 65528 := x
      unfold outN at this
      omega
    · have : ((c.1 : Nat) : Int) % 8 ≠ 0 := x
      omega
    · exact hb (.inr (.inr (.inr (.inr (.inl x)))))
    · exact hb (.inr (.inr (.inr (.inr (.inr (.inl x))))))
    · exact hb (.inr (.inr (.inr (.inr (.inr (.inr (.inl x)))))))
    · exact hb (.inr (.inr (.inr (.inr (.inr (.inr (.inr x)))))))
  have hp' : putOk (pcV v c).opts := putOk_filter _ hp
  have hdl : (pcV v c).data.length = c.2 := by simp [pcV]; omega
  have hpl : (putO (pcV v c).opts).length ≤ (putO v.opts).length := pad4_mono (flat_filter _ _)
  rw [chk66 hb' hp' (by rw [hdl]; omega), if_neg]
  rw [hdl]
  show ¬ frag (decide (c.1 + c.2 < v.data.length)) ((c.1 : Nat) : Int) ((c.2 : Nat) : Int)
  unfold frag
  rintro (⟨hm, hx⟩ | hx)
  · have := h4 (of_decide_eq_true hm)
    omega
  · omega
/-- the first piece has all options -/
theorem pcV_first (v : IpV) {k : Nat} : (pcV v (0, k)).opts = v.opts := by
  show v.opts.filter (optF (decide (0 < 0))) = v.opts
  exact filter_all _
end Go.Vc.Stop
end

section
open Go Go.Vc Go.Proofs
set_option linter.unusedVariables false
set_option linter.unusedSimpArgs false
set_option autoImplicit false
namespace Go.Vc.Stop
def St012 (c : Cv) : Prop := c.state = 0 ∨ c.state = 1 ∨ c.state = 2
theorem stC_began (c : Cv) (v : IpV) : (stC c v).began = c.began := by unfold stC; split <;> rfl
theorem accR_shape {T1 T' : Tv} {i : Nat} {c2 : Cv} {out : IpV} {o e : Int} (h : Acc T1 i c2 T' out o e) (h0 : St012 c2) : ∃ c', T' = { T1 with cs := T1.cs.set i c' } ∧ c'.key = c2.key ∧ c'.began = c2.began ∧ St012 c' := by
  cases h with
  | held _ => exact ⟨c2, rfl, rfl, rfl, h0⟩
  | bad _ _ => exact ⟨_, rfl, rfl, rfl, .inr (.inr rfl)⟩
  | whole _ _ => exact ⟨_, rfl, rfl, rfl, .inr (.inl rfl)⟩
/-- what a table is behind a fragment -/
theorem offR_shape {T T' : Tv} {a out : IpV} {o e : Int} (h : OffR T a T' out o e) (hst : ∀ c ∈ T.cs, St012 c) :
    T' = T ∨ (∃ i, ∃ hi : i < T.cs.length, ∃ c', T' = { T with cs := T.cs.set i c' } ∧ (kSV T.cs[i].key).enc = (kSV (keyH a)).enc ∧ c'.key = T.cs[i].key ∧ c'.began = T.cs[i].began ∧ St012 c') ∨
      (∃ c', T' = { T with begun := wr .i64 (T.begun + 1), cs := T.cs ++ [c'] } ∧ (∀ c ∈ T.cs, (kSV c.key).enc ≠ (kSV (keyH a)).enc) ∧ c'.key = keyH a ∧ c'.began = T.begun ∧ St012 c') := by
  cases h with
  | bad _ => exact .inl rfl
  | plain _ _ _ => exact .inl rfl
  | busy i hi _ _ _ _ => exact .inl rfl
  | far i hi _ _ _ _ _ => exact .inl rfl
  | far0 _ _ _ _ => exact .inl rfl
  | dup0 _ _ _ _ _ => exact .inl rfl
  | dup i hi _ _ hk _ _ _ => exact .inr (.inl ⟨i, hi, putC T.cs[i] a.off a.data a.mf, rfl, hk, rfl, rfl, (show St012 T.cs[i] from hst T.cs[i] (List.getElem_mem hi))⟩)
  | more i hi T' out o e _ _ hk _ _ _ ha =>
    have hs := stC_same (incC (putC T.cs[i] a.off a.data a.mf)) a
    have h0 := hst _ (List.getElem_mem hi)
    obtain ⟨c', e1, e2, e3, e4⟩ := accR_shape ha (by unfold St012; rw [hs.2.2.1]; exact h0)
    refine .inr (.inl ⟨i, hi, c', ?_, hk, by rw [e2, hs.2.2.2.2]; rfl, by rw [e3, stC_began]; rfl, e4⟩)
    rw [e1]
    simp
  | more0 p T' out o e _ _ hk _ _ ha =>
    have hs := stC_same (incC { putC (newC (keyH a) T.ticks p) a.off a.data a.mf with began := T.begun }) a
    obtain ⟨c', e1, e2, e3, e4⟩ := accR_shape ha (by unfold St012; rw [hs.2.2.1]; exact .inl rfl)
    refine .inr (.inr ⟨c', ?_, hk, by rw [e2, hs.2.2.2.2]; rfl, by rw [e3, stC_began]; rfl, e4⟩)
    rw [e1]
    simp
/-- how many pieces have come -/
def nCome (come : List Bool) : Nat := come.count true
/-- the table and what has come of v -/
structure Rl4 (v : IpV) (cs : List (Nat × Nat)) (come : List Bool) (T : Tv) : Prop where
  max : T.max = 256
  st : ∀ c ∈ T.cs, St012 c
  begun : 0 ≤ T.begun ∧ T.begun ≤ T.cs.length
  beg : ∀ c ∈ T.cs, 0 ≤ c.began ∧ c.began ≤ T.cs.length
  len : come.length = cs.length
  one : (nCome come = 0 ∧ ∀ c ∈ T.cs, (kSV c.key).enc ≠ (kSV (keyH v)).enc) ∨
    (0 < nCome come ∧ ∃ i, ∃ hi : i < T.cs.length, (kSV T.cs[i].key).enc = (kSV (keyH v)).enc ∧
      ((nCome come = cs.length ∧ T.cs[i].state = 1) ∨
       (nCome come < cs.length ∧ T.cs[i].state = 0 ∧ Came v.data (cs.map (trip v.data)) come T.cs[i].S T.cs[i].tk ∧ T.cs[i].frags = nCome come ∧ (T.cs[i].first = true ↔ come[0]? = some true) ∧ (T.cs[i].first = true → T.cs[i].h = pcV v (cs.getD 0 (0, 0))))))
/-- a fragment of another datagram -/
theorem Rl4.other {v a out : IpV} {cs : List (Nat × Nat)} {come : List Bool} {T T' : Tv} {o e : Int} (h : Rl4 v cs come T) (hn : T.cs.length ≤ 1000) (hk : (kSV (keyH a)).enc ≠ (kSV (keyH v)).enc) (ho : OffR T a T' out o e) : Rl4 v cs come T' ∧ T'.cs.length ≤ T.cs.length + 1 := by
  rcases offR_shape ho h.st with rfl | ⟨i, hi, c', rfl, ek, k1, k2, k3⟩ | ⟨c', rfl, no, k1, k2, k3⟩
  · exact ⟨h, by omega⟩
  · refine ⟨⟨h.max, fun c hc => ?_, by simpa using h.begun, fun c hc => ?_, h.len, ?_⟩, by simp⟩
    · rcases List.mem_or_eq_of_mem_set hc with q | q
      · exact h.st c q
      · rw [q]; exact k3
    · simp only [List.length_set]
      rcases List.mem_or_eq_of_mem_set hc with q | q
      · exact h.beg c q
      · rw [q, k2]; exact h.beg _ (List.getElem_mem hi)
    · rcases h.one with ⟨q1, q2⟩ | ⟨q1, j, hj, q2, q3⟩
      · refine .inl ⟨q1, fun c hc => ?_⟩
        rcases List.mem_or_eq_of_mem_set hc with q | q
        · exact q2 c q
        · rw [q, k1, ek]; exact hk
      · have hij : i ≠ j := fun e => by subst e; exact hk (ek.symm.trans q2)
        refine .inr ⟨q1, j, by simpa using hj, ?_⟩
        have e1 : ({ T with cs := T.cs.set i c' } : Tv).cs[j]'(by simpa using hj) = T.cs[j] := by simp [hij]
        rw [e1]
        exact ⟨q2, q3⟩
  · have hb := h.begun
    refine ⟨⟨h.max, fun c hc => ?_, ?_, fun c hc => ?_, h.len, ?_⟩, by simp⟩
    · rcases List.mem_append.1 hc with q | q
      · exact h.st c q
      · rw [List.mem_singleton] at q; rw [q]; exact k3
    · simp only [List.length_append, List.length_singleton]
      rw [wr_i64 (by omega) (by omega)]
      omega
    · simp only [List.length_append, List.length_singleton]
      rcases List.mem_append.1 hc with q | q
      · have := h.beg c q; omega
      · rw [List.mem_singleton] at q; rw [q, k2]; omega
    · rcases h.one with ⟨q1, q2⟩ | ⟨q1, j, hj, q2, q3⟩
      · refine .inl ⟨q1, fun c hc => ?_⟩
        rcases List.mem_append.1 hc with q | q
        · exact q2 c q
        · rw [List.mem_singleton] at q; rw [q, k1]; exact hk
      · refine .inr ⟨q1, j, by simp; omega, ?_⟩
        have e1 : ({ T with begun := wr .i64 (T.begun + 1), cs := T.cs ++ [c'] } : Tv).cs[j]'(by simp; omega) = T.cs[j] := by simp [List.getElem_append_left hj]
        rw [e1]
        exact ⟨q2, q3⟩
end Go.Vc.Stop
end

section
open Go Go.Vc Go.Proofs
set_option linter.unusedVariables false
set_option linter.unusedSimpArgs false
set_option autoImplicit false
namespace Go.Vc.Stop
theorem count_set : ∀ {come : List Bool} {k : Nat}, come[k]? = some false → (come.set k true).count true = come.count true + 1
  | [], k, h => by simp at h
  | x :: r, 0, h => by
    have hx : x = false := by simpa using h
    subst hx
    simp
  | x :: r, k + 1, h => by
    have := count_set (come := r) (k := k) (by simpa using h)
    rw [List.set_cons_succ, List.count_cons, List.count_cons, this]
    omega
theorem come_none {come : List Bool} (h : nCome come = 0) : come = List.replicate come.length false := by
  refine List.eq_replicate_iff.2 ⟨rfl, fun b hb => ?_⟩
  cases b with
  | false => rfl
  | true =>
    have := List.count_pos_iff.2 hb
    unfold nCome at h
    omega
/-- what is known of the cut datagram -/
structure CutH (v : IpV) (cs : List (Nat × Nat)) : Prop where
  c : Cutting v.data (cs.map (trip v.data))
  byt : Byt v.data
  pos : 0 < v.data.length
  len : v.data.length ≤ 65515
  chk : ∀ c ∈ cs, ipChk (pcV v c) = 0
  frag : ∀ c ∈ cs, ¬ ((pcV v c).mf = false ∧ (pcV v c).off = 0)
  two : 2 ≤ cs.length
  most : cs.length ≤ 1024
  zero : ∀ (k : Nat) c, cs[k]? = some c → (c.1 = 0 ↔ k = 0)
section
variable {v out : IpV} {cs : List (Nat × Nat)} {come : List Bool} {T T' : Tv} {o e : Int} {k : Nat} {c : Nat × Nat}
theorem CutH.at_ (hk : cs[k]? = some c) : (cs.map (trip v.data))[k]? = some (trip v.data c) := by simp [hk]
/-- the first piece that comes -/
theorem Rl4.own0 (h : Rl4 v cs come T) (H : CutH v cs) (hk : cs[k]? = some c) (hn : T.cs.length ≤ 1000) (h0 : nCome come = 0) (ho : OffR T (pcV v c) T' out o e) :
    o = 2 ∧ e = 0 ∧ Rl4 v cs (come.set k true) T' ∧ T'.cs.length ≤ T.cs.length + 1 := by
  have hmem := List.mem_of_getElem? hk
  have no : ∀ c ∈ T.cs, (kSV c.key).enc ≠ (kSV (keyH v)).enc := by
    rcases h.one with ⟨_, q⟩ | ⟨q, _⟩
    · exact q
    · omega
  have hcome := come_none h0
  have cn : Came v.data (cs.map (trip v.data)) come newS [] := Came.new (by rw [List.length_map, ← h.len]; exact hcome) H.c H.pos H.len
  have hp := CutH.at_ (v := v) hk
  have he := cn.err H.c H.len hp
  have hkl : k < come.length := by rw [h.len]; exact (List.getElem?_eq_some_iff.1 hk).1
  have hkf : come[k]? = some false := by
    rw [hcome, List.getElem?_replicate, if_pos hkl]
  cases ho with
  | bad hb => exact absurd (H.chk c hmem) hb
  | plain _ a b => exact absurd ⟨a, b⟩ (H.frag c hmem)
  | busy i hi _ _ ek _ => exact absurd ek (no _ (List.getElem_mem hi))
  | far i hi _ _ ek _ _ => exact absurd ek (no _ (List.getElem_mem hi))
  | dup i hi _ _ ek _ _ _ => exact absurd ek (no _ (List.getElem_mem hi))
  | more i hi T' out o e _ _ ek _ _ _ _ => exact absurd ek (no _ (List.getElem_mem hi))
  | far0 _ _ _ hne => exact absurd he hne
  | dup0 _ _ _ _ hd =>
    have := (cn.newZ H.c H.len hp).1 hd.1
    rw [hkf] at this
    cases this
  | more0 p T' out o e _ _ _ _ _ ha =>
    have cp := cn.put H.c H.byt H.len hp
    have hcount := count_set hkf
    unfold nCome at h0
    have hS := stC_same (incC { putC (newC (keyH (pcV v c)) T.ticks p) (pcV v c).off (pcV v c).data (pcV v c).mf with began := T.begun }) (pcV v c)
    have hB := stC_began (incC { putC (newC (keyH (pcV v c)) T.ticks p) (pcV v c).off (pcV v c).data (pcV v c).mf with began := T.begun }) (pcV v c)
    have hF : (stC (incC { putC (newC (keyH (pcV v c)) T.ticks p) (pcV v c).off (pcV v c).data (pcV v c).mf with began := T.begun }) (pcV v c)).first = true ↔ k = 0 := by
      unfold stC
      split
      · rename_i hc
        have : ((c.1 : Nat) : Int) = 0 := hc.1
        exact ⟨fun _ => (H.zero k c hk).1 (by omega), fun _ => rfl⟩
      · rename_i hc
        refine ⟨fun hx => (by cases hx), fun hx => absurd ⟨?_, rfl⟩ hc⟩
        show ((c.1 : Nat) : Int) = 0
        have := (H.zero k c hk).2 hx
        omega
    have hH : (stC (incC { putC (newC (keyH (pcV v c)) T.ticks p) (pcV v c).off (pcV v c).data (pcV v c).mf with began := T.begun }) (pcV v c)).first = true → (stC (incC { putC (newC (keyH (pcV v c)) T.ticks p) (pcV v c).off (pcV v c).data (pcV v c).mf with began := T.begun }) (pcV v c)).h = pcV v c := by
      unfold stC
      split
      · exact fun _ => rfl
      · exact fun hx => by cases hx
    generalize hc2 : stC (incC { putC (newC (keyH (pcV v c)) T.ticks p) (pcV v c).off (pcV v c).data (pcV v c).mf with began := T.begun }) (pcV v c) = c2 at ha hS hB hF hH
    obtain ⟨s1, s2, s3, s4, s5⟩ := hS
    have s1 : c2.S = putS newS (trip v.data c).1 (trip v.data c).2.1 (trip v.data c).2.2 := s1
    have s2 : c2.tk = [] ++ [((trip v.data c).1, (trip v.data c).2.1)] := s2
    have s3 : c2.state = 0 := s3
    have s4 : c2.frags = 1 := by rw [s4]; show wr .i64 (0 + 1) = 1; rw [wr_i64 (by omega) (by omega)]; rfl
    have s5 : c2.key = keyH v := s5
    have hB : c2.began = T.begun := hB
    have hw : wholeS c2.S = false := by
      rw [s1, cp.whole H.c H.pos H.len, hcount, h0, List.length_map]
      have := H.two
      simp; omega
    have hb := h.begun
    cases ha with
    | bad hx _ => rw [hw] at hx; cases hx
    | whole hx _ => rw [hw] at hx; cases hx
    | held _ =>
      have ecs : ((T.cs ++ [incC { putC (newC (keyH (pcV v c)) T.ticks p) (pcV v c).off (pcV v c).data (pcV v c).mf with began := T.begun }]).set T.cs.length c2) = T.cs ++ [c2] := by simp
      refine ⟨rfl, rfl, ?_, by simp⟩
      show Rl4 v cs (come.set k true) ⟨T.max, T.ticks, wr .i64 (T.begun + 1), (T.cs ++ [incC { putC (newC (keyH (pcV v c)) T.ticks p) (pcV v c).off (pcV v c).data (pcV v c).mf with began := T.begun }]).set T.cs.length c2⟩
      rw [ecs]
      refine ⟨h.max, fun x hx => ?_, ?_, fun x hx => ?_, by simpa using h.len, .inr ⟨by unfold nCome; omega, T.cs.length, by simp, ?_⟩⟩
      · rcases List.mem_append.1 hx with q | q
        · exact h.st x q
        · rw [List.mem_singleton] at q; rw [q]; exact .inl s3
      · simp only [List.length_append, List.length_singleton]
        rw [wr_i64 (by omega) (by omega)]
        omega
      · simp only [List.length_append, List.length_singleton]
        rcases List.mem_append.1 hx with q | q
        · have := h.beg x q; omega
        · rw [List.mem_singleton] at q; rw [q, hB]; omega
      · have e1 : (T.cs ++ [c2])[T.cs.length]'(by simp) = c2 := by simp
        show (kSV ((T.cs ++ [c2])[T.cs.length]'(by simp)).key).enc = _ ∧ _
        simp only [e1]
        refine ⟨by rw [s5], .inr ⟨by unfold nCome; have := H.two; omega, s3, by rw [s1, s2]; exact cp, by rw [s4]; unfold nCome; omega, ?_, fun hx => ?_⟩⟩
        · rw [hF]
          by_cases e0 : k = 0
          · subst e0; simp [hkl]
          · rw [List.getElem?_set_ne (by omega), hcome, List.getElem?_replicate]
            constructor
            · intro hx; exact absurd hx e0
            · intro hx; split at hx <;> simp at hx
        · have hk0 := hF.1 hx
          subst hk0
          rw [hH hx, List.getD_eq_getElem?_getD, hk]
          rfl
end
end Go.Vc.Stop
end

section
open Go Go.Vc Go.Proofs
set_option linter.unusedVariables false
set_option linter.unusedSimpArgs false
set_option autoImplicit false
namespace Go.Vc.Stop
section
variable {v out : IpV} {cs : List (Nat × Nat)} {come : List Bool} {T T' : Tv} {o e : Int} {k : Nat} {c : Nat × Nat}
theorem set_same {come : List Bool} {k : Nat} (h : come[k]? = some true) : come.set k true = come := by
  apply List.ext_getElem?
  intro j
  by_cases e : k = j
  · subst e
    rw [h, List.getElem?_set_self (List.getElem?_eq_some_iff.1 h).1]
  · rw [List.getElem?_set_ne e]
/-- what is put together is the datagram -/
theorem outH_v {v : IpV} {c2 : Cv} {k : Nat} (hmf : v.mf = false) (ho : v.off = 0) (hh : c2.h = pcV v (0, k)) (hd : c2.S.buf.take c2.S.fin.toNat = v.data) : outH c2 = v := by
  unfold outH
  rw [hh, hd]
  have := pcV_first v (k := k)
  cases v
  simp only [pcV] at *
  simp_all
set_option maxHeartbeats 1000000 in
/-- a further piece -/
theorem Rl4.own1 (h : Rl4 v cs come T) (H : CutH v cs) (hv : ipChk v = 0) (hmf : v.mf = false) (hof : v.off = 0) (hk : cs[k]? = some c) (hdis : ∀ i j (hi : i < T.cs.length) (hj : j < T.cs.length), (kSV T.cs[i].key).enc = (kSV T.cs[j].key).enc → i = j) (h0 : 0 < nCome come) (ho : OffR T (pcV v c) T' out o e) :
    (nCome come = cs.length ∧ o = 0 ∧ e = 125 ∧ T' = T) ∨
    (nCome come < cs.length ∧ come[k]? = some true ∧ o = 0 ∧ e = 121 ∧ Rl4 v cs come T' ∧ T'.cs.length = T.cs.length) ∨
    (nCome come < cs.length ∧ come[k]? = some false ∧ e = 0 ∧ ((nCome come + 1 = cs.length ∧ o = 1 ∧ out = v) ∨ (nCome come + 1 < cs.length ∧ o = 2)) ∧ Rl4 v cs (come.set k true) T' ∧ T'.cs.length = T.cs.length) := by
  have hmem := List.mem_of_getElem? hk
  obtain ⟨i, hi, ek, hcase⟩ : ∃ i, ∃ hi : i < T.cs.length, (kSV T.cs[i].key).enc = (kSV (keyH v)).enc ∧
      ((nCome come = cs.length ∧ T.cs[i].state = 1) ∨
       (nCome come < cs.length ∧ T.cs[i].state = 0 ∧ Came v.data (cs.map (trip v.data)) come T.cs[i].S T.cs[i].tk ∧ T.cs[i].frags = nCome come ∧ (T.cs[i].first = true ↔ come[0]? = some true) ∧ (T.cs[i].first = true → T.cs[i].h = pcV v (cs.getD 0 (0, 0))))) := by
    rcases h.one with ⟨q, _⟩ | ⟨_, q⟩
    · omega
    · exact q
  have uniq : ∀ j (hj : j < T.cs.length), (kSV T.cs[j].key).enc = (kSV (keyH (pcV v c))).enc → j = i := fun j hj q => hdis j i hj hi (q.trans ek.symm)
  have hno : ¬ ∀ c' ∈ T.cs, (kSV c'.key).enc ≠ (kSV (keyH (pcV v c))).enc := fun q => q _ (List.getElem_mem hi) ek
  have hkl : k < come.length := by rw [h.len]; exact (List.getElem?_eq_some_iff.1 hk).1
  rcases hcase with ⟨q1, q2⟩ | ⟨q1, q2, q3, q4, q5, q6⟩
  · -- behind the end
    have r125 : readyV T.cs[i] 125 123 = 125 := by unfold readyV; rw [if_pos q2]
    left
    cases ho with
    | bad hb => exact absurd (H.chk c hmem) hb
    | plain _ a b => exact absurd ⟨a, b⟩ (H.frag c hmem)
    | busy j hj _ _ ej _ => have := uniq j hj ej; subst this; exact ⟨q1, rfl, r125, rfl⟩
    | far j hj _ _ ej hr _ => have := uniq j hj ej; subst this; rw [r125] at hr; cases hr
    | dup j hj _ _ ej hr _ _ => have := uniq j hj ej; subst this; rw [r125] at hr; cases hr
    | more j hj T' out o e _ _ ej hr _ _ _ => have := uniq j hj ej; subst this; rw [r125] at hr; cases hr
    | far0 _ _ no _ => exact absurd no hno
    | dup0 _ _ no _ _ => exact absurd no hno
    | more0 p T' out o e _ _ no _ _ _ => exact absurd no hno
  · right
    have r0 : readyV T.cs[i] 125 123 = 0 := by
      unfold readyV
      have := H.most
      rw [if_neg (by omega), if_neg (by omega), if_neg (by omega)]
    have hp := CutH.at_ (v := v) hk
    have he := q3.err H.c H.len hp
    cases ho with
    | bad hb => exact absurd (H.chk c hmem) hb
    | plain _ a b => exact absurd ⟨a, b⟩ (H.frag c hmem)
    | busy j hj _ _ ej hr => have := uniq j hj ej; subst this; exact absurd r0 hr
    | far j hj _ _ ej _ hne => have := uniq j hj ej; subst this; exact absurd he hne
    | far0 _ _ no _ => exact absurd no hno
    | dup0 _ _ no _ _ => exact absurd no hno
    | more0 p T' out o e _ _ no _ _ _ => exact absurd no hno
    | dup j hj _ _ ej hr _ hd =>
      have := uniq j hj ej; subst this
      have hkt : come[k]? = some true := (q3.newZ H.c H.len hp).1 hd.1
      have cp := q3.put H.c H.byt H.len hp
      rw [set_same hkt] at cp
      refine .inl ⟨q1, hkt, rfl, rfl, ⟨h.max, fun x hx => ?_, by simpa using h.begun, fun x hx => ?_, h.len, .inr ⟨h0, j, by simpa using hj, ?_⟩⟩, by simp⟩
      · rcases List.mem_or_eq_of_mem_set hx with q | q
        · exact h.st x q
        · rw [q]; exact .inl q2
      · simp only [List.length_set]
        rcases List.mem_or_eq_of_mem_set hx with q | q
        · exact h.beg x q
        · rw [q]; exact (show 0 ≤ T.cs[j].began ∧ T.cs[j].began ≤ _ from h.beg T.cs[j] (List.getElem_mem hj))
      · have e1 : (T.cs.set j (putC T.cs[j] (pcV v c).off (pcV v c).data (pcV v c).mf))[j]'(by simpa using hj) = putC T.cs[j] (pcV v c).off (pcV v c).data (pcV v c).mf := by simp
        show (kSV ((T.cs.set j (putC T.cs[j] (pcV v c).off (pcV v c).data (pcV v c).mf))[j]'(by simpa using hj)).key).enc = _ ∧ _
        simp only [e1]
        exact ⟨ek, .inr ⟨q1, q2, cp, q4, q5, q6⟩⟩
    | more j hj T' out o e _ _ ej hr _ hd ha =>
      have := uniq j hj ej; subst this
      have hkf : come[k]? = some false := by
        cases hb : come[k]? with
        | none => rw [List.getElem?_eq_none_iff] at hb; omega
        | some x =>
          cases x with
          | false => rfl
          | true =>
            exfalso
            refine hd ⟨(q3.newZ H.c H.len hp).2 hb, ?_⟩
            unfold endF
            rcases q3.fin with ⟨f1, f2⟩ | ⟨f1, _⟩
            · have hm : (trip v.data c).2.2 = true := by
                cases hx : (trip v.data c).2.2 with
                | true => rfl
                | false => exact absurd hb (f2 k _ hp hx)
              have hm : (pcV v c).mf = true := hm
              have ef : (putS T.cs[j].S (pcV v c).off (pcV v c).data (pcV v c).mf).fin = if (pcV v c).mf = false ∧ T.cs[j].S.fin < 0 then (pcV v c).off + ((pcV v c).data.length : Int) else T.cs[j].S.fin := rfl
              rw [ef, if_neg (by rw [hm]; simp), f1]
              rfl
            · rw [decide_eq_true (show T.cs[j].S.fin ≥ 0 by omega)]
              simp
      have cp := q3.put H.c H.byt H.len hp
      have hcount := count_set hkf
      have hS := stC_same (incC (putC T.cs[j] (pcV v c).off (pcV v c).data (pcV v c).mf)) (pcV v c)
      have hB := stC_began (incC (putC T.cs[j] (pcV v c).off (pcV v c).data (pcV v c).mf)) (pcV v c)
      have hz : ((pcV v c).off = 0) ↔ k = 0 := by
        have := H.zero k c hk
        show ((c.1 : Nat) : Int) = 0 ↔ k = 0
        omega
      have hFH : ((stC (incC (putC T.cs[j] (pcV v c).off (pcV v c).data (pcV v c).mf)) (pcV v c)).first = true ↔ (come.set k true)[0]? = some true) ∧ ((stC (incC (putC T.cs[j] (pcV v c).off (pcV v c).data (pcV v c).mf)) (pcV v c)).first = true → (stC (incC (putC T.cs[j] (pcV v c).off (pcV v c).data (pcV v c).mf)) (pcV v c)).h = pcV v (cs.getD 0 (0, 0))) := by
        by_cases k0 : k = 0
        · subst k0
          have hnf : T.cs[j].first = false := by
            cases hx : T.cs[j].first with
            | false => rfl
            | true => rw [q5.1 hx] at hkf; cases hkf
          have e1 : stC (incC (putC T.cs[j] (pcV v c).off (pcV v c).data (pcV v c).mf)) (pcV v c) = { incC (putC T.cs[j] (pcV v c).off (pcV v c).data (pcV v c).mf) with first := true, h := pcV v c } := by
            unfold stC
            rw [if_pos ⟨hz.2 rfl, hnf⟩]
          rw [e1]
          refine ⟨⟨fun _ => by simp [hkl], fun _ => rfl⟩, fun _ => ?_⟩
          show pcV v c = _
          rw [List.getD_eq_getElem?_getD, hk]
          rfl
        · have e1 : stC (incC (putC T.cs[j] (pcV v c).off (pcV v c).data (pcV v c).mf)) (pcV v c) = incC (putC T.cs[j] (pcV v c).off (pcV v c).data (pcV v c).mf) := by
            unfold stC
            rw [if_neg (fun q => k0 (hz.1 q.1))]
          rw [e1, List.getElem?_set_ne (by omega)]
          exact ⟨q5, q6⟩
      generalize stC (incC (putC T.cs[j] (pcV v c).off (pcV v c).data (pcV v c).mf)) (pcV v c) = c2 at ha hS hB hFH
      obtain ⟨hF, hH⟩ := hFH
      obtain ⟨s1, s2, s3, s4, s5⟩ := hS
      have s1 : c2.S = putS T.cs[j].S (trip v.data c).1 (trip v.data c).2.1 (trip v.data c).2.2 := s1
      have s2 : c2.tk = T.cs[j].tk ++ [((trip v.data c).1, (trip v.data c).2.1)] := s2
      have s3 : c2.state = 0 := s3.trans q2
      have hmost := H.most
      have s4 : c2.frags = nCome come + 1 := by rw [s4]; show wr .i64 (T.cs[j].frags + 1) = _; rw [q4, wr_i64 (by omega) (by omega)]
      have s5 : c2.key = T.cs[j].key := s5
      have hB : c2.began = T.cs[j].began := hB
      have cp2 : Came v.data (cs.map (trip v.data)) (come.set k true) c2.S c2.tk := by rw [s1, s2]; exact cp
      have hw := cp2.whole H.c H.pos H.len
      rw [hcount, List.length_map] at hw
      have done : ∀ (c' : Cv), c'.key = T.cs[j].key → c'.began = T.cs[j].began → St012 c' → ((nCome (come.set k true) = cs.length ∧ c'.state = 1) ∨ (nCome (come.set k true) < cs.length ∧ c'.state = 0 ∧ Came v.data (cs.map (trip v.data)) (come.set k true) c'.S c'.tk ∧ c'.frags = nCome (come.set k true) ∧ (c'.first = true ↔ (come.set k true)[0]? = some true) ∧ (c'.first = true → c'.h = pcV v (cs.getD 0 (0, 0))))) → Rl4 v cs (come.set k true) { T with cs := T.cs.set j c' } := by
        intro c' g1 g2 g3 g4
        refine ⟨h.max, fun x hx => ?_, by simpa using h.begun, fun x hx => ?_, by simpa using h.len, .inr ⟨by unfold nCome; omega, j, by simpa using hj, ?_⟩⟩
        · rcases List.mem_or_eq_of_mem_set hx with q | q
          · exact h.st x q
          · rw [q]; exact g3
        · simp only [List.length_set]
          rcases List.mem_or_eq_of_mem_set hx with q | q
          · exact h.beg x q
          · rw [q, g2]; exact h.beg _ (List.getElem_mem hj)
        · have e1 : (T.cs.set j c')[j]'(by simpa using hj) = c' := by simp
          show (kSV ((T.cs.set j c')[j]'(by simpa using hj)).key).enc = _ ∧ _
          simp only [e1]
          exact ⟨by rw [g1]; exact ek, g4⟩
      have hn1 : nCome (come.set k true) = nCome come + 1 := hcount
      have ess : ∀ x y : Cv, (T.cs.set j x).set j y = T.cs.set j y := fun x y => by simp
      have hout : wholeS c2.S = true → outH c2 = v := fun hx => by
        have hall : (come.set k true).count true = (come.set k true).length := by
          rw [hw] at hx
          have := of_decide_eq_true hx
          rw [hcount, List.length_set, h.len]; exact this
        have hall' := List.count_eq_length.1 hall
        have htwo := H.two
        have hlen := h.len
        have h00 : (come.set k true)[0]? = some true := by
          rw [List.getElem?_eq_getElem (by simp; omega)]
          exact congrArg some (hall' _ (List.getElem_mem _)).symm
        have c0 : cs[0]? = some cs[0] := List.getElem?_eq_getElem (by omega)
        have z0 := (H.zero 0 _ c0).2 rfl
        have ed : cs.getD 0 (0, 0) = (0, cs[0].2) := by
          rw [List.getD_eq_getElem?_getD, c0]
          exact Prod.ext z0 rfl
        exact outH_v (k := cs[0].2) hmf hof (by rw [hH (hF.2 h00), ed]) (cp2.bytes H.c H.len hx).2
      have hle1 : nCome come + 1 ≤ cs.length := by omega
      right
      cases ha with
      | held hx =>
        rw [hw] at hx
        have hx := of_decide_eq_false hx
        have hx : ¬ nCome come + 1 = cs.length := hx
        refine ⟨q1, hkf, rfl, .inr ⟨by omega, rfl⟩, ?_, by simp⟩
        show Rl4 v cs (come.set k true) { T with cs := (T.cs.set j _).set j c2 }
        rw [ess]
        exact done c2 s5 hB (.inl s3) (.inr ⟨by omega, s3, cp2, by rw [s4, hn1]; simp, hF, hH⟩)
      | bad hx hne => rw [hout hx] at hne; exact absurd hv hne
      | whole hx _ =>
        have ho' := hout hx
        rw [hw] at hx
        have hx := of_decide_eq_true hx
        have hx : nCome come + 1 = cs.length := hx
        refine ⟨q1, hkf, rfl, .inl ⟨hx, rfl, ho'⟩, ?_, by simp⟩
        show Rl4 v cs (come.set k true) { T with cs := (T.cs.set j _).set j _ }
        rw [ess]
        exact done _ s5 hB (.inr (.inl rfl)) (.inl ⟨by omega, rfl⟩)
end
end Go.Vc.Stop
end

section
open Go Go.Vc Go.Proofs
set_option linter.unusedVariables false
set_option linter.unusedSimpArgs false
set_option autoImplicit false
namespace Go.Vc.Stop
theorem cutH {v : IpV} {mtu : Int} (hc : ipChk v = 0) (hb : Byt v.data) (hm : 68 ≤ mtu ∧ mtu ≤ 65535) (hnf : ¬ fitsV v mtu) (hle : (cutV v mtu).length ≤ 1024) : CutH v (cutV v mtu) := by
  obtain ⟨_, _, _, _, _, _, _, hp, hlen, _⟩ := ipChk_ok hc
  unfold hdL at hlen
  have pl := (putO_len hp).1
  have pl2 := (putO_len (show putOk (copL v) from putOk_filter _ hp)).1
  have e1 : ((m1 v mtu : Nat) : Int) = mtu - (20 + (putO v.opts).length) := by unfold m1; omega
  have e2 : ((m2 v mtu : Nat) : Int) = mtu - (20 + (putO (copL v)).length) := by unfold m2; omega
  unfold fitsV at hnf
  have hn : m1 v mtu < v.data.length := by omega
  obtain ⟨a, b, p⟩ := cuts_ok (n := v.data.length) (m1 := m1 v mtu) (m2 := m2 v mtu) (by omega) (by omega) (v.data.length + 1) 0 (by omega) (.inl rfl)
  obtain ⟨f1, g1, s1⟩ := cuts_step (n := v.data.length) (m1 := m1 v mtu) (m2 := m2 v mtu) (f := v.data.length + 1) (at_ := 0) (k := m1 v mtu / 8 * 8) (by omega) (by omega) (by rw [if_pos rfl, if_neg (by omega)])
  obtain ⟨f2, g2, s2⟩ := cuts_step (n := v.data.length) (m1 := m1 v mtu) (m2 := m2 v mtu) (f := f1) (at_ := 0 + m1 v mtu / 8 * 8) (by omega) (by omega) rfl
  have hcs : cutV v mtu = cuts v.data.length (m1 v mtu) (m2 v mtu) (v.data.length + 1) 0 := rfl
  have hz : ∀ (k : Nat) c, (cutV v mtu)[k]? = some c → (c.1 = 0 ↔ k = 0) := fun k c hk => by
    rw [hcs] at hk
    rw [s1] at hk p
    cases k with
    | zero => simp at hk; subst hk; simp
    | succ k =>
      have hk : (cuts v.data.length (m1 v mtu) (m2 v mtu) f1 (0 + m1 v mtu / 8 * 8))[k]? = some c := by simpa using hk
      have := (List.pairwise_cons.1 p).1 c (List.mem_of_getElem? hk)
      simp at this
      constructor
      · intro h; omega
      · intro h; cases h
  refine ⟨cutting (by omega) (by omega) (by omega), hb, by omega, by omega, fun c h => ?_, fun c h => ?_, ?_, hle, hz⟩
  · obtain ⟨_, x2, x3, x4, x5⟩ := a c h
    exact pcV_chk hc x2 x3 x4 x5
  · rintro ⟨q1, q2⟩
    have q2 : ((c.1 : Nat) : Int) = 0 := q2
    have q1 : decide (c.1 + c.2 < v.data.length) = false := q1
    have q1 := of_decide_eq_false q1
    obtain ⟨k, hk⟩ := List.getElem?_of_mem h
    have k0 := (hz k c hk).1 (by omega)
    subst k0
    rw [hcs, s1] at hk
    simp at hk
    subst hk
    simp at q1
    omega
  · rw [hcs, s1, s2]
    simp
end Go.Vc.Stop
end

section
open Go Go.Vc Go.Proofs
set_option linter.unusedVariables false
set_option linter.unusedSimpArgs false
set_option autoImplicit false
namespace Go.Vc.Stop
theorem tmod_range (n : Int) {m : Int} (hm : 0 < m) : -m < Int.tmod n m ∧ Int.tmod n m < m := by
  have h1 := Int.tmod_lt_of_pos n hm
  have h2 := Int.tmod_lt_of_pos (-n) hm
  rw [Int.neg_tmod] at h2
  omega
theorem i64C {w : World} {g : Sl} {os : List Int} (h : Sees cI64 w g os) (i : Nat) (hi : i < os.length) : w.cell? (g.at 1 i) = some (.int .i64 os[i]) ∧ g.ptr.isSome = true := by
  have h1 := h.elem (i := i) hi 0 (by simp [cI64])
  rw [add_zero] at h1
  exact ⟨h1, h.isSome (by decide) (by omega)⟩
section
variable {w : World} {R : SV → World → Prop}
theorem c40 {n m : Int} (hm : 0 < m ∧ m ≤ 1000000) (k : ∀ r, 0 ≤ r → r < m → R (.int .i64 r) w) : Ret Try.prog 40 [.int .i64 n, .int .i64 m] w R := by
  refine f40_of _ _ _ _ ?_
  unfold vc40
  have := tmod_range n hm.1
  refine needNe (by omega) (brd (fun h => ?_) (fun h => k _ (by omega) (by omega)))
  rw [wr_i64 (by omega) (by omega)]
  exact k _ (by omega) (by omega)
theorem c41 {s : Sl} {l : List Int} {n : Int} (hs : Sees cI64 w s l) (hl : l.length ≤ 1000000) (k : R (.bool (decide (n ∈ l))) w) : Ret Try.prog 41 [.slice s, .int .i64 n] w R := by
  refine f41_of _ _ _ _ ?_
  unfold vc41
  have hsl := hs.len
  refine ⟨fun i w' => w' = w ∧ ∃ q : Nat, i = q ∧ q ≤ l.length ∧ n ∉ l.take q, fun i _ => (l.length - i).toNat, ⟨rfl, 0, rfl, by omega, by simp⟩, ?_⟩
  rintro i w' ⟨rfl, q, rfl, hq, hno⟩
  refine brd (fun hlt => ?_) (fun hge => ?_)
  · have hq2 : q < l.length := by omega
    obtain ⟨a1, a2⟩ := i64C hs q hq2
    refine needIx (by omega) (by omega) a2 ⟨_, by rw [Int.toNat_natCast]; exact a1, bre (fun he => ?_) (fun hne => ?_)⟩
    · rw [decide_eq_true (show n ∈ l by rw [← he]; exact List.getElem_mem hq2)] at k
      exact k
    · refine ⟨⟨rfl, q + 1, wr_succ (by omega), by omega, ?_⟩, by rw [wr_succ (q := q) (by omega)]; (try dsimp only); omega⟩
      rw [take_snoc hq2]
      simp only [List.mem_append, List.mem_singleton, not_or]
      exact ⟨hno, fun e => hne e.symm⟩
  · have : q = l.length := by omega
    subst this
    rw [List.take_length] at hno
    rw [decide_eq_false hno] at k
    exact k
def comesV (seen : List Int) (n piece : Int) : Int × Int := if (seen.length : Int) = n then (0, 125) else if piece ∈ seen then (0, 121) else if (seen.length : Int) + 1 = n then (1, 0) else (2, 0)
theorem c17 {s : Sl} {l : List Int} {n p : Int} (hs : Sees cI64 w s l) (hl : l.length ≤ 1000000) (k : R (.tuple [.int .i64 (comesV l n p).1, .int .i64 (comesV l n p).2]) w) : Ret Try.prog 17 [.slice s, .int .i64 n, .int .i64 p] w R := by
  refine f17_of _ _ _ _ _ ?_
  unfold vc17
  have hsl := hs.len
  unfold comesV at k
  refine bre (fun h => ?_) (fun h => c41 hs hl ⟨_, rfl, ?_⟩)
  · rw [if_pos (by omega)] at k
    exact k
  · rw [if_neg (by omega)] at k
    refine brd (fun hm => ?_) (fun hm => ?_)
    · rw [if_pos hm] at k
      exact k
    · rw [if_neg hm] at k
      rw [wr_i64 (by omega) (by omega)]
      refine bre (fun h2 => ?_) (fun h2 => ?_)
      · rw [if_pos (by omega)] at k
        exact k
      · rw [if_neg (by omega)] at k
        exact k
set_option maxRecDepth 10000 in
/-- the order in which the pieces are offered -/
theorem c15 {s : Sl} {l : List Int} {n : Nat} (hs : Sees cI64 w s l) (hn : 0 < n ∧ n ≤ 100000) (k : ∀ s way w1, Upd [] [] w w1 → Sees cI64 w1 s way → (∀ x ∈ way, 0 ≤ x ∧ x < n) → (∀ i, 0 ≤ i → i < (n : Int) → i ∈ way) → way.length ≤ 200 + n → Own w.heap.size 1 w1 s → R (.slice s) w1) : Ret Try.prog 15 [.int .i64 (n : Int), .slice s] w R := by
  refine f15_of _ _ _ _ ?_
  unfold vc15
  have hsl := hs.len
  intro J hJ
  have second : ∀ (s1 : Sl) (w1 : World) (l1 : List Int), Upd [] [] w w1 → Sees cI64 w1 s1 l1 → Own w.heap.size 1 w1 s1 → (∀ x ∈ l1, 0 ≤ x ∧ x < n) → l1.length ≤ 200 → J s1 w1 := by
    intro s1 w1 l1 U1 h1 o1 r1 b1
    refine hJ _ _ ?_
    clear hJ
    rw [wr_i64 (by omega) (by omega)]
    refine ⟨fun s i w' => ∃ l2, Upd [] [] w w' ∧ Sees cI64 w' s l2 ∧ Own w.heap.size 1 w' s ∧ -1 ≤ i ∧ i < n ∧ (∀ x ∈ l2, 0 ≤ x ∧ x < n) ∧ (∀ j, i < j → j < (n : Int) → j ∈ l2) ∧ (l2.length : Int) ≤ 200 + (n - 1 - i), fun _ i _ => (i + 1).toNat, ⟨l1, U1, h1, o1, by omega, by omega, r1, fun j _ _ => by omega, by omega⟩, ?_⟩
    rintro s2 i w2 ⟨l2, U2, h2, o2, i1, i2, r2, a2, b2⟩
    refine brd (fun hge => ?_) (fun hlt => ?_)
    · intro J2 hJ2
      rw [wr_i64 (x := i - 1) (by omega) (by omega)] at hJ2
      refine c41 h2 (by omega) ⟨_, rfl, brn (fun hno => ?_) (fun hyes => hJ2 _ _ ?_)⟩
      · intro b4 w4 u4 hr4
        have bs := o2.blk
        have hr5 : Sees cI64 w4 ⟨some ⟨b4, 0, none⟩, 1, 1⟩ [i] := sees_row (c := cI64) hr4 [i] (by simp [SV.cells, SV.cellsL, SV.enc, cI64, Cod.cells]) rfl
        refine append_own (c := cI64) (h2.old u4) (o2.old u4) hr5 (U2.then u4).size (by simp) (by decide) (by simp; omega) fun r w5 hr ho5 u5 hnw => hJ2 _ _ ?_
        refine ⟨⟨l2 ++ [i], (U2.then u4).step0 u5 (fun x hx => (bs x hx).1), hr, ho5, by omega, by omega, fun x hx => ?_, fun j j1 j2 => ?_, by simp; omega⟩, by (try dsimp only); omega⟩
        · rcases List.mem_append.1 hx with q | q
          · exact r2 x q
          · rw [List.mem_singleton] at q; omega
        · by_cases e : j = i
          · simp [e]
          · exact List.mem_append_left _ (a2 j (by omega) j2)
      · have hyes : i ∈ l2 := by simpa using hyes
        refine ⟨⟨l2, U2, h2, o2, by omega, by omega, r2, fun j j1 j2 => ?_, by omega⟩, by (try dsimp only); omega⟩
        by_cases e : j = i
        · rw [e]; exact hyes
        · exact a2 j (by omega) j2
    · exact k s2 l2 w2 U2 h2 r2 (fun j j0 j1 => a2 j (by omega) j1) (by omega) o2
  clear hJ
  refine ⟨fun s1 i w' => ∃ (q : Nat) (l1 : List Int), i = q ∧ q ≤ l.length ∧ q ≤ 200 ∧ Upd [] [] w w' ∧ Sees cI64 w' s1 l1 ∧ Own w.heap.size 1 w' s1 ∧ (∀ x ∈ l1, 0 ≤ x ∧ x < n) ∧ l1.length = q, fun _ i _ => (l.length - i).toNat, ⟨0, [], rfl, by omega, by omega, Upd.refl _, Sees.nil _ _ _ _, Own.none _ _ _, by simp, rfl⟩, ?_⟩
  rintro s1 i w1 ⟨q, l1, rfl, hq, hq2, U1, h1, o1, r1, b1⟩
  intro J1 hJ1
  refine brd (fun hlt => brd (fun h200 => hJ1 _ ?_) (fun _ => second s1 w1 l1 U1 h1 o1 r1 (by omega))) (fun _ => second s1 w1 l1 U1 h1 o1 r1 (by omega))
  clear hJ1
  have hq3 : q < l.length := by omega
  obtain ⟨a1, a2⟩ := i64C (hs.old U1) q hq3
  refine needIx (by omega) (by omega) a2 ⟨_, by rw [Int.toNat_natCast]; exact a1, ?_⟩
  refine c40 (m := n) (by omega) fun r r0 rn => ⟨_, rfl, ?_⟩
  intro b4 w4 u4 hr4
  have bs := o1.blk
  have hr5 : Sees cI64 w4 ⟨some ⟨b4, 0, none⟩, 1, 1⟩ [r] := sees_row (c := cI64) hr4 [r] (by simp [SV.cells, SV.cellsL, SV.enc, cI64, Cod.cells]) rfl
  refine append_own (c := cI64) (h1.old u4) (o1.old u4) hr5 (U1.then u4).size (by simp) (by decide) (by simp; omega) fun r' w5 hr ho5 u5 hnw => ?_
  refine ⟨⟨q + 1, l1 ++ [r], wr_succ (by omega), by omega, by omega, (U1.then u4).step0 u5 (fun x hx => (bs x hx).1), hr, ho5, fun x hx => ?_, by simp [b1]⟩, by rw [wr_succ (q := q) (by omega)]; (try dsimp only); omega⟩
  rcases List.mem_append.1 hx with q' | q'
  · exact r1 x q'
  · rw [List.mem_singleton] at q'; omega
end
end Go.Vc.Stop
end

section
open Go Go.Vc Go.Proofs
set_option linter.unusedVariables false
set_option linter.unusedSimpArgs false
set_option autoImplicit false
namespace Go.Vc.Stop
theorem eqArr_self (n : Nat) (f : Nat → Int) : eqArr n f f = true := by
  unfold eqArr
  simp
section
variable {w : World} {R : SV → World → Prop}
theorem c39T {a b : Sl} {l : List Opt} {oa ob : List (Int × Sl)} (ha : Opts w a l oa) (hb : Opts w b l ob) (hl : l.length ≤ 4398046511000) (hy : ∀ o ∈ l, Byt o.data) (k : ∀ w1, Upd [] [] w w1 → R (.bool true) w1) : Ret Try.prog 39 [.slice a, .slice b] w R := by
  refine f39_of _ _ _ _ ?_
  unfold vc39
  have al := ha.slen
  have bl := hb.slen
  refine bre' (fun h => absurd (by omega) h) (fun _ => ?_)
  refine ⟨fun i w' => Upd [] [] w w' ∧ ∃ q : Nat, i = q ∧ q ≤ l.length, fun i _ => (l.length - i).toNat, ⟨Upd.refl w, 0, rfl, by omega⟩, ?_⟩
  rintro i w1 ⟨U1, q, rfl, hq⟩
  refine brd (fun hlt => ?_) (fun hge => k w1 U1)
  have hq2 : q < l.length := by omega
  intro J hJ
  obtain ⟨a1, a2, a3, _⟩ := (ha.old U1).get q hq2
  obtain ⟨b1, b2, b3, _⟩ := (hb.old U1).get q hq2
  refine needO (ha.old U1) (by omega) (by omega) ⟨_, (by rw [Int.toNat_natCast]; exact a1), needO (hb.old U1) (by omega) (by omega) ⟨_, (by rw [Int.toNat_natCast]; exact b1), brf (by simp) ?_⟩⟩
  refine needO (ha.old U1) (by omega) (by omega) ⟨_, (by rw [Int.toNat_natCast]; exact a2), needO (hb.old U1) (by omega) (by omega) ⟨_, (by rw [Int.toNat_natCast]; exact b2), fun w2 u2 => ?_⟩⟩
  refine c11 (a3.old u2) (b3.old u2) (hy _ (List.getElem_mem hq2)) (hy _ (List.getElem_mem hq2)) ⟨_, rfl, brf (by simp) (hJ _ ?_)⟩
  exact ⟨⟨U1.then u2, q + 1, wr_succ (by omega), by omega⟩, by rw [wr_succ (q := q) (by omega)]; (try dsimp only); omega⟩
/-- the same datagram -/
theorem c14T {v : IpV} {sa da sb db : Sl} {oa ob : List (Int × Sl)} (ha : Opts w sa v.opts oa) (hb : Opts w sb v.opts ob) (hda : SeesB w da v.data) (hdb : SeesB w db v.data) (hl : v.opts.length ≤ 4398046511000) (hy : ∀ o ∈ v.opts, Byt o.data) (hbd : Byt v.data) (k : ∀ w1, Upd [] [] w w1 → R (.bool true) w1) : Ret Try.prog 14 [ipSV v sa da, ipSV v sb db] w R := by
  refine f14_of _ _ _ _ _ _ _ _ _ _ _ _ _ _ _ _ _ _ _ _ _ _ _ _ _ _ _ _ ?_
  unfold vc14
  intro b b7
  refine brt (by simp) (brt (by simp) (brt (by simp) (brt (by simp) (brt (by simp) (brt (by simp) (brt (by simp) (brt (by simp [eqArr_self]) (brt (by simp [eqArr_self]) fun w1 u1 => ?_))))))))
  refine c39T (ha.old u1) (hb.old u1) hl hy fun w2 u2 => ⟨_, rfl, kp u2, brt rfl ?_⟩
  have v2 := u1.then u2
  refine c11 (hda.old v2) (hdb.old v2) hbd hbd ⟨_, rfl, kp (Upd.refl _), ?_⟩
  rw [decide_eq_true rfl]
  exact k w2 v2
/-- a fragment of another datagram? -/
theorem c16 {a h : IpV} {sa da sh dh : Sl} (k : ∀ (x : Bool) w1, Upd [] [] w w1 → (x = true → a.id ≠ h.id ∨ a.proto ≠ h.proto ∨ (a.sv ≠ h.sv ∨ eqArr 16 a.sa h.sa = false) ∨ (a.dv ≠ h.dv ∨ eqArr 16 a.da h.da = false)) → R (.bool x) w1) : Ret Try.prog 16 [ipSV a sa da, ipSV h sh dh] w R := by
  refine f16_of _ _ _ _ _ _ _ _ _ _ _ _ _ _ _ _ _ _ _ _ _ _ _ _ _ _ _ _ ?_
  unfold vc16
  intro b b1
  refine bre' (fun h1 w1 u1 => k true w1 u1.forget (fun _ => .inl h1)) (fun _ => bre' (fun h1 w1 u1 => k true w1 u1.forget (fun _ => .inr (.inl h1))) (fun _ => brn (fun h1 w1 u1 => k true w1 u1.forget (fun _ => .inr (.inr (.inl ?_)))) (fun _ w1 u1 => k _ w1 u1.forget (fun h1 => .inr (.inr (.inr ?_))))))
  · by_cases e : a.sv = h.sv
    · right; simpa [e] using h1
    · exact .inl e
  · by_cases e : a.dv = h.dv
    · right; simpa [e] using h1
    · exact .inl e
end
end Go.Vc.Stop
end

section
open Go Go.Vc Go.Proofs
set_option linter.unusedVariables false
set_option autoImplicit false
namespace Go.Vc.Stop
theorem eqArr_of {n : Nat} {f g : Nat → Int} (h : ∀ i, i < n → f i = g i) : eqArr n f g = true := by
  unfold eqArr
  rw [List.all_eq_true]
  intro i hi
  simp at hi
  simp [h i hi]
theorem strange_key {a h : IpV} (hx : a.id ≠ h.id ∨ a.proto ≠ h.proto ∨ (a.sv ≠ h.sv ∨ eqArr 16 a.sa h.sa = false) ∨ (a.dv ≠ h.dv ∨ eqArr 16 a.da h.da = false)) : (kSV (keyH a)).enc ≠ (kSV (keyH h)).enc := fun he => by
  obtain ⟨k1, k2, k3, k4, k5, k6⟩ := kSV_cells he
  rcases hx with q | q | (q | q) | (q | q)
  · exact q k6
  · exact q k5
  · exact q k1
  · have e : eqArr 16 a.sa h.sa = true := eqArr_of k2
    rw [e] at q; cases q
  · exact q k3
  · have e : eqArr 16 a.da h.da = true := eqArr_of k4
    rw [e] at q; cases q
end Go.Vc.Stop
end

section
open Go Go.Vc Go.Proofs
set_option linter.unusedVariables false
set_option linter.unusedSimpArgs false
set_option autoImplicit false
namespace Go.Vc.Stop
/-- which pieces were taken, told twice -/
structure SeenR (n : Nat) (come : List Bool) (seen : List Int) : Prop where
  len : come.length = n
  cnt : seen.length = nCome come
  mem : ∀ k : Nat, k < n → ((k : Int) ∈ seen ↔ come[k]? = some true)
theorem SeenR.zero (n : Nat) : SeenR n (List.replicate n false) [] :=
  ⟨by simp, by simp [nCome, List.count_replicate], fun k hk => by simp [List.getElem?_replicate, hk]⟩
theorem SeenR.all {n : Nat} {come : List Bool} {seen : List Int} (h : SeenR n come seen) : nCome come = n ↔ ∀ k : Nat, k < n → (k : Int) ∈ seen := by
  unfold nCome
  constructor
  · intro hc k hk
    rw [← h.len] at hc
    have hl := List.count_eq_length.1 hc
    have hk2 : k < come.length := by rw [h.len]; exact hk
    rw [h.mem k hk, List.getElem?_eq_getElem hk2, ← hl _ (List.getElem_mem hk2)]
  · intro ha
    rw [← h.len]
    refine List.count_eq_length.2 fun b hb => ?_
    obtain ⟨k, hk, rfl⟩ := List.getElem_of_mem hb
    have := (h.mem k (by rw [← h.len]; exact hk)).1 (ha k (by rw [← h.len]; exact hk))
    rw [List.getElem?_eq_getElem hk] at this
    exact (Option.some.inj this).symm
theorem SeenR.put {n : Nat} {come : List Bool} {seen : List Int} (h : SeenR n come seen) {k : Nat} (hk : k < n) (hf : come[k]? = some false) : SeenR n (come.set k true) (seen ++ [(k : Int)]) := by
  refine ⟨by simp [h.len], ?_, fun j hj => ?_⟩
  · have := count_set hf
    have c := h.cnt
    unfold nCome at c ⊢
    simp; omega
  · rw [List.mem_append, List.mem_singleton, h.mem j hj]
    by_cases e : j = k
    · subst e
      simp [h.len, hj]
    · rw [List.getElem?_set_ne (by omega)]
      constructor
      · rintro (q | q)
        · exact q
        · omega
      · exact .inl
theorem SeenR.le {n : Nat} {come : List Bool} {seen : List Int} (h : SeenR n come seen) : nCome come ≤ n := by
  have := List.count_le_length (a := true) (l := come)
  rw [h.len] at this
  exact this
section
variable {v out : IpV} {cs : List (Nat × Nat)} {come : List Bool} {seen : List Int} {T T' : Tv} {o e : Int} {k : Nat} {c : Nat × Nat}
/-- a piece is offered: what it answers -/
theorem step4 (h : Rl4 v cs come T) (hs : SeenR cs.length come seen) (H : CutH v cs) (hv : ipChk v = 0) (hmf : v.mf = false) (hof : v.off = 0) (hk : cs[k]? = some c) (hn : T.cs.length ≤ 1000)
    (hdis : ∀ i j (hi : i < T.cs.length) (hj : j < T.cs.length), (kSV T.cs[i].key).enc = (kSV T.cs[j].key).enc → i = j) (ho : OffR T (pcV v c) T' out o e) :
    comesV seen cs.length k = (o, e) ∧ (o = 1 → out = v) ∧ ∃ come', Rl4 v cs come' T' ∧ SeenR cs.length come' (if e = 0 then seen ++ [(k : Int)] else seen) ∧ ((k : Int) ∈ if e = 0 then seen ++ [(k : Int)] else seen) ∧
      T'.cs.length ≤ T.cs.length + (1 - min (nCome come) 1) ∧ 0 < nCome come' := by
  have hkl : k < cs.length := (List.getElem?_eq_some_iff.1 hk).1
  have two := H.two
  have cnt := hs.cnt
  have m := hs.mem k hkl
  by_cases h0 : nCome come = 0
  · obtain ⟨rfl, rfl, r, l⟩ := h.own0 H hk hn h0 ho
    have hf : come[k]? = some false := by
      rw [come_none h0, List.getElem?_replicate, if_pos (by rw [hs.len]; exact hkl)]
    have hno : ¬ (k : Int) ∈ seen := by rw [m, hf]; simp
    refine ⟨?_, fun q => absurd q (by decide), _, r, by rw [if_pos rfl]; exact hs.put hkl hf, by simp, by omega, ?_⟩
    · unfold comesV
      rw [if_neg (by omega), if_neg hno, if_neg (by omega)]
    · have := count_set hf
      unfold nCome; omega
  · rcases h.own1 H hv hmf hof hk hdis (by omega) ho with ⟨a, rfl, rfl, rfl⟩ | ⟨a, b, rfl, rfl, r, l⟩ | ⟨a, b, rfl, d, r, l⟩
    · refine ⟨?_, fun q => absurd q (by decide), come, h, by rw [if_neg (by decide)]; exact hs, ?_, by omega, by omega⟩
      · unfold comesV
        rw [if_pos (by omega)]
      · rw [if_neg (by decide)]
        exact hs.all.1 a k hkl
    · refine ⟨?_, fun q => absurd q (by decide), come, r, by rw [if_neg (by decide)]; exact hs, ?_, by omega, by omega⟩
      · unfold comesV
        rw [if_neg (by omega), if_pos (m.2 b)]
      · rw [if_neg (by decide)]
        exact m.2 b
    · have hno : ¬ (k : Int) ∈ seen := by rw [m, b]; simp
      refine ⟨?_, fun q => ?_, _, r, by rw [if_pos rfl]; exact hs.put hkl b, by simp, by omega, ?_⟩
      · unfold comesV
        rw [if_neg (by omega), if_neg hno]
        rcases d with ⟨d1, rfl, _⟩ | ⟨d1, rfl⟩
        · rw [if_pos (by omega)]
        · rw [if_neg (by omega)]
      · rcases d with ⟨_, _, d⟩ | ⟨_, d⟩
        · exact d
        · omega
      · have := count_set b
        unfold nCome; omega
/-- the table before anything came -/
theorem Rl4.zero (v : IpV) (cs : List (Nat × Nat)) : Rl4 v cs (List.replicate cs.length false) ⟨256, 3, 0, []⟩ :=
  ⟨rfl, by simp, by simp, by simp, by simp, .inl ⟨by simp [nCome, List.count_replicate], by simp⟩⟩
end
end Go.Vc.Stop
end

section
open Go Go.Vc Go.Proofs
set_option linter.unusedVariables false
set_option linter.unusedSimpArgs false
set_option autoImplicit false
namespace Go.Vc.Stop
/-- a piece that was cut stands like one that came in -/
theorem pc_ok {w w0 : World} {N : Nat} {s : Sl} {a : IpC} {v : IpV} {so sd : Sl} (h : PcOk w N s a) (k : IpOk w0 ⟨v, so, sd⟩) (hc : ipChk a.v = 0) (h1 : ∀ o ∈ a.v.opts, o ∈ v.opts) (h2 : a.v.opts.length ≤ v.opts.length) (h3 : ∀ x ∈ a.v.data, x ∈ v.data) (h4 : a.v.data.length ≤ v.data.length) (hk : keyH a.v = keyH v) : IpOk w a := by
  obtain ⟨os, e1, ⟨e2, e3⟩, _, _⟩ := h.ex
  obtain ⟨r1, r2, r3, r4, r5, _⟩ := ipChk_ok hc
  have f1 : v.opts.length ≤ 4398046511000 := k.few
  have f2 : v.data.length ≤ 140737488351232 := k.dl
  exact ⟨⟨os, e1, fun y hy => (e3 y hy).le⟩, h.d, by omega, fun o ho => k.small o (h1 o ho), fun o ho => k.bo o (h1 o ho), by omega, fun x hx => k.bd x (h3 x hx), h.od.le, e2.le, by rw [hk]; exact k.key, by omega, by omega, by omega⟩
section
variable {w0 w : World} {a : IpC} {t : Nat} {T : Tv} {hd : List Nat} {R : SV → World → Prop}
/-- a fragment that stood before the table is offered -/
theorem offer (ok : IpOk w0 a) (u : Upd [] [] w0 w) (hT : TbAt w0.heap.size w t T hd) (hlt : (T.cs.length : Int) < T.max) (hst : ∀ c ∈ T.cs, St012 c)
    (k : ∀ T' out o e so sd os w' hd', OffR T a.v T' out o e → Upd hd [] w w' → TbAt w0.heap.size w' t T' hd' → (∀ x ∈ hd', x ∈ hd ∨ w.heap.size ≤ x) → Opts w' so out.opts os → SeesB w' sd out.data → R (.tuple [ipSV out so sd, .int .i64 o, .int .i64 e]) w') :
    Ret Try.prog 7 [.ptr (some ⟨t, 0, none⟩), ipSV a.v a.so a.sd] w R := by
  obtain ⟨os, hO, _⟩ := ok.ex
  have lt := hT.lt
  have z := u.size
  have far : ∀ x, x < w0.heap.size → x ∉ hd := fun x hx hm => by have := lt x hm; omega
  exact c7 (v := a.v) hT hlt hst ok.key (hO.old u) ok.few ok.small ok.bo (ok.d.old u) ok.dl ok.cap ok.bd ((Opts.inH hO).mono far) (fun hp x hx => ⟨by have := Sees.inH ok.d (by decide) hp x hx; omega, far x (Sees.inH ok.d (by decide) hp x hx)⟩)
    fun T' out o e so sd os w' hd' h1 h2 h3 h4 h5 h6 _ => k T' out o e so sd os w' hd' h1 h2 h3 h4 h5 h6
end
/-- the memory at the head of a turn -/
structure Lp4 (N5 N6 : Nat) (w0 w : World) (ws : Sl) (way : List Int) (t : Nat) (T : Tv) (hd : List Nat) (s : Sl) (seen : List Int) : Prop where
  u : Upd [] [] w0 w
  sz : N6 ≤ w.heap.size
  z0 : w0.heap.size ≤ N5 ∧ N5 ≤ N6
  tb : TbAt w0.heap.size w t T hd
  hdr : ∀ x ∈ hd, x < N5 ∨ N6 ≤ x
  wy : Sees cI64 w ws way
  wb : ∀ x ∈ ws.blk, N5 ≤ x ∧ x < N6
  sn : Sees cI64 w s seen
  ow : Own N6 1 w s
  dis : ∀ x ∈ hd, x ∉ s.blk
section
variable {N5 N6 : Nat} {w0 w w1 : World} {ws : Sl} {way : List Int} {t : Nat} {T T' : Tv} {hd hd' : List Nat} {s : Sl} {seen : List Int}
theorem Lp4.old {n : List Nat} (h : Lp4 N5 N6 w0 w ws way t T hd s seen) (u : Upd [] n w w1) : Lp4 N5 N6 w0 w1 ws way t T hd s seen :=
  ⟨h.u.then u, by have := u.size; have := h.sz; omega, h.z0, h.tb.old u, h.hdr, h.wy.old u, h.wb, h.sn.old u, h.ow.old u, h.dis⟩
/-- the table has changed -/
theorem Lp4.tab (h : Lp4 N5 N6 w0 w ws way t T hd s seen) (u : Upd hd [] w w1) (hT : TbAt w0.heap.size w1 t T' hd') (sub : ∀ x ∈ hd', x ∈ hd ∨ w.heap.size ≤ x) : Lp4 N5 N6 w0 w1 ws way t T' hd' s seen := by
  have z := u.size
  have z2 := h.sz
  have lt := h.tb.lt
  have hb := h.ow.blk
  have ds : ∀ x ∈ s.blk, x ∉ hd := fun x hx hm => h.dis x hm hx
  refine ⟨h.u.step0 u (fun x hx => (lt x hx).1), by omega, h.z0, hT, fun x hx => ?_, h.wy.upd u (fun x hx hm => ?_), h.wb, h.sn.upd u ds, h.ow.upd u ds, fun x hx hm => ?_⟩
  · rcases sub x hx with q | q
    · exact h.hdr x q
    · omega
  · have := h.wb x hx
    have := h.hdr x hm
    omega
  · rcases sub x hx with q | q
    · exact h.dis x q hm
    · have := hb x hm; omega
/-- a number appended -/
theorem Lp4.app {b e : Nat} {f : Nat × Nat} {n : List Nat} {x : Int} {bs : List Nat} {F : Sl → World → Prop} (h : Lp4 N5 N6 w0 w ws way t T hd s seen) (u : Upd [] n w w1) (hr : w1.heap[b]? = some (.cells (SV.cells (.int .i64 x)).toArray e f)) (hl : seen.length ≤ 1000000) (hbs : ∀ y ∈ s.blk, y ∉ bs)
    (k : ∀ r w2, Lp4 N5 N6 w0 w2 ws way t T hd r (seen ++ [x]) → F r w2) : Append 3 1 8 s ⟨some ⟨b, 0, none⟩, 1, 1⟩ bs w1 F := by
  have h1 := h.old u
  have hr5 : Sees cI64 w1 ⟨some ⟨b, 0, none⟩, 1, 1⟩ [x] := sees_row (c := cI64) hr [x] (by simp [SV.cells, SV.cellsL, SV.enc, cI64, Cod.cells]) rfl
  refine append_own (c := cI64) h1.sn h1.ow hr5 h1.sz hbs (by decide) (by simp; omega) fun r w2 hs ho u2 nw => k r w2 ?_
  have ds : ∀ y ∈ hd, y ∉ s.blk := h1.dis
  have ob := h1.ow.blk
  have z0 := h.z0
  have z := u2.size
  have z1 := h1.sz
  have lt := h1.tb.lt
  have N0 : w0.heap.size ≤ w1.heap.size := h1.u.size
  refine ⟨h1.u.step0 u2 (fun y hy => ?_), by omega, z0, h1.tb.upd u2 ds, h1.hdr, h1.wy.upd u2 (fun y hy hm => ?_), h1.wb, hs, ho, fun y hy hm => ?_⟩
  · have := ob y hy
    omega
  · have := h1.wb y hy
    have := ob y hm
    omega
  · rcases nw y hm with q | q
    · exact ds y hy q
    · have := lt y hy; omega
end
end Go.Vc.Stop
end
