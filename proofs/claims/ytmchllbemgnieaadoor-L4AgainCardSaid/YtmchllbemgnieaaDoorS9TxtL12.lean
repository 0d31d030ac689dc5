import Derived.Test.YtmchllbemgnieaaDoorG2
import Derived.Test.YtmchllbemgnieaaDoorG3
import Derived.KernelRfl
open Go Go.Vc Go.Vc.S9 Go.Proofs
set_option maxRecDepth 100000
set_option linter.unusedVariables false
namespace Go.Vc.S9
def vc12 (src_0 : Int) (src_1 : Nat → Int) (dst_0 : Int) (dst_1 : Nat → Int) (b : Sl) (c : Int) (w : World) (R : SV → World → Prop) : Prop := ∀ (b_1 b_2
  : Nat) (w1 : World), Upd [] [b_2, b_1] w w1 → Ret Tryd.prog 18 [] w1 fun (r : SV) (w1_1 : World) => ∃ (b_3 : Bool), r = SV.bool b_3 ∧ Keeps [b_1, b_2] w1
  w1_1 ∧ Ret Tryd.prog 32 [SV.slice b] w1_1 fun (r : SV) (w1 : World) => ∃ (s : Sl), r = SV.slice s ∧ Keeps [b_1, b_2] w1_1 w1 ∧ Need (decide (0 ≤ (↑b.2 :
  Int)) && decide ((↑b.2 : Int) ≤ (↑s.3 : Int))) (Ret Tryd.prog 21 [SV.struct [SV.int IntKind.i64 src_0, SV.arr IntKind.u8 16 src_1], SV.struct [SV.int IntKind.i64
  dst_0, SV.arr IntKind.u8 16 dst_1], SV.slice (Sl.sub s 1 0 (Int.toNat (↑b.2 : Int)) s.3)] w1 fun (r : SV) (w1_2 : World) => ∃ (n : Int), ∃ (n_1 : Int),
  ∃ (b_4 : Bool), ∃ (s_1 : Sl), ∃ (n_2 : Int), r = SV.tuple [SV.struct [SV.int IntKind.i64 n, SV.int IntKind.i64 n_1, SV.bool b_4, SV.slice s_1], SV.int IntKind.i64
  n_2] ∧ Keeps [b_1, b_2] w1 w1_2 ∧ ∀ (b_5 : Nat) (w1 : World), Upd [] [b_5] w1_2 w1 → Ret Tryd.prog 27 [SV.struct [SV.int IntKind.i64 src_0, SV.arr IntKind.u8
  16 src_1], SV.struct [SV.int IntKind.i64 dst_0, SV.arr IntKind.u8 16 dst_1], SV.slice (Sl.sub s 1 0 (Int.toNat (↑b.2 : Int)) s.3)] w1 fun (r : SV) (w1_3
  : World) => ∃ (n_3 : Int), ∃ (n_4 : Int), ∃ (n_5 : Int), ∃ (n_6 : Int), ∃ (n_7 : Int), ∃ (n_8 : Int), ∃ (n_9 : Int), ∃ (s_2 : Sl), ∃ (s_3 : Sl), ∃ (n_10
  : Int), r = SV.tuple [SV.struct [SV.int IntKind.i64 n_3, SV.int IntKind.i64 n_4, SV.int IntKind.i64 n_5, SV.int IntKind.i64 n_6, SV.int IntKind.i64 n_7,
  SV.int IntKind.i64 n_8, SV.int IntKind.i64 n_9, SV.slice s_2, SV.slice s_3], SV.int IntKind.i64 n_10] ∧ Keeps [b_1, b_2, b_5] w1 w1_3 ∧ ∀ (b_6 : Nat) (w1
  : World), Upd [] [b_6] w1_3 w1 → Ret Tryd.prog 33 [SV.slice (Sl.sub s 1 0 (Int.toNat (↑b.2 : Int)) s.3)] w1 fun (r : SV) (w1_4 : World) => ∃ (s_4 : Sl),
  ∃ (n_11 : Int), r = SV.tuple [SV.slice s_4, SV.int IntKind.i64 n_11] ∧ Keeps [b_1, b_2, b_5, b_6] w1 w1_4 ∧ ∀ (J : Bool → World → Prop), (∀ (b_7 : Bool)
  (w1 : World), (∀ (J : Bool → World → Prop), (∀ (b_8 : Bool) (w1 : World), Br (!b_8) (R (SV.bool false) w1) (∀ (b_9 : Nat) (w1_5 : World), Upd [] [b_9] w1
  w1_5 → (World.heap w1_5)[b_9]? = some (Obj.cells { toList := SV.cells (SV.struct [SV.int IntKind.u8 7, SV.int IntKind.u8 8, SV.int IntKind.u8 9]) } 5) →
  Vc.Append 5 1 1 s_1 { ptr := some { block := b_9, off := 0 }, len := 3, cap := 3 } [b_1, b_2, b_5, b_6] w1_5 fun (r : Sl) (w : World) => ∀ (b_10 : Nat)
  (w1 : World), Upd [] [b_10] w w1 → (World.heap w1)[b_10]? = some (Obj.cells { toList := SV.cells (SV.struct [SV.int IntKind.u8 7, SV.int IntKind.u8 8, SV.int IntKind.u8 9]) }
  5) → Vc.Append 5 1 1 s_3 { ptr := some { block := b_10, off := 0 }, len := 3, cap := 3 } [b_1, b_2, b_5, b_6] w1 fun (r_1 : Sl) (w : World) => ∀ (J : World
  → Prop), (∀ (w1 : World), (∀ (J : Sl → Int → World → Prop), (∀ (s_5 : Sl) (n_12 : Int) (w1 : World), (∃ (I : Int → World → Prop), ∃ (M : Int → World → Nat),
  I 0 w1 ∧ ∀ (n_13 : Int) (w1 : World), I n_13 w1 → Br (decide (n_13 < (↑s_5.2 : Int))) (Need (decide (0 ≤ n_13) && decide (n_13 < (↑s_5.2 : Int)) && Option.isSome
  s_5.1) (∃ (n_14 : Int), World.cell? w1 (Sl.at s_5 1 (Int.toNat n_13)) = some (Value.int IntKind.u8 n_14) ∧ Need (decide (0 ≤ n_13) && decide (n_13 < (↑s_5.2
  : Int)) && Option.isSome s_5.1) (Store w1 (Sl.at s_5 1 (Int.toNat n_13)) (SV.cells (SV.int IntKind.u8 (ixor IntKind.u8 n_14 c))) [b_1, b_2, b_5, b_6] fun
  (w1_6 : World) => some (SV.box b_1 27 (SV.struct [SV.int IntKind.i64 src_0, SV.arr IntKind.u8 16 src_1])) = some (SV.box b_1 27 (SV.struct [SV.int IntKind.i64
  src_0, SV.arr IntKind.u8 16 src_1])) ∧ some (SV.box b_2 27 (SV.struct [SV.int IntKind.i64 dst_0, SV.arr IntKind.u8 16 dst_1])) = some (SV.box b_2 27 (SV.struct
  [SV.int IntKind.i64 dst_0, SV.arr IntKind.u8 16 dst_1])) ∧ some (SV.box b_5 30 (SV.struct [SV.int IntKind.i64 n, SV.int IntKind.i64 n_1, SV.bool b_4, SV.slice
  s_1])) = some (SV.box b_5 30 (SV.struct [SV.int IntKind.i64 n, SV.int IntKind.i64 n_1, SV.bool b_4, SV.slice s_1])) ∧ some (SV.box b_6 45 (SV.struct [SV.int
  IntKind.i64 n_3, SV.int IntKind.i64 n_4, SV.int IntKind.i64 n_5, SV.int IntKind.i64 n_6, SV.int IntKind.i64 n_7, SV.int IntKind.i64 n_8, SV.int IntKind.i64
  n_9, SV.slice s_2, SV.slice s_3])) = some (SV.box b_6 45 (SV.struct [SV.int IntKind.i64 n_3, SV.int IntKind.i64 n_4, SV.int IntKind.i64 n_5, SV.int IntKind.i64
  n_6, SV.int IntKind.i64 n_7, SV.int IntKind.i64 n_8, SV.int IntKind.i64 n_9, SV.slice s_2, SV.slice s_3])) ∧ I (wr IntKind.i64 (n_13 + 1)) w1_6 ∧ M (wr
  IntKind.i64 (n_13 + 1)) w1_6 < M n_13 w1))) (∃ (I : Int → World → Prop), ∃ (M : Int → World → Nat), I 0 w1 ∧ ∀ (n_14 : Int) (w1 : World), I n_14 w1 → Br
  (decide (n_14 < (↑s_5.2 : Int))) (Need (decide (0 ≤ wr IntKind.i64 (n_12 + n_14)) && decide (wr IntKind.i64 (n_12 + n_14) < (↑s.2 : Int)) && Option.isSome
  s.1) (∃ (n_15 : Int), World.cell? w1 (Sl.at s 1 (Int.toNat (wr IntKind.i64 (n_12 + n_14)))) = some (Value.int IntKind.u8 n_15) ∧ Need (decide (0 ≤ wr IntKind.i64
  (n_12 + n_14)) && decide (wr IntKind.i64 (n_12 + n_14) < (↑b.2 : Int)) && Option.isSome b.1) (∃ (n_16 : Int), World.cell? w1 (Sl.at b 1 (Int.toNat (wr IntKind.i64
  (n_12 + n_14)))) = some (Value.int IntKind.u8 n_16) ∧ Br (n_15 != ixor IntKind.u8 n_16 c) (∀ (w1_6 : World), Upd [] [] w1 w1_6 → R (SV.bool false) w1_6)
  (∀ (w1_6 : World), Upd [] [] w1 w1_6 → some (SV.box b_1 27 (SV.struct [SV.int IntKind.i64 src_0, SV.arr IntKind.u8 16 src_1])) = some (SV.box b_1 27 (SV.struct
  [SV.int IntKind.i64 src_0, SV.arr IntKind.u8 16 src_1])) ∧ some (SV.box b_2 27 (SV.struct [SV.int IntKind.i64 dst_0, SV.arr IntKind.u8 16 dst_1])) = some
  (SV.box b_2 27 (SV.struct [SV.int IntKind.i64 dst_0, SV.arr IntKind.u8 16 dst_1])) ∧ some (SV.box b_5 30 (SV.struct [SV.int IntKind.i64 n, SV.int IntKind.i64
  n_1, SV.bool b_4, SV.slice s_1])) = some (SV.box b_5 30 (SV.struct [SV.int IntKind.i64 n, SV.int IntKind.i64 n_1, SV.bool b_4, SV.slice s_1])) ∧ some (SV.box
  b_6 45 (SV.struct [SV.int IntKind.i64 n_3, SV.int IntKind.i64 n_4, SV.int IntKind.i64 n_5, SV.int IntKind.i64 n_6, SV.int IntKind.i64 n_7, SV.int IntKind.i64
  n_8, SV.int IntKind.i64 n_9, SV.slice s_2, SV.slice s_3])) = some (SV.box b_6 45 (SV.struct [SV.int IntKind.i64 n_3, SV.int IntKind.i64 n_4, SV.int IntKind.i64
  n_5, SV.int IntKind.i64 n_6, SV.int IntKind.i64 n_7, SV.int IntKind.i64 n_8, SV.int IntKind.i64 n_9, SV.slice s_2, SV.slice s_3])) ∧ I (wr IntKind.i64 (n_14
  + 1)) w1_6 ∧ M (wr IntKind.i64 (n_14 + 1)) w1_6 < M n_14 w1)))) (R (SV.bool true) w1))) → J s_5 n_12 w1) → Ret Tryd.prog 20 [SV.int IntKind.i64 n_2] w1
  fun (r : SV) (w1_6 : World) => ∃ (n_12 : Int), r = SV.int IntKind.i64 n_12 ∧ Keeps [b_1, b_2, b_5, b_6] w1 w1_6 ∧ Br (n_12 != 0) (Ret Tryd.prog 20 [SV.int
  IntKind.i64 n_10] w1_6 fun (r : SV) (w1 : World) => ∃ (n_13 : Int), r = SV.int IntKind.i64 n_13 ∧ Keeps [b_1, b_2, b_5, b_6] w1_6 w1 ∧ Br (n_13 != 0) (Ret
  Tryd.prog 20 [SV.int IntKind.i64 n_11] w1 fun (r : SV) (w1_7 : World) => ∃ (n : Int), r = SV.int IntKind.i64 n ∧ Keeps [b_1, b_2, b_5, b_6] w1 w1_7 ∧ Br
  (n != 0) (R (SV.bool true) w1_7) (Br ((↑s_4.2 : Int) == 0) (R (SV.bool true) w1_7) (Ret Tryd.prog 34 [SV.slice s, SV.slice b] w1_7 fun (r : SV) (w1 : World)
  => ∃ (b : Bool), r = SV.bool b ∧ Keeps [b_1, b_2, b_5, b_6] w1_7 w1 ∧ R (SV.bool b) w1))) (some (SV.box b_1 27 (SV.struct [SV.int IntKind.i64 src_0, SV.arr
  IntKind.u8 16 src_1])) = some (SV.box b_1 27 (SV.struct [SV.int IntKind.i64 src_0, SV.arr IntKind.u8 16 src_1])) ∧ some (SV.box b_2 27 (SV.struct [SV.int
  IntKind.i64 dst_0, SV.arr IntKind.u8 16 dst_1])) = some (SV.box b_2 27 (SV.struct [SV.int IntKind.i64 dst_0, SV.arr IntKind.u8 16 dst_1])) ∧ some (SV.box
  b_5 30 (SV.struct [SV.int IntKind.i64 n, SV.int IntKind.i64 n_1, SV.bool b_4, SV.slice s_1])) = some (SV.box b_5 30 (SV.struct [SV.int IntKind.i64 n, SV.int
  IntKind.i64 n_1, SV.bool b_4, SV.slice s_1])) ∧ some (SV.box b_6 45 (SV.struct [SV.int IntKind.i64 n_3, SV.int IntKind.i64 n_4, SV.int IntKind.i64 n_5,
  SV.int IntKind.i64 n_6, SV.int IntKind.i64 n_7, SV.int IntKind.i64 n_8, SV.int IntKind.i64 n_9, SV.slice s_2, SV.slice s_3])) = some (SV.box b_6 45 (SV.struct
  [SV.int IntKind.i64 n_3, SV.int IntKind.i64 n_4, SV.int IntKind.i64 n_5, SV.int IntKind.i64 n_6, SV.int IntKind.i64 n_7, SV.int IntKind.i64 n_8, SV.int
  IntKind.i64 n_9, SV.slice s_2, SV.slice s_3])) ∧ J s_3 (wr IntKind.i64 ((↑b.2 : Int) - (↑s_3.2 : Int))) w1)) (some (SV.box b_1 27 (SV.struct [SV.int IntKind.i64
  src_0, SV.arr IntKind.u8 16 src_1])) = some (SV.box b_1 27 (SV.struct [SV.int IntKind.i64 src_0, SV.arr IntKind.u8 16 src_1])) ∧ some (SV.box b_2 27 (SV.struct
  [SV.int IntKind.i64 dst_0, SV.arr IntKind.u8 16 dst_1])) = some (SV.box b_2 27 (SV.struct [SV.int IntKind.i64 dst_0, SV.arr IntKind.u8 16 dst_1])) ∧ some
  (SV.box b_5 30 (SV.struct [SV.int IntKind.i64 n, SV.int IntKind.i64 n_1, SV.bool b_4, SV.slice s_1])) = some (SV.box b_5 30 (SV.struct [SV.int IntKind.i64
  n, SV.int IntKind.i64 n_1, SV.bool b_4, SV.slice s_1])) ∧ some (SV.box b_6 45 (SV.struct [SV.int IntKind.i64 n_3, SV.int IntKind.i64 n_4, SV.int IntKind.i64
  n_5, SV.int IntKind.i64 n_6, SV.int IntKind.i64 n_7, SV.int IntKind.i64 n_8, SV.int IntKind.i64 n_9, SV.slice s_2, SV.slice s_3])) = some (SV.box b_6 45
  (SV.struct [SV.int IntKind.i64 n_3, SV.int IntKind.i64 n_4, SV.int IntKind.i64 n_5, SV.int IntKind.i64 n_6, SV.int IntKind.i64 n_7, SV.int IntKind.i64 n_8,
  SV.int IntKind.i64 n_9, SV.slice s_2, SV.slice s_3])) ∧ J s_1 8 w1_6)) → J w1) → Ret Tryd.prog 34 [SV.slice s, SV.slice b] w fun (r_2 : SV) (w1 : World)
  => ∃ (b : Bool), r_2 = SV.bool b ∧ Keeps [b_1, b_2, b_5, b_6] w w1 ∧ Br (!b) (R (SV.bool false) w1) (Br (decide ((↑r.2 : Int) < 3)) (R (SV.bool false) w1)
  (Br (decide ((↑r_1.2 : Int) < 3)) (R (SV.bool false) w1) (some (SV.box b_1 27 (SV.struct [SV.int IntKind.i64 src_0, SV.arr IntKind.u8 16 src_1])) = some
  (SV.box b_1 27 (SV.struct [SV.int IntKind.i64 src_0, SV.arr IntKind.u8 16 src_1])) ∧ some (SV.box b_2 27 (SV.struct [SV.int IntKind.i64 dst_0, SV.arr IntKind.u8
  16 dst_1])) = some (SV.box b_2 27 (SV.struct [SV.int IntKind.i64 dst_0, SV.arr IntKind.u8 16 dst_1])) ∧ some (SV.box b_5 30 (SV.struct [SV.int IntKind.i64
  n, SV.int IntKind.i64 n_1, SV.bool b_4, SV.slice s_1])) = some (SV.box b_5 30 (SV.struct [SV.int IntKind.i64 n, SV.int IntKind.i64 n_1, SV.bool b_4, SV.slice
  s_1])) ∧ some (SV.box b_6 45 (SV.struct [SV.int IntKind.i64 n_3, SV.int IntKind.i64 n_4, SV.int IntKind.i64 n_5, SV.int IntKind.i64 n_6, SV.int IntKind.i64
  n_7, SV.int IntKind.i64 n_8, SV.int IntKind.i64 n_9, SV.slice s_2, SV.slice s_3])) = some (SV.box b_6 45 (SV.struct [SV.int IntKind.i64 n_3, SV.int IntKind.i64
  n_4, SV.int IntKind.i64 n_5, SV.int IntKind.i64 n_6, SV.int IntKind.i64 n_7, SV.int IntKind.i64 n_8, SV.int IntKind.i64 n_9, SV.slice s_2, SV.slice s_3]))
  ∧ J w1)))) → J b_8 w1) → ∃ (I : Bool → Int → World → Prop), ∃ (M : Bool → Int → World → Nat), I b_7 0 w1 ∧ ∀ (b_8 : Bool) (n_12 : Int) (w1 : World), I b_8
  n_12 w1 → ∀ (J_1 : World → Prop), (∀ (w1_5 : World), (∀ (J : Bool → World → Prop), (∀ (b : Bool) (w1_6 : World), some (SV.box b_1 27 (SV.struct [SV.int
  IntKind.i64 src_0, SV.arr IntKind.u8 16 src_1])) = some (SV.box b_1 27 (SV.struct [SV.int IntKind.i64 src_0, SV.arr IntKind.u8 16 src_1])) ∧ some (SV.box
  b_2 27 (SV.struct [SV.int IntKind.i64 dst_0, SV.arr IntKind.u8 16 dst_1])) = some (SV.box b_2 27 (SV.struct [SV.int IntKind.i64 dst_0, SV.arr IntKind.u8
  16 dst_1])) ∧ some (SV.box b_5 30 (SV.struct [SV.int IntKind.i64 n, SV.int IntKind.i64 n_1, SV.bool b_4, SV.slice s_1])) = some (SV.box b_5 30 (SV.struct
  [SV.int IntKind.i64 n, SV.int IntKind.i64 n_1, SV.bool b_4, SV.slice s_1])) ∧ some (SV.box b_6 45 (SV.struct [SV.int IntKind.i64 n_3, SV.int IntKind.i64
  n_4, SV.int IntKind.i64 n_5, SV.int IntKind.i64 n_6, SV.int IntKind.i64 n_7, SV.int IntKind.i64 n_8, SV.int IntKind.i64 n_9, SV.slice s_2, SV.slice s_3]))
  = some (SV.box b_6 45 (SV.struct [SV.int IntKind.i64 n_3, SV.int IntKind.i64 n_4, SV.int IntKind.i64 n_5, SV.int IntKind.i64 n_6, SV.int IntKind.i64 n_7,
  SV.int IntKind.i64 n_8, SV.int IntKind.i64 n_9, SV.slice s_2, SV.slice s_3])) ∧ I b (wr IntKind.i64 (n_12 + 1)) w1_6 ∧ M b (wr IntKind.i64 (n_12 + 1)) w1_6
  < M b_8 n_12 w1 → J b w1_6) → Need (decide (0 ≤ n_12) && decide (n_12 < (↑s_2.2 : Int)) && Option.isSome s_2.1) (∃ (s_5 : Sl), World.cell? w1_5 (Addr.add
  (Sl.at s_2 2 (Int.toNat n_12)) 1) = some (Sl.val s_5) ∧ ∀ (b_9 : Nat) (w1 : World), Upd [] [b_9] w1_5 w1 → (World.heap w1)[b_9]? = some (Obj.cells { toList := SV.cells (SV.struct [SV.int IntKind.u8 7, SV.int IntKind.u8 8, SV.int IntKind.u8 9]) }
  5) → Vc.Append 5 1 1 s_5 { ptr := some { block := b_9, off := 0 }, len := 3, cap := 3 } [b_1, b_2, b_5, b_6] w1 fun (r : Sl) (w : World) => Need (decide
  (0 ≤ n_12) && decide (n_12 < (↑s_2.2 : Int)) && Option.isSome s_2.1) (∃ (s_6 : Sl), World.cell? w (Addr.add (Sl.at s_2 2 (Int.toNat n_12)) 1) = some (Sl.val
  s_6) ∧ Br ((↑r.2 : Int) == wr IntKind.i64 ((↑s_6.2 : Int) + 3)) (Ret Tryd.prog 34 [SV.slice s, SV.slice b] w fun (r : SV) (w1 : World) => ∃ (b : Bool),
  r = SV.bool b ∧ Keeps [b_1, b_2, b_5, b_6] w w1 ∧ some (SV.box b_1 27 (SV.struct [SV.int IntKind.i64 src_0, SV.arr IntKind.u8 16 src_1])) = some (SV.box
  b_1 27 (SV.struct [SV.int IntKind.i64 src_0, SV.arr IntKind.u8 16 src_1])) ∧ some (SV.box b_2 27 (SV.struct [SV.int IntKind.i64 dst_0, SV.arr IntKind.u8
  16 dst_1])) = some (SV.box b_2 27 (SV.struct [SV.int IntKind.i64 dst_0, SV.arr IntKind.u8 16 dst_1])) ∧ some (SV.box b_5 30 (SV.struct [SV.int IntKind.i64
  n, SV.int IntKind.i64 n_1, SV.bool b_4, SV.slice s_1])) = some (SV.box b_5 30 (SV.struct [SV.int IntKind.i64 n, SV.int IntKind.i64 n_1, SV.bool b_4, SV.slice
  s_1])) ∧ some (SV.box b_6 45 (SV.struct [SV.int IntKind.i64 n_3, SV.int IntKind.i64 n_4, SV.int IntKind.i64 n_5, SV.int IntKind.i64 n_6, SV.int IntKind.i64
  n_7, SV.int IntKind.i64 n_8, SV.int IntKind.i64 n_9, SV.slice s_2, SV.slice s_3])) = some (SV.box b_6 45 (SV.struct [SV.int IntKind.i64 n_3, SV.int IntKind.i64
  n_4, SV.int IntKind.i64 n_5, SV.int IntKind.i64 n_6, SV.int IntKind.i64 n_7, SV.int IntKind.i64 n_8, SV.int IntKind.i64 n_9, SV.slice s_2, SV.slice s_3]))
  ∧ J b w1) (some (SV.box b_1 27 (SV.struct [SV.int IntKind.i64 src_0, SV.arr IntKind.u8 16 src_1])) = some (SV.box b_1 27 (SV.struct [SV.int IntKind.i64
  src_0, SV.arr IntKind.u8 16 src_1])) ∧ some (SV.box b_2 27 (SV.struct [SV.int IntKind.i64 dst_0, SV.arr IntKind.u8 16 dst_1])) = some (SV.box b_2 27 (SV.struct
  [SV.int IntKind.i64 dst_0, SV.arr IntKind.u8 16 dst_1])) ∧ some (SV.box b_5 30 (SV.struct [SV.int IntKind.i64 n, SV.int IntKind.i64 n_1, SV.bool b_4, SV.slice
  s_1])) = some (SV.box b_5 30 (SV.struct [SV.int IntKind.i64 n, SV.int IntKind.i64 n_1, SV.bool b_4, SV.slice s_1])) ∧ some (SV.box b_6 45 (SV.struct [SV.int
  IntKind.i64 n_3, SV.int IntKind.i64 n_4, SV.int IntKind.i64 n_5, SV.int IntKind.i64 n_6, SV.int IntKind.i64 n_7, SV.int IntKind.i64 n_8, SV.int IntKind.i64
  n_9, SV.slice s_2, SV.slice s_3])) = some (SV.box b_6 45 (SV.struct [SV.int IntKind.i64 n_3, SV.int IntKind.i64 n_4, SV.int IntKind.i64 n_5, SV.int IntKind.i64
  n_6, SV.int IntKind.i64 n_7, SV.int IntKind.i64 n_8, SV.int IntKind.i64 n_9, SV.slice s_2, SV.slice s_3])) ∧ J false w)))) → J_1 w1_5) → Br (decide (n_12
  < (↑s_2.2 : Int))) (Br b_8 (some (SV.box b_1 27 (SV.struct [SV.int IntKind.i64 src_0, SV.arr IntKind.u8 16 src_1])) = some (SV.box b_1 27 (SV.struct [SV.int
  IntKind.i64 src_0, SV.arr IntKind.u8 16 src_1])) ∧ some (SV.box b_2 27 (SV.struct [SV.int IntKind.i64 dst_0, SV.arr IntKind.u8 16 dst_1])) = some (SV.box
  b_2 27 (SV.struct [SV.int IntKind.i64 dst_0, SV.arr IntKind.u8 16 dst_1])) ∧ some (SV.box b_5 30 (SV.struct [SV.int IntKind.i64 n, SV.int IntKind.i64 n_1,
  SV.bool b_4, SV.slice s_1])) = some (SV.box b_5 30 (SV.struct [SV.int IntKind.i64 n, SV.int IntKind.i64 n_1, SV.bool b_4, SV.slice s_1])) ∧ some (SV.box
  b_6 45 (SV.struct [SV.int IntKind.i64 n_3, SV.int IntKind.i64 n_4, SV.int IntKind.i64 n_5, SV.int IntKind.i64 n_6, SV.int IntKind.i64 n_7, SV.int IntKind.i64
  n_8, SV.int IntKind.i64 n_9, SV.slice s_2, SV.slice s_3])) = some (SV.box b_6 45 (SV.struct [SV.int IntKind.i64 n_3, SV.int IntKind.i64 n_4, SV.int IntKind.i64
  n_5, SV.int IntKind.i64 n_6, SV.int IntKind.i64 n_7, SV.int IntKind.i64 n_8, SV.int IntKind.i64 n_9, SV.slice s_2, SV.slice s_3])) ∧ J_1 w1) (some (SV.box
  b_1 27 (SV.struct [SV.int IntKind.i64 src_0, SV.arr IntKind.u8 16 src_1])) = some (SV.box b_1 27 (SV.struct [SV.int IntKind.i64 src_0, SV.arr IntKind.u8
  16 src_1])) ∧ some (SV.box b_2 27 (SV.struct [SV.int IntKind.i64 dst_0, SV.arr IntKind.u8 16 dst_1])) = some (SV.box b_2 27 (SV.struct [SV.int IntKind.i64
  dst_0, SV.arr IntKind.u8 16 dst_1])) ∧ some (SV.box b_5 30 (SV.struct [SV.int IntKind.i64 n, SV.int IntKind.i64 n_1, SV.bool b_4, SV.slice s_1])) = some
  (SV.box b_5 30 (SV.struct [SV.int IntKind.i64 n, SV.int IntKind.i64 n_1, SV.bool b_4, SV.slice s_1])) ∧ some (SV.box b_6 45 (SV.struct [SV.int IntKind.i64
  n_3, SV.int IntKind.i64 n_4, SV.int IntKind.i64 n_5, SV.int IntKind.i64 n_6, SV.int IntKind.i64 n_7, SV.int IntKind.i64 n_8, SV.int IntKind.i64 n_9, SV.slice
  s_2, SV.slice s_3])) = some (SV.box b_6 45 (SV.struct [SV.int IntKind.i64 n_3, SV.int IntKind.i64 n_4, SV.int IntKind.i64 n_5, SV.int IntKind.i64 n_6, SV.int
  IntKind.i64 n_7, SV.int IntKind.i64 n_8, SV.int IntKind.i64 n_9, SV.slice s_2, SV.slice s_3])) ∧ J b_8 w1)) (some (SV.box b_1 27 (SV.struct [SV.int IntKind.i64
  src_0, SV.arr IntKind.u8 16 src_1])) = some (SV.box b_1 27 (SV.struct [SV.int IntKind.i64 src_0, SV.arr IntKind.u8 16 src_1])) ∧ some (SV.box b_2 27 (SV.struct
  [SV.int IntKind.i64 dst_0, SV.arr IntKind.u8 16 dst_1])) = some (SV.box b_2 27 (SV.struct [SV.int IntKind.i64 dst_0, SV.arr IntKind.u8 16 dst_1])) ∧ some
  (SV.box b_5 30 (SV.struct [SV.int IntKind.i64 n, SV.int IntKind.i64 n_1, SV.bool b_4, SV.slice s_1])) = some (SV.box b_5 30 (SV.struct [SV.int IntKind.i64
  n, SV.int IntKind.i64 n_1, SV.bool b_4, SV.slice s_1])) ∧ some (SV.box b_6 45 (SV.struct [SV.int IntKind.i64 n_3, SV.int IntKind.i64 n_4, SV.int IntKind.i64
  n_5, SV.int IntKind.i64 n_6, SV.int IntKind.i64 n_7, SV.int IntKind.i64 n_8, SV.int IntKind.i64 n_9, SV.slice s_2, SV.slice s_3])) = some (SV.box b_6 45
  (SV.struct [SV.int IntKind.i64 n_3, SV.int IntKind.i64 n_4, SV.int IntKind.i64 n_5, SV.int IntKind.i64 n_6, SV.int IntKind.i64 n_7, SV.int IntKind.i64 n_8,
  SV.int IntKind.i64 n_9, SV.slice s_2, SV.slice s_3])) ∧ J b_8 w1)) → J b_7 w1) → ∃ (I : Bool → Int → World → Prop), ∃ (M : Bool → Int → World → Nat), I
  b_3 0 w1_4 ∧ ∀ (b_7 : Bool) (n_12 : Int) (w1 : World), I b_7 n_12 w1 → ∀ (J_1 : World → Prop), (∀ (w1_5 : World), (∀ (J : Bool → World → Prop), (∀ (b :
  Bool) (w1_6 : World), some (SV.box b_1 27 (SV.struct [SV.int IntKind.i64 src_0, SV.arr IntKind.u8 16 src_1])) = some (SV.box b_1 27 (SV.struct [SV.int IntKind.i64
  src_0, SV.arr IntKind.u8 16 src_1])) ∧ some (SV.box b_2 27 (SV.struct [SV.int IntKind.i64 dst_0, SV.arr IntKind.u8 16 dst_1])) = some (SV.box b_2 27 (SV.struct
  [SV.int IntKind.i64 dst_0, SV.arr IntKind.u8 16 dst_1])) ∧ some (SV.box b_5 30 (SV.struct [SV.int IntKind.i64 n, SV.int IntKind.i64 n_1, SV.bool b_4, SV.slice
  s_1])) = some (SV.box b_5 30 (SV.struct [SV.int IntKind.i64 n, SV.int IntKind.i64 n_1, SV.bool b_4, SV.slice s_1])) ∧ some (SV.box b_6 45 (SV.struct [SV.int
  IntKind.i64 n_3, SV.int IntKind.i64 n_4, SV.int IntKind.i64 n_5, SV.int IntKind.i64 n_6, SV.int IntKind.i64 n_7, SV.int IntKind.i64 n_8, SV.int IntKind.i64
  n_9, SV.slice s_2, SV.slice s_3])) = some (SV.box b_6 45 (SV.struct [SV.int IntKind.i64 n_3, SV.int IntKind.i64 n_4, SV.int IntKind.i64 n_5, SV.int IntKind.i64
  n_6, SV.int IntKind.i64 n_7, SV.int IntKind.i64 n_8, SV.int IntKind.i64 n_9, SV.slice s_2, SV.slice s_3])) ∧ I b (wr IntKind.i64 (n_12 + 1)) w1_6 ∧ M b
  (wr IntKind.i64 (n_12 + 1)) w1_6 < M b_7 n_12 w1 → J b w1_6) → Need (decide (0 ≤ n_12) && decide (n_12 < (↑s_4.2 : Int)) && Option.isSome s_4.1) (∃ (s_5
  : Sl), World.cell? w1_5 (Addr.add (Sl.at s_4 2 (Int.toNat n_12)) 1) = some (Sl.val s_5) ∧ ∀ (b_8 : Nat) (w1 : World), Upd [] [b_8] w1_5 w1 → (World.heap
  w1)[b_8]? = some (Obj.cells { toList := SV.cells (SV.struct [SV.int IntKind.u8 7, SV.int IntKind.u8 8, SV.int IntKind.u8 9]) } 5) → Vc.Append 5 1 1 s_5
  { ptr := some { block := b_8, off := 0 }, len := 3, cap := 3 } [b_1, b_2, b_5, b_6] w1 fun (r : Sl) (w : World) => Need (decide (0 ≤ n_12) && decide (n_12
  < (↑s_4.2 : Int)) && Option.isSome s_4.1) (∃ (s_6 : Sl), World.cell? w (Addr.add (Sl.at s_4 2 (Int.toNat n_12)) 1) = some (Sl.val s_6) ∧ Br ((↑r.2 : Int)
  == wr IntKind.i64 ((↑s_6.2 : Int) + 3)) (Ret Tryd.prog 34 [SV.slice s, SV.slice b] w fun (r : SV) (w1 : World) => ∃ (b : Bool), r = SV.bool b ∧ Keeps [b_1,
  b_2, b_5, b_6] w w1 ∧ some (SV.box b_1 27 (SV.struct [SV.int IntKind.i64 src_0, SV.arr IntKind.u8 16 src_1])) = some (SV.box b_1 27 (SV.struct [SV.int IntKind.i64
  src_0, SV.arr IntKind.u8 16 src_1])) ∧ some (SV.box b_2 27 (SV.struct [SV.int IntKind.i64 dst_0, SV.arr IntKind.u8 16 dst_1])) = some (SV.box b_2 27 (SV.struct
  [SV.int IntKind.i64 dst_0, SV.arr IntKind.u8 16 dst_1])) ∧ some (SV.box b_5 30 (SV.struct [SV.int IntKind.i64 n, SV.int IntKind.i64 n_1, SV.bool b_4, SV.slice
  s_1])) = some (SV.box b_5 30 (SV.struct [SV.int IntKind.i64 n, SV.int IntKind.i64 n_1, SV.bool b_4, SV.slice s_1])) ∧ some (SV.box b_6 45 (SV.struct [SV.int
  IntKind.i64 n_3, SV.int IntKind.i64 n_4, SV.int IntKind.i64 n_5, SV.int IntKind.i64 n_6, SV.int IntKind.i64 n_7, SV.int IntKind.i64 n_8, SV.int IntKind.i64
  n_9, SV.slice s_2, SV.slice s_3])) = some (SV.box b_6 45 (SV.struct [SV.int IntKind.i64 n_3, SV.int IntKind.i64 n_4, SV.int IntKind.i64 n_5, SV.int IntKind.i64
  n_6, SV.int IntKind.i64 n_7, SV.int IntKind.i64 n_8, SV.int IntKind.i64 n_9, SV.slice s_2, SV.slice s_3])) ∧ J b w1) (some (SV.box b_1 27 (SV.struct [SV.int
  IntKind.i64 src_0, SV.arr IntKind.u8 16 src_1])) = some (SV.box b_1 27 (SV.struct [SV.int IntKind.i64 src_0, SV.arr IntKind.u8 16 src_1])) ∧ some (SV.box
  b_2 27 (SV.struct [SV.int IntKind.i64 dst_0, SV.arr IntKind.u8 16 dst_1])) = some (SV.box b_2 27 (SV.struct [SV.int IntKind.i64 dst_0, SV.arr IntKind.u8
  16 dst_1])) ∧ some (SV.box b_5 30 (SV.struct [SV.int IntKind.i64 n, SV.int IntKind.i64 n_1, SV.bool b_4, SV.slice s_1])) = some (SV.box b_5 30 (SV.struct
  [SV.int IntKind.i64 n, SV.int IntKind.i64 n_1, SV.bool b_4, SV.slice s_1])) ∧ some (SV.box b_6 45 (SV.struct [SV.int IntKind.i64 n_3, SV.int IntKind.i64
  n_4, SV.int IntKind.i64 n_5, SV.int IntKind.i64 n_6, SV.int IntKind.i64 n_7, SV.int IntKind.i64 n_8, SV.int IntKind.i64 n_9, SV.slice s_2, SV.slice s_3]))
  = some (SV.box b_6 45 (SV.struct [SV.int IntKind.i64 n_3, SV.int IntKind.i64 n_4, SV.int IntKind.i64 n_5, SV.int IntKind.i64 n_6, SV.int IntKind.i64 n_7,
  SV.int IntKind.i64 n_8, SV.int IntKind.i64 n_9, SV.slice s_2, SV.slice s_3])) ∧ J false w)))) → J_1 w1_5) → Br (decide (n_12 < (↑s_4.2 : Int))) (Br b_7
  (some (SV.box b_1 27 (SV.struct [SV.int IntKind.i64 src_0, SV.arr IntKind.u8 16 src_1])) = some (SV.box b_1 27 (SV.struct [SV.int IntKind.i64 src_0, SV.arr
  IntKind.u8 16 src_1])) ∧ some (SV.box b_2 27 (SV.struct [SV.int IntKind.i64 dst_0, SV.arr IntKind.u8 16 dst_1])) = some (SV.box b_2 27 (SV.struct [SV.int
  IntKind.i64 dst_0, SV.arr IntKind.u8 16 dst_1])) ∧ some (SV.box b_5 30 (SV.struct [SV.int IntKind.i64 n, SV.int IntKind.i64 n_1, SV.bool b_4, SV.slice s_1]))
  = some (SV.box b_5 30 (SV.struct [SV.int IntKind.i64 n, SV.int IntKind.i64 n_1, SV.bool b_4, SV.slice s_1])) ∧ some (SV.box b_6 45 (SV.struct [SV.int IntKind.i64
  n_3, SV.int IntKind.i64 n_4, SV.int IntKind.i64 n_5, SV.int IntKind.i64 n_6, SV.int IntKind.i64 n_7, SV.int IntKind.i64 n_8, SV.int IntKind.i64 n_9, SV.slice
  s_2, SV.slice s_3])) = some (SV.box b_6 45 (SV.struct [SV.int IntKind.i64 n_3, SV.int IntKind.i64 n_4, SV.int IntKind.i64 n_5, SV.int IntKind.i64 n_6, SV.int
  IntKind.i64 n_7, SV.int IntKind.i64 n_8, SV.int IntKind.i64 n_9, SV.slice s_2, SV.slice s_3])) ∧ J_1 w1) (some (SV.box b_1 27 (SV.struct [SV.int IntKind.i64
  src_0, SV.arr IntKind.u8 16 src_1])) = some (SV.box b_1 27 (SV.struct [SV.int IntKind.i64 src_0, SV.arr IntKind.u8 16 src_1])) ∧ some (SV.box b_2 27 (SV.struct
  [SV.int IntKind.i64 dst_0, SV.arr IntKind.u8 16 dst_1])) = some (SV.box b_2 27 (SV.struct [SV.int IntKind.i64 dst_0, SV.arr IntKind.u8 16 dst_1])) ∧ some
  (SV.box b_5 30 (SV.struct [SV.int IntKind.i64 n, SV.int IntKind.i64 n_1, SV.bool b_4, SV.slice s_1])) = some (SV.box b_5 30 (SV.struct [SV.int IntKind.i64
  n, SV.int IntKind.i64 n_1, SV.bool b_4, SV.slice s_1])) ∧ some (SV.box b_6 45 (SV.struct [SV.int IntKind.i64 n_3, SV.int IntKind.i64 n_4, SV.int IntKind.i64
  n_5, SV.int IntKind.i64 n_6, SV.int IntKind.i64 n_7, SV.int IntKind.i64 n_8, SV.int IntKind.i64 n_9, SV.slice s_2, SV.slice s_3])) = some (SV.box b_6 45
  (SV.struct [SV.int IntKind.i64 n_3, SV.int IntKind.i64 n_4, SV.int IntKind.i64 n_5, SV.int IntKind.i64 n_6, SV.int IntKind.i64 n_7, SV.int IntKind.i64 n_8,
  SV.int IntKind.i64 n_9, SV.slice s_2, SV.slice s_3])) ∧ J b_7 w1)) (some (SV.box b_1 27 (SV.struct [SV.int IntKind.i64 src_0, SV.arr IntKind.u8 16 src_1]))
  = some (SV.box b_1 27 (SV.struct [SV.int IntKind.i64 src_0, SV.arr IntKind.u8 16 src_1])) ∧ some (SV.box b_2 27 (SV.struct [SV.int IntKind.i64 dst_0, SV.arr
  IntKind.u8 16 dst_1])) = some (SV.box b_2 27 (SV.struct [SV.int IntKind.i64 dst_0, SV.arr IntKind.u8 16 dst_1])) ∧ some (SV.box b_5 30 (SV.struct [SV.int
  IntKind.i64 n, SV.int IntKind.i64 n_1, SV.bool b_4, SV.slice s_1])) = some (SV.box b_5 30 (SV.struct [SV.int IntKind.i64 n, SV.int IntKind.i64 n_1, SV.bool
  b_4, SV.slice s_1])) ∧ some (SV.box b_6 45 (SV.struct [SV.int IntKind.i64 n_3, SV.int IntKind.i64 n_4, SV.int IntKind.i64 n_5, SV.int IntKind.i64 n_6, SV.int
  IntKind.i64 n_7, SV.int IntKind.i64 n_8, SV.int IntKind.i64 n_9, SV.slice s_2, SV.slice s_3])) = some (SV.box b_6 45 (SV.struct [SV.int IntKind.i64 n_3,
  SV.int IntKind.i64 n_4, SV.int IntKind.i64 n_5, SV.int IntKind.i64 n_6, SV.int IntKind.i64 n_7, SV.int IntKind.i64 n_8, SV.int IntKind.i64 n_9, SV.slice
  s_2, SV.slice s_3])) ∧ J b_7 w1))
theorem f12_of (src_0 : Int) (src_1 : Nat → Int) (dst_0 : Int) (dst_1 : Nat → Int) (b : Sl) (c : Int) (w : World) (R : SV → World → Prop) (h : vc12 src_0 src_1 dst_0 dst_1 b c w R) : Ret Tryd.prog 12 [.struct [.int .i64 src_0, .arr .u8 16 src_1], .struct [.int .i64 dst_0, .arr .u8 16 dst_1], .slice b, .int .u8 c] w R :=
  have e : vc12 src_0 src_1 dst_0 dst_1 b c w R = fnVC X Tryd.f12 a12 [.struct [.int .i64 src_0, .arr .u8 16 src_1], .struct [.int .i64 dst_0, .arr .u8 16 dst_1], .slice b, .int .u8 c] w R := by kernel_rfl
  fnVC_sound X_ok (n := a12) (e ▸ h) (by kernel_rfl) (by kernel_rfl) rfl rfl

end Go.Vc.S9
