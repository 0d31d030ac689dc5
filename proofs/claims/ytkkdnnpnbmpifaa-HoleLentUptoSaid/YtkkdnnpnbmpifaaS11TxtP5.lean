import Derived.Test.YtkkdnnpnbmpifaaG3
import Derived.KernelRfl
open Go Go.Vc Go.Vc.S11 Go.Proofs
set_option maxRecDepth 100000
set_option linter.unusedVariables false
namespace Go.Vc.S11
def vc5 (max : Int) (script : Sl) (w : World) (R : SV → World → Prop) : Prop := Ret Try.prog 20 [SV.int IntKind.i64 64, SV.struct [SV.ptr none, SV.ptr none]]
  w fun (r : SV) (w1 : World) => ∃ (p : Option Addr), ∃ (p_1 : Option Addr), ∃ (b : Bool), r = SV.tuple [SV.struct [SV.ptr p, SV.ptr p_1], SV.bool b] ∧ ∀
  (b_1 : Nat) (J : World → Prop), (∀ (w1 : World), (Ret Try.prog 20 [SV.int IntKind.i64 max, SV.struct [SV.ptr p, SV.ptr p_1]] w1 fun (r : SV) (w1_1 : World)
  => ∃ (p_2 : Option Addr), ∃ (p_3 : Option Addr), ∃ (b : Bool), r = SV.tuple [SV.struct [SV.ptr p_2, SV.ptr p_3], SV.bool b] ∧ Keeps [b_1] w1 w1_1 ∧ ∀ (b_2
  : Nat), Br (!b) (∀ (w1 : World), Upd [] [b_2] w1_1 w1 → R (SV.bool false) w1) (∀ (b b_3 : Nat) (w1 : World), Upd [] [b_3, b, b_2] w1_1 w1 → (World.heap
  w1)[b_3]? = some (Obj.cells { toList := SV.cells (SV.struct [SV.slice { ptr := none, len := 0, cap := 0 }, SV.slice { ptr := none, len := 0, cap := 0 }, SV.slice { ptr := none, len := 0, cap := 0 }, SV.slice { ptr := none, len := 0, cap := 0 }]) }
  62) → Off b_3 [b_1, b_2, b] → ∃ (I : Int → Option Addr → Option Addr → Option Addr → Option Addr → World → Prop), ∃ (M : Int → Option Addr → Option Addr
  → Option Addr → Option Addr → World → Nat), I 0 p_2 p_3 p p_1 w1 ∧ ∀ (n : Int) (p_4 p_5 p_6 p_7 : Option Addr) (w1 : World), I n p_4 p_5 p_6 p_7 w1 → ∀
  (J : World → Prop), (∀ (w1_2 : World), (∀ (J : Option Addr → Option Addr → Option Addr → Option Addr → World → Prop), (∀ (p_8 p_9 p_10 p_11 : Option Addr)
  (w1_3 : World), some (SV.box b_1 53 (SV.struct [SV.ptr p, SV.ptr p_1])) = some (SV.box b_1 53 (SV.struct [SV.ptr p, SV.ptr p_1])) ∧ some (SV.box b_2 53
  (SV.struct [SV.ptr p_2, SV.ptr p_3])) = some (SV.box b_2 53 (SV.struct [SV.ptr p_2, SV.ptr p_3])) ∧ (b, 63) = (b, 63) ∧ I (wr IntKind.i64 (n + 1)) p_8 p_9
  p_10 p_11 w1_3 ∧ M (wr IntKind.i64 (n + 1)) p_8 p_9 p_10 p_11 w1_3 < M n p_4 p_5 p_6 p_7 w1 → J p_8 p_9 p_10 p_11 w1_3) → Need (decide (0 ≤ n) && decide
  (n < (↑script.2 : Int)) && Option.isSome script.1) (∃ (n_1 : Int), World.cell? w1_2 (Sl.at script 5 (Int.toNat n)) = some (Value.int IntKind.i64 n_1) ∧
  ∃ (n_2 : Int), World.cell? w1_2 (Addr.add (Sl.at script 5 (Int.toNat n)) 1) = some (Value.int IntKind.i64 n_2) ∧ ∃ (n_3 : Int), World.cell? w1_2 (Addr.add
  (Sl.at script 5 (Int.toNat n)) 2) = some (Value.int IntKind.i64 n_3) ∧ ∃ (s : Sl), World.cell? w1_2 (Addr.add (Sl.at script 5 (Int.toNat n)) 3) = some (Sl.val
  s) ∧ ∃ (b_4 : Bool), World.cell? w1_2 (Addr.add (Sl.at script 5 (Int.toNat n)) 4) = some (Value.bool b_4) ∧ ∀ (b_5 : Nat) (J_1 : Bool → Option Addr → Option
  Addr → Option Addr → Option Addr → World → Prop), (∀ (b_6 : Bool) (p_8 p_9 p_10 p_11 : Option Addr) (w1 : World), Br (!b_6) (R (SV.bool false) w1) (Ret
  Try.prog 23 [SV.ptr (some { block := b_3, off := 0 })] w1 fun (r : SV) (w1_3 : World) => ∃ (b_7 : Bool), r = SV.bool b_7 ∧ Keeps [b_1, b_2, b, b_5] w1 w1_3
  ∧ Br (!b_7) (R (SV.bool false) w1_3) (some (SV.box b_1 53 (SV.struct [SV.ptr p, SV.ptr p_1])) = some (SV.box b_1 53 (SV.struct [SV.ptr p, SV.ptr p_1]))
  ∧ some (SV.box b_2 53 (SV.struct [SV.ptr p_2, SV.ptr p_3])) = some (SV.box b_2 53 (SV.struct [SV.ptr p_2, SV.ptr p_3])) ∧ (b, 63) = (b, 63) ∧ J p_8 p_9
  p_10 p_11 w1_3)) → J_1 b_6 p_8 p_9 p_10 p_11 w1) → Br (n_1 == 1) (Need (decide (0 ≤ iand IntKind.i64 n_2 1) && decide (iand IntKind.i64 n_2 1 < 2)) (Br
  (decide (iand IntKind.i64 n_2 1 = 0)) (∀ (w1 : World), Upd [] [b_5] w1_2 w1 → Ret Try.prog 13 [SV.slice s] w1 fun (r : SV) (w1_3 : World) => ∃ (s_1 : Sl),
  r = SV.slice s_1 ∧ Keeps [b_1, b_2, b, b_5] w1 w1_3 ∧ Upd [] [] w1_2 w1_3 ∧ Ret Try.prog 21 [SV.struct [SV.ptr p_4, SV.ptr p_5], SV.int IntKind.i64 n_3,
  SV.slice s_1, SV.bool b_4] w1_3 fun (r : SV) (w1 : World) => ∃ (b_6 : Bool), r = SV.bool b_6 ∧ Keeps [b_1, b_2, b, b_5] w1_3 w1 ∧ some (SV.box b_1 53 (SV.struct
  [SV.ptr p, SV.ptr p_1])) = some (SV.box b_1 53 (SV.struct [SV.ptr p, SV.ptr p_1])) ∧ some (SV.box b_2 53 (SV.struct [SV.ptr p_2, SV.ptr p_3])) = some (SV.box
  b_2 53 (SV.struct [SV.ptr p_2, SV.ptr p_3])) ∧ some (SV.box b_5 65 (SV.struct [SV.int IntKind.i64 n_1, SV.int IntKind.i64 n_2, SV.int IntKind.i64 n_3, SV.slice
  s, SV.bool b_4])) = some (SV.box b_5 65 (SV.struct [SV.int IntKind.i64 n_1, SV.int IntKind.i64 n_2, SV.int IntKind.i64 n_3, SV.slice s, SV.bool b_4])) ∧
  (b, 63) = (b, 63) ∧ J_1 b_6 p_4 p_5 p_6 p_7 w1) (Br (decide (iand IntKind.i64 n_2 1 = 1)) (∀ (w1 : World), Upd [] [b_5] w1_2 w1 → Ret Try.prog 13 [SV.slice
  s] w1 fun (r : SV) (w1_3 : World) => ∃ (s_1 : Sl), r = SV.slice s_1 ∧ Keeps [b_1, b_2, b, b_5] w1 w1_3 ∧ Upd [] [] w1_2 w1_3 ∧ Ret Try.prog 21 [SV.struct
  [SV.ptr p_6, SV.ptr p_7], SV.int IntKind.i64 n_3, SV.slice s_1, SV.bool b_4] w1_3 fun (r : SV) (w1 : World) => ∃ (b_6 : Bool), r = SV.bool b_6 ∧ Keeps [b_1,
  b_2, b, b_5] w1_3 w1 ∧ some (SV.box b_1 53 (SV.struct [SV.ptr p, SV.ptr p_1])) = some (SV.box b_1 53 (SV.struct [SV.ptr p, SV.ptr p_1])) ∧ some (SV.box
  b_2 53 (SV.struct [SV.ptr p_2, SV.ptr p_3])) = some (SV.box b_2 53 (SV.struct [SV.ptr p_2, SV.ptr p_3])) ∧ some (SV.box b_5 65 (SV.struct [SV.int IntKind.i64
  n_1, SV.int IntKind.i64 n_2, SV.int IntKind.i64 n_3, SV.slice s, SV.bool b_4])) = some (SV.box b_5 65 (SV.struct [SV.int IntKind.i64 n_1, SV.int IntKind.i64
  n_2, SV.int IntKind.i64 n_3, SV.slice s, SV.bool b_4])) ∧ (b, 63) = (b, 63) ∧ J_1 b_6 p_4 p_5 p_6 p_7 w1) True))) (Br (n_1 == 6) (Need (decide (0 ≤ iand
  IntKind.i64 n_2 1) && decide (iand IntKind.i64 n_2 1 < 2)) (Br (decide (iand IntKind.i64 n_2 1 = 0)) (∀ (w1 : World), Upd [] [b_5] w1_2 w1 → ∀ (b_6 : Nat)
  (w1_3 : World), Upd [] [b_6] w1 w1_3 → (World.heap w1_3)[b_6]? = some (Obj.cells { toList := zerosOf (Ty.int IntKind.u8) 65536 } 5) → Upd [] [] w1_2 w1_3
  ∧ Ret Try.prog 21 [SV.struct [SV.ptr p_4, SV.ptr p_5], SV.int IntKind.i64 n_3, SV.slice { ptr := some { block := b_6, off := 0 }, len := 65536, cap := 65536 },
  SV.bool b_4] w1_3 fun (r : SV) (w1 : World) => ∃ (b_7 : Bool), r = SV.bool b_7 ∧ Keeps [b_1, b_2, b, b_5] w1_3 w1 ∧ some (SV.box b_1 53 (SV.struct [SV.ptr
  p, SV.ptr p_1])) = some (SV.box b_1 53 (SV.struct [SV.ptr p, SV.ptr p_1])) ∧ some (SV.box b_2 53 (SV.struct [SV.ptr p_2, SV.ptr p_3])) = some (SV.box b_2
  53 (SV.struct [SV.ptr p_2, SV.ptr p_3])) ∧ some (SV.box b_5 65 (SV.struct [SV.int IntKind.i64 n_1, SV.int IntKind.i64 n_2, SV.int IntKind.i64 n_3, SV.slice
  s, SV.bool b_4])) = some (SV.box b_5 65 (SV.struct [SV.int IntKind.i64 n_1, SV.int IntKind.i64 n_2, SV.int IntKind.i64 n_3, SV.slice s, SV.bool b_4])) ∧
  (b, 63) = (b, 63) ∧ J_1 b_7 p_4 p_5 p_6 p_7 w1) (Br (decide (iand IntKind.i64 n_2 1 = 1)) (∀ (w1 : World), Upd [] [b_5] w1_2 w1 → ∀ (b_6 : Nat) (w1_3 :
  World), Upd [] [b_6] w1 w1_3 → (World.heap w1_3)[b_6]? = some (Obj.cells { toList := zerosOf (Ty.int IntKind.u8) 65536 } 5) → Upd [] [] w1_2 w1_3 ∧ Ret
  Try.prog 21 [SV.struct [SV.ptr p_6, SV.ptr p_7], SV.int IntKind.i64 n_3, SV.slice { ptr := some { block := b_6, off := 0 }, len := 65536, cap := 65536 },
  SV.bool b_4] w1_3 fun (r : SV) (w1 : World) => ∃ (b_7 : Bool), r = SV.bool b_7 ∧ Keeps [b_1, b_2, b, b_5] w1_3 w1 ∧ some (SV.box b_1 53 (SV.struct [SV.ptr
  p, SV.ptr p_1])) = some (SV.box b_1 53 (SV.struct [SV.ptr p, SV.ptr p_1])) ∧ some (SV.box b_2 53 (SV.struct [SV.ptr p_2, SV.ptr p_3])) = some (SV.box b_2
  53 (SV.struct [SV.ptr p_2, SV.ptr p_3])) ∧ some (SV.box b_5 65 (SV.struct [SV.int IntKind.i64 n_1, SV.int IntKind.i64 n_2, SV.int IntKind.i64 n_3, SV.slice
  s, SV.bool b_4])) = some (SV.box b_5 65 (SV.struct [SV.int IntKind.i64 n_1, SV.int IntKind.i64 n_2, SV.int IntKind.i64 n_3, SV.slice s, SV.bool b_4])) ∧
  (b, 63) = (b, 63) ∧ J_1 b_7 p_4 p_5 p_6 p_7 w1) True))) (Br (n_1 == 5) (Need (decide (0 ≤ iand IntKind.i64 n_2 1) && decide (iand IntKind.i64 n_2 1 < 2))
  (Br (decide (iand IntKind.i64 n_2 1 = 0)) (∀ (w1 : World), Upd [] [b_5] w1_2 w1 → Ret Try.prog 20 [SV.int IntKind.i64 n_3, SV.struct [SV.ptr p_4, SV.ptr
  p_5]] w1 fun (r : SV) (w1_3 : World) => ∃ (p_8 : Option Addr), ∃ (p_9 : Option Addr), ∃ (b_6 : Bool), r = SV.tuple [SV.struct [SV.ptr p_8, SV.ptr p_9],
  SV.bool b_6] ∧ Keeps [b_1, b_2, b, b_5] w1 w1_3 ∧ Need (decide (0 ≤ iand IntKind.i64 n_2 1) && decide (iand IntKind.i64 n_2 1 < 2)) (Br (decide (iand IntKind.i64
  n_2 1 = 0)) (∀ (w1 : World), Upd [b] [] w1_3 w1 → some (SV.box b_1 53 (SV.struct [SV.ptr p, SV.ptr p_1])) = some (SV.box b_1 53 (SV.struct [SV.ptr p, SV.ptr
  p_1])) ∧ some (SV.box b_2 53 (SV.struct [SV.ptr p_2, SV.ptr p_3])) = some (SV.box b_2 53 (SV.struct [SV.ptr p_2, SV.ptr p_3])) ∧ some (SV.box b_5 65 (SV.struct
  [SV.int IntKind.i64 n_1, SV.int IntKind.i64 n_2, SV.int IntKind.i64 n_3, SV.slice s, SV.bool b_4])) = some (SV.box b_5 65 (SV.struct [SV.int IntKind.i64
  n_1, SV.int IntKind.i64 n_2, SV.int IntKind.i64 n_3, SV.slice s, SV.bool b_4])) ∧ (b, 63) = (b, 63) ∧ J_1 b_6 p_8 p_9 p_6 p_7 w1) (Br (decide (iand IntKind.i64
  n_2 1 = 1)) (∀ (w1 : World), Upd [b] [] w1_3 w1 → some (SV.box b_1 53 (SV.struct [SV.ptr p, SV.ptr p_1])) = some (SV.box b_1 53 (SV.struct [SV.ptr p, SV.ptr
  p_1])) ∧ some (SV.box b_2 53 (SV.struct [SV.ptr p_2, SV.ptr p_3])) = some (SV.box b_2 53 (SV.struct [SV.ptr p_2, SV.ptr p_3])) ∧ some (SV.box b_5 65 (SV.struct
  [SV.int IntKind.i64 n_1, SV.int IntKind.i64 n_2, SV.int IntKind.i64 n_3, SV.slice s, SV.bool b_4])) = some (SV.box b_5 65 (SV.struct [SV.int IntKind.i64
  n_1, SV.int IntKind.i64 n_2, SV.int IntKind.i64 n_3, SV.slice s, SV.bool b_4])) ∧ (b, 63) = (b, 63) ∧ J_1 b_6 p_4 p_5 p_8 p_9 w1) True))) (Br (decide (iand
  IntKind.i64 n_2 1 = 1)) (∀ (w1 : World), Upd [] [b_5] w1_2 w1 → Ret Try.prog 20 [SV.int IntKind.i64 n_3, SV.struct [SV.ptr p_6, SV.ptr p_7]] w1 fun (r :
  SV) (w1_3 : World) => ∃ (p_8 : Option Addr), ∃ (p_9 : Option Addr), ∃ (b_6 : Bool), r = SV.tuple [SV.struct [SV.ptr p_8, SV.ptr p_9], SV.bool b_6] ∧ Keeps
  [b_1, b_2, b, b_5] w1 w1_3 ∧ Need (decide (0 ≤ iand IntKind.i64 n_2 1) && decide (iand IntKind.i64 n_2 1 < 2)) (Br (decide (iand IntKind.i64 n_2 1 = 0))
  (∀ (w1 : World), Upd [b] [] w1_3 w1 → some (SV.box b_1 53 (SV.struct [SV.ptr p, SV.ptr p_1])) = some (SV.box b_1 53 (SV.struct [SV.ptr p, SV.ptr p_1]))
  ∧ some (SV.box b_2 53 (SV.struct [SV.ptr p_2, SV.ptr p_3])) = some (SV.box b_2 53 (SV.struct [SV.ptr p_2, SV.ptr p_3])) ∧ some (SV.box b_5 65 (SV.struct
  [SV.int IntKind.i64 n_1, SV.int IntKind.i64 n_2, SV.int IntKind.i64 n_3, SV.slice s, SV.bool b_4])) = some (SV.box b_5 65 (SV.struct [SV.int IntKind.i64
  n_1, SV.int IntKind.i64 n_2, SV.int IntKind.i64 n_3, SV.slice s, SV.bool b_4])) ∧ (b, 63) = (b, 63) ∧ J_1 b_6 p_8 p_9 p_6 p_7 w1) (Br (decide (iand IntKind.i64
  n_2 1 = 1)) (∀ (w1 : World), Upd [b] [] w1_3 w1 → some (SV.box b_1 53 (SV.struct [SV.ptr p, SV.ptr p_1])) = some (SV.box b_1 53 (SV.struct [SV.ptr p, SV.ptr
  p_1])) ∧ some (SV.box b_2 53 (SV.struct [SV.ptr p_2, SV.ptr p_3])) = some (SV.box b_2 53 (SV.struct [SV.ptr p_2, SV.ptr p_3])) ∧ some (SV.box b_5 65 (SV.struct
  [SV.int IntKind.i64 n_1, SV.int IntKind.i64 n_2, SV.int IntKind.i64 n_3, SV.slice s, SV.bool b_4])) = some (SV.box b_5 65 (SV.struct [SV.int IntKind.i64
  n_1, SV.int IntKind.i64 n_2, SV.int IntKind.i64 n_3, SV.slice s, SV.bool b_4])) ∧ (b, 63) = (b, 63) ∧ J_1 b_6 p_4 p_5 p_8 p_9 w1) True))) True))) (Need
  (decide (0 ≤ iand IntKind.i64 n_2 1) && decide (iand IntKind.i64 n_2 1 < 2)) (Br (decide (iand IntKind.i64 n_2 1 = 0)) (∀ (w1 : World), Upd [] [b_5] w1_2
  w1 → Ret Try.prog 22 [SV.struct [SV.ptr p_4, SV.ptr p_5], SV.int IntKind.i64 n_1, SV.ptr (some { block := b_3, off := 0 })] w1 fun (r : SV) (w1_3 : World)
  => ∃ (b_6 : Bool), r = SV.bool b_6 ∧ Keeps [b_1, b_2, b, b_5] w1 w1_3 ∧ some (SV.box b_1 53 (SV.struct [SV.ptr p, SV.ptr p_1])) = some (SV.box b_1 53 (SV.struct
  [SV.ptr p, SV.ptr p_1])) ∧ some (SV.box b_2 53 (SV.struct [SV.ptr p_2, SV.ptr p_3])) = some (SV.box b_2 53 (SV.struct [SV.ptr p_2, SV.ptr p_3])) ∧ some
  (SV.box b_5 65 (SV.struct [SV.int IntKind.i64 n_1, SV.int IntKind.i64 n_2, SV.int IntKind.i64 n_3, SV.slice s, SV.bool b_4])) = some (SV.box b_5 65 (SV.struct
  [SV.int IntKind.i64 n_1, SV.int IntKind.i64 n_2, SV.int IntKind.i64 n_3, SV.slice s, SV.bool b_4])) ∧ (b, 63) = (b, 63) ∧ J_1 b_6 p_4 p_5 p_6 p_7 w1_3)
  (Br (decide (iand IntKind.i64 n_2 1 = 1)) (∀ (w1 : World), Upd [] [b_5] w1_2 w1 → Ret Try.prog 22 [SV.struct [SV.ptr p_6, SV.ptr p_7], SV.int IntKind.i64
  n_1, SV.ptr (some { block := b_3, off := 0 })] w1 fun (r : SV) (w1_3 : World) => ∃ (b_6 : Bool), r = SV.bool b_6 ∧ Keeps [b_1, b_2, b, b_5] w1 w1_3 ∧ some
  (SV.box b_1 53 (SV.struct [SV.ptr p, SV.ptr p_1])) = some (SV.box b_1 53 (SV.struct [SV.ptr p, SV.ptr p_1])) ∧ some (SV.box b_2 53 (SV.struct [SV.ptr p_2,
  SV.ptr p_3])) = some (SV.box b_2 53 (SV.struct [SV.ptr p_2, SV.ptr p_3])) ∧ some (SV.box b_5 65 (SV.struct [SV.int IntKind.i64 n_1, SV.int IntKind.i64 n_2,
  SV.int IntKind.i64 n_3, SV.slice s, SV.bool b_4])) = some (SV.box b_5 65 (SV.struct [SV.int IntKind.i64 n_1, SV.int IntKind.i64 n_2, SV.int IntKind.i64
  n_3, SV.slice s, SV.bool b_4])) ∧ (b, 63) = (b, 63) ∧ J_1 b_6 p_4 p_5 p_6 p_7 w1_3) True))))))) → J w1_2) → Br (decide (n < (↑script.2 : Int))) (Br (decide
  (n < 120)) (some (SV.box b_1 53 (SV.struct [SV.ptr p, SV.ptr p_1])) = some (SV.box b_1 53 (SV.struct [SV.ptr p, SV.ptr p_1])) ∧ some (SV.box b_2 53 (SV.struct
  [SV.ptr p_2, SV.ptr p_3])) = some (SV.box b_2 53 (SV.struct [SV.ptr p_2, SV.ptr p_3])) ∧ some (SV.box b 63 (SV.struct [SV.struct [SV.ptr p_4, SV.ptr p_5],
  SV.struct [SV.ptr p_6, SV.ptr p_7]])) = some (SV.box b 63 (SV.struct [SV.struct [SV.ptr p_4, SV.ptr p_5], SV.struct [SV.ptr p_6, SV.ptr p_7]])) ∧ J w1)
  (Ret Try.prog 22 [SV.struct [SV.ptr p_4, SV.ptr p_5], SV.int IntKind.i64 4, SV.ptr (some { block := b_3, off := 0 })] w1 fun (r : SV) (w1_2 : World) =>
  ∃ (b_4 : Bool), r = SV.bool b_4 ∧ Keeps [b_1, b_2, b] w1 w1_2 ∧ Br b_4 (Ret Try.prog 22 [SV.struct [SV.ptr p_6, SV.ptr p_7], SV.int IntKind.i64 2, SV.ptr
  (some { block := b_3, off := 0 })] w1_2 fun (r : SV) (w1 : World) => ∃ (b_5 : Bool), r = SV.bool b_5 ∧ Keeps [b_1, b_2, b] w1_2 w1 ∧ Br b_5 (Ret Try.prog
  23 [SV.ptr (some { block := b_3, off := 0 })] w1 fun (r : SV) (w1_3 : World) => ∃ (b_6 : Bool), r = SV.bool b_6 ∧ Keeps [b_1, b_2, b] w1 w1_3 ∧ R (SV.bool
  b_6) w1_3) (R (SV.bool false) w1)) (R (SV.bool false) w1_2))) (Ret Try.prog 22 [SV.struct [SV.ptr p_4, SV.ptr p_5], SV.int IntKind.i64 4, SV.ptr (some { block := b_3, off := 0 })]
  w1 fun (r : SV) (w1_2 : World) => ∃ (b_4 : Bool), r = SV.bool b_4 ∧ Keeps [b_1, b_2, b] w1 w1_2 ∧ Br b_4 (Ret Try.prog 22 [SV.struct [SV.ptr p_6, SV.ptr
  p_7], SV.int IntKind.i64 2, SV.ptr (some { block := b_3, off := 0 })] w1_2 fun (r : SV) (w1 : World) => ∃ (b_5 : Bool), r = SV.bool b_5 ∧ Keeps [b_1, b_2,
  b] w1_2 w1 ∧ Br b_5 (Ret Try.prog 23 [SV.ptr (some { block := b_3, off := 0 })] w1 fun (r : SV) (w1_3 : World) => ∃ (b_6 : Bool), r = SV.bool b_6 ∧ Keeps
  [b_1, b_2, b] w1 w1_3 ∧ R (SV.bool b_6) w1_3) (R (SV.bool false) w1)) (R (SV.bool false) w1_2)))) → J w1) → Br (!b) (∀ (w1_1 : World), Upd [] [b_1] w1 w1_1
  → R (SV.bool false) w1_1) (Br (Option.isNone p) (∀ (w1_1 : World), Upd [] [b_1] w1 w1_1 → R (SV.bool false) w1_1) (∀ (w1_1 : World), Upd [] [b_1] w1 w1_1
  → Ret Try.prog 21 [SV.struct [SV.ptr p, SV.ptr p_1], SV.int IntKind.i64 (-1), SV.slice { ptr := none, len := 0, cap := 0 }, SV.bool true] w1_1 fun (r :
  SV) (w1 : World) => ∃ (b : Bool), r = SV.bool b ∧ Keeps [b_1] w1_1 w1 ∧ Br (!b) (R (SV.bool false) w1) (∀ (b : Nat) (w1_2 : World), Upd [] [b] w1 w1_2 →
  (World.heap w1_2)[b]? = some (Obj.cells { toList := SV.cells (SV.struct [SV.int IntKind.u8 97, SV.int IntKind.u8 98, SV.int IntKind.u8 99, SV.int IntKind.u8 100, SV.int IntKind.u8 101, SV.int IntKind.u8 102, SV.int IntKind.u8 103, SV.int IntKind.u8 104]) }
  5) → MarkStr w1_2 { ptr := some { block := b, off := 0 }, len := 8, cap := 8 } [b_1] fun (w : World) => Ret Try.prog 21 [SV.struct [SV.ptr p, SV.ptr p_1],
  SV.int IntKind.i64 0, SV.slice { ptr := some { block := b, off := 0 }, len := 8, cap := 8 }, SV.bool true] w fun (r : SV) (w1 : World) => ∃ (b : Bool),
  r = SV.bool b ∧ Keeps [b_1] w w1 ∧ Br (!b) (R (SV.bool false) w1) (∀ (b : Nat) (w1_3 : World), Upd [] [b] w1 w1_3 → (World.heap w1_3)[b]? = some (Obj.cells
  { toList := SV.cells (SV.struct [SV.slice { ptr := none, len := 0, cap := 0 }, SV.slice { ptr := none, len := 0, cap := 0 }, SV.slice { ptr := none, len := 0, cap := 0 }, SV.slice { ptr := none, len := 0, cap := 0 }]) }
  62) → Off b [b_1] → Ret Try.prog 22 [SV.struct [SV.ptr p, SV.ptr p_1], SV.int IntKind.i64 2, SV.ptr (some { block := b, off := 0 })] w1_3 fun (r : SV) (w1
  : World) => ∃ (b : Bool), r = SV.bool b ∧ Keeps [b_1] w1_3 w1 ∧ Br (!b) (R (SV.bool false) w1) (some (SV.box b_1 53 (SV.struct [SV.ptr p, SV.ptr p_1]))
  = some (SV.box b_1 53 (SV.struct [SV.ptr p, SV.ptr p_1])) ∧ J w1)))))
theorem f5_of (max : Int) (script : Sl) (w : World) (R : SV → World → Prop) (hV : vc5 max script w R) : Ret Try.prog 5 [.int .i64 max, .slice script] w R :=
  have e : vc5 max script w R = fnVC X Try.f5 a5 [.int .i64 max, .slice script] w R := by kernel_rfl
  fnVC_sound X_ok (n := a5) (e ▸ hV) (by kernel_rfl) (by kernel_rfl) rfl rfl

end Go.Vc.S11
