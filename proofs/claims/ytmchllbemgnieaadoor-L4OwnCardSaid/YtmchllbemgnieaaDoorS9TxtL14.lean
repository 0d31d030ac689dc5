import Derived.Test.YtmchllbemgnieaaDoorG2
import Derived.Test.YtmchllbemgnieaaDoorG3
import Derived.KernelRfl
open Go Go.Vc Go.Vc.S9 Go.Proofs
set_option maxRecDepth 100000
set_option linter.unusedVariables false
namespace Go.Vc.S9
def vc14 (src_0 : Int) (src_1 : Nat → Int) (dst_0 : Int) (dst_1 : Nat → Int) (u_0 : Int) (u_1 : Int) (u_2 : Bool) (u_3 : Sl) (t_0 : Int) (t_1 : Int) (t_2
  : Int) (t_3 : Int) (t_4 : Int) (t_5 : Int) (t_6 : Int) (t_7 : Sl) (t_8 : Sl) (most : Int) (w : World) (R : SV → World → Prop) : Prop := ∀ (b b_1 b_2 b_3
  : Nat) (w1 : World), Upd [] [b_3, b_2, b_1, b] w w1 → Ret Tryd.prog 18 [] w1 fun (r : SV) (w1_1 : World) => ∃ (b_4 : Bool), r = SV.bool b_4 ∧ Keeps [b,
  b_1, b_2, b_3] w1 w1_1 ∧ Ret Tryd.prog 37 [SV.struct [SV.int IntKind.i64 u_0, SV.int IntKind.i64 u_1, SV.bool u_2, SV.slice u_3]] w1_1 fun (r : SV) (w1
  : World) => ∃ (n : Int), ∃ (n_1 : Int), ∃ (b_5 : Bool), ∃ (s : Sl), r = SV.struct [SV.int IntKind.i64 n, SV.int IntKind.i64 n_1, SV.bool b_5, SV.slice s]
  ∧ Keeps [b, b_1, b_2, b_3] w1_1 w1 ∧ ∀ (b_6 : Nat) (w1_2 : World), Upd [] [b_6] w1 w1_2 → Ret Tryd.prog 38 [SV.struct [SV.int IntKind.i64 t_0, SV.int IntKind.i64
  t_1, SV.int IntKind.i64 t_2, SV.int IntKind.i64 t_3, SV.int IntKind.i64 t_4, SV.int IntKind.i64 t_5, SV.int IntKind.i64 t_6, SV.slice t_7, SV.slice t_8]]
  w1_2 fun (r : SV) (w1 : World) => ∃ (n_2 : Int), ∃ (n_3 : Int), ∃ (n_4 : Int), ∃ (n_5 : Int), ∃ (n_6 : Int), ∃ (n_7 : Int), ∃ (n_8 : Int), ∃ (s_1 : Sl),
  ∃ (s_2 : Sl), r = SV.struct [SV.int IntKind.i64 n_2, SV.int IntKind.i64 n_3, SV.int IntKind.i64 n_4, SV.int IntKind.i64 n_5, SV.int IntKind.i64 n_6, SV.int
  IntKind.i64 n_7, SV.int IntKind.i64 n_8, SV.slice s_1, SV.slice s_2] ∧ Keeps [b, b_1, b_2, b_3, b_6] w1_2 w1 ∧ ∀ (b_7 : Nat) (w1_3 : World), Upd [] [b_7]
  w1 w1_3 → Ret Tryd.prog 19 [SV.struct [SV.int IntKind.i64 src_0, SV.arr IntKind.u8 16 src_1], SV.struct [SV.int IntKind.i64 dst_0, SV.arr IntKind.u8 16
  dst_1], SV.struct [SV.int IntKind.i64 u_0, SV.int IntKind.i64 u_1, SV.bool u_2, SV.slice u_3]] w1_3 fun (r : SV) (w1 : World) => ∃ (s_3 : Sl), ∃ (n_9 :
  Int), r = SV.tuple [SV.slice s_3, SV.int IntKind.i64 n_9] ∧ Keeps [b, b_1, b_2, b_3, b_6, b_7] w1_3 w1 ∧ Ret Tryd.prog 26 [SV.struct [SV.int IntKind.i64
  src_0, SV.arr IntKind.u8 16 src_1], SV.struct [SV.int IntKind.i64 dst_0, SV.arr IntKind.u8 16 dst_1], SV.struct [SV.int IntKind.i64 t_0, SV.int IntKind.i64
  t_1, SV.int IntKind.i64 t_2, SV.int IntKind.i64 t_3, SV.int IntKind.i64 t_4, SV.int IntKind.i64 t_5, SV.int IntKind.i64 t_6, SV.slice t_7, SV.slice t_8]]
  w1 fun (r : SV) (w1_4 : World) => ∃ (s_4 : Sl), ∃ (n_10 : Int), r = SV.tuple [SV.slice s_4, SV.int IntKind.i64 n_10] ∧ Keeps [b, b_1, b_2, b_3, b_6, b_7]
  w1 w1_4 ∧ Ret Tryd.prog 39 [SV.slice t_7] w1_4 fun (r : SV) (w1 : World) => ∃ (s_5 : Sl), ∃ (n_11 : Int), r = SV.tuple [SV.slice s_5, SV.int IntKind.i64
  n_11] ∧ Keeps [b, b_1, b_2, b_3, b_6, b_7] w1_4 w1 ∧ Ret Tryd.prog 35 [SV.struct [SV.int IntKind.i64 t_0, SV.int IntKind.i64 t_1, SV.int IntKind.i64 t_2,
  SV.int IntKind.i64 t_3, SV.int IntKind.i64 t_4, SV.int IntKind.i64 t_5, SV.int IntKind.i64 t_6, SV.slice t_7, SV.slice t_8], SV.int IntKind.i64 most] w1
  fun (r : SV) (w1_5 : World) => ∃ (n_12 : Int), ∃ (n_13 : Int), ∃ (n_14 : Int), ∃ (n_15 : Int), ∃ (n_16 : Int), ∃ (n_17 : Int), ∃ (n_18 : Int), ∃ (s_6 :
  Sl), ∃ (s_7 : Sl), r = SV.struct [SV.int IntKind.i64 n_12, SV.int IntKind.i64 n_13, SV.int IntKind.i64 n_14, SV.int IntKind.i64 n_15, SV.int IntKind.i64
  n_16, SV.int IntKind.i64 n_17, SV.int IntKind.i64 n_18, SV.slice s_6, SV.slice s_7] ∧ Keeps [b, b_1, b_2, b_3, b_6, b_7] w1 w1_5 ∧ ∀ (b_8 : Nat) (w1 : World),
  Upd [] [b_8] w1_5 w1 → Ret Tryd.prog 40 [SV.slice s_3] w1 fun (r : SV) (w1_6 : World) => ∃ (s_8 : Sl), r = SV.slice s_8 ∧ Keeps [b, b_1, b_2, b_3, b_6,
  b_7, b_8] w1 w1_6 ∧ Ret Tryd.prog 40 [SV.slice s_4] w1_6 fun (r : SV) (w1 : World) => ∃ (s_9 : Sl), r = SV.slice s_9 ∧ Keeps [b, b_1, b_2, b_3, b_6, b_7,
  b_8] w1_6 w1 ∧ Ret Tryd.prog 40 [SV.slice s_5] w1 fun (r : SV) (w1_7 : World) => ∃ (s_10 : Sl), r = SV.slice s_10 ∧ Keeps [b, b_1, b_2, b_3, b_6, b_7, b_8]
  w1 w1_7 ∧ Ret Tryd.prog 38 [SV.struct [SV.int IntKind.i64 n_12, SV.int IntKind.i64 n_13, SV.int IntKind.i64 n_14, SV.int IntKind.i64 n_15, SV.int IntKind.i64
  n_16, SV.int IntKind.i64 n_17, SV.int IntKind.i64 n_18, SV.slice s_6, SV.slice s_7]] w1_7 fun (r : SV) (w1 : World) => ∃ (n_19 : Int), ∃ (n_20 : Int), ∃
  (n_21 : Int), ∃ (n_22 : Int), ∃ (n_23 : Int), ∃ (n_24 : Int), ∃ (n_25 : Int), ∃ (s_11 : Sl), ∃ (s_12 : Sl), r = SV.struct [SV.int IntKind.i64 n_19, SV.int
  IntKind.i64 n_20, SV.int IntKind.i64 n_21, SV.int IntKind.i64 n_22, SV.int IntKind.i64 n_23, SV.int IntKind.i64 n_24, SV.int IntKind.i64 n_25, SV.slice
  s_11, SV.slice s_12] ∧ Keeps [b, b_1, b_2, b_3, b_6, b_7, b_8] w1_7 w1 ∧ ∀ (b_9 : Nat) (w1_8 : World), Upd [] [b_9] w1 w1_8 → Ret Tryd.prog 41 [SV.slice
  s_3, SV.int IntKind.u8 11] w1_8 fun (r : SV) (w1 : World) => ∃ (s_13 : Sl), r = SV.slice s_13 ∧ Keeps [b, b_1, b_2, b_3, b_6, b_7, b_8, b_9] w1_8 w1 ∧ Ret
  Tryd.prog 41 [SV.slice s_4, SV.int IntKind.u8 12] w1 fun (r : SV) (w1_9 : World) => ∃ (s_14 : Sl), r = SV.slice s_14 ∧ Keeps [b, b_1, b_2, b_3, b_6, b_7,
  b_8, b_9] w1 w1_9 ∧ Ret Tryd.prog 41 [SV.slice s_5, SV.int IntKind.u8 13] w1_9 fun (r : SV) (w1 : World) => ∃ (s_15 : Sl), r = SV.slice s_15 ∧ Keeps [b,
  b_1, b_2, b_3, b_6, b_7, b_8, b_9] w1_9 w1 ∧ ∃ (I : Sl → Int → World → Prop), ∃ (M : Sl → Int → World → Nat), I { ptr := none, len := 0, cap := 0 } 0 w1
  ∧ ∀ (s_16 : Sl) (n_26 : Int) (w1 : World), I s_16 n_26 w1 → Br (decide (n_26 < (↑s_6.2 : Int))) (Need (decide (0 ≤ n_26) && decide (n_26 < (↑s_6.2 : Int))
  && Option.isSome s_6.1) (∃ (s_17 : Sl), World.cell? w1 (Addr.add (Sl.at s_6 2 (Int.toNat n_26)) 1) = some (Sl.val s_17) ∧ Ret Tryd.prog 41 [SV.slice s_17,
  SV.int IntKind.u8 (wr IntKind.u8 (wr IntKind.i64 (20 + Int.tmod n_26 200)))] w1 fun (r : SV) (w1_10 : World) => ∃ (s_18 : Sl), r = SV.slice s_18 ∧ Keeps
  [b, b_1, b_2, b_3, b_6, b_7, b_8, b_9] w1 w1_10 ∧ ∀ (b_10 : Nat) (w1_11 : World), Upd [] [b_10] w1_10 w1_11 → (World.heap w1_11)[b_10]? = some (Obj.cells
  { toList := SV.cells (SV.struct [SV.slice s_18]) } 69) → Vc.Append 69 1 24 s_16 { ptr := some { block := b_10, off := 0 }, len := 1, cap := 1 } [b, b_1,
  b_2, b_3, b_6, b_7, b_8, b_9] w1_11 fun (r : Sl) (w : World) => some (SV.box b 27 (SV.struct [SV.int IntKind.i64 src_0, SV.arr IntKind.u8 16 src_1])) =
  some (SV.box b 27 (SV.struct [SV.int IntKind.i64 src_0, SV.arr IntKind.u8 16 src_1])) ∧ some (SV.box b_1 27 (SV.struct [SV.int IntKind.i64 dst_0, SV.arr
  IntKind.u8 16 dst_1])) = some (SV.box b_1 27 (SV.struct [SV.int IntKind.i64 dst_0, SV.arr IntKind.u8 16 dst_1])) ∧ some (SV.box b_2 30 (SV.struct [SV.int
  IntKind.i64 u_0, SV.int IntKind.i64 u_1, SV.bool u_2, SV.slice u_3])) = some (SV.box b_2 30 (SV.struct [SV.int IntKind.i64 u_0, SV.int IntKind.i64 u_1,
  SV.bool u_2, SV.slice u_3])) ∧ some (SV.box b_3 45 (SV.struct [SV.int IntKind.i64 t_0, SV.int IntKind.i64 t_1, SV.int IntKind.i64 t_2, SV.int IntKind.i64
  t_3, SV.int IntKind.i64 t_4, SV.int IntKind.i64 t_5, SV.int IntKind.i64 t_6, SV.slice t_7, SV.slice t_8])) = some (SV.box b_3 45 (SV.struct [SV.int IntKind.i64
  t_0, SV.int IntKind.i64 t_1, SV.int IntKind.i64 t_2, SV.int IntKind.i64 t_3, SV.int IntKind.i64 t_4, SV.int IntKind.i64 t_5, SV.int IntKind.i64 t_6, SV.slice
  t_7, SV.slice t_8])) ∧ some (SV.box b_6 30 (SV.struct [SV.int IntKind.i64 n, SV.int IntKind.i64 n_1, SV.bool b_5, SV.slice s])) = some (SV.box b_6 30 (SV.struct
  [SV.int IntKind.i64 n, SV.int IntKind.i64 n_1, SV.bool b_5, SV.slice s])) ∧ some (SV.box b_7 45 (SV.struct [SV.int IntKind.i64 n_2, SV.int IntKind.i64 n_3,
  SV.int IntKind.i64 n_4, SV.int IntKind.i64 n_5, SV.int IntKind.i64 n_6, SV.int IntKind.i64 n_7, SV.int IntKind.i64 n_8, SV.slice s_1, SV.slice s_2])) =
  some (SV.box b_7 45 (SV.struct [SV.int IntKind.i64 n_2, SV.int IntKind.i64 n_3, SV.int IntKind.i64 n_4, SV.int IntKind.i64 n_5, SV.int IntKind.i64 n_6,
  SV.int IntKind.i64 n_7, SV.int IntKind.i64 n_8, SV.slice s_1, SV.slice s_2])) ∧ some (SV.box b_8 45 (SV.struct [SV.int IntKind.i64 n_12, SV.int IntKind.i64
  n_13, SV.int IntKind.i64 n_14, SV.int IntKind.i64 n_15, SV.int IntKind.i64 n_16, SV.int IntKind.i64 n_17, SV.int IntKind.i64 n_18, SV.slice s_6, SV.slice
  s_7])) = some (SV.box b_8 45 (SV.struct [SV.int IntKind.i64 n_12, SV.int IntKind.i64 n_13, SV.int IntKind.i64 n_14, SV.int IntKind.i64 n_15, SV.int IntKind.i64
  n_16, SV.int IntKind.i64 n_17, SV.int IntKind.i64 n_18, SV.slice s_6, SV.slice s_7])) ∧ some (SV.box b_9 45 (SV.struct [SV.int IntKind.i64 n_19, SV.int
  IntKind.i64 n_20, SV.int IntKind.i64 n_21, SV.int IntKind.i64 n_22, SV.int IntKind.i64 n_23, SV.int IntKind.i64 n_24, SV.int IntKind.i64 n_25, SV.slice
  s_11, SV.slice s_12])) = some (SV.box b_9 45 (SV.struct [SV.int IntKind.i64 n_19, SV.int IntKind.i64 n_20, SV.int IntKind.i64 n_21, SV.int IntKind.i64 n_22,
  SV.int IntKind.i64 n_23, SV.int IntKind.i64 n_24, SV.int IntKind.i64 n_25, SV.slice s_11, SV.slice s_12])) ∧ I r (wr IntKind.i64 (n_26 + 1)) w ∧ M r (wr
  IntKind.i64 (n_26 + 1)) w < M s_16 n_26 w1)) (∀ (J : World → Prop), (∀ (w1 : World), (Ret Tryd.prog 19 [SV.struct [SV.int IntKind.i64 src_0, SV.arr IntKind.u8
  16 src_1], SV.struct [SV.int IntKind.i64 dst_0, SV.arr IntKind.u8 16 dst_1], SV.struct [SV.int IntKind.i64 u_0, SV.int IntKind.i64 u_1, SV.bool u_2, SV.slice
  u_3]] w1 fun (r : SV) (w1_10 : World) => ∃ (s_17 : Sl), ∃ (n_27 : Int), r = SV.tuple [SV.slice s_17, SV.int IntKind.i64 n_27] ∧ Keeps [b, b_1, b_2, b_3,
  b_6, b_7, b_8, b_9] w1 w1_10 ∧ Ret Tryd.prog 26 [SV.struct [SV.int IntKind.i64 src_0, SV.arr IntKind.u8 16 src_1], SV.struct [SV.int IntKind.i64 dst_0,
  SV.arr IntKind.u8 16 dst_1], SV.struct [SV.int IntKind.i64 t_0, SV.int IntKind.i64 t_1, SV.int IntKind.i64 t_2, SV.int IntKind.i64 t_3, SV.int IntKind.i64
  t_4, SV.int IntKind.i64 t_5, SV.int IntKind.i64 t_6, SV.slice t_7, SV.slice t_8]] w1_10 fun (r : SV) (w1 : World) => ∃ (s_18 : Sl), ∃ (n_28 : Int), r =
  SV.tuple [SV.slice s_18, SV.int IntKind.i64 n_28] ∧ Keeps [b, b_1, b_2, b_3, b_6, b_7, b_8, b_9] w1_10 w1 ∧ Ret Tryd.prog 39 [SV.slice t_7] w1 fun (r :
  SV) (w1_11 : World) => ∃ (s_19 : Sl), ∃ (n_29 : Int), r = SV.tuple [SV.slice s_19, SV.int IntKind.i64 n_29] ∧ Keeps [b, b_1, b_2, b_3, b_6, b_7, b_8, b_9]
  w1 w1_11 ∧ Ret Tryd.prog 35 [SV.struct [SV.int IntKind.i64 t_0, SV.int IntKind.i64 t_1, SV.int IntKind.i64 t_2, SV.int IntKind.i64 t_3, SV.int IntKind.i64
  t_4, SV.int IntKind.i64 t_5, SV.int IntKind.i64 t_6, SV.slice t_7, SV.slice t_8], SV.int IntKind.i64 most] w1_11 fun (r : SV) (w1 : World) => ∃ (n_30 :
  Int), ∃ (n_31 : Int), ∃ (n_32 : Int), ∃ (n_33 : Int), ∃ (n_34 : Int), ∃ (n_35 : Int), ∃ (n_36 : Int), ∃ (s_20 : Sl), ∃ (s_21 : Sl), r = SV.struct [SV.int
  IntKind.i64 n_30, SV.int IntKind.i64 n_31, SV.int IntKind.i64 n_32, SV.int IntKind.i64 n_33, SV.int IntKind.i64 n_34, SV.int IntKind.i64 n_35, SV.int IntKind.i64
  n_36, SV.slice s_20, SV.slice s_21] ∧ Keeps [b, b_1, b_2, b_3, b_6, b_7, b_8, b_9] w1_11 w1 ∧ ∀ (b_10 : Nat) (J : World → Prop), (∀ (w1 : World), (∃ (I
  : Int → World → Prop), ∃ (M : Int → World → Nat), I 0 w1 ∧ ∀ (n_37 : Int) (w1 : World), I n_37 w1 → Br (decide (n_37 < (↑s_16.2 : Int))) (Need (decide (0
  ≤ n_37) && decide (n_37 < (↑s_16.2 : Int)) && Option.isSome s_16.1) (∃ (s_22 : Sl), World.cell? w1 (Sl.at s_16 1 (Int.toNat n_37)) = some (Sl.val s_22)
  ∧ Ret Tryd.prog 42 [SV.slice s_22, SV.int IntKind.u8 (wr IntKind.u8 (wr IntKind.i64 (20 + Int.tmod n_37 200)))] w1 fun (r : SV) (w1_12 : World) => ∃ (b_11
  : Bool), r = SV.bool b_11 ∧ Keeps [b, b_1, b_2, b_3, b_6, b_7, b_8, b_9, b_10] w1 w1_12 ∧ Br (!b_11) (R (SV.bool false) w1_12) (some (SV.box b 27 (SV.struct
  [SV.int IntKind.i64 src_0, SV.arr IntKind.u8 16 src_1])) = some (SV.box b 27 (SV.struct [SV.int IntKind.i64 src_0, SV.arr IntKind.u8 16 src_1])) ∧ some
  (SV.box b_1 27 (SV.struct [SV.int IntKind.i64 dst_0, SV.arr IntKind.u8 16 dst_1])) = some (SV.box b_1 27 (SV.struct [SV.int IntKind.i64 dst_0, SV.arr IntKind.u8
  16 dst_1])) ∧ some (SV.box b_2 30 (SV.struct [SV.int IntKind.i64 u_0, SV.int IntKind.i64 u_1, SV.bool u_2, SV.slice u_3])) = some (SV.box b_2 30 (SV.struct
  [SV.int IntKind.i64 u_0, SV.int IntKind.i64 u_1, SV.bool u_2, SV.slice u_3])) ∧ some (SV.box b_3 45 (SV.struct [SV.int IntKind.i64 t_0, SV.int IntKind.i64
  t_1, SV.int IntKind.i64 t_2, SV.int IntKind.i64 t_3, SV.int IntKind.i64 t_4, SV.int IntKind.i64 t_5, SV.int IntKind.i64 t_6, SV.slice t_7, SV.slice t_8]))
  = some (SV.box b_3 45 (SV.struct [SV.int IntKind.i64 t_0, SV.int IntKind.i64 t_1, SV.int IntKind.i64 t_2, SV.int IntKind.i64 t_3, SV.int IntKind.i64 t_4,
  SV.int IntKind.i64 t_5, SV.int IntKind.i64 t_6, SV.slice t_7, SV.slice t_8])) ∧ some (SV.box b_6 30 (SV.struct [SV.int IntKind.i64 n, SV.int IntKind.i64
  n_1, SV.bool b_5, SV.slice s])) = some (SV.box b_6 30 (SV.struct [SV.int IntKind.i64 n, SV.int IntKind.i64 n_1, SV.bool b_5, SV.slice s])) ∧ some (SV.box
  b_7 45 (SV.struct [SV.int IntKind.i64 n_2, SV.int IntKind.i64 n_3, SV.int IntKind.i64 n_4, SV.int IntKind.i64 n_5, SV.int IntKind.i64 n_6, SV.int IntKind.i64
  n_7, SV.int IntKind.i64 n_8, SV.slice s_1, SV.slice s_2])) = some (SV.box b_7 45 (SV.struct [SV.int IntKind.i64 n_2, SV.int IntKind.i64 n_3, SV.int IntKind.i64
  n_4, SV.int IntKind.i64 n_5, SV.int IntKind.i64 n_6, SV.int IntKind.i64 n_7, SV.int IntKind.i64 n_8, SV.slice s_1, SV.slice s_2])) ∧ some (SV.box b_8 45
  (SV.struct [SV.int IntKind.i64 n_12, SV.int IntKind.i64 n_13, SV.int IntKind.i64 n_14, SV.int IntKind.i64 n_15, SV.int IntKind.i64 n_16, SV.int IntKind.i64
  n_17, SV.int IntKind.i64 n_18, SV.slice s_6, SV.slice s_7])) = some (SV.box b_8 45 (SV.struct [SV.int IntKind.i64 n_12, SV.int IntKind.i64 n_13, SV.int
  IntKind.i64 n_14, SV.int IntKind.i64 n_15, SV.int IntKind.i64 n_16, SV.int IntKind.i64 n_17, SV.int IntKind.i64 n_18, SV.slice s_6, SV.slice s_7])) ∧ some
  (SV.box b_9 45 (SV.struct [SV.int IntKind.i64 n_19, SV.int IntKind.i64 n_20, SV.int IntKind.i64 n_21, SV.int IntKind.i64 n_22, SV.int IntKind.i64 n_23,
  SV.int IntKind.i64 n_24, SV.int IntKind.i64 n_25, SV.slice s_11, SV.slice s_12])) = some (SV.box b_9 45 (SV.struct [SV.int IntKind.i64 n_19, SV.int IntKind.i64
  n_20, SV.int IntKind.i64 n_21, SV.int IntKind.i64 n_22, SV.int IntKind.i64 n_23, SV.int IntKind.i64 n_24, SV.int IntKind.i64 n_25, SV.slice s_11, SV.slice
  s_12])) ∧ some (SV.box b_10 45 (SV.struct [SV.int IntKind.i64 n_30, SV.int IntKind.i64 n_31, SV.int IntKind.i64 n_32, SV.int IntKind.i64 n_33, SV.int IntKind.i64
  n_34, SV.int IntKind.i64 n_35, SV.int IntKind.i64 n_36, SV.slice s_20, SV.slice s_21])) = some (SV.box b_10 45 (SV.struct [SV.int IntKind.i64 n_30, SV.int
  IntKind.i64 n_31, SV.int IntKind.i64 n_32, SV.int IntKind.i64 n_33, SV.int IntKind.i64 n_34, SV.int IntKind.i64 n_35, SV.int IntKind.i64 n_36, SV.slice
  s_20, SV.slice s_21])) ∧ I (wr IntKind.i64 (n_37 + 1)) w1_12 ∧ M (wr IntKind.i64 (n_37 + 1)) w1_12 < M n_37 w1))) (Ret Tryd.prog 42 [SV.slice s_13, SV.int
  IntKind.u8 11] w1 fun (r : SV) (w1_12 : World) => ∃ (b_11 : Bool), r = SV.bool b_11 ∧ Keeps [b, b_1, b_2, b_3, b_6, b_7, b_8, b_9, b_10] w1 w1_12 ∧ Br b_11
  (Ret Tryd.prog 42 [SV.slice s_14, SV.int IntKind.u8 12] w1_12 fun (r : SV) (w1 : World) => ∃ (b_12 : Bool), r = SV.bool b_12 ∧ Keeps [b, b_1, b_2, b_3,
  b_6, b_7, b_8, b_9, b_10] w1_12 w1 ∧ Br b_12 (Ret Tryd.prog 42 [SV.slice s_15, SV.int IntKind.u8 13] w1 fun (r : SV) (w1_13 : World) => ∃ (b_13 : Bool),
  r = SV.bool b_13 ∧ Keeps [b, b_1, b_2, b_3, b_6, b_7, b_8, b_9, b_10] w1 w1_13 ∧ R (SV.bool b_13) w1_13) (R (SV.bool false) w1)) (R (SV.bool false) w1_12)))
  → J w1) → ∀ (w1_12 : World), Upd [] [b_10] w1 w1_12 → Ret Tryd.prog 30 [SV.slice s_17, SV.slice s_8] w1_12 fun (r : SV) (w1 : World) => ∃ (b_11 : Bool),
  r = SV.bool b_11 ∧ Keeps [b, b_1, b_2, b_3, b_6, b_7, b_8, b_9, b_10] w1_12 w1 ∧ Br (!b_11) (R (SV.bool false) w1) (Ret Tryd.prog 30 [SV.slice s_18, SV.slice
  s_9] w1 fun (r : SV) (w1_13 : World) => ∃ (b_12 : Bool), r = SV.bool b_12 ∧ Keeps [b, b_1, b_2, b_3, b_6, b_7, b_8, b_9, b_10] w1 w1_13 ∧ Br (!b_12) (R
  (SV.bool false) w1_13) (Ret Tryd.prog 30 [SV.slice s_19, SV.slice s_10] w1_13 fun (r : SV) (w1 : World) => ∃ (b_13 : Bool), r = SV.bool b_13 ∧ Keeps [b,
  b_1, b_2, b_3, b_6, b_7, b_8, b_9, b_10] w1_13 w1 ∧ Br (!b_13) (R (SV.bool false) w1) (Ret Tryd.prog 28 [SV.struct [SV.int IntKind.i64 n_30, SV.int IntKind.i64
  n_31, SV.int IntKind.i64 n_32, SV.int IntKind.i64 n_33, SV.int IntKind.i64 n_34, SV.int IntKind.i64 n_35, SV.int IntKind.i64 n_36, SV.slice s_20, SV.slice
  s_21], SV.struct [SV.int IntKind.i64 n_19, SV.int IntKind.i64 n_20, SV.int IntKind.i64 n_21, SV.int IntKind.i64 n_22, SV.int IntKind.i64 n_23, SV.int IntKind.i64
  n_24, SV.int IntKind.i64 n_25, SV.slice s_11, SV.slice s_12]] w1 fun (r : SV) (w1_14 : World) => ∃ (b_14 : Bool), r = SV.bool b_14 ∧ Keeps [b, b_1, b_2,
  b_3, b_6, b_7, b_8, b_9, b_10] w1 w1_14 ∧ Br (!b_14) (R (SV.bool false) w1_14) (some (SV.box b 27 (SV.struct [SV.int IntKind.i64 src_0, SV.arr IntKind.u8
  16 src_1])) = some (SV.box b 27 (SV.struct [SV.int IntKind.i64 src_0, SV.arr IntKind.u8 16 src_1])) ∧ some (SV.box b_1 27 (SV.struct [SV.int IntKind.i64
  dst_0, SV.arr IntKind.u8 16 dst_1])) = some (SV.box b_1 27 (SV.struct [SV.int IntKind.i64 dst_0, SV.arr IntKind.u8 16 dst_1])) ∧ some (SV.box b_2 30 (SV.struct
  [SV.int IntKind.i64 u_0, SV.int IntKind.i64 u_1, SV.bool u_2, SV.slice u_3])) = some (SV.box b_2 30 (SV.struct [SV.int IntKind.i64 u_0, SV.int IntKind.i64
  u_1, SV.bool u_2, SV.slice u_3])) ∧ some (SV.box b_3 45 (SV.struct [SV.int IntKind.i64 t_0, SV.int IntKind.i64 t_1, SV.int IntKind.i64 t_2, SV.int IntKind.i64
  t_3, SV.int IntKind.i64 t_4, SV.int IntKind.i64 t_5, SV.int IntKind.i64 t_6, SV.slice t_7, SV.slice t_8])) = some (SV.box b_3 45 (SV.struct [SV.int IntKind.i64
  t_0, SV.int IntKind.i64 t_1, SV.int IntKind.i64 t_2, SV.int IntKind.i64 t_3, SV.int IntKind.i64 t_4, SV.int IntKind.i64 t_5, SV.int IntKind.i64 t_6, SV.slice
  t_7, SV.slice t_8])) ∧ some (SV.box b_6 30 (SV.struct [SV.int IntKind.i64 n, SV.int IntKind.i64 n_1, SV.bool b_5, SV.slice s])) = some (SV.box b_6 30 (SV.struct
  [SV.int IntKind.i64 n, SV.int IntKind.i64 n_1, SV.bool b_5, SV.slice s])) ∧ some (SV.box b_7 45 (SV.struct [SV.int IntKind.i64 n_2, SV.int IntKind.i64 n_3,
  SV.int IntKind.i64 n_4, SV.int IntKind.i64 n_5, SV.int IntKind.i64 n_6, SV.int IntKind.i64 n_7, SV.int IntKind.i64 n_8, SV.slice s_1, SV.slice s_2])) =
  some (SV.box b_7 45 (SV.struct [SV.int IntKind.i64 n_2, SV.int IntKind.i64 n_3, SV.int IntKind.i64 n_4, SV.int IntKind.i64 n_5, SV.int IntKind.i64 n_6,
  SV.int IntKind.i64 n_7, SV.int IntKind.i64 n_8, SV.slice s_1, SV.slice s_2])) ∧ some (SV.box b_8 45 (SV.struct [SV.int IntKind.i64 n_12, SV.int IntKind.i64
  n_13, SV.int IntKind.i64 n_14, SV.int IntKind.i64 n_15, SV.int IntKind.i64 n_16, SV.int IntKind.i64 n_17, SV.int IntKind.i64 n_18, SV.slice s_6, SV.slice
  s_7])) = some (SV.box b_8 45 (SV.struct [SV.int IntKind.i64 n_12, SV.int IntKind.i64 n_13, SV.int IntKind.i64 n_14, SV.int IntKind.i64 n_15, SV.int IntKind.i64
  n_16, SV.int IntKind.i64 n_17, SV.int IntKind.i64 n_18, SV.slice s_6, SV.slice s_7])) ∧ some (SV.box b_9 45 (SV.struct [SV.int IntKind.i64 n_19, SV.int
  IntKind.i64 n_20, SV.int IntKind.i64 n_21, SV.int IntKind.i64 n_22, SV.int IntKind.i64 n_23, SV.int IntKind.i64 n_24, SV.int IntKind.i64 n_25, SV.slice
  s_11, SV.slice s_12])) = some (SV.box b_9 45 (SV.struct [SV.int IntKind.i64 n_19, SV.int IntKind.i64 n_20, SV.int IntKind.i64 n_21, SV.int IntKind.i64 n_22,
  SV.int IntKind.i64 n_23, SV.int IntKind.i64 n_24, SV.int IntKind.i64 n_25, SV.slice s_11, SV.slice s_12])) ∧ some (SV.box b_10 45 (SV.struct [SV.int IntKind.i64
  n_30, SV.int IntKind.i64 n_31, SV.int IntKind.i64 n_32, SV.int IntKind.i64 n_33, SV.int IntKind.i64 n_34, SV.int IntKind.i64 n_35, SV.int IntKind.i64 n_36,
  SV.slice s_20, SV.slice s_21])) = some (SV.box b_10 45 (SV.struct [SV.int IntKind.i64 n_30, SV.int IntKind.i64 n_31, SV.int IntKind.i64 n_32, SV.int IntKind.i64
  n_33, SV.int IntKind.i64 n_34, SV.int IntKind.i64 n_35, SV.int IntKind.i64 n_36, SV.slice s_20, SV.slice s_21])) ∧ J w1_14))))) → J w1) → Br (!b_4) (R (SV.bool
  false) w1) (Ret Tryd.prog 23 [SV.struct [SV.int IntKind.i64 u_0, SV.int IntKind.i64 u_1, SV.bool u_2, SV.slice u_3], SV.struct [SV.int IntKind.i64 n, SV.int
  IntKind.i64 n_1, SV.bool b_5, SV.slice s]] w1 fun (r : SV) (w1_10 : World) => ∃ (b_10 : Bool), r = SV.bool b_10 ∧ Keeps [b, b_1, b_2, b_3, b_6, b_7, b_8,
  b_9] w1 w1_10 ∧ Br (!b_10) (R (SV.bool false) w1_10) (Ret Tryd.prog 28 [SV.struct [SV.int IntKind.i64 t_0, SV.int IntKind.i64 t_1, SV.int IntKind.i64 t_2,
  SV.int IntKind.i64 t_3, SV.int IntKind.i64 t_4, SV.int IntKind.i64 t_5, SV.int IntKind.i64 t_6, SV.slice t_7, SV.slice t_8], SV.struct [SV.int IntKind.i64
  n_2, SV.int IntKind.i64 n_3, SV.int IntKind.i64 n_4, SV.int IntKind.i64 n_5, SV.int IntKind.i64 n_6, SV.int IntKind.i64 n_7, SV.int IntKind.i64 n_8, SV.slice
  s_1, SV.slice s_2]] w1_10 fun (r : SV) (w1 : World) => ∃ (b_11 : Bool), r = SV.bool b_11 ∧ Keeps [b, b_1, b_2, b_3, b_6, b_7, b_8, b_9] w1_10 w1 ∧ Br (!b_11)
  (R (SV.bool false) w1) (some (SV.box b 27 (SV.struct [SV.int IntKind.i64 src_0, SV.arr IntKind.u8 16 src_1])) = some (SV.box b 27 (SV.struct [SV.int IntKind.i64
  src_0, SV.arr IntKind.u8 16 src_1])) ∧ some (SV.box b_1 27 (SV.struct [SV.int IntKind.i64 dst_0, SV.arr IntKind.u8 16 dst_1])) = some (SV.box b_1 27 (SV.struct
  [SV.int IntKind.i64 dst_0, SV.arr IntKind.u8 16 dst_1])) ∧ some (SV.box b_2 30 (SV.struct [SV.int IntKind.i64 u_0, SV.int IntKind.i64 u_1, SV.bool u_2,
  SV.slice u_3])) = some (SV.box b_2 30 (SV.struct [SV.int IntKind.i64 u_0, SV.int IntKind.i64 u_1, SV.bool u_2, SV.slice u_3])) ∧ some (SV.box b_3 45 (SV.struct
  [SV.int IntKind.i64 t_0, SV.int IntKind.i64 t_1, SV.int IntKind.i64 t_2, SV.int IntKind.i64 t_3, SV.int IntKind.i64 t_4, SV.int IntKind.i64 t_5, SV.int
  IntKind.i64 t_6, SV.slice t_7, SV.slice t_8])) = some (SV.box b_3 45 (SV.struct [SV.int IntKind.i64 t_0, SV.int IntKind.i64 t_1, SV.int IntKind.i64 t_2,
  SV.int IntKind.i64 t_3, SV.int IntKind.i64 t_4, SV.int IntKind.i64 t_5, SV.int IntKind.i64 t_6, SV.slice t_7, SV.slice t_8])) ∧ some (SV.box b_6 30 (SV.struct
  [SV.int IntKind.i64 n, SV.int IntKind.i64 n_1, SV.bool b_5, SV.slice s])) = some (SV.box b_6 30 (SV.struct [SV.int IntKind.i64 n, SV.int IntKind.i64 n_1,
  SV.bool b_5, SV.slice s])) ∧ some (SV.box b_7 45 (SV.struct [SV.int IntKind.i64 n_2, SV.int IntKind.i64 n_3, SV.int IntKind.i64 n_4, SV.int IntKind.i64
  n_5, SV.int IntKind.i64 n_6, SV.int IntKind.i64 n_7, SV.int IntKind.i64 n_8, SV.slice s_1, SV.slice s_2])) = some (SV.box b_7 45 (SV.struct [SV.int IntKind.i64
  n_2, SV.int IntKind.i64 n_3, SV.int IntKind.i64 n_4, SV.int IntKind.i64 n_5, SV.int IntKind.i64 n_6, SV.int IntKind.i64 n_7, SV.int IntKind.i64 n_8, SV.slice
  s_1, SV.slice s_2])) ∧ some (SV.box b_8 45 (SV.struct [SV.int IntKind.i64 n_12, SV.int IntKind.i64 n_13, SV.int IntKind.i64 n_14, SV.int IntKind.i64 n_15,
  SV.int IntKind.i64 n_16, SV.int IntKind.i64 n_17, SV.int IntKind.i64 n_18, SV.slice s_6, SV.slice s_7])) = some (SV.box b_8 45 (SV.struct [SV.int IntKind.i64
  n_12, SV.int IntKind.i64 n_13, SV.int IntKind.i64 n_14, SV.int IntKind.i64 n_15, SV.int IntKind.i64 n_16, SV.int IntKind.i64 n_17, SV.int IntKind.i64 n_18,
  SV.slice s_6, SV.slice s_7])) ∧ some (SV.box b_9 45 (SV.struct [SV.int IntKind.i64 n_19, SV.int IntKind.i64 n_20, SV.int IntKind.i64 n_21, SV.int IntKind.i64
  n_22, SV.int IntKind.i64 n_23, SV.int IntKind.i64 n_24, SV.int IntKind.i64 n_25, SV.slice s_11, SV.slice s_12])) = some (SV.box b_9 45 (SV.struct [SV.int
  IntKind.i64 n_19, SV.int IntKind.i64 n_20, SV.int IntKind.i64 n_21, SV.int IntKind.i64 n_22, SV.int IntKind.i64 n_23, SV.int IntKind.i64 n_24, SV.int IntKind.i64
  n_25, SV.slice s_11, SV.slice s_12])) ∧ J w1))))
theorem f14_of (src_0 : Int) (src_1 : Nat → Int) (dst_0 : Int) (dst_1 : Nat → Int) (u_0 : Int) (u_1 : Int) (u_2 : Bool) (u_3 : Sl) (t_0 : Int) (t_1 : Int) (t_2 : Int) (t_3 : Int) (t_4 : Int) (t_5 : Int) (t_6 : Int) (t_7 : Sl) (t_8 : Sl) (most : Int) (w : World) (R : SV → World → Prop) (h : vc14 src_0 src_1 dst_0 dst_1 u_0 u_1 u_2 u_3 t_0 t_1 t_2 t_3 t_4 t_5 t_6 t_7 t_8 most w R) : Ret Tryd.prog 14 [.struct [.int .i64 src_0, .arr .u8 16 src_1], .struct [.int .i64 dst_0, .arr .u8 16 dst_1], .struct [.int .i64 u_0, .int .i64 u_1, .bool u_2, .slice u_3], .struct [.int .i64 t_0, .int .i64 t_1, .int .i64 t_2, .int .i64 t_3, .int .i64 t_4, .int .i64 t_5, .int .i64 t_6, .slice t_7, .slice t_8], .int .i64 most] w R :=
  have e : vc14 src_0 src_1 dst_0 dst_1 u_0 u_1 u_2 u_3 t_0 t_1 t_2 t_3 t_4 t_5 t_6 t_7 t_8 most w R = fnVC X Tryd.f14 a14 [.struct [.int .i64 src_0, .arr .u8 16 src_1], .struct [.int .i64 dst_0, .arr .u8 16 dst_1], .struct [.int .i64 u_0, .int .i64 u_1, .bool u_2, .slice u_3], .struct [.int .i64 t_0, .int .i64 t_1, .int .i64 t_2, .int .i64 t_3, .int .i64 t_4, .int .i64 t_5, .int .i64 t_6, .slice t_7, .slice t_8], .int .i64 most] w R := by kernel_rfl
  fnVC_sound X_ok (n := a14) (e ▸ h) (by kernel_rfl) (by kernel_rfl) rfl rfl

def vc41 (b : Sl) (m : Int) (w : World) (R : SV → World → Prop) : Prop :=
  ∃ (I : Int → World → Prop),
    ∃ (M : Int → World → Nat),
      I 0 w ∧
        ∀ (n : Int) (w1 : World),
          I n w1 →
            Br (decide (n < (↑b.2 : Int)))
              (Need (decide (0 ≤ n) && decide (n < (↑b.2 : Int)) && Option.isSome b.1)
                (Store w1 (Sl.at b 1 (Int.toNat n)) (SV.cells (SV.int IntKind.u8 m)) [] fun (w1_1 : World) =>
                  I (wr IntKind.i64 (n + 1)) w1_1 ∧ M (wr IntKind.i64 (n + 1)) w1_1 < M n w1))
              (∀ (b_1 : Nat) (w1_1 : World),
                Upd [] [b_1] w1 w1_1 →
                  (World.heap w1_1)[b_1]? = some (Obj.cells { toList := SV.cells (SV.struct [SV.int IntKind.u8 m]) } 5) →
                    Vc.Append 5 1 1 b { ptr := some { block := b_1, off := 0 }, len := 1, cap := 1 } [] w1_1 fun (r : Sl) (w : World) =>
                      ∀ (b_2 : Nat) (w1 : World),
                        Upd [] [b_2] w w1 →
                          (World.heap w1)[b_2]? = some (Obj.cells { toList := SV.cells (SV.struct [SV.int IntKind.u8 m, SV.int IntKind.u8 m]) } 5) →
                            Vc.Append 5 1 1 b { ptr := some { block := b_2, off := 0 }, len := 2, cap := 2 } [] w1 fun (r_1 : Sl) (w : World) =>
                              ∀ (b_3 : Nat) (w1 : World),
                                Upd [] [b_3] w w1 →
                                  (World.heap w1)[b_3]? = some (Obj.cells { toList := SV.cells (SV.struct [SV.int IntKind.u8 m, SV.int IntKind.u8 m, SV.int IntKind.u8 m]) } 5) →
                                    Vc.Append 5 1 1 b { ptr := some { block := b_3, off := 0 }, len := 3, cap := 3 } [] w1 fun (r_2 : Sl) (w : World) =>
                                      Ret Tryd.prog 81 [SV.int IntKind.u8 m] w fun (r_3 : SV) (w1 : World) =>
                                        ∃ (s : Sl),
                                          r_3 = SV.slice s ∧
                                            Vc.Append 5 1 1 b s [] w1 fun (r_4 : Sl) (w : World) =>
                                              ∀ (b_4 : Nat) (w1 : World),
                                                Upd [] [b_4] w w1 →
                                                  (World.heap w1)[b_4]? =
                                                      some (Obj.cells { toList := SV.cells (SV.struct [SV.slice b, SV.slice r, SV.slice r_1, SV.slice r_2, SV.slice r_4]) } 28) →
                                                    R (SV.slice { ptr := some { block := b_4, off := 0 }, len := 5, cap := 5 }) w1)
theorem f41_of (b : Sl) (m : Int) (w : World) (R : SV → World → Prop) (h : vc41 b m w R) : Ret Tryd.prog 41 [.slice b, .int .u8 m] w R :=
  have e : vc41 b m w R = fnVC X Tryd.f41 a41 [.slice b, .int .u8 m] w R := by kernel_rfl
  fnVC_sound X_ok (n := a41) (e ▸ h) (by kernel_rfl) (by kernel_rfl) rfl rfl

def vc42 (l : Sl) (m : Int) (w : World) (R : SV → World → Prop) : Prop :=
  ∃ (I : Int → World → Prop),
    ∃ (M : Int → World → Nat),
      I 0 w ∧
        ∀ (n : Int) (w1 : World),
          I n w1 →
            Br (decide (n < (↑l.2 : Int)))
              (∃ (I_1 : Int → World → Prop),
                ∃ (M_1 : Int → World → Nat),
                  I_1 0 w1 ∧
                    ∀ (n_1 : Int) (w1_1 : World),
                      I_1 n_1 w1_1 →
                        Need (decide (0 ≤ n) && decide (n < (↑l.2 : Int)) && Option.isSome l.1)
                          (∃ (s : Sl),
                            World.cell? w1_1 (Sl.at l 1 (Int.toNat n)) = some (Sl.val s) ∧
                              Br (decide (n_1 < (↑s.2 : Int)))
                                (Need (decide (0 ≤ n) && decide (n < (↑l.2 : Int)) && Option.isSome l.1)
                                  (∃ (s : Sl),
                                    World.cell? w1_1 (Sl.at l 1 (Int.toNat n)) = some (Sl.val s) ∧
                                      Need (decide (0 ≤ n_1) && decide (n_1 < (↑s.2 : Int)) && Option.isSome s.1)
                                        (∃ (n : Int),
                                          World.cell? w1_1 (Sl.at s 1 (Int.toNat n_1)) = some (Value.int IntKind.u8 n) ∧
                                            Br (n != m) (R (SV.bool false) w1_1) (I_1 (wr IntKind.i64 (n_1 + 1)) w1_1 ∧ M_1 (wr IntKind.i64 (n_1 + 1)) w1_1 < M_1 n_1 w1_1))))
                                (I (wr IntKind.i64 (n + 1)) w1_1 ∧ M (wr IntKind.i64 (n + 1)) w1_1 < M n w1)))
              (R (SV.bool true) w1)
theorem f42_of (l : Sl) (m : Int) (w : World) (R : SV → World → Prop) (h : vc42 l m w R) : Ret Tryd.prog 42 [.slice l, .int .u8 m] w R :=
  have e : vc42 l m w R = fnVC X Tryd.f42 a42 [.slice l, .int .u8 m] w R := by kernel_rfl
  fnVC_sound X_ok (n := a42) (e ▸ h) (by kernel_rfl) (by kernel_rfl) rfl rfl

def vc81 (m : Int) (w : World) (R : SV → World → Prop) : Prop :=
  ∃ (I : Sl → Int → World → Prop),
    ∃ (M : Sl → Int → World → Nat),
      I { ptr := none, len := 0, cap := 0 } 0 w ∧
        ∀ (s : Sl) (n : Int) (w1 : World),
          I s n w1 →
            Br (decide (n < 70))
              (∀ (b : Nat) (w1_1 : World),
                Upd [] [b] w1 w1_1 →
                  (World.heap w1_1)[b]? = some (Obj.cells { toList := SV.cells (SV.struct [SV.int IntKind.u8 m]) } 5) →
                    Vc.Append 5 1 1 s { ptr := some { block := b, off := 0 }, len := 1, cap := 1 } [] w1_1 fun (r : Sl) (w : World) =>
                      I r (wr IntKind.i64 (n + 1)) w ∧ M r (wr IntKind.i64 (n + 1)) w < M s n w1)
              (R (SV.slice s) w1)
theorem f81_of (m : Int) (w : World) (R : SV → World → Prop) (h : vc81 m w R) : Ret Tryd.prog 81 [.int .u8 m] w R :=
  have e : vc81 m w R = fnVC X Tryd.f81 a81 [.int .u8 m] w R := by kernel_rfl
  fnVC_sound X_ok (n := a81) (e ▸ h) (by kernel_rfl) (by kernel_rfl) rfl rfl

end Go.Vc.S9
