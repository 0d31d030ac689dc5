import Derived.Test.YtmchllbemgnieaaDoorG2
import Derived.Test.YtmchllbemgnieaaDoorG3
import Derived.KernelRfl
open Go Go.Vc Go.Vc.S9 Go.Proofs
set_option maxRecDepth 100000
set_option linter.unusedVariables false
namespace Go.Vc.S9
def vc10 (src_0 : Int) (src_1 : Nat → Int) (dst_0 : Int) (dst_1 : Nat → Int) (u_0 : Int) (u_1 : Int) (u_2 : Bool) (u_3 : Sl) (t_0 : Int) (t_1 : Int) (t_2
  : Int) (t_3 : Int) (t_4 : Int) (t_5 : Int) (t_6 : Int) (t_7 : Sl) (t_8 : Sl) (bit : Int) (w : World) (R : SV → World → Prop) : Prop := ∀ (b b_1 b_2 b_3
  : Nat) (w1 : World), Upd [] [b_3, b_2, b_1, b] w w1 → Ret Tryd.prog 18 [] w1 fun (r : SV) (w1_1 : World) => ∃ (b_4 : Bool), r = SV.bool b_4 ∧ Keeps [b,
  b_1, b_2, b_3] w1 w1_1 ∧ ∀ (J : World → Prop), (∀ (w1 : World), (Ret Tryd.prog 19 [SV.struct [SV.int IntKind.i64 src_0, SV.arr IntKind.u8 16 src_1], SV.struct
  [SV.int IntKind.i64 dst_0, SV.arr IntKind.u8 16 dst_1], SV.struct [SV.int IntKind.i64 u_0, SV.int IntKind.i64 u_1, SV.bool u_2, SV.slice u_3]] w1 fun (r
  : SV) (w1_2 : World) => ∃ (s : Sl), ∃ (n : Int), r = SV.tuple [SV.slice s, SV.int IntKind.i64 n] ∧ Keeps [b, b_1, b_2, b_3] w1 w1_2 ∧ ∀ (J : World → Prop),
  (∀ (w1 : World), (∀ (J : World → Prop), (∀ (w1 : World), (Ret Tryd.prog 26 [SV.struct [SV.int IntKind.i64 src_0, SV.arr IntKind.u8 16 src_1], SV.struct
  [SV.int IntKind.i64 dst_0, SV.arr IntKind.u8 16 dst_1], SV.struct [SV.int IntKind.i64 t_0, SV.int IntKind.i64 t_1, SV.int IntKind.i64 t_2, SV.int IntKind.i64
  t_3, SV.int IntKind.i64 t_4, SV.int IntKind.i64 t_5, SV.int IntKind.i64 t_6, SV.slice t_7, SV.slice t_8]] w1 fun (r : SV) (w1_3 : World) => ∃ (s : Sl),
  ∃ (n : Int), r = SV.tuple [SV.slice s, SV.int IntKind.i64 n] ∧ Keeps [b, b_1, b_2, b_3] w1 w1_3 ∧ ∀ (J : World → Prop), (∀ (w1 : World), ((∀ (w1_4 : World),
  Upd [] [] w1 w1_4 → Ret Tryd.prog 31 [SV.slice s, SV.int IntKind.i64 bit] w1_4 fun (r : SV) (w1_5 : World) => ∃ (s : Sl), r = SV.slice s ∧ Keeps [b, b_1,
  b_2, b_3] w1_4 w1_5 ∧ Upd [] [] w1 w1_5 ∧ (Ret Tryd.prog 27 [SV.struct [SV.int IntKind.i64 src_0, SV.arr IntKind.u8 16 src_1], SV.struct [SV.int IntKind.i64
  dst_0, SV.arr IntKind.u8 16 dst_1], SV.slice s] w1_5 fun (r : SV) (w1_6 : World) => ∃ (n : Int), ∃ (n_1 : Int), ∃ (n_2 : Int), ∃ (n_3 : Int), ∃ (n_4 : Int),
  ∃ (n_5 : Int), ∃ (n_6 : Int), ∃ (s : Sl), ∃ (s_1 : Sl), ∃ (n_7 : Int), r = SV.tuple [SV.struct [SV.int IntKind.i64 n, SV.int IntKind.i64 n_1, SV.int IntKind.i64
  n_2, SV.int IntKind.i64 n_3, SV.int IntKind.i64 n_4, SV.int IntKind.i64 n_5, SV.int IntKind.i64 n_6, SV.slice s, SV.slice s_1], SV.int IntKind.i64 n_7]
  ∧ Keeps [b, b_1, b_2, b_3] w1_5 w1_6 ∧ ∀ (b_5 : Nat), Upd [] [] w1 w1_6 ∧ Br (decide (bit ≥ 96)) (∀ (w1 : World), Upd [] [b_5] w1_6 w1 → Ret Tryd.prog 20
  [SV.int IntKind.i64 n_7] w1 fun (r : SV) (w1_7 : World) => ∃ (n_8 : Int), r = SV.int IntKind.i64 n_8 ∧ Keeps [b, b_1, b_2, b_3, b_5] w1 w1_7 ∧ Br (n_8 !=
  0) (R (SV.bool true) w1_7) (Br (decide (bit < 100)) (Ret Tryd.prog 28 [SV.struct [SV.int IntKind.i64 t_0, SV.int IntKind.i64 t_1, SV.int IntKind.i64 t_2,
  SV.int IntKind.i64 t_3, SV.int IntKind.i64 t_4, SV.int IntKind.i64 t_5, SV.int IntKind.i64 t_6, SV.slice t_7, SV.slice t_8], SV.struct [SV.int IntKind.i64
  n, SV.int IntKind.i64 n_1, SV.int IntKind.i64 n_2, SV.int IntKind.i64 n_3, SV.int IntKind.i64 n_4, SV.int IntKind.i64 n_5, SV.int IntKind.i64 n_6, SV.slice
  s, SV.slice s_1]] w1_7 fun (r : SV) (w1 : World) => ∃ (b_6 : Bool), r = SV.bool b_6 ∧ Keeps [b, b_1, b_2, b_3, b_5] w1_7 w1 ∧ R (SV.bool !b_6) w1) (R (SV.bool
  false) w1_7))) (∀ (w1 : World), Upd [] [b_5] w1_6 w1 → Ret Tryd.prog 20 [SV.int IntKind.i64 n_7] w1 fun (r : SV) (w1_7 : World) => ∃ (n : Int), r = SV.int
  IntKind.i64 n ∧ Keeps [b, b_1, b_2, b_3, b_5] w1 w1_7 ∧ Br (n != 0) (R (SV.bool true) w1_7) (R (SV.bool false) w1_7))) ∧ ∀ (b_5 : Nat), Upd [] [] w1 w1_5
  ∧ ∀ (w1 : World), Upd [] [b_5] w1_5 w1 → Ret Tryd.prog 27 [SV.struct [SV.int IntKind.i64 src_0, SV.arr IntKind.u8 16 src_1], SV.struct [SV.int IntKind.i64
  dst_0, SV.arr IntKind.u8 16 dst_1], SV.slice s] w1 fun (r : SV) (w1_6 : World) => ∃ (n : Int), ∃ (n_1 : Int), ∃ (n_2 : Int), ∃ (n_3 : Int), ∃ (n_4 : Int),
  ∃ (n_5 : Int), ∃ (n_6 : Int), ∃ (s : Sl), ∃ (s_1 : Sl), ∃ (n_7 : Int), r = SV.tuple [SV.struct [SV.int IntKind.i64 n, SV.int IntKind.i64 n_1, SV.int IntKind.i64
  n_2, SV.int IntKind.i64 n_3, SV.int IntKind.i64 n_4, SV.int IntKind.i64 n_5, SV.int IntKind.i64 n_6, SV.slice s, SV.slice s_1], SV.int IntKind.i64 n_7]
  ∧ Keeps [b, b_1, b_2, b_3, b_5] w1 w1_6 ∧ Br (decide (bit ≥ 96)) (∀ (w1 : World), Upd [b_5] [] w1_6 w1 → Ret Tryd.prog 20 [SV.int IntKind.i64 n_7] w1 fun
  (r : SV) (w1_7 : World) => ∃ (n_8 : Int), r = SV.int IntKind.i64 n_8 ∧ Keeps [b, b_1, b_2, b_3, b_5] w1 w1_7 ∧ Br (n_8 != 0) (R (SV.bool true) w1_7) (Br
  (decide (bit < 100)) (Ret Tryd.prog 28 [SV.struct [SV.int IntKind.i64 t_0, SV.int IntKind.i64 t_1, SV.int IntKind.i64 t_2, SV.int IntKind.i64 t_3, SV.int
  IntKind.i64 t_4, SV.int IntKind.i64 t_5, SV.int IntKind.i64 t_6, SV.slice t_7, SV.slice t_8], SV.struct [SV.int IntKind.i64 n, SV.int IntKind.i64 n_1, SV.int
  IntKind.i64 n_2, SV.int IntKind.i64 n_3, SV.int IntKind.i64 n_4, SV.int IntKind.i64 n_5, SV.int IntKind.i64 n_6, SV.slice s, SV.slice s_1]] w1_7 fun (r
  : SV) (w1 : World) => ∃ (b_6 : Bool), r = SV.bool b_6 ∧ Keeps [b, b_1, b_2, b_3, b_5] w1_7 w1 ∧ R (SV.bool !b_6) w1) (R (SV.bool false) w1_7))) (∀ (w1 :
  World), Upd [b_5] [] w1_6 w1 → Ret Tryd.prog 20 [SV.int IntKind.i64 n_7] w1 fun (r : SV) (w1_7 : World) => ∃ (n : Int), r = SV.int IntKind.i64 n ∧ Keeps
  [b, b_1, b_2, b_3, b_5] w1 w1_7 ∧ Br (n != 0) (R (SV.bool true) w1_7) (R (SV.bool false) w1_7))) ∧ ∀ (b_5 : Nat), Upd [] [] w1 w1 ∧ ∀ (w1_4 : World), Upd
  [] [b_5] w1 w1_4 → Ret Tryd.prog 31 [SV.slice s, SV.int IntKind.i64 bit] w1_4 fun (r : SV) (w1_5 : World) => ∃ (s : Sl), r = SV.slice s ∧ Keeps [b, b_1,
  b_2, b_3, b_5] w1_4 w1_5 ∧ Upd [] [] w1 w1_5 ∧ Ret Tryd.prog 27 [SV.struct [SV.int IntKind.i64 src_0, SV.arr IntKind.u8 16 src_1], SV.struct [SV.int IntKind.i64
  dst_0, SV.arr IntKind.u8 16 dst_1], SV.slice s] w1_5 fun (r : SV) (w1 : World) => ∃ (n : Int), ∃ (n_1 : Int), ∃ (n_2 : Int), ∃ (n_3 : Int), ∃ (n_4 : Int),
  ∃ (n_5 : Int), ∃ (n_6 : Int), ∃ (s : Sl), ∃ (s_1 : Sl), ∃ (n_7 : Int), r = SV.tuple [SV.struct [SV.int IntKind.i64 n, SV.int IntKind.i64 n_1, SV.int IntKind.i64
  n_2, SV.int IntKind.i64 n_3, SV.int IntKind.i64 n_4, SV.int IntKind.i64 n_5, SV.int IntKind.i64 n_6, SV.slice s, SV.slice s_1], SV.int IntKind.i64 n_7]
  ∧ Keeps [b, b_1, b_2, b_3, b_5] w1_5 w1 ∧ Br (decide (bit ≥ 96)) (∀ (w1_6 : World), Upd [b_5] [] w1 w1_6 → Ret Tryd.prog 20 [SV.int IntKind.i64 n_7] w1_6
  fun (r : SV) (w1 : World) => ∃ (n_8 : Int), r = SV.int IntKind.i64 n_8 ∧ Keeps [b, b_1, b_2, b_3, b_5] w1_6 w1 ∧ Br (n_8 != 0) (R (SV.bool true) w1) (Br
  (decide (bit < 100)) (Ret Tryd.prog 28 [SV.struct [SV.int IntKind.i64 t_0, SV.int IntKind.i64 t_1, SV.int IntKind.i64 t_2, SV.int IntKind.i64 t_3, SV.int
  IntKind.i64 t_4, SV.int IntKind.i64 t_5, SV.int IntKind.i64 t_6, SV.slice t_7, SV.slice t_8], SV.struct [SV.int IntKind.i64 n, SV.int IntKind.i64 n_1, SV.int
  IntKind.i64 n_2, SV.int IntKind.i64 n_3, SV.int IntKind.i64 n_4, SV.int IntKind.i64 n_5, SV.int IntKind.i64 n_6, SV.slice s, SV.slice s_1]] w1 fun (r :
  SV) (w1_7 : World) => ∃ (b_6 : Bool), r = SV.bool b_6 ∧ Keeps [b, b_1, b_2, b_3, b_5] w1 w1_7 ∧ R (SV.bool !b_6) w1_7) (R (SV.bool false) w1))) (∀ (w1_6
  : World), Upd [b_5] [] w1 w1_6 → Ret Tryd.prog 20 [SV.int IntKind.i64 n_7] w1_6 fun (r : SV) (w1 : World) => ∃ (n : Int), r = SV.int IntKind.i64 n ∧ Keeps
  [b, b_1, b_2, b_3, b_5] w1_6 w1 ∧ Br (n != 0) (R (SV.bool true) w1) (R (SV.bool false) w1))) → J w1) → Ret Tryd.prog 20 [SV.int IntKind.i64 n] w1_3 fun
  (r : SV) (w1 : World) => ∃ (n : Int), r = SV.int IntKind.i64 n ∧ Keeps [b, b_1, b_2, b_3] w1_3 w1 ∧ Br (n != 0) (R (SV.bool true) w1) (Br (decide (bit ≥
  wr IntKind.i64 (8 * (↑s.2 : Int)))) (R (SV.bool true) w1) (some (SV.box b 27 (SV.struct [SV.int IntKind.i64 src_0, SV.arr IntKind.u8 16 src_1])) = some
  (SV.box b 27 (SV.struct [SV.int IntKind.i64 src_0, SV.arr IntKind.u8 16 src_1])) ∧ some (SV.box b_1 27 (SV.struct [SV.int IntKind.i64 dst_0, SV.arr IntKind.u8
  16 dst_1])) = some (SV.box b_1 27 (SV.struct [SV.int IntKind.i64 dst_0, SV.arr IntKind.u8 16 dst_1])) ∧ some (SV.box b_2 30 (SV.struct [SV.int IntKind.i64
  u_0, SV.int IntKind.i64 u_1, SV.bool u_2, SV.slice u_3])) = some (SV.box b_2 30 (SV.struct [SV.int IntKind.i64 u_0, SV.int IntKind.i64 u_1, SV.bool u_2,
  SV.slice u_3])) ∧ some (SV.box b_3 45 (SV.struct [SV.int IntKind.i64 t_0, SV.int IntKind.i64 t_1, SV.int IntKind.i64 t_2, SV.int IntKind.i64 t_3, SV.int
  IntKind.i64 t_4, SV.int IntKind.i64 t_5, SV.int IntKind.i64 t_6, SV.slice t_7, SV.slice t_8])) = some (SV.box b_3 45 (SV.struct [SV.int IntKind.i64 t_0,
  SV.int IntKind.i64 t_1, SV.int IntKind.i64 t_2, SV.int IntKind.i64 t_3, SV.int IntKind.i64 t_4, SV.int IntKind.i64 t_5, SV.int IntKind.i64 t_6, SV.slice
  t_7, SV.slice t_8])) ∧ J w1))) → J w1) → ∀ (J_1 : Bool → World → Prop), (∀ (b_5 : Bool) (w1 : World), Br b_5 (Ret Tryd.prog 31 [SV.slice s, SV.int IntKind.i64
  bit] w1 fun (r : SV) (w1_3 : World) => ∃ (s : Sl), r = SV.slice s ∧ Keeps [b, b_1, b_2, b_3] w1 w1_3 ∧ Ret Tryd.prog 21 [SV.struct [SV.int IntKind.i64 src_0,
  SV.arr IntKind.u8 16 src_1], SV.struct [SV.int IntKind.i64 dst_0, SV.arr IntKind.u8 16 dst_1], SV.slice s] w1_3 fun (r : SV) (w1 : World) => ∃ (n : Int),
  ∃ (n_1 : Int), ∃ (b_6 : Bool), ∃ (s_1 : Sl), ∃ (n_2 : Int), r = SV.tuple [SV.struct [SV.int IntKind.i64 n, SV.int IntKind.i64 n_1, SV.bool b_6, SV.slice
  s_1], SV.int IntKind.i64 n_2] ∧ Keeps [b, b_1, b_2, b_3] w1_3 w1 ∧ ∀ (b_7 : Nat), Br (decide (bit ≥ 32)) (Need (decide (6 < (↑s.2 : Int)) && Option.isSome
  s.1) (∃ (n_3 : Int), World.cell? w1 (Sl.at s 1 6) = some (Value.int IntKind.u8 n_3) ∧ Br (n_3 == 0) (Need (decide (7 < (↑s.2 : Int)) && Option.isSome s.1)
  (∃ (n_4 : Int), World.cell? w1 (Sl.at s 1 7) = some (Value.int IntKind.u8 n_4) ∧ ∀ (w1_4 : World), Upd [] [b_7] w1 w1_4 → Ret Tryd.prog 20 [SV.int IntKind.i64
  n_2] w1_4 fun (r : SV) (w1 : World) => ∃ (n_5 : Int), r = SV.int IntKind.i64 n_5 ∧ Keeps [b, b_1, b_2, b_3, b_7] w1_4 w1 ∧ Br (n_5 == 0) (Ret Tryd.prog
  23 [SV.struct [SV.int IntKind.i64 u_0, SV.int IntKind.i64 u_1, SV.bool u_2, SV.slice u_3], SV.struct [SV.int IntKind.i64 n, SV.int IntKind.i64 n_1, SV.bool
  b_6, SV.slice s_1]] w1 fun (r : SV) (w1_5 : World) => ∃ (b_8 : Bool), r = SV.bool b_8 ∧ Keeps [b, b_1, b_2, b_3, b_7] w1 w1_5 ∧ Br b_8 (R (SV.bool false)
  w1_5) (Ret Tryd.prog 20 [SV.int IntKind.i64 n_2] w1_5 fun (r : SV) (w1 : World) => ∃ (n : Int), r = SV.int IntKind.i64 n ∧ Keeps [b, b_1, b_2, b_3, b_7]
  w1_5 w1 ∧ Br (n == 0) (Br (!decide (bit < 48)) (Br (!n_4 == 0) (R (SV.bool false) w1) (some (SV.box b 27 (SV.struct [SV.int IntKind.i64 src_0, SV.arr IntKind.u8
  16 src_1])) = some (SV.box b 27 (SV.struct [SV.int IntKind.i64 src_0, SV.arr IntKind.u8 16 src_1])) ∧ some (SV.box b_1 27 (SV.struct [SV.int IntKind.i64
  dst_0, SV.arr IntKind.u8 16 dst_1])) = some (SV.box b_1 27 (SV.struct [SV.int IntKind.i64 dst_0, SV.arr IntKind.u8 16 dst_1])) ∧ some (SV.box b_2 30 (SV.struct
  [SV.int IntKind.i64 u_0, SV.int IntKind.i64 u_1, SV.bool u_2, SV.slice u_3])) = some (SV.box b_2 30 (SV.struct [SV.int IntKind.i64 u_0, SV.int IntKind.i64
  u_1, SV.bool u_2, SV.slice u_3])) ∧ some (SV.box b_3 45 (SV.struct [SV.int IntKind.i64 t_0, SV.int IntKind.i64 t_1, SV.int IntKind.i64 t_2, SV.int IntKind.i64
  t_3, SV.int IntKind.i64 t_4, SV.int IntKind.i64 t_5, SV.int IntKind.i64 t_6, SV.slice t_7, SV.slice t_8])) = some (SV.box b_3 45 (SV.struct [SV.int IntKind.i64
  t_0, SV.int IntKind.i64 t_1, SV.int IntKind.i64 t_2, SV.int IntKind.i64 t_3, SV.int IntKind.i64 t_4, SV.int IntKind.i64 t_5, SV.int IntKind.i64 t_6, SV.slice
  t_7, SV.slice t_8])) ∧ J w1)) (some (SV.box b 27 (SV.struct [SV.int IntKind.i64 src_0, SV.arr IntKind.u8 16 src_1])) = some (SV.box b 27 (SV.struct [SV.int
  IntKind.i64 src_0, SV.arr IntKind.u8 16 src_1])) ∧ some (SV.box b_1 27 (SV.struct [SV.int IntKind.i64 dst_0, SV.arr IntKind.u8 16 dst_1])) = some (SV.box
  b_1 27 (SV.struct [SV.int IntKind.i64 dst_0, SV.arr IntKind.u8 16 dst_1])) ∧ some (SV.box b_2 30 (SV.struct [SV.int IntKind.i64 u_0, SV.int IntKind.i64
  u_1, SV.bool u_2, SV.slice u_3])) = some (SV.box b_2 30 (SV.struct [SV.int IntKind.i64 u_0, SV.int IntKind.i64 u_1, SV.bool u_2, SV.slice u_3])) ∧ some
  (SV.box b_3 45 (SV.struct [SV.int IntKind.i64 t_0, SV.int IntKind.i64 t_1, SV.int IntKind.i64 t_2, SV.int IntKind.i64 t_3, SV.int IntKind.i64 t_4, SV.int
  IntKind.i64 t_5, SV.int IntKind.i64 t_6, SV.slice t_7, SV.slice t_8])) = some (SV.box b_3 45 (SV.struct [SV.int IntKind.i64 t_0, SV.int IntKind.i64 t_1,
  SV.int IntKind.i64 t_2, SV.int IntKind.i64 t_3, SV.int IntKind.i64 t_4, SV.int IntKind.i64 t_5, SV.int IntKind.i64 t_6, SV.slice t_7, SV.slice t_8])) ∧
  J w1)) (some (SV.box b 27 (SV.struct [SV.int IntKind.i64 src_0, SV.arr IntKind.u8 16 src_1])) = some (SV.box b 27 (SV.struct [SV.int IntKind.i64 src_0,
  SV.arr IntKind.u8 16 src_1])) ∧ some (SV.box b_1 27 (SV.struct [SV.int IntKind.i64 dst_0, SV.arr IntKind.u8 16 dst_1])) = some (SV.box b_1 27 (SV.struct
  [SV.int IntKind.i64 dst_0, SV.arr IntKind.u8 16 dst_1])) ∧ some (SV.box b_2 30 (SV.struct [SV.int IntKind.i64 u_0, SV.int IntKind.i64 u_1, SV.bool u_2,
  SV.slice u_3])) = some (SV.box b_2 30 (SV.struct [SV.int IntKind.i64 u_0, SV.int IntKind.i64 u_1, SV.bool u_2, SV.slice u_3])) ∧ some (SV.box b_3 45 (SV.struct
  [SV.int IntKind.i64 t_0, SV.int IntKind.i64 t_1, SV.int IntKind.i64 t_2, SV.int IntKind.i64 t_3, SV.int IntKind.i64 t_4, SV.int IntKind.i64 t_5, SV.int
  IntKind.i64 t_6, SV.slice t_7, SV.slice t_8])) = some (SV.box b_3 45 (SV.struct [SV.int IntKind.i64 t_0, SV.int IntKind.i64 t_1, SV.int IntKind.i64 t_2,
  SV.int IntKind.i64 t_3, SV.int IntKind.i64 t_4, SV.int IntKind.i64 t_5, SV.int IntKind.i64 t_6, SV.slice t_7, SV.slice t_8])) ∧ J w1))) (Ret Tryd.prog 20
  [SV.int IntKind.i64 n_2] w1 fun (r : SV) (w1_5 : World) => ∃ (n : Int), r = SV.int IntKind.i64 n ∧ Keeps [b, b_1, b_2, b_3, b_7] w1 w1_5 ∧ Br (n == 0) (Br
  (!decide (bit < 48)) (Br (!n_4 == 0) (R (SV.bool false) w1_5) (some (SV.box b 27 (SV.struct [SV.int IntKind.i64 src_0, SV.arr IntKind.u8 16 src_1])) = some
  (SV.box b 27 (SV.struct [SV.int IntKind.i64 src_0, SV.arr IntKind.u8 16 src_1])) ∧ some (SV.box b_1 27 (SV.struct [SV.int IntKind.i64 dst_0, SV.arr IntKind.u8
  16 dst_1])) = some (SV.box b_1 27 (SV.struct [SV.int IntKind.i64 dst_0, SV.arr IntKind.u8 16 dst_1])) ∧ some (SV.box b_2 30 (SV.struct [SV.int IntKind.i64
  u_0, SV.int IntKind.i64 u_1, SV.bool u_2, SV.slice u_3])) = some (SV.box b_2 30 (SV.struct [SV.int IntKind.i64 u_0, SV.int IntKind.i64 u_1, SV.bool u_2,
  SV.slice u_3])) ∧ some (SV.box b_3 45 (SV.struct [SV.int IntKind.i64 t_0, SV.int IntKind.i64 t_1, SV.int IntKind.i64 t_2, SV.int IntKind.i64 t_3, SV.int
  IntKind.i64 t_4, SV.int IntKind.i64 t_5, SV.int IntKind.i64 t_6, SV.slice t_7, SV.slice t_8])) = some (SV.box b_3 45 (SV.struct [SV.int IntKind.i64 t_0,
  SV.int IntKind.i64 t_1, SV.int IntKind.i64 t_2, SV.int IntKind.i64 t_3, SV.int IntKind.i64 t_4, SV.int IntKind.i64 t_5, SV.int IntKind.i64 t_6, SV.slice
  t_7, SV.slice t_8])) ∧ J w1_5)) (some (SV.box b 27 (SV.struct [SV.int IntKind.i64 src_0, SV.arr IntKind.u8 16 src_1])) = some (SV.box b 27 (SV.struct [SV.int
  IntKind.i64 src_0, SV.arr IntKind.u8 16 src_1])) ∧ some (SV.box b_1 27 (SV.struct [SV.int IntKind.i64 dst_0, SV.arr IntKind.u8 16 dst_1])) = some (SV.box
  b_1 27 (SV.struct [SV.int IntKind.i64 dst_0, SV.arr IntKind.u8 16 dst_1])) ∧ some (SV.box b_2 30 (SV.struct [SV.int IntKind.i64 u_0, SV.int IntKind.i64
  u_1, SV.bool u_2, SV.slice u_3])) = some (SV.box b_2 30 (SV.struct [SV.int IntKind.i64 u_0, SV.int IntKind.i64 u_1, SV.bool u_2, SV.slice u_3])) ∧ some
  (SV.box b_3 45 (SV.struct [SV.int IntKind.i64 t_0, SV.int IntKind.i64 t_1, SV.int IntKind.i64 t_2, SV.int IntKind.i64 t_3, SV.int IntKind.i64 t_4, SV.int
  IntKind.i64 t_5, SV.int IntKind.i64 t_6, SV.slice t_7, SV.slice t_8])) = some (SV.box b_3 45 (SV.struct [SV.int IntKind.i64 t_0, SV.int IntKind.i64 t_1,
  SV.int IntKind.i64 t_2, SV.int IntKind.i64 t_3, SV.int IntKind.i64 t_4, SV.int IntKind.i64 t_5, SV.int IntKind.i64 t_6, SV.slice t_7, SV.slice t_8])) ∧
  J w1_5)) (some (SV.box b 27 (SV.struct [SV.int IntKind.i64 src_0, SV.arr IntKind.u8 16 src_1])) = some (SV.box b 27 (SV.struct [SV.int IntKind.i64 src_0,
  SV.arr IntKind.u8 16 src_1])) ∧ some (SV.box b_1 27 (SV.struct [SV.int IntKind.i64 dst_0, SV.arr IntKind.u8 16 dst_1])) = some (SV.box b_1 27 (SV.struct
  [SV.int IntKind.i64 dst_0, SV.arr IntKind.u8 16 dst_1])) ∧ some (SV.box b_2 30 (SV.struct [SV.int IntKind.i64 u_0, SV.int IntKind.i64 u_1, SV.bool u_2,
  SV.slice u_3])) = some (SV.box b_2 30 (SV.struct [SV.int IntKind.i64 u_0, SV.int IntKind.i64 u_1, SV.bool u_2, SV.slice u_3])) ∧ some (SV.box b_3 45 (SV.struct
  [SV.int IntKind.i64 t_0, SV.int IntKind.i64 t_1, SV.int IntKind.i64 t_2, SV.int IntKind.i64 t_3, SV.int IntKind.i64 t_4, SV.int IntKind.i64 t_5, SV.int
  IntKind.i64 t_6, SV.slice t_7, SV.slice t_8])) = some (SV.box b_3 45 (SV.struct [SV.int IntKind.i64 t_0, SV.int IntKind.i64 t_1, SV.int IntKind.i64 t_2,
  SV.int IntKind.i64 t_3, SV.int IntKind.i64 t_4, SV.int IntKind.i64 t_5, SV.int IntKind.i64 t_6, SV.slice t_7, SV.slice t_8])) ∧ J w1_5)))) (∀ (w1_4 : World),
  Upd [] [b_7] w1 w1_4 → Ret Tryd.prog 20 [SV.int IntKind.i64 n_2] w1_4 fun (r : SV) (w1 : World) => ∃ (n_4 : Int), r = SV.int IntKind.i64 n_4 ∧ Keeps [b,
  b_1, b_2, b_3, b_7] w1_4 w1 ∧ Br (n_4 == 0) (Ret Tryd.prog 23 [SV.struct [SV.int IntKind.i64 u_0, SV.int IntKind.i64 u_1, SV.bool u_2, SV.slice u_3], SV.struct
  [SV.int IntKind.i64 n, SV.int IntKind.i64 n_1, SV.bool b_6, SV.slice s_1]] w1 fun (r : SV) (w1_5 : World) => ∃ (b_8 : Bool), r = SV.bool b_8 ∧ Keeps [b,
  b_1, b_2, b_3, b_7] w1 w1_5 ∧ Br b_8 (R (SV.bool false) w1_5) (Ret Tryd.prog 20 [SV.int IntKind.i64 n_2] w1_5 fun (r : SV) (w1 : World) => ∃ (n : Int),
  r = SV.int IntKind.i64 n ∧ Keeps [b, b_1, b_2, b_3, b_7] w1_5 w1 ∧ Br (n == 0) (Br (!decide (bit < 48)) (R (SV.bool false) w1) (some (SV.box b 27 (SV.struct
  [SV.int IntKind.i64 src_0, SV.arr IntKind.u8 16 src_1])) = some (SV.box b 27 (SV.struct [SV.int IntKind.i64 src_0, SV.arr IntKind.u8 16 src_1])) ∧ some
  (SV.box b_1 27 (SV.struct [SV.int IntKind.i64 dst_0, SV.arr IntKind.u8 16 dst_1])) = some (SV.box b_1 27 (SV.struct [SV.int IntKind.i64 dst_0, SV.arr IntKind.u8
  16 dst_1])) ∧ some (SV.box b_2 30 (SV.struct [SV.int IntKind.i64 u_0, SV.int IntKind.i64 u_1, SV.bool u_2, SV.slice u_3])) = some (SV.box b_2 30 (SV.struct
  [SV.int IntKind.i64 u_0, SV.int IntKind.i64 u_1, SV.bool u_2, SV.slice u_3])) ∧ some (SV.box b_3 45 (SV.struct [SV.int IntKind.i64 t_0, SV.int IntKind.i64
  t_1, SV.int IntKind.i64 t_2, SV.int IntKind.i64 t_3, SV.int IntKind.i64 t_4, SV.int IntKind.i64 t_5, SV.int IntKind.i64 t_6, SV.slice t_7, SV.slice t_8]))
  = some (SV.box b_3 45 (SV.struct [SV.int IntKind.i64 t_0, SV.int IntKind.i64 t_1, SV.int IntKind.i64 t_2, SV.int IntKind.i64 t_3, SV.int IntKind.i64 t_4,
  SV.int IntKind.i64 t_5, SV.int IntKind.i64 t_6, SV.slice t_7, SV.slice t_8])) ∧ J w1)) (some (SV.box b 27 (SV.struct [SV.int IntKind.i64 src_0, SV.arr IntKind.u8
  16 src_1])) = some (SV.box b 27 (SV.struct [SV.int IntKind.i64 src_0, SV.arr IntKind.u8 16 src_1])) ∧ some (SV.box b_1 27 (SV.struct [SV.int IntKind.i64
  dst_0, SV.arr IntKind.u8 16 dst_1])) = some (SV.box b_1 27 (SV.struct [SV.int IntKind.i64 dst_0, SV.arr IntKind.u8 16 dst_1])) ∧ some (SV.box b_2 30 (SV.struct
  [SV.int IntKind.i64 u_0, SV.int IntKind.i64 u_1, SV.bool u_2, SV.slice u_3])) = some (SV.box b_2 30 (SV.struct [SV.int IntKind.i64 u_0, SV.int IntKind.i64
  u_1, SV.bool u_2, SV.slice u_3])) ∧ some (SV.box b_3 45 (SV.struct [SV.int IntKind.i64 t_0, SV.int IntKind.i64 t_1, SV.int IntKind.i64 t_2, SV.int IntKind.i64
  t_3, SV.int IntKind.i64 t_4, SV.int IntKind.i64 t_5, SV.int IntKind.i64 t_6, SV.slice t_7, SV.slice t_8])) = some (SV.box b_3 45 (SV.struct [SV.int IntKind.i64
  t_0, SV.int IntKind.i64 t_1, SV.int IntKind.i64 t_2, SV.int IntKind.i64 t_3, SV.int IntKind.i64 t_4, SV.int IntKind.i64 t_5, SV.int IntKind.i64 t_6, SV.slice
  t_7, SV.slice t_8])) ∧ J w1))) (Ret Tryd.prog 20 [SV.int IntKind.i64 n_2] w1 fun (r : SV) (w1_5 : World) => ∃ (n : Int), r = SV.int IntKind.i64 n ∧ Keeps
  [b, b_1, b_2, b_3, b_7] w1 w1_5 ∧ Br (n == 0) (Br (!decide (bit < 48)) (R (SV.bool false) w1_5) (some (SV.box b 27 (SV.struct [SV.int IntKind.i64 src_0,
  SV.arr IntKind.u8 16 src_1])) = some (SV.box b 27 (SV.struct [SV.int IntKind.i64 src_0, SV.arr IntKind.u8 16 src_1])) ∧ some (SV.box b_1 27 (SV.struct [SV.int
  IntKind.i64 dst_0, SV.arr IntKind.u8 16 dst_1])) = some (SV.box b_1 27 (SV.struct [SV.int IntKind.i64 dst_0, SV.arr IntKind.u8 16 dst_1])) ∧ some (SV.box
  b_2 30 (SV.struct [SV.int IntKind.i64 u_0, SV.int IntKind.i64 u_1, SV.bool u_2, SV.slice u_3])) = some (SV.box b_2 30 (SV.struct [SV.int IntKind.i64 u_0,
  SV.int IntKind.i64 u_1, SV.bool u_2, SV.slice u_3])) ∧ some (SV.box b_3 45 (SV.struct [SV.int IntKind.i64 t_0, SV.int IntKind.i64 t_1, SV.int IntKind.i64
  t_2, SV.int IntKind.i64 t_3, SV.int IntKind.i64 t_4, SV.int IntKind.i64 t_5, SV.int IntKind.i64 t_6, SV.slice t_7, SV.slice t_8])) = some (SV.box b_3 45
  (SV.struct [SV.int IntKind.i64 t_0, SV.int IntKind.i64 t_1, SV.int IntKind.i64 t_2, SV.int IntKind.i64 t_3, SV.int IntKind.i64 t_4, SV.int IntKind.i64 t_5,
  SV.int IntKind.i64 t_6, SV.slice t_7, SV.slice t_8])) ∧ J w1_5)) (some (SV.box b 27 (SV.struct [SV.int IntKind.i64 src_0, SV.arr IntKind.u8 16 src_1]))
  = some (SV.box b 27 (SV.struct [SV.int IntKind.i64 src_0, SV.arr IntKind.u8 16 src_1])) ∧ some (SV.box b_1 27 (SV.struct [SV.int IntKind.i64 dst_0, SV.arr
  IntKind.u8 16 dst_1])) = some (SV.box b_1 27 (SV.struct [SV.int IntKind.i64 dst_0, SV.arr IntKind.u8 16 dst_1])) ∧ some (SV.box b_2 30 (SV.struct [SV.int
  IntKind.i64 u_0, SV.int IntKind.i64 u_1, SV.bool u_2, SV.slice u_3])) = some (SV.box b_2 30 (SV.struct [SV.int IntKind.i64 u_0, SV.int IntKind.i64 u_1,
  SV.bool u_2, SV.slice u_3])) ∧ some (SV.box b_3 45 (SV.struct [SV.int IntKind.i64 t_0, SV.int IntKind.i64 t_1, SV.int IntKind.i64 t_2, SV.int IntKind.i64
  t_3, SV.int IntKind.i64 t_4, SV.int IntKind.i64 t_5, SV.int IntKind.i64 t_6, SV.slice t_7, SV.slice t_8])) = some (SV.box b_3 45 (SV.struct [SV.int IntKind.i64
  t_0, SV.int IntKind.i64 t_1, SV.int IntKind.i64 t_2, SV.int IntKind.i64 t_3, SV.int IntKind.i64 t_4, SV.int IntKind.i64 t_5, SV.int IntKind.i64 t_6, SV.slice
  t_7, SV.slice t_8])) ∧ J w1_5))))) (Need (decide (6 < (↑s.2 : Int)) && Option.isSome s.1) (∃ (n_3 : Int), World.cell? w1 (Sl.at s 1 6) = some (Value.int
  IntKind.u8 n_3) ∧ Br (n_3 == 0) (Need (decide (7 < (↑s.2 : Int)) && Option.isSome s.1) (∃ (n_4 : Int), World.cell? w1 (Sl.at s 1 7) = some (Value.int IntKind.u8
  n_4) ∧ ∀ (w1_4 : World), Upd [] [b_7] w1 w1_4 → Ret Tryd.prog 20 [SV.int IntKind.i64 n_2] w1_4 fun (r : SV) (w1 : World) => ∃ (n_5 : Int), r = SV.int IntKind.i64
  n_5 ∧ Keeps [b, b_1, b_2, b_3, b_7] w1_4 w1 ∧ Br (n_5 == 0) (Ret Tryd.prog 23 [SV.struct [SV.int IntKind.i64 u_0, SV.int IntKind.i64 u_1, SV.bool u_2, SV.slice
  u_3], SV.struct [SV.int IntKind.i64 n, SV.int IntKind.i64 n_1, SV.bool b_6, SV.slice s_1]] w1 fun (r : SV) (w1_5 : World) => ∃ (b_8 : Bool), r = SV.bool
  b_8 ∧ Keeps [b, b_1, b_2, b_3, b_7] w1 w1_5 ∧ Br b_8 (R (SV.bool false) w1_5) (Ret Tryd.prog 20 [SV.int IntKind.i64 n_2] w1_5 fun (r : SV) (w1 : World)
  => ∃ (n : Int), r = SV.int IntKind.i64 n ∧ Keeps [b, b_1, b_2, b_3, b_7] w1_5 w1 ∧ Br (n == 0) (Br (!n_4 == 0) (R (SV.bool false) w1) (some (SV.box b 27
  (SV.struct [SV.int IntKind.i64 src_0, SV.arr IntKind.u8 16 src_1])) = some (SV.box b 27 (SV.struct [SV.int IntKind.i64 src_0, SV.arr IntKind.u8 16 src_1]))
  ∧ some (SV.box b_1 27 (SV.struct [SV.int IntKind.i64 dst_0, SV.arr IntKind.u8 16 dst_1])) = some (SV.box b_1 27 (SV.struct [SV.int IntKind.i64 dst_0, SV.arr
  IntKind.u8 16 dst_1])) ∧ some (SV.box b_2 30 (SV.struct [SV.int IntKind.i64 u_0, SV.int IntKind.i64 u_1, SV.bool u_2, SV.slice u_3])) = some (SV.box b_2
  30 (SV.struct [SV.int IntKind.i64 u_0, SV.int IntKind.i64 u_1, SV.bool u_2, SV.slice u_3])) ∧ some (SV.box b_3 45 (SV.struct [SV.int IntKind.i64 t_0, SV.int
  IntKind.i64 t_1, SV.int IntKind.i64 t_2, SV.int IntKind.i64 t_3, SV.int IntKind.i64 t_4, SV.int IntKind.i64 t_5, SV.int IntKind.i64 t_6, SV.slice t_7, SV.slice
  t_8])) = some (SV.box b_3 45 (SV.struct [SV.int IntKind.i64 t_0, SV.int IntKind.i64 t_1, SV.int IntKind.i64 t_2, SV.int IntKind.i64 t_3, SV.int IntKind.i64
  t_4, SV.int IntKind.i64 t_5, SV.int IntKind.i64 t_6, SV.slice t_7, SV.slice t_8])) ∧ J w1)) (some (SV.box b 27 (SV.struct [SV.int IntKind.i64 src_0, SV.arr
  IntKind.u8 16 src_1])) = some (SV.box b 27 (SV.struct [SV.int IntKind.i64 src_0, SV.arr IntKind.u8 16 src_1])) ∧ some (SV.box b_1 27 (SV.struct [SV.int
  IntKind.i64 dst_0, SV.arr IntKind.u8 16 dst_1])) = some (SV.box b_1 27 (SV.struct [SV.int IntKind.i64 dst_0, SV.arr IntKind.u8 16 dst_1])) ∧ some (SV.box
  b_2 30 (SV.struct [SV.int IntKind.i64 u_0, SV.int IntKind.i64 u_1, SV.bool u_2, SV.slice u_3])) = some (SV.box b_2 30 (SV.struct [SV.int IntKind.i64 u_0,
  SV.int IntKind.i64 u_1, SV.bool u_2, SV.slice u_3])) ∧ some (SV.box b_3 45 (SV.struct [SV.int IntKind.i64 t_0, SV.int IntKind.i64 t_1, SV.int IntKind.i64
  t_2, SV.int IntKind.i64 t_3, SV.int IntKind.i64 t_4, SV.int IntKind.i64 t_5, SV.int IntKind.i64 t_6, SV.slice t_7, SV.slice t_8])) = some (SV.box b_3 45
  (SV.struct [SV.int IntKind.i64 t_0, SV.int IntKind.i64 t_1, SV.int IntKind.i64 t_2, SV.int IntKind.i64 t_3, SV.int IntKind.i64 t_4, SV.int IntKind.i64 t_5,
  SV.int IntKind.i64 t_6, SV.slice t_7, SV.slice t_8])) ∧ J w1))) (Ret Tryd.prog 20 [SV.int IntKind.i64 n_2] w1 fun (r : SV) (w1_5 : World) => ∃ (n : Int),
  r = SV.int IntKind.i64 n ∧ Keeps [b, b_1, b_2, b_3, b_7] w1 w1_5 ∧ Br (n == 0) (Br (!n_4 == 0) (R (SV.bool false) w1_5) (some (SV.box b 27 (SV.struct [SV.int
  IntKind.i64 src_0, SV.arr IntKind.u8 16 src_1])) = some (SV.box b 27 (SV.struct [SV.int IntKind.i64 src_0, SV.arr IntKind.u8 16 src_1])) ∧ some (SV.box
  b_1 27 (SV.struct [SV.int IntKind.i64 dst_0, SV.arr IntKind.u8 16 dst_1])) = some (SV.box b_1 27 (SV.struct [SV.int IntKind.i64 dst_0, SV.arr IntKind.u8
  16 dst_1])) ∧ some (SV.box b_2 30 (SV.struct [SV.int IntKind.i64 u_0, SV.int IntKind.i64 u_1, SV.bool u_2, SV.slice u_3])) = some (SV.box b_2 30 (SV.struct
  [SV.int IntKind.i64 u_0, SV.int IntKind.i64 u_1, SV.bool u_2, SV.slice u_3])) ∧ some (SV.box b_3 45 (SV.struct [SV.int IntKind.i64 t_0, SV.int IntKind.i64
  t_1, SV.int IntKind.i64 t_2, SV.int IntKind.i64 t_3, SV.int IntKind.i64 t_4, SV.int IntKind.i64 t_5, SV.int IntKind.i64 t_6, SV.slice t_7, SV.slice t_8]))
  = some (SV.box b_3 45 (SV.struct [SV.int IntKind.i64 t_0, SV.int IntKind.i64 t_1, SV.int IntKind.i64 t_2, SV.int IntKind.i64 t_3, SV.int IntKind.i64 t_4,
  SV.int IntKind.i64 t_5, SV.int IntKind.i64 t_6, SV.slice t_7, SV.slice t_8])) ∧ J w1_5)) (some (SV.box b 27 (SV.struct [SV.int IntKind.i64 src_0, SV.arr
  IntKind.u8 16 src_1])) = some (SV.box b 27 (SV.struct [SV.int IntKind.i64 src_0, SV.arr IntKind.u8 16 src_1])) ∧ some (SV.box b_1 27 (SV.struct [SV.int
  IntKind.i64 dst_0, SV.arr IntKind.u8 16 dst_1])) = some (SV.box b_1 27 (SV.struct [SV.int IntKind.i64 dst_0, SV.arr IntKind.u8 16 dst_1])) ∧ some (SV.box
  b_2 30 (SV.struct [SV.int IntKind.i64 u_0, SV.int IntKind.i64 u_1, SV.bool u_2, SV.slice u_3])) = some (SV.box b_2 30 (SV.struct [SV.int IntKind.i64 u_0,
  SV.int IntKind.i64 u_1, SV.bool u_2, SV.slice u_3])) ∧ some (SV.box b_3 45 (SV.struct [SV.int IntKind.i64 t_0, SV.int IntKind.i64 t_1, SV.int IntKind.i64
  t_2, SV.int IntKind.i64 t_3, SV.int IntKind.i64 t_4, SV.int IntKind.i64 t_5, SV.int IntKind.i64 t_6, SV.slice t_7, SV.slice t_8])) = some (SV.box b_3 45
  (SV.struct [SV.int IntKind.i64 t_0, SV.int IntKind.i64 t_1, SV.int IntKind.i64 t_2, SV.int IntKind.i64 t_3, SV.int IntKind.i64 t_4, SV.int IntKind.i64 t_5,
  SV.int IntKind.i64 t_6, SV.slice t_7, SV.slice t_8])) ∧ J w1_5)))) (∀ (w1_4 : World), Upd [] [b_7] w1 w1_4 → Ret Tryd.prog 20 [SV.int IntKind.i64 n_2] w1_4
  fun (r : SV) (w1 : World) => ∃ (n_4 : Int), r = SV.int IntKind.i64 n_4 ∧ Keeps [b, b_1, b_2, b_3, b_7] w1_4 w1 ∧ Br (n_4 == 0) (Ret Tryd.prog 23 [SV.struct
  [SV.int IntKind.i64 u_0, SV.int IntKind.i64 u_1, SV.bool u_2, SV.slice u_3], SV.struct [SV.int IntKind.i64 n, SV.int IntKind.i64 n_1, SV.bool b_6, SV.slice
  s_1]] w1 fun (r : SV) (w1_5 : World) => ∃ (b_8 : Bool), r = SV.bool b_8 ∧ Keeps [b, b_1, b_2, b_3, b_7] w1 w1_5 ∧ Br b_8 (R (SV.bool false) w1_5) (Ret Tryd.prog
  20 [SV.int IntKind.i64 n_2] w1_5 fun (r : SV) (w1 : World) => ∃ (n : Int), r = SV.int IntKind.i64 n ∧ Keeps [b, b_1, b_2, b_3, b_7] w1_5 w1 ∧ Br (n == 0)
  (R (SV.bool false) w1) (some (SV.box b 27 (SV.struct [SV.int IntKind.i64 src_0, SV.arr IntKind.u8 16 src_1])) = some (SV.box b 27 (SV.struct [SV.int IntKind.i64
  src_0, SV.arr IntKind.u8 16 src_1])) ∧ some (SV.box b_1 27 (SV.struct [SV.int IntKind.i64 dst_0, SV.arr IntKind.u8 16 dst_1])) = some (SV.box b_1 27 (SV.struct
  [SV.int IntKind.i64 dst_0, SV.arr IntKind.u8 16 dst_1])) ∧ some (SV.box b_2 30 (SV.struct [SV.int IntKind.i64 u_0, SV.int IntKind.i64 u_1, SV.bool u_2,
  SV.slice u_3])) = some (SV.box b_2 30 (SV.struct [SV.int IntKind.i64 u_0, SV.int IntKind.i64 u_1, SV.bool u_2, SV.slice u_3])) ∧ some (SV.box b_3 45 (SV.struct
  [SV.int IntKind.i64 t_0, SV.int IntKind.i64 t_1, SV.int IntKind.i64 t_2, SV.int IntKind.i64 t_3, SV.int IntKind.i64 t_4, SV.int IntKind.i64 t_5, SV.int
  IntKind.i64 t_6, SV.slice t_7, SV.slice t_8])) = some (SV.box b_3 45 (SV.struct [SV.int IntKind.i64 t_0, SV.int IntKind.i64 t_1, SV.int IntKind.i64 t_2,
  SV.int IntKind.i64 t_3, SV.int IntKind.i64 t_4, SV.int IntKind.i64 t_5, SV.int IntKind.i64 t_6, SV.slice t_7, SV.slice t_8])) ∧ J w1))) (Ret Tryd.prog 20
  [SV.int IntKind.i64 n_2] w1 fun (r : SV) (w1_5 : World) => ∃ (n : Int), r = SV.int IntKind.i64 n ∧ Keeps [b, b_1, b_2, b_3, b_7] w1 w1_5 ∧ Br (n == 0) (R
  (SV.bool false) w1_5) (some (SV.box b 27 (SV.struct [SV.int IntKind.i64 src_0, SV.arr IntKind.u8 16 src_1])) = some (SV.box b 27 (SV.struct [SV.int IntKind.i64
  src_0, SV.arr IntKind.u8 16 src_1])) ∧ some (SV.box b_1 27 (SV.struct [SV.int IntKind.i64 dst_0, SV.arr IntKind.u8 16 dst_1])) = some (SV.box b_1 27 (SV.struct
  [SV.int IntKind.i64 dst_0, SV.arr IntKind.u8 16 dst_1])) ∧ some (SV.box b_2 30 (SV.struct [SV.int IntKind.i64 u_0, SV.int IntKind.i64 u_1, SV.bool u_2,
  SV.slice u_3])) = some (SV.box b_2 30 (SV.struct [SV.int IntKind.i64 u_0, SV.int IntKind.i64 u_1, SV.bool u_2, SV.slice u_3])) ∧ some (SV.box b_3 45 (SV.struct
  [SV.int IntKind.i64 t_0, SV.int IntKind.i64 t_1, SV.int IntKind.i64 t_2, SV.int IntKind.i64 t_3, SV.int IntKind.i64 t_4, SV.int IntKind.i64 t_5, SV.int
  IntKind.i64 t_6, SV.slice t_7, SV.slice t_8])) = some (SV.box b_3 45 (SV.struct [SV.int IntKind.i64 t_0, SV.int IntKind.i64 t_1, SV.int IntKind.i64 t_2,
  SV.int IntKind.i64 t_3, SV.int IntKind.i64 t_4, SV.int IntKind.i64 t_5, SV.int IntKind.i64 t_6, SV.slice t_7, SV.slice t_8])) ∧ J w1_5)))))) (some (SV.box
  b 27 (SV.struct [SV.int IntKind.i64 src_0, SV.arr IntKind.u8 16 src_1])) = some (SV.box b 27 (SV.struct [SV.int IntKind.i64 src_0, SV.arr IntKind.u8 16
  src_1])) ∧ some (SV.box b_1 27 (SV.struct [SV.int IntKind.i64 dst_0, SV.arr IntKind.u8 16 dst_1])) = some (SV.box b_1 27 (SV.struct [SV.int IntKind.i64
  dst_0, SV.arr IntKind.u8 16 dst_1])) ∧ some (SV.box b_2 30 (SV.struct [SV.int IntKind.i64 u_0, SV.int IntKind.i64 u_1, SV.bool u_2, SV.slice u_3])) = some
  (SV.box b_2 30 (SV.struct [SV.int IntKind.i64 u_0, SV.int IntKind.i64 u_1, SV.bool u_2, SV.slice u_3])) ∧ some (SV.box b_3 45 (SV.struct [SV.int IntKind.i64
  t_0, SV.int IntKind.i64 t_1, SV.int IntKind.i64 t_2, SV.int IntKind.i64 t_3, SV.int IntKind.i64 t_4, SV.int IntKind.i64 t_5, SV.int IntKind.i64 t_6, SV.slice
  t_7, SV.slice t_8])) = some (SV.box b_3 45 (SV.struct [SV.int IntKind.i64 t_0, SV.int IntKind.i64 t_1, SV.int IntKind.i64 t_2, SV.int IntKind.i64 t_3, SV.int
  IntKind.i64 t_4, SV.int IntKind.i64 t_5, SV.int IntKind.i64 t_6, SV.slice t_7, SV.slice t_8])) ∧ J w1) → J_1 b_5 w1) → Ret Tryd.prog 20 [SV.int IntKind.i64
  n] w1 fun (r : SV) (w1_3 : World) => ∃ (n : Int), r = SV.int IntKind.i64 n ∧ Keeps [b, b_1, b_2, b_3] w1 w1_3 ∧ Br (n == 0) (Br (!u_2) (some (SV.box b 27
  (SV.struct [SV.int IntKind.i64 src_0, SV.arr IntKind.u8 16 src_1])) = some (SV.box b 27 (SV.struct [SV.int IntKind.i64 src_0, SV.arr IntKind.u8 16 src_1]))
  ∧ some (SV.box b_1 27 (SV.struct [SV.int IntKind.i64 dst_0, SV.arr IntKind.u8 16 dst_1])) = some (SV.box b_1 27 (SV.struct [SV.int IntKind.i64 dst_0, SV.arr
  IntKind.u8 16 dst_1])) ∧ some (SV.box b_2 30 (SV.struct [SV.int IntKind.i64 u_0, SV.int IntKind.i64 u_1, SV.bool u_2, SV.slice u_3])) = some (SV.box b_2
  30 (SV.struct [SV.int IntKind.i64 u_0, SV.int IntKind.i64 u_1, SV.bool u_2, SV.slice u_3])) ∧ some (SV.box b_3 45 (SV.struct [SV.int IntKind.i64 t_0, SV.int
  IntKind.i64 t_1, SV.int IntKind.i64 t_2, SV.int IntKind.i64 t_3, SV.int IntKind.i64 t_4, SV.int IntKind.i64 t_5, SV.int IntKind.i64 t_6, SV.slice t_7, SV.slice
  t_8])) = some (SV.box b_3 45 (SV.struct [SV.int IntKind.i64 t_0, SV.int IntKind.i64 t_1, SV.int IntKind.i64 t_2, SV.int IntKind.i64 t_3, SV.int IntKind.i64
  t_4, SV.int IntKind.i64 t_5, SV.int IntKind.i64 t_6, SV.slice t_7, SV.slice t_8])) ∧ J_1 (decide (bit < wr IntKind.i64 (8 * (↑s.2 : Int)))) w1_3) (some
  (SV.box b 27 (SV.struct [SV.int IntKind.i64 src_0, SV.arr IntKind.u8 16 src_1])) = some (SV.box b 27 (SV.struct [SV.int IntKind.i64 src_0, SV.arr IntKind.u8
  16 src_1])) ∧ some (SV.box b_1 27 (SV.struct [SV.int IntKind.i64 dst_0, SV.arr IntKind.u8 16 dst_1])) = some (SV.box b_1 27 (SV.struct [SV.int IntKind.i64
  dst_0, SV.arr IntKind.u8 16 dst_1])) ∧ some (SV.box b_2 30 (SV.struct [SV.int IntKind.i64 u_0, SV.int IntKind.i64 u_1, SV.bool u_2, SV.slice u_3])) = some
  (SV.box b_2 30 (SV.struct [SV.int IntKind.i64 u_0, SV.int IntKind.i64 u_1, SV.bool u_2, SV.slice u_3])) ∧ some (SV.box b_3 45 (SV.struct [SV.int IntKind.i64
  t_0, SV.int IntKind.i64 t_1, SV.int IntKind.i64 t_2, SV.int IntKind.i64 t_3, SV.int IntKind.i64 t_4, SV.int IntKind.i64 t_5, SV.int IntKind.i64 t_6, SV.slice
  t_7, SV.slice t_8])) = some (SV.box b_3 45 (SV.struct [SV.int IntKind.i64 t_0, SV.int IntKind.i64 t_1, SV.int IntKind.i64 t_2, SV.int IntKind.i64 t_3, SV.int
  IntKind.i64 t_4, SV.int IntKind.i64 t_5, SV.int IntKind.i64 t_6, SV.slice t_7, SV.slice t_8])) ∧ J_1 false w1_3)) (some (SV.box b 27 (SV.struct [SV.int
  IntKind.i64 src_0, SV.arr IntKind.u8 16 src_1])) = some (SV.box b 27 (SV.struct [SV.int IntKind.i64 src_0, SV.arr IntKind.u8 16 src_1])) ∧ some (SV.box
  b_1 27 (SV.struct [SV.int IntKind.i64 dst_0, SV.arr IntKind.u8 16 dst_1])) = some (SV.box b_1 27 (SV.struct [SV.int IntKind.i64 dst_0, SV.arr IntKind.u8
  16 dst_1])) ∧ some (SV.box b_2 30 (SV.struct [SV.int IntKind.i64 u_0, SV.int IntKind.i64 u_1, SV.bool u_2, SV.slice u_3])) = some (SV.box b_2 30 (SV.struct
  [SV.int IntKind.i64 u_0, SV.int IntKind.i64 u_1, SV.bool u_2, SV.slice u_3])) ∧ some (SV.box b_3 45 (SV.struct [SV.int IntKind.i64 t_0, SV.int IntKind.i64
  t_1, SV.int IntKind.i64 t_2, SV.int IntKind.i64 t_3, SV.int IntKind.i64 t_4, SV.int IntKind.i64 t_5, SV.int IntKind.i64 t_6, SV.slice t_7, SV.slice t_8]))
  = some (SV.box b_3 45 (SV.struct [SV.int IntKind.i64 t_0, SV.int IntKind.i64 t_1, SV.int IntKind.i64 t_2, SV.int IntKind.i64 t_3, SV.int IntKind.i64 t_4,
  SV.int IntKind.i64 t_5, SV.int IntKind.i64 t_6, SV.slice t_7, SV.slice t_8])) ∧ J_1 false w1_3)) → J w1) → Ret Tryd.prog 20 [SV.int IntKind.i64 n] w1_2
  fun (r : SV) (w1 : World) => ∃ (n : Int), r = SV.int IntKind.i64 n ∧ Keeps [b, b_1, b_2, b_3] w1_2 w1 ∧ Br (n == 0) (Br (decide ((↑s.2 : Int) < 8)) (R (SV.bool
  false) w1) (some (SV.box b 27 (SV.struct [SV.int IntKind.i64 src_0, SV.arr IntKind.u8 16 src_1])) = some (SV.box b 27 (SV.struct [SV.int IntKind.i64 src_0,
  SV.arr IntKind.u8 16 src_1])) ∧ some (SV.box b_1 27 (SV.struct [SV.int IntKind.i64 dst_0, SV.arr IntKind.u8 16 dst_1])) = some (SV.box b_1 27 (SV.struct
  [SV.int IntKind.i64 dst_0, SV.arr IntKind.u8 16 dst_1])) ∧ some (SV.box b_2 30 (SV.struct [SV.int IntKind.i64 u_0, SV.int IntKind.i64 u_1, SV.bool u_2,
  SV.slice u_3])) = some (SV.box b_2 30 (SV.struct [SV.int IntKind.i64 u_0, SV.int IntKind.i64 u_1, SV.bool u_2, SV.slice u_3])) ∧ some (SV.box b_3 45 (SV.struct
  [SV.int IntKind.i64 t_0, SV.int IntKind.i64 t_1, SV.int IntKind.i64 t_2, SV.int IntKind.i64 t_3, SV.int IntKind.i64 t_4, SV.int IntKind.i64 t_5, SV.int
  IntKind.i64 t_6, SV.slice t_7, SV.slice t_8])) = some (SV.box b_3 45 (SV.struct [SV.int IntKind.i64 t_0, SV.int IntKind.i64 t_1, SV.int IntKind.i64 t_2,
  SV.int IntKind.i64 t_3, SV.int IntKind.i64 t_4, SV.int IntKind.i64 t_5, SV.int IntKind.i64 t_6, SV.slice t_7, SV.slice t_8])) ∧ J w1)) (some (SV.box b 27
  (SV.struct [SV.int IntKind.i64 src_0, SV.arr IntKind.u8 16 src_1])) = some (SV.box b 27 (SV.struct [SV.int IntKind.i64 src_0, SV.arr IntKind.u8 16 src_1]))
  ∧ some (SV.box b_1 27 (SV.struct [SV.int IntKind.i64 dst_0, SV.arr IntKind.u8 16 dst_1])) = some (SV.box b_1 27 (SV.struct [SV.int IntKind.i64 dst_0, SV.arr
  IntKind.u8 16 dst_1])) ∧ some (SV.box b_2 30 (SV.struct [SV.int IntKind.i64 u_0, SV.int IntKind.i64 u_1, SV.bool u_2, SV.slice u_3])) = some (SV.box b_2
  30 (SV.struct [SV.int IntKind.i64 u_0, SV.int IntKind.i64 u_1, SV.bool u_2, SV.slice u_3])) ∧ some (SV.box b_3 45 (SV.struct [SV.int IntKind.i64 t_0, SV.int
  IntKind.i64 t_1, SV.int IntKind.i64 t_2, SV.int IntKind.i64 t_3, SV.int IntKind.i64 t_4, SV.int IntKind.i64 t_5, SV.int IntKind.i64 t_6, SV.slice t_7, SV.slice
  t_8])) = some (SV.box b_3 45 (SV.struct [SV.int IntKind.i64 t_0, SV.int IntKind.i64 t_1, SV.int IntKind.i64 t_2, SV.int IntKind.i64 t_3, SV.int IntKind.i64
  t_4, SV.int IntKind.i64 t_5, SV.int IntKind.i64 t_6, SV.slice t_7, SV.slice t_8])) ∧ J w1)) → J w1) → Br (!b_4) (R (SV.bool b_4) w1_1) (Br (decide (bit
  < 0)) (R (SV.bool b_4) w1_1) (some (SV.box b 27 (SV.struct [SV.int IntKind.i64 src_0, SV.arr IntKind.u8 16 src_1])) = some (SV.box b 27 (SV.struct [SV.int
  IntKind.i64 src_0, SV.arr IntKind.u8 16 src_1])) ∧ some (SV.box b_1 27 (SV.struct [SV.int IntKind.i64 dst_0, SV.arr IntKind.u8 16 dst_1])) = some (SV.box
  b_1 27 (SV.struct [SV.int IntKind.i64 dst_0, SV.arr IntKind.u8 16 dst_1])) ∧ some (SV.box b_2 30 (SV.struct [SV.int IntKind.i64 u_0, SV.int IntKind.i64
  u_1, SV.bool u_2, SV.slice u_3])) = some (SV.box b_2 30 (SV.struct [SV.int IntKind.i64 u_0, SV.int IntKind.i64 u_1, SV.bool u_2, SV.slice u_3])) ∧ some
  (SV.box b_3 45 (SV.struct [SV.int IntKind.i64 t_0, SV.int IntKind.i64 t_1, SV.int IntKind.i64 t_2, SV.int IntKind.i64 t_3, SV.int IntKind.i64 t_4, SV.int
  IntKind.i64 t_5, SV.int IntKind.i64 t_6, SV.slice t_7, SV.slice t_8])) = some (SV.box b_3 45 (SV.struct [SV.int IntKind.i64 t_0, SV.int IntKind.i64 t_1,
  SV.int IntKind.i64 t_2, SV.int IntKind.i64 t_3, SV.int IntKind.i64 t_4, SV.int IntKind.i64 t_5, SV.int IntKind.i64 t_6, SV.slice t_7, SV.slice t_8])) ∧
  J w1_1))
theorem f10_of (src_0 : Int) (src_1 : Nat → Int) (dst_0 : Int) (dst_1 : Nat → Int) (u_0 : Int) (u_1 : Int) (u_2 : Bool) (u_3 : Sl) (t_0 : Int) (t_1 : Int) (t_2 : Int) (t_3 : Int) (t_4 : Int) (t_5 : Int) (t_6 : Int) (t_7 : Sl) (t_8 : Sl) (bit : Int) (w : World) (R : SV → World → Prop) (h : vc10 src_0 src_1 dst_0 dst_1 u_0 u_1 u_2 u_3 t_0 t_1 t_2 t_3 t_4 t_5 t_6 t_7 t_8 bit w R) : Ret Tryd.prog 10 [.struct [.int .i64 src_0, .arr .u8 16 src_1], .struct [.int .i64 dst_0, .arr .u8 16 dst_1], .struct [.int .i64 u_0, .int .i64 u_1, .bool u_2, .slice u_3], .struct [.int .i64 t_0, .int .i64 t_1, .int .i64 t_2, .int .i64 t_3, .int .i64 t_4, .int .i64 t_5, .int .i64 t_6, .slice t_7, .slice t_8], .int .i64 bit] w R :=
  have e : vc10 src_0 src_1 dst_0 dst_1 u_0 u_1 u_2 u_3 t_0 t_1 t_2 t_3 t_4 t_5 t_6 t_7 t_8 bit w R = fnVC X Tryd.f10 a10 [.struct [.int .i64 src_0, .arr .u8 16 src_1], .struct [.int .i64 dst_0, .arr .u8 16 dst_1], .struct [.int .i64 u_0, .int .i64 u_1, .bool u_2, .slice u_3], .struct [.int .i64 t_0, .int .i64 t_1, .int .i64 t_2, .int .i64 t_3, .int .i64 t_4, .int .i64 t_5, .int .i64 t_6, .slice t_7, .slice t_8], .int .i64 bit] w R := by kernel_rfl
  fnVC_sound X_ok (n := a10) (e ▸ h) (by kernel_rfl) (by kernel_rfl) rfl rfl

def vc31 (b : Sl) (bit : Int) (w : World) (R : SV → World → Prop) : Prop :=
  Ret Tryd.prog 40 [SV.slice b] w fun (r : SV) (w1 : World) =>
    ∃ (s : Sl),
      r = SV.slice s ∧
        Need (decide (0 ≤ wr IntKind.i64 (Int.tdiv bit 8)) && decide (wr IntKind.i64 (Int.tdiv bit 8) < (↑s.2 : Int)) && Option.isSome s.1)
          (∃ (n : Int),
            World.cell? w1 (Sl.at s 1 (Int.toNat (wr IntKind.i64 (Int.tdiv bit 8)))) = some (Value.int IntKind.u8 n) ∧
              Need (decide (0 ≤ Int.tmod bit 8))
                (Need (decide (0 ≤ wr IntKind.i64 (Int.tdiv bit 8)) && decide (wr IntKind.i64 (Int.tdiv bit 8) < (↑s.2 : Int)) && Option.isSome s.1)
                  (∀ (w1_1 : World),
                    Upd [] [] w1 w1_1 →
                      Store w1_1 (Sl.at s 1 (Int.toNat (wr IntKind.i64 (Int.tdiv bit 8)))) (SV.cells (SV.int IntKind.u8 (ixor IntKind.u8 n (gshr IntKind.u8 128 (Int.tmod bit 8)))))
                        [] fun (w1 : World) => R (SV.slice s) w1)))
theorem f31_of (b : Sl) (bit : Int) (w : World) (R : SV → World → Prop) (h : vc31 b bit w R) : Ret Tryd.prog 31 [.slice b, .int .i64 bit] w R :=
  have e : vc31 b bit w R = fnVC X Tryd.f31 a31 [.slice b, .int .i64 bit] w R := by kernel_rfl
  fnVC_sound X_ok (n := a31) (e ▸ h) (by kernel_rfl) (by kernel_rfl) rfl rfl

end Go.Vc.S9
