import Derived.Test.YtmchllbemgnieaaDoorG2
import Derived.Test.YtmchllbemgnieaaDoorG3
import Derived.KernelRfl
open Go Go.Vc Go.Vc.S9 Go.Proofs
set_option maxRecDepth 100000
set_option linter.unusedVariables false
namespace Go.Vc.S9
def vc7 (src_0 : Int) (src_1 : Nat → Int) (dst_0 : Int) (dst_1 : Nat → Int) (u_0 : Int) (u_1 : Int) (u_2 : Bool) (u_3 : Sl) (w : World) (R : SV → World
  → Prop) : Prop := ∀ (b b_1 b_2 : Nat) (w1 : World), Upd [] [b_2, b_1, b] w w1 → Ret Tryd.prog 18 [] w1 fun (r : SV) (w1_1 : World) => ∃ (b_3 : Bool), r
  = SV.bool b_3 ∧ Keeps [b, b_1, b_2] w1 w1_1 ∧ Ret Tryd.prog 19 [SV.struct [SV.int IntKind.i64 src_0, SV.arr IntKind.u8 16 src_1], SV.struct [SV.int IntKind.i64
  dst_0, SV.arr IntKind.u8 16 dst_1], SV.struct [SV.int IntKind.i64 u_0, SV.int IntKind.i64 u_1, SV.bool u_2, SV.slice u_3]] w1_1 fun (r : SV) (w1 : World)
  => ∃ (s : Sl), ∃ (n : Int), r = SV.tuple [SV.slice s, SV.int IntKind.i64 n] ∧ Keeps [b, b_1, b_2] w1_1 w1 ∧ ∀ (J : World → Prop), (∀ (w1 : World), Br (decide
  ((↑s.2 : Int) < 8)) (R (SV.bool false) w1) (Ret Tryd.prog 21 [SV.struct [SV.int IntKind.i64 src_0, SV.arr IntKind.u8 16 src_1], SV.struct [SV.int IntKind.i64
  dst_0, SV.arr IntKind.u8 16 dst_1], SV.slice s] w1 fun (r : SV) (w1_2 : World) => ∃ (n : Int), ∃ (n_1 : Int), ∃ (b_4 : Bool), ∃ (s_1 : Sl), ∃ (n_2 : Int),
  r = SV.tuple [SV.struct [SV.int IntKind.i64 n, SV.int IntKind.i64 n_1, SV.bool b_4, SV.slice s_1], SV.int IntKind.i64 n_2] ∧ Keeps [b, b_1, b_2] w1 w1_2
  ∧ ∀ (b_5 : Nat) (w1 : World), Upd [] [b_5] w1_2 w1 → Ret Tryd.prog 22 [SV.struct [SV.int IntKind.i64 src_0, SV.arr IntKind.u8 16 src_1], SV.struct [SV.int
  IntKind.i64 dst_0, SV.arr IntKind.u8 16 dst_1], SV.int IntKind.i64 17, SV.int IntKind.i64 (↑s.2 : Int)] w1 fun (r : SV) (w1_3 : World) => ∃ (s_2 : Sl),
  ∃ (n_3 : Int), r = SV.tuple [SV.slice s_2, SV.int IntKind.i64 n_3] ∧ Keeps [b, b_1, b_2, b_5] w1 w1_3 ∧ Need (decide (6 < (↑s.2 : Int)) && Option.isSome
  s.1) (∃ (n_4 : Int), World.cell? w1_3 (Sl.at s 1 6) = some (Value.int IntKind.u8 n_4) ∧ Br (n_4 == 0) (Need (decide (7 < (↑s.2 : Int)) && Option.isSome
  s.1) (∃ (n_5 : Int), World.cell? w1_3 (Sl.at s 1 7) = some (Value.int IntKind.u8 n_5) ∧ Ret Tryd.prog 20 [SV.int IntKind.i64 n_2] w1_3 fun (r : SV) (w1
  : World) => ∃ (n_6 : Int), r = SV.int IntKind.i64 n_6 ∧ Keeps [b, b_1, b_2, b_5] w1_3 w1 ∧ Br (n_6 == 0) (Ret Tryd.prog 20 [SV.int IntKind.i64 n_3] w1 fun
  (r : SV) (w1_4 : World) => ∃ (n_7 : Int), r = SV.int IntKind.i64 n_7 ∧ Keeps [b, b_1, b_2, b_5] w1 w1_4 ∧ Br (n_7 == 0) (Ret Tryd.prog 23 [SV.struct [SV.int
  IntKind.i64 u_0, SV.int IntKind.i64 u_1, SV.bool u_2, SV.slice u_3], SV.struct [SV.int IntKind.i64 n, SV.int IntKind.i64 n_1, SV.bool b_4, SV.slice s_1]]
  w1_4 fun (r : SV) (w1 : World) => ∃ (b_6 : Bool), r = SV.bool b_6 ∧ Keeps [b, b_1, b_2, b_5] w1_4 w1 ∧ Br b_6 (Br ((n_5 == 0) == u_2) (Br (n_5 == 0) (Br
  ((↑s.2 : Int) == wr IntKind.i64 (8 + (↑u_3.2 : Int))) (Ret Tryd.prog 25 [SV.int IntKind.i64 src_0, SV.struct [SV.int IntKind.i64 u_0, SV.int IntKind.i64
  u_1, SV.bool u_2, SV.slice u_3]] w1 fun (r : SV) (w1_5 : World) => ∃ (n : Int), r = SV.int IntKind.i64 n ∧ Keeps [b, b_1, b_2, b_5] w1 w1_5 ∧ Ret Tryd.prog
  20 [SV.int IntKind.i64 n] w1_5 fun (r : SV) (w1 : World) => ∃ (n : Int), r = SV.int IntKind.i64 n ∧ Keeps [b, b_1, b_2, b_5] w1_5 w1 ∧ R (SV.bool (n ==
  0)) w1) (R (SV.bool false) w1)) (∀ (b_7 : Nat) (w1_5 : World), Upd [] [b_7] w1 w1_5 → (World.heap w1_5)[b_7]? = some (Obj.cells { toList := SV.cells (SV.struct [SV.slice s_2, SV.slice s]) }
  28) → Ret Tryd.prog 24 [SV.slice { ptr := some { block := b_7, off := 0 }, len := 2, cap := 2 }] w1_5 fun (r : SV) (w1 : World) => ∃ (b_8 : Bool), r = SV.bool
  b_8 ∧ Keeps [b, b_1, b_2, b_5] w1_5 w1 ∧ Br b_8 (Br ((↑s.2 : Int) == wr IntKind.i64 (8 + (↑u_3.2 : Int))) (Ret Tryd.prog 25 [SV.int IntKind.i64 src_0, SV.struct
  [SV.int IntKind.i64 u_0, SV.int IntKind.i64 u_1, SV.bool u_2, SV.slice u_3]] w1 fun (r : SV) (w1_6 : World) => ∃ (n : Int), r = SV.int IntKind.i64 n ∧ Keeps
  [b, b_1, b_2, b_5] w1 w1_6 ∧ Ret Tryd.prog 20 [SV.int IntKind.i64 n] w1_6 fun (r : SV) (w1 : World) => ∃ (n : Int), r = SV.int IntKind.i64 n ∧ Keeps [b,
  b_1, b_2, b_5] w1_6 w1 ∧ R (SV.bool (n == 0)) w1) (R (SV.bool false) w1)) (R (SV.bool false) w1))) (R (SV.bool false) w1)) (R (SV.bool false) w1)) (R (SV.bool
  false) w1_4)) (R (SV.bool false) w1))) (Ret Tryd.prog 20 [SV.int IntKind.i64 n_2] w1_3 fun (r : SV) (w1 : World) => ∃ (n_5 : Int), r = SV.int IntKind.i64
  n_5 ∧ Keeps [b, b_1, b_2, b_5] w1_3 w1 ∧ Br (n_5 == 0) (Ret Tryd.prog 20 [SV.int IntKind.i64 n_3] w1 fun (r : SV) (w1_4 : World) => ∃ (n_6 : Int), r = SV.int
  IntKind.i64 n_6 ∧ Keeps [b, b_1, b_2, b_5] w1 w1_4 ∧ Br (n_6 == 0) (Ret Tryd.prog 23 [SV.struct [SV.int IntKind.i64 u_0, SV.int IntKind.i64 u_1, SV.bool
  u_2, SV.slice u_3], SV.struct [SV.int IntKind.i64 n, SV.int IntKind.i64 n_1, SV.bool b_4, SV.slice s_1]] w1_4 fun (r : SV) (w1 : World) => ∃ (b_6 : Bool),
  r = SV.bool b_6 ∧ Keeps [b, b_1, b_2, b_5] w1_4 w1 ∧ Br b_6 (Br (false == u_2) (∀ (b_7 : Nat) (w1_5 : World), Upd [] [b_7] w1 w1_5 → (World.heap w1_5)[b_7]?
  = some (Obj.cells { toList := SV.cells (SV.struct [SV.slice s_2, SV.slice s]) } 28) → Ret Tryd.prog 24 [SV.slice { ptr := some { block := b_7, off := 0 }, len := 2, cap := 2 }]
  w1_5 fun (r : SV) (w1 : World) => ∃ (b_8 : Bool), r = SV.bool b_8 ∧ Keeps [b, b_1, b_2, b_5] w1_5 w1 ∧ Br b_8 (Br ((↑s.2 : Int) == wr IntKind.i64 (8 + (↑u_3.2
  : Int))) (Ret Tryd.prog 25 [SV.int IntKind.i64 src_0, SV.struct [SV.int IntKind.i64 u_0, SV.int IntKind.i64 u_1, SV.bool u_2, SV.slice u_3]] w1 fun (r :
  SV) (w1_6 : World) => ∃ (n : Int), r = SV.int IntKind.i64 n ∧ Keeps [b, b_1, b_2, b_5] w1 w1_6 ∧ Ret Tryd.prog 20 [SV.int IntKind.i64 n] w1_6 fun (r : SV)
  (w1 : World) => ∃ (n : Int), r = SV.int IntKind.i64 n ∧ Keeps [b, b_1, b_2, b_5] w1_6 w1 ∧ R (SV.bool (n == 0)) w1) (R (SV.bool false) w1)) (R (SV.bool
  false) w1)) (R (SV.bool false) w1)) (R (SV.bool false) w1)) (R (SV.bool false) w1_4)) (R (SV.bool false) w1)))) → J w1) → Br (!b_3) (Br b_3 (R (SV.bool
  ((↑s.2 : Int) == 0)) w1) (R (SV.bool false) w1)) (Ret Tryd.prog 20 [SV.int IntKind.i64 n] w1 fun (r : SV) (w1_2 : World) => ∃ (n : Int), r = SV.int IntKind.i64
  n ∧ Keeps [b, b_1, b_2] w1 w1_2 ∧ Br (n != 0) (Br b_3 (R (SV.bool ((↑s.2 : Int) == 0)) w1_2) (R (SV.bool false) w1_2)) (some (SV.box b 27 (SV.struct [SV.int
  IntKind.i64 src_0, SV.arr IntKind.u8 16 src_1])) = some (SV.box b 27 (SV.struct [SV.int IntKind.i64 src_0, SV.arr IntKind.u8 16 src_1])) ∧ some (SV.box
  b_1 27 (SV.struct [SV.int IntKind.i64 dst_0, SV.arr IntKind.u8 16 dst_1])) = some (SV.box b_1 27 (SV.struct [SV.int IntKind.i64 dst_0, SV.arr IntKind.u8
  16 dst_1])) ∧ some (SV.box b_2 30 (SV.struct [SV.int IntKind.i64 u_0, SV.int IntKind.i64 u_1, SV.bool u_2, SV.slice u_3])) = some (SV.box b_2 30 (SV.struct
  [SV.int IntKind.i64 u_0, SV.int IntKind.i64 u_1, SV.bool u_2, SV.slice u_3])) ∧ J w1_2))
theorem f7_of (src_0 : Int) (src_1 : Nat → Int) (dst_0 : Int) (dst_1 : Nat → Int) (u_0 : Int) (u_1 : Int) (u_2 : Bool) (u_3 : Sl) (w : World) (R : SV → World → Prop) (h : vc7 src_0 src_1 dst_0 dst_1 u_0 u_1 u_2 u_3 w R) : Ret Tryd.prog 7 [.struct [.int .i64 src_0, .arr .u8 16 src_1], .struct [.int .i64 dst_0, .arr .u8 16 dst_1], .struct [.int .i64 u_0, .int .i64 u_1, .bool u_2, .slice u_3]] w R :=
  have e : vc7 src_0 src_1 dst_0 dst_1 u_0 u_1 u_2 u_3 w R = fnVC X Tryd.f7 a7 [.struct [.int .i64 src_0, .arr .u8 16 src_1], .struct [.int .i64 dst_0, .arr .u8 16 dst_1], .struct [.int .i64 u_0, .int .i64 u_1, .bool u_2, .slice u_3]] w R := by kernel_rfl
  fnVC_sound X_ok (n := a7) (e ▸ h) (by kernel_rfl) (by kernel_rfl) rfl rfl

def vc8 (src_0 : Int) (src_1 : Nat → Int) (dst_0 : Int) (dst_1 : Nat → Int) (t_0 : Int) (t_1 : Int) (t_2 : Int) (t_3 : Int) (t_4 : Int) (t_5 : Int) (t_6
  : Int) (t_7 : Sl) (t_8 : Sl) (w : World) (R : SV → World → Prop) : Prop := ∀ (b b_1 b_2 : Nat) (w1 : World), Upd [] [b_2, b_1, b] w w1 → Ret Tryd.prog 18
  [] w1 fun (r : SV) (w1_1 : World) => ∃ (b_3 : Bool), r = SV.bool b_3 ∧ Keeps [b, b_1, b_2] w1 w1_1 ∧ Ret Tryd.prog 26 [SV.struct [SV.int IntKind.i64 src_0,
  SV.arr IntKind.u8 16 src_1], SV.struct [SV.int IntKind.i64 dst_0, SV.arr IntKind.u8 16 dst_1], SV.struct [SV.int IntKind.i64 t_0, SV.int IntKind.i64 t_1,
  SV.int IntKind.i64 t_2, SV.int IntKind.i64 t_3, SV.int IntKind.i64 t_4, SV.int IntKind.i64 t_5, SV.int IntKind.i64 t_6, SV.slice t_7, SV.slice t_8]] w1_1
  fun (r : SV) (w1 : World) => ∃ (s : Sl), ∃ (n : Int), r = SV.tuple [SV.slice s, SV.int IntKind.i64 n] ∧ Keeps [b, b_1, b_2] w1_1 w1 ∧ ∀ (J : World → Prop),
  (∀ (w1 : World), (Ret Tryd.prog 27 [SV.struct [SV.int IntKind.i64 src_0, SV.arr IntKind.u8 16 src_1], SV.struct [SV.int IntKind.i64 dst_0, SV.arr IntKind.u8
  16 dst_1], SV.slice s] w1 fun (r : SV) (w1_2 : World) => ∃ (n : Int), ∃ (n_1 : Int), ∃ (n_2 : Int), ∃ (n_3 : Int), ∃ (n_4 : Int), ∃ (n_5 : Int), ∃ (n_6
  : Int), ∃ (s_1 : Sl), ∃ (s_2 : Sl), ∃ (n_7 : Int), r = SV.tuple [SV.struct [SV.int IntKind.i64 n, SV.int IntKind.i64 n_1, SV.int IntKind.i64 n_2, SV.int
  IntKind.i64 n_3, SV.int IntKind.i64 n_4, SV.int IntKind.i64 n_5, SV.int IntKind.i64 n_6, SV.slice s_1, SV.slice s_2], SV.int IntKind.i64 n_7] ∧ Keeps [b,
  b_1, b_2] w1 w1_2 ∧ ∀ (b_4 : Nat) (w1 : World), Upd [] [b_4] w1_2 w1 → Ret Tryd.prog 22 [SV.struct [SV.int IntKind.i64 src_0, SV.arr IntKind.u8 16 src_1],
  SV.struct [SV.int IntKind.i64 dst_0, SV.arr IntKind.u8 16 dst_1], SV.int IntKind.i64 6, SV.int IntKind.i64 (↑s.2 : Int)] w1 fun (r : SV) (w1_3 : World)
  => ∃ (s_3 : Sl), ∃ (n_8 : Int), r = SV.tuple [SV.slice s_3, SV.int IntKind.i64 n_8] ∧ Keeps [b, b_1, b_2, b_4] w1 w1_3 ∧ Ret Tryd.prog 20 [SV.int IntKind.i64
  n_7] w1_3 fun (r : SV) (w1 : World) => ∃ (n_9 : Int), r = SV.int IntKind.i64 n_9 ∧ Keeps [b, b_1, b_2, b_4] w1_3 w1 ∧ Br (n_9 == 0) (Ret Tryd.prog 20 [SV.int
  IntKind.i64 n_8] w1 fun (r : SV) (w1_4 : World) => ∃ (n_10 : Int), r = SV.int IntKind.i64 n_10 ∧ Keeps [b, b_1, b_2, b_4] w1 w1_4 ∧ Br (n_10 == 0) (Ret
  Tryd.prog 28 [SV.struct [SV.int IntKind.i64 t_0, SV.int IntKind.i64 t_1, SV.int IntKind.i64 t_2, SV.int IntKind.i64 t_3, SV.int IntKind.i64 t_4, SV.int
  IntKind.i64 t_5, SV.int IntKind.i64 t_6, SV.slice t_7, SV.slice t_8], SV.struct [SV.int IntKind.i64 n, SV.int IntKind.i64 n_1, SV.int IntKind.i64 n_2, SV.int
  IntKind.i64 n_3, SV.int IntKind.i64 n_4, SV.int IntKind.i64 n_5, SV.int IntKind.i64 n_6, SV.slice s_1, SV.slice s_2]] w1_4 fun (r : SV) (w1 : World) =>
  ∃ (b_5 : Bool), r = SV.bool b_5 ∧ Keeps [b, b_1, b_2, b_4] w1_4 w1 ∧ Br b_5 (∀ (b_6 : Nat) (w1_5 : World), Upd [] [b_6] w1 w1_5 → (World.heap w1_5)[b_6]?
  = some (Obj.cells { toList := SV.cells (SV.struct [SV.slice s_3, SV.slice s]) } 28) → Ret Tryd.prog 24 [SV.slice { ptr := some { block := b_6, off := 0 }, len := 2, cap := 2 }]
  w1_5 fun (r : SV) (w1 : World) => ∃ (b_7 : Bool), r = SV.bool b_7 ∧ Keeps [b, b_1, b_2, b_4] w1_5 w1 ∧ Br b_7 (Br (Int.tmod (↑s.2 : Int) 4 == Int.tmod (↑t_8.2
  : Int) 4) (Ret Tryd.prog 29 [SV.struct [SV.int IntKind.i64 t_0, SV.int IntKind.i64 t_1, SV.int IntKind.i64 t_2, SV.int IntKind.i64 t_3, SV.int IntKind.i64
  t_4, SV.int IntKind.i64 t_5, SV.int IntKind.i64 t_6, SV.slice t_7, SV.slice t_8]] w1 fun (r : SV) (w1_6 : World) => ∃ (n : Int), r = SV.int IntKind.i64
  n ∧ Keeps [b, b_1, b_2, b_4] w1 w1_6 ∧ Ret Tryd.prog 20 [SV.int IntKind.i64 n] w1_6 fun (r : SV) (w1 : World) => ∃ (n : Int), r = SV.int IntKind.i64 n ∧
  Keeps [b, b_1, b_2, b_4] w1_6 w1 ∧ R (SV.bool (n == 0)) w1) (R (SV.bool false) w1)) (R (SV.bool false) w1)) (R (SV.bool false) w1)) (R (SV.bool false) w1_4))
  (R (SV.bool false) w1)) → J w1) → Br (!b_3) (Br b_3 (R (SV.bool ((↑s.2 : Int) == 0)) w1) (R (SV.bool false) w1)) (Ret Tryd.prog 20 [SV.int IntKind.i64 n]
  w1 fun (r : SV) (w1_2 : World) => ∃ (n : Int), r = SV.int IntKind.i64 n ∧ Keeps [b, b_1, b_2] w1 w1_2 ∧ Br (n != 0) (Br b_3 (R (SV.bool ((↑s.2 : Int) ==
  0)) w1_2) (R (SV.bool false) w1_2)) (some (SV.box b 27 (SV.struct [SV.int IntKind.i64 src_0, SV.arr IntKind.u8 16 src_1])) = some (SV.box b 27 (SV.struct
  [SV.int IntKind.i64 src_0, SV.arr IntKind.u8 16 src_1])) ∧ some (SV.box b_1 27 (SV.struct [SV.int IntKind.i64 dst_0, SV.arr IntKind.u8 16 dst_1])) = some
  (SV.box b_1 27 (SV.struct [SV.int IntKind.i64 dst_0, SV.arr IntKind.u8 16 dst_1])) ∧ some (SV.box b_2 45 (SV.struct [SV.int IntKind.i64 t_0, SV.int IntKind.i64
  t_1, SV.int IntKind.i64 t_2, SV.int IntKind.i64 t_3, SV.int IntKind.i64 t_4, SV.int IntKind.i64 t_5, SV.int IntKind.i64 t_6, SV.slice t_7, SV.slice t_8]))
  = some (SV.box b_2 45 (SV.struct [SV.int IntKind.i64 t_0, SV.int IntKind.i64 t_1, SV.int IntKind.i64 t_2, SV.int IntKind.i64 t_3, SV.int IntKind.i64 t_4,
  SV.int IntKind.i64 t_5, SV.int IntKind.i64 t_6, SV.slice t_7, SV.slice t_8])) ∧ J w1_2))
theorem f8_of (src_0 : Int) (src_1 : Nat → Int) (dst_0 : Int) (dst_1 : Nat → Int) (t_0 : Int) (t_1 : Int) (t_2 : Int) (t_3 : Int) (t_4 : Int) (t_5 : Int) (t_6 : Int) (t_7 : Sl) (t_8 : Sl) (w : World) (R : SV → World → Prop) (h : vc8 src_0 src_1 dst_0 dst_1 t_0 t_1 t_2 t_3 t_4 t_5 t_6 t_7 t_8 w R) : Ret Tryd.prog 8 [.struct [.int .i64 src_0, .arr .u8 16 src_1], .struct [.int .i64 dst_0, .arr .u8 16 dst_1], .struct [.int .i64 t_0, .int .i64 t_1, .int .i64 t_2, .int .i64 t_3, .int .i64 t_4, .int .i64 t_5, .int .i64 t_6, .slice t_7, .slice t_8]] w R :=
  have e : vc8 src_0 src_1 dst_0 dst_1 t_0 t_1 t_2 t_3 t_4 t_5 t_6 t_7 t_8 w R = fnVC X Tryd.f8 a8 [.struct [.int .i64 src_0, .arr .u8 16 src_1], .struct [.int .i64 dst_0, .arr .u8 16 dst_1], .struct [.int .i64 t_0, .int .i64 t_1, .int .i64 t_2, .int .i64 t_3, .int .i64 t_4, .int .i64 t_5, .int .i64 t_6, .slice t_7, .slice t_8]] w R := by kernel_rfl
  fnVC_sound X_ok (n := a8) (e ▸ h) (by kernel_rfl) (by kernel_rfl) rfl rfl

def vc9 (src_0 : Int) (src_1 : Nat → Int) (dst_0 : Int) (dst_1 : Nat → Int) (b : Sl) (w : World) (R : SV → World → Prop) : Prop := ∀ (b_1 b_2 : Nat) (w1
  : World), Upd [] [b_2, b_1] w w1 → Ret Tryd.prog 18 [] w1 fun (r : SV) (w1_1 : World) => ∃ (b_3 : Bool), r = SV.bool b_3 ∧ Keeps [b_1, b_2] w1 w1_1 ∧ Br
  (!b_3) (R (SV.bool false) w1_1) (Ret Tryd.prog 21 [SV.struct [SV.int IntKind.i64 src_0, SV.arr IntKind.u8 16 src_1], SV.struct [SV.int IntKind.i64 dst_0,
  SV.arr IntKind.u8 16 dst_1], SV.slice b] w1_1 fun (r : SV) (w1 : World) => ∃ (n : Int), ∃ (n_1 : Int), ∃ (b_4 : Bool), ∃ (s : Sl), ∃ (n_2 : Int), r = SV.tuple
  [SV.struct [SV.int IntKind.i64 n, SV.int IntKind.i64 n_1, SV.bool b_4, SV.slice s], SV.int IntKind.i64 n_2] ∧ Keeps [b_1, b_2] w1_1 w1 ∧ ∀ (b_5 : Nat) (J
  : World → Prop), (∀ (w1 : World), (Ret Tryd.prog 27 [SV.struct [SV.int IntKind.i64 src_0, SV.arr IntKind.u8 16 src_1], SV.struct [SV.int IntKind.i64 dst_0,
  SV.arr IntKind.u8 16 dst_1], SV.slice b] w1 fun (r : SV) (w1_2 : World) => ∃ (n_3 : Int), ∃ (n_4 : Int), ∃ (n_5 : Int), ∃ (n_6 : Int), ∃ (n_7 : Int), ∃
  (n_8 : Int), ∃ (n_9 : Int), ∃ (s_1 : Sl), ∃ (s_2 : Sl), ∃ (n_10 : Int), r = SV.tuple [SV.struct [SV.int IntKind.i64 n_3, SV.int IntKind.i64 n_4, SV.int
  IntKind.i64 n_5, SV.int IntKind.i64 n_6, SV.int IntKind.i64 n_7, SV.int IntKind.i64 n_8, SV.int IntKind.i64 n_9, SV.slice s_1, SV.slice s_2], SV.int IntKind.i64
  n_10] ∧ Keeps [b_1, b_2, b_5] w1 w1_2 ∧ ∀ (b_6 : Nat) (w1 : World), Upd [] [b_6] w1_2 w1 → Ret Tryd.prog 20 [SV.int IntKind.i64 n_10] w1 fun (r : SV) (w1_3
  : World) => ∃ (n_11 : Int), r = SV.int IntKind.i64 n_11 ∧ Keeps [b_1, b_2, b_5, b_6] w1 w1_3 ∧ Br (n_11 != 0) (Ret Tryd.prog 28 [SV.struct [SV.int IntKind.i64
  n_3, SV.int IntKind.i64 n_4, SV.int IntKind.i64 n_5, SV.int IntKind.i64 n_6, SV.int IntKind.i64 n_7, SV.int IntKind.i64 n_8, SV.int IntKind.i64 n_9, SV.slice
  s_1, SV.slice s_2], SV.struct [SV.int IntKind.i64 0, SV.int IntKind.i64 0, SV.int IntKind.i64 0, SV.int IntKind.i64 0, SV.int IntKind.i64 0, SV.int IntKind.i64
  0, SV.int IntKind.i64 0, SV.slice { ptr := none, len := 0, cap := 0 }, SV.slice { ptr := none, len := 0, cap := 0 }]] w1_3 fun (r : SV) (w1 : World) =>
  ∃ (b : Bool), r = SV.bool b ∧ Keeps [b_1, b_2, b_5, b_6] w1_3 w1 ∧ Br b (Ret Tryd.prog 20 [SV.int IntKind.i64 n_2] w1 fun (r : SV) (w1_4 : World) => ∃ (n_12
  : Int), r = SV.int IntKind.i64 n_12 ∧ Keeps [b_1, b_2, b_5, b_6] w1 w1_4 ∧ Br (n_12 == 0) (R (SV.bool true) w1_4) (Ret Tryd.prog 23 [SV.struct [SV.int IntKind.i64
  n, SV.int IntKind.i64 n_1, SV.bool b_4, SV.slice s], SV.struct [SV.int IntKind.i64 0, SV.int IntKind.i64 0, SV.bool false, SV.slice { ptr := none, len := 0, cap := 0 }]]
  w1_4 fun (r : SV) (w1 : World) => ∃ (b : Bool), r = SV.bool b ∧ Keeps [b_1, b_2, b_5, b_6] w1_4 w1 ∧ R (SV.bool b) w1)) (R (SV.bool false) w1)) (Ret Tryd.prog
  26 [SV.struct [SV.int IntKind.i64 src_0, SV.arr IntKind.u8 16 src_1], SV.struct [SV.int IntKind.i64 dst_0, SV.arr IntKind.u8 16 dst_1], SV.struct [SV.int
  IntKind.i64 n_3, SV.int IntKind.i64 n_4, SV.int IntKind.i64 n_5, SV.int IntKind.i64 n_6, SV.int IntKind.i64 n_7, SV.int IntKind.i64 n_8, SV.int IntKind.i64
  n_9, SV.slice s_1, SV.slice s_2]] w1_3 fun (r : SV) (w1 : World) => ∃ (s : Sl), ∃ (n : Int), r = SV.tuple [SV.slice s, SV.int IntKind.i64 n] ∧ Keeps [b_1,
  b_2, b_5, b_6] w1_3 w1 ∧ Ret Tryd.prog 27 [SV.struct [SV.int IntKind.i64 src_0, SV.arr IntKind.u8 16 src_1], SV.struct [SV.int IntKind.i64 dst_0, SV.arr
  IntKind.u8 16 dst_1], SV.slice s] w1 fun (r : SV) (w1_4 : World) => ∃ (n_12 : Int), ∃ (n_13 : Int), ∃ (n_14 : Int), ∃ (n_15 : Int), ∃ (n_16 : Int), ∃ (n_17
  : Int), ∃ (n_18 : Int), ∃ (s_3 : Sl), ∃ (s_4 : Sl), ∃ (n_19 : Int), r = SV.tuple [SV.struct [SV.int IntKind.i64 n_12, SV.int IntKind.i64 n_13, SV.int IntKind.i64
  n_14, SV.int IntKind.i64 n_15, SV.int IntKind.i64 n_16, SV.int IntKind.i64 n_17, SV.int IntKind.i64 n_18, SV.slice s_3, SV.slice s_4], SV.int IntKind.i64
  n_19] ∧ Keeps [b_1, b_2, b_5, b_6] w1 w1_4 ∧ ∀ (b_7 : Nat) (w1 : World), Upd [] [b_7] w1_4 w1 → Ret Tryd.prog 26 [SV.struct [SV.int IntKind.i64 src_0, SV.arr
  IntKind.u8 16 src_1], SV.struct [SV.int IntKind.i64 dst_0, SV.arr IntKind.u8 16 dst_1], SV.struct [SV.int IntKind.i64 n_12, SV.int IntKind.i64 n_13, SV.int
  IntKind.i64 n_14, SV.int IntKind.i64 n_15, SV.int IntKind.i64 n_16, SV.int IntKind.i64 n_17, SV.int IntKind.i64 n_18, SV.slice s_3, SV.slice s_4]] w1 fun
  (r : SV) (w1_5 : World) => ∃ (s_5 : Sl), ∃ (n_20 : Int), r = SV.tuple [SV.slice s_5, SV.int IntKind.i64 n_20] ∧ Keeps [b_1, b_2, b_5, b_6, b_7] w1 w1_5
  ∧ Ret Tryd.prog 20 [SV.int IntKind.i64 n] w1_5 fun (r : SV) (w1 : World) => ∃ (n : Int), r = SV.int IntKind.i64 n ∧ Keeps [b_1, b_2, b_5, b_6, b_7] w1_5
  w1 ∧ Br (n == 0) (Ret Tryd.prog 20 [SV.int IntKind.i64 n_19] w1 fun (r : SV) (w1_6 : World) => ∃ (n : Int), r = SV.int IntKind.i64 n ∧ Keeps [b_1, b_2,
  b_5, b_6, b_7] w1 w1_6 ∧ Br (n == 0) (Ret Tryd.prog 20 [SV.int IntKind.i64 n_20] w1_6 fun (r : SV) (w1 : World) => ∃ (n : Int), r = SV.int IntKind.i64 n
  ∧ Keeps [b_1, b_2, b_5, b_6, b_7] w1_6 w1 ∧ Br (n == 0) (Ret Tryd.prog 28 [SV.struct [SV.int IntKind.i64 n_3, SV.int IntKind.i64 n_4, SV.int IntKind.i64
  n_5, SV.int IntKind.i64 n_6, SV.int IntKind.i64 n_7, SV.int IntKind.i64 n_8, SV.int IntKind.i64 n_9, SV.slice s_1, SV.slice s_2], SV.struct [SV.int IntKind.i64
  n_12, SV.int IntKind.i64 n_13, SV.int IntKind.i64 n_14, SV.int IntKind.i64 n_15, SV.int IntKind.i64 n_16, SV.int IntKind.i64 n_17, SV.int IntKind.i64 n_18,
  SV.slice s_3, SV.slice s_4]] w1 fun (r : SV) (w1_7 : World) => ∃ (b_8 : Bool), r = SV.bool b_8 ∧ Keeps [b_1, b_2, b_5, b_6, b_7] w1 w1_7 ∧ Br b_8 (Ret Tryd.prog
  30 [SV.slice s, SV.slice s_5] w1_7 fun (r : SV) (w1 : World) => ∃ (b_9 : Bool), r = SV.bool b_9 ∧ Keeps [b_1, b_2, b_5, b_6, b_7] w1_7 w1 ∧ Br b_9 (R (SV.bool
  (decide ((↑s.2 : Int) ≤ (↑b.2 : Int)))) w1) (R (SV.bool false) w1)) (R (SV.bool false) w1_7)) (R (SV.bool false) w1)) (R (SV.bool false) w1_6)) (R (SV.bool
  false) w1))) → J w1) → ∀ (w1_2 : World), Upd [] [b_5] w1 w1_2 → Ret Tryd.prog 20 [SV.int IntKind.i64 n_2] w1_2 fun (r : SV) (w1 : World) => ∃ (n_3 : Int),
  r = SV.int IntKind.i64 n_3 ∧ Keeps [b_1, b_2, b_5] w1_2 w1 ∧ Br (n_3 == 0) (Ret Tryd.prog 19 [SV.struct [SV.int IntKind.i64 src_0, SV.arr IntKind.u8 16
  src_1], SV.struct [SV.int IntKind.i64 dst_0, SV.arr IntKind.u8 16 dst_1], SV.struct [SV.int IntKind.i64 n, SV.int IntKind.i64 n_1, SV.bool b_4, SV.slice
  s]] w1 fun (r : SV) (w1_3 : World) => ∃ (s_1 : Sl), ∃ (n_4 : Int), r = SV.tuple [SV.slice s_1, SV.int IntKind.i64 n_4] ∧ Keeps [b_1, b_2, b_5] w1 w1_3 ∧
  Ret Tryd.prog 21 [SV.struct [SV.int IntKind.i64 src_0, SV.arr IntKind.u8 16 src_1], SV.struct [SV.int IntKind.i64 dst_0, SV.arr IntKind.u8 16 dst_1], SV.slice
  s_1] w1_3 fun (r : SV) (w1 : World) => ∃ (n_5 : Int), ∃ (n_6 : Int), ∃ (b_6 : Bool), ∃ (s_2 : Sl), ∃ (n_7 : Int), r = SV.tuple [SV.struct [SV.int IntKind.i64
  n_5, SV.int IntKind.i64 n_6, SV.bool b_6, SV.slice s_2], SV.int IntKind.i64 n_7] ∧ Keeps [b_1, b_2, b_5] w1_3 w1 ∧ ∀ (b_7 : Nat) (w1_4 : World), Upd []
  [b_7] w1 w1_4 → Ret Tryd.prog 19 [SV.struct [SV.int IntKind.i64 src_0, SV.arr IntKind.u8 16 src_1], SV.struct [SV.int IntKind.i64 dst_0, SV.arr IntKind.u8
  16 dst_1], SV.struct [SV.int IntKind.i64 n_5, SV.int IntKind.i64 n_6, SV.bool b_6, SV.slice s_2]] w1_4 fun (r : SV) (w1 : World) => ∃ (s_3 : Sl), ∃ (n_8
  : Int), r = SV.tuple [SV.slice s_3, SV.int IntKind.i64 n_8] ∧ Keeps [b_1, b_2, b_5, b_7] w1_4 w1 ∧ Ret Tryd.prog 20 [SV.int IntKind.i64 n_4] w1 fun (r :
  SV) (w1_5 : World) => ∃ (n_9 : Int), r = SV.int IntKind.i64 n_9 ∧ Keeps [b_1, b_2, b_5, b_7] w1 w1_5 ∧ Br (n_9 != 0) (R (SV.bool false) w1_5) (Ret Tryd.prog
  20 [SV.int IntKind.i64 n_7] w1_5 fun (r : SV) (w1 : World) => ∃ (n_10 : Int), r = SV.int IntKind.i64 n_10 ∧ Keeps [b_1, b_2, b_5, b_7] w1_5 w1 ∧ Br (n_10
  != 0) (R (SV.bool false) w1) (Ret Tryd.prog 20 [SV.int IntKind.i64 n_8] w1 fun (r : SV) (w1_6 : World) => ∃ (n_11 : Int), r = SV.int IntKind.i64 n_11 ∧
  Keeps [b_1, b_2, b_5, b_7] w1 w1_6 ∧ Br (n_11 != 0) (R (SV.bool false) w1_6) (Ret Tryd.prog 23 [SV.struct [SV.int IntKind.i64 n, SV.int IntKind.i64 n_1,
  SV.bool b_4, SV.slice s], SV.struct [SV.int IntKind.i64 n_5, SV.int IntKind.i64 n_6, SV.bool b_6, SV.slice s_2]] w1_6 fun (r : SV) (w1 : World) => ∃ (b_8
  : Bool), r = SV.bool b_8 ∧ Keeps [b_1, b_2, b_5, b_7] w1_6 w1 ∧ Br (!b_8) (R (SV.bool false) w1) (Ret Tryd.prog 30 [SV.slice s_1, SV.slice s_3] w1 fun (r
  : SV) (w1_7 : World) => ∃ (b_9 : Bool), r = SV.bool b_9 ∧ Keeps [b_1, b_2, b_5, b_7] w1 w1_7 ∧ Br (!b_9) (R (SV.bool false) w1_7) (Br (decide ((↑s_1.2 :
  Int) > (↑b.2 : Int))) (R (SV.bool false) w1_7) (some (SV.box b_1 27 (SV.struct [SV.int IntKind.i64 src_0, SV.arr IntKind.u8 16 src_1])) = some (SV.box b_1
  27 (SV.struct [SV.int IntKind.i64 src_0, SV.arr IntKind.u8 16 src_1])) ∧ some (SV.box b_2 27 (SV.struct [SV.int IntKind.i64 dst_0, SV.arr IntKind.u8 16
  dst_1])) = some (SV.box b_2 27 (SV.struct [SV.int IntKind.i64 dst_0, SV.arr IntKind.u8 16 dst_1])) ∧ some (SV.box b_5 30 (SV.struct [SV.int IntKind.i64
  n, SV.int IntKind.i64 n_1, SV.bool b_4, SV.slice s])) = some (SV.box b_5 30 (SV.struct [SV.int IntKind.i64 n, SV.int IntKind.i64 n_1, SV.bool b_4, SV.slice
  s])) ∧ J w1_7))))))) (some (SV.box b_1 27 (SV.struct [SV.int IntKind.i64 src_0, SV.arr IntKind.u8 16 src_1])) = some (SV.box b_1 27 (SV.struct [SV.int IntKind.i64
  src_0, SV.arr IntKind.u8 16 src_1])) ∧ some (SV.box b_2 27 (SV.struct [SV.int IntKind.i64 dst_0, SV.arr IntKind.u8 16 dst_1])) = some (SV.box b_2 27 (SV.struct
  [SV.int IntKind.i64 dst_0, SV.arr IntKind.u8 16 dst_1])) ∧ some (SV.box b_5 30 (SV.struct [SV.int IntKind.i64 n, SV.int IntKind.i64 n_1, SV.bool b_4, SV.slice
  s])) = some (SV.box b_5 30 (SV.struct [SV.int IntKind.i64 n, SV.int IntKind.i64 n_1, SV.bool b_4, SV.slice s])) ∧ J w1))
theorem f9_of (src_0 : Int) (src_1 : Nat → Int) (dst_0 : Int) (dst_1 : Nat → Int) (b : Sl) (w : World) (R : SV → World → Prop) (h : vc9 src_0 src_1 dst_0 dst_1 b w R) : Ret Tryd.prog 9 [.struct [.int .i64 src_0, .arr .u8 16 src_1], .struct [.int .i64 dst_0, .arr .u8 16 dst_1], .slice b] w R :=
  have e : vc9 src_0 src_1 dst_0 dst_1 b w R = fnVC X Tryd.f9 a9 [.struct [.int .i64 src_0, .arr .u8 16 src_1], .struct [.int .i64 dst_0, .arr .u8 16 dst_1], .slice b] w R := by kernel_rfl
  fnVC_sound X_ok (n := a9) (e ▸ h) (by kernel_rfl) (by kernel_rfl) rfl rfl

end Go.Vc.S9
