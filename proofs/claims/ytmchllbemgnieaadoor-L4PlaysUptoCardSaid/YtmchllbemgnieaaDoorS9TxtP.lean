import Derived.Test.YtmchllbemgnieaaDoorG2
import Derived.Test.YtmchllbemgnieaaDoorG3
import Derived.KernelRfl
open Go Go.Vc Go.Vc.S9 Go.Proofs
set_option maxRecDepth 100000
set_option linter.unusedVariables false
namespace Go.Vc.S9
def vc66 (o_0 : Int) (o_1_0 : Int) (o_1_1 : Nat → Int) (o_2_0 : Int) (o_2_1 : Nat → Int) (o_3 : Sl) (o_4_0 : Int) (o_4_1 : Int) (o_4_2 : Bool) (o_4_3 :
  Sl) (o_5_0 : Int) (o_5_1 : Int) (o_5_2 : Int) (o_5_3 : Int) (o_5_4 : Int) (o_5_5 : Int) (o_5_6 : Int) (o_5_7 : Sl) (o_5_8 : Sl) (o_6 : Sl) (o_7 : Int) (w
  : World) (R : SV → World → Prop) : Prop := ∀ (b : Nat) (w1 : World), Upd [] [b] w w1 → Ret Tryd.prog 32 [SV.slice o_3] w1 fun (r : SV) (w1_1 : World) =>
  ∃ (s : Sl), r = SV.slice s ∧ Keeps [b] w1 w1_1 ∧ Need (decide (0 ≤ (↑o_3.2 : Int)) && decide ((↑o_3.2 : Int) ≤ (↑s.3 : Int))) (∀ (J : Bool → World → Prop),
  (∀ (b_1 : Bool) (w1 : World), Br b_1 (Ret Tryd.prog 34 [SV.slice s, SV.slice o_3] w1 fun (r : SV) (w1_2 : World) => ∃ (b_2 : Bool), r = SV.bool b_2 ∧ Keeps
  [b] w1 w1_2 ∧ R (SV.bool b_2) w1_2) (R (SV.bool false) w1) → J b_1 w1) → Br (o_0 == 1) (Ret Tryd.prog 21 [SV.struct [SV.int IntKind.i64 o_1_0, SV.arr IntKind.u8
  16 o_1_1], SV.struct [SV.int IntKind.i64 o_2_0, SV.arr IntKind.u8 16 o_2_1], SV.slice (Sl.sub s 1 0 (Int.toNat (↑o_3.2 : Int)) s.3)] w1_1 fun (r : SV) (w1
  : World) => ∃ (n : Int), ∃ (n_1 : Int), ∃ (b_1 : Bool), ∃ (s : Sl), ∃ (n_2 : Int), r = SV.tuple [SV.struct [SV.int IntKind.i64 n, SV.int IntKind.i64 n_1,
  SV.bool b_1, SV.slice s], SV.int IntKind.i64 n_2] ∧ Keeps [b] w1_1 w1 ∧ ∀ (b_2 : Nat) (w1_2 : World), Upd [] [b_2] w1 w1_2 → Ret Tryd.prog 44 [SV.struct
  [SV.int IntKind.i64 o_1_0, SV.arr IntKind.u8 16 o_1_1], SV.struct [SV.int IntKind.i64 o_2_0, SV.arr IntKind.u8 16 o_2_1], SV.slice o_3] w1_2 fun (r : SV)
  (w1 : World) => ∃ (n_3 : Int), ∃ (n_4 : Int), ∃ (b_3 : Bool), ∃ (s_1 : Sl), ∃ (n_5 : Int), r = SV.tuple [SV.struct [SV.int IntKind.i64 n_3, SV.int IntKind.i64
  n_4, SV.bool b_3, SV.slice s_1], SV.int IntKind.i64 n_5] ∧ Keeps [b, b_2] w1_2 w1 ∧ ∀ (b_4 : Nat) (w1_3 : World), Upd [] [b_4] w1 w1_3 → Ret Tryd.prog 20
  [SV.int IntKind.i64 n_2] w1_3 fun (r : SV) (w1 : World) => ∃ (n_6 : Int), r = SV.int IntKind.i64 n_6 ∧ Keeps [b, b_2, b_4] w1_3 w1 ∧ Br (n_6 == n_5) (Ret
  Tryd.prog 23 [SV.struct [SV.int IntKind.i64 n, SV.int IntKind.i64 n_1, SV.bool b_1, SV.slice s], SV.struct [SV.int IntKind.i64 n_3, SV.int IntKind.i64 n_4,
  SV.bool b_3, SV.slice s_1]] w1 fun (r : SV) (w1_4 : World) => ∃ (b_5 : Bool), r = SV.bool b_5 ∧ Keeps [b, b_2, b_4] w1 w1_4 ∧ some (SV.box b 112 (SV.struct
  [SV.int IntKind.i64 o_0, SV.struct [SV.int IntKind.i64 o_1_0, SV.arr IntKind.u8 16 o_1_1], SV.struct [SV.int IntKind.i64 o_2_0, SV.arr IntKind.u8 16 o_2_1],
  SV.slice o_3, SV.struct [SV.int IntKind.i64 o_4_0, SV.int IntKind.i64 o_4_1, SV.bool o_4_2, SV.slice o_4_3], SV.struct [SV.int IntKind.i64 o_5_0, SV.int
  IntKind.i64 o_5_1, SV.int IntKind.i64 o_5_2, SV.int IntKind.i64 o_5_3, SV.int IntKind.i64 o_5_4, SV.int IntKind.i64 o_5_5, SV.int IntKind.i64 o_5_6, SV.slice
  o_5_7, SV.slice o_5_8], SV.slice o_6, SV.int IntKind.i64 o_7])) = some (SV.box b 112 (SV.struct [SV.int IntKind.i64 o_0, SV.struct [SV.int IntKind.i64 o_1_0,
  SV.arr IntKind.u8 16 o_1_1], SV.struct [SV.int IntKind.i64 o_2_0, SV.arr IntKind.u8 16 o_2_1], SV.slice o_3, SV.struct [SV.int IntKind.i64 o_4_0, SV.int
  IntKind.i64 o_4_1, SV.bool o_4_2, SV.slice o_4_3], SV.struct [SV.int IntKind.i64 o_5_0, SV.int IntKind.i64 o_5_1, SV.int IntKind.i64 o_5_2, SV.int IntKind.i64
  o_5_3, SV.int IntKind.i64 o_5_4, SV.int IntKind.i64 o_5_5, SV.int IntKind.i64 o_5_6, SV.slice o_5_7, SV.slice o_5_8], SV.slice o_6, SV.int IntKind.i64 o_7]))
  ∧ J b_5 w1_4) (some (SV.box b 112 (SV.struct [SV.int IntKind.i64 o_0, SV.struct [SV.int IntKind.i64 o_1_0, SV.arr IntKind.u8 16 o_1_1], SV.struct [SV.int
  IntKind.i64 o_2_0, SV.arr IntKind.u8 16 o_2_1], SV.slice o_3, SV.struct [SV.int IntKind.i64 o_4_0, SV.int IntKind.i64 o_4_1, SV.bool o_4_2, SV.slice o_4_3],
  SV.struct [SV.int IntKind.i64 o_5_0, SV.int IntKind.i64 o_5_1, SV.int IntKind.i64 o_5_2, SV.int IntKind.i64 o_5_3, SV.int IntKind.i64 o_5_4, SV.int IntKind.i64
  o_5_5, SV.int IntKind.i64 o_5_6, SV.slice o_5_7, SV.slice o_5_8], SV.slice o_6, SV.int IntKind.i64 o_7])) = some (SV.box b 112 (SV.struct [SV.int IntKind.i64
  o_0, SV.struct [SV.int IntKind.i64 o_1_0, SV.arr IntKind.u8 16 o_1_1], SV.struct [SV.int IntKind.i64 o_2_0, SV.arr IntKind.u8 16 o_2_1], SV.slice o_3, SV.struct
  [SV.int IntKind.i64 o_4_0, SV.int IntKind.i64 o_4_1, SV.bool o_4_2, SV.slice o_4_3], SV.struct [SV.int IntKind.i64 o_5_0, SV.int IntKind.i64 o_5_1, SV.int
  IntKind.i64 o_5_2, SV.int IntKind.i64 o_5_3, SV.int IntKind.i64 o_5_4, SV.int IntKind.i64 o_5_5, SV.int IntKind.i64 o_5_6, SV.slice o_5_7, SV.slice o_5_8],
  SV.slice o_6, SV.int IntKind.i64 o_7])) ∧ J false w1)) (Br (o_0 == 4) (Ret Tryd.prog 27 [SV.struct [SV.int IntKind.i64 o_1_0, SV.arr IntKind.u8 16 o_1_1],
  SV.struct [SV.int IntKind.i64 o_2_0, SV.arr IntKind.u8 16 o_2_1], SV.slice (Sl.sub s 1 0 (Int.toNat (↑o_3.2 : Int)) s.3)] w1_1 fun (r : SV) (w1 : World)
  => ∃ (n : Int), ∃ (n_1 : Int), ∃ (n_2 : Int), ∃ (n_3 : Int), ∃ (n_4 : Int), ∃ (n_5 : Int), ∃ (n_6 : Int), ∃ (s : Sl), ∃ (s_1 : Sl), ∃ (n_7 : Int), r = SV.tuple
  [SV.struct [SV.int IntKind.i64 n, SV.int IntKind.i64 n_1, SV.int IntKind.i64 n_2, SV.int IntKind.i64 n_3, SV.int IntKind.i64 n_4, SV.int IntKind.i64 n_5,
  SV.int IntKind.i64 n_6, SV.slice s, SV.slice s_1], SV.int IntKind.i64 n_7] ∧ Keeps [b] w1_1 w1 ∧ ∀ (b_1 : Nat) (w1_2 : World), Upd [] [b_1] w1 w1_2 → Ret
  Tryd.prog 45 [SV.struct [SV.int IntKind.i64 o_1_0, SV.arr IntKind.u8 16 o_1_1], SV.struct [SV.int IntKind.i64 o_2_0, SV.arr IntKind.u8 16 o_2_1], SV.slice
  o_3] w1_2 fun (r : SV) (w1 : World) => ∃ (n_8 : Int), ∃ (n_9 : Int), ∃ (n_10 : Int), ∃ (n_11 : Int), ∃ (n_12 : Int), ∃ (n_13 : Int), ∃ (n_14 : Int), ∃ (s_2
  : Sl), ∃ (s_3 : Sl), ∃ (n_15 : Int), r = SV.tuple [SV.struct [SV.int IntKind.i64 n_8, SV.int IntKind.i64 n_9, SV.int IntKind.i64 n_10, SV.int IntKind.i64
  n_11, SV.int IntKind.i64 n_12, SV.int IntKind.i64 n_13, SV.int IntKind.i64 n_14, SV.slice s_2, SV.slice s_3], SV.int IntKind.i64 n_15] ∧ Keeps [b, b_1]
  w1_2 w1 ∧ ∀ (b_2 : Nat) (w1_3 : World), Upd [] [b_2] w1 w1_3 → Ret Tryd.prog 20 [SV.int IntKind.i64 n_7] w1_3 fun (r : SV) (w1 : World) => ∃ (n_16 : Int),
  r = SV.int IntKind.i64 n_16 ∧ Keeps [b, b_1, b_2] w1_3 w1 ∧ Br (n_16 == n_15) (Ret Tryd.prog 28 [SV.struct [SV.int IntKind.i64 n, SV.int IntKind.i64 n_1,
  SV.int IntKind.i64 n_2, SV.int IntKind.i64 n_3, SV.int IntKind.i64 n_4, SV.int IntKind.i64 n_5, SV.int IntKind.i64 n_6, SV.slice s, SV.slice s_1], SV.struct
  [SV.int IntKind.i64 n_8, SV.int IntKind.i64 n_9, SV.int IntKind.i64 n_10, SV.int IntKind.i64 n_11, SV.int IntKind.i64 n_12, SV.int IntKind.i64 n_13, SV.int
  IntKind.i64 n_14, SV.slice s_2, SV.slice s_3]] w1 fun (r : SV) (w1_4 : World) => ∃ (b_3 : Bool), r = SV.bool b_3 ∧ Keeps [b, b_1, b_2] w1 w1_4 ∧ some (SV.box
  b 112 (SV.struct [SV.int IntKind.i64 o_0, SV.struct [SV.int IntKind.i64 o_1_0, SV.arr IntKind.u8 16 o_1_1], SV.struct [SV.int IntKind.i64 o_2_0, SV.arr
  IntKind.u8 16 o_2_1], SV.slice o_3, SV.struct [SV.int IntKind.i64 o_4_0, SV.int IntKind.i64 o_4_1, SV.bool o_4_2, SV.slice o_4_3], SV.struct [SV.int IntKind.i64
  o_5_0, SV.int IntKind.i64 o_5_1, SV.int IntKind.i64 o_5_2, SV.int IntKind.i64 o_5_3, SV.int IntKind.i64 o_5_4, SV.int IntKind.i64 o_5_5, SV.int IntKind.i64
  o_5_6, SV.slice o_5_7, SV.slice o_5_8], SV.slice o_6, SV.int IntKind.i64 o_7])) = some (SV.box b 112 (SV.struct [SV.int IntKind.i64 o_0, SV.struct [SV.int
  IntKind.i64 o_1_0, SV.arr IntKind.u8 16 o_1_1], SV.struct [SV.int IntKind.i64 o_2_0, SV.arr IntKind.u8 16 o_2_1], SV.slice o_3, SV.struct [SV.int IntKind.i64
  o_4_0, SV.int IntKind.i64 o_4_1, SV.bool o_4_2, SV.slice o_4_3], SV.struct [SV.int IntKind.i64 o_5_0, SV.int IntKind.i64 o_5_1, SV.int IntKind.i64 o_5_2,
  SV.int IntKind.i64 o_5_3, SV.int IntKind.i64 o_5_4, SV.int IntKind.i64 o_5_5, SV.int IntKind.i64 o_5_6, SV.slice o_5_7, SV.slice o_5_8], SV.slice o_6, SV.int
  IntKind.i64 o_7])) ∧ J b_3 w1_4) (some (SV.box b 112 (SV.struct [SV.int IntKind.i64 o_0, SV.struct [SV.int IntKind.i64 o_1_0, SV.arr IntKind.u8 16 o_1_1],
  SV.struct [SV.int IntKind.i64 o_2_0, SV.arr IntKind.u8 16 o_2_1], SV.slice o_3, SV.struct [SV.int IntKind.i64 o_4_0, SV.int IntKind.i64 o_4_1, SV.bool o_4_2,
  SV.slice o_4_3], SV.struct [SV.int IntKind.i64 o_5_0, SV.int IntKind.i64 o_5_1, SV.int IntKind.i64 o_5_2, SV.int IntKind.i64 o_5_3, SV.int IntKind.i64 o_5_4,
  SV.int IntKind.i64 o_5_5, SV.int IntKind.i64 o_5_6, SV.slice o_5_7, SV.slice o_5_8], SV.slice o_6, SV.int IntKind.i64 o_7])) = some (SV.box b 112 (SV.struct
  [SV.int IntKind.i64 o_0, SV.struct [SV.int IntKind.i64 o_1_0, SV.arr IntKind.u8 16 o_1_1], SV.struct [SV.int IntKind.i64 o_2_0, SV.arr IntKind.u8 16 o_2_1],
  SV.slice o_3, SV.struct [SV.int IntKind.i64 o_4_0, SV.int IntKind.i64 o_4_1, SV.bool o_4_2, SV.slice o_4_3], SV.struct [SV.int IntKind.i64 o_5_0, SV.int
  IntKind.i64 o_5_1, SV.int IntKind.i64 o_5_2, SV.int IntKind.i64 o_5_3, SV.int IntKind.i64 o_5_4, SV.int IntKind.i64 o_5_5, SV.int IntKind.i64 o_5_6, SV.slice
  o_5_7, SV.slice o_5_8], SV.slice o_6, SV.int IntKind.i64 o_7])) ∧ J false w1)) (Br (o_0 == 7) (Ret Tryd.prog 33 [SV.slice (Sl.sub s 1 0 (Int.toNat (↑o_3.2
  : Int)) s.3)] w1_1 fun (r : SV) (w1 : World) => ∃ (s : Sl), ∃ (n : Int), r = SV.tuple [SV.slice s, SV.int IntKind.i64 n] ∧ Keeps [b] w1_1 w1 ∧ Ret Tryd.prog
  46 [SV.slice o_3] w1 fun (r : SV) (w1_2 : World) => ∃ (s_1 : Sl), ∃ (n_1 : Int), r = SV.tuple [SV.slice s_1, SV.int IntKind.i64 n_1] ∧ Keeps [b] w1 w1_2
  ∧ Ret Tryd.prog 20 [SV.int IntKind.i64 n] w1_2 fun (r : SV) (w1 : World) => ∃ (n : Int), r = SV.int IntKind.i64 n ∧ Keeps [b] w1_2 w1 ∧ Br (n == n_1) (Ret
  Tryd.prog 47 [SV.slice s, SV.slice s_1] w1 fun (r : SV) (w1_3 : World) => ∃ (b_1 : Bool), r = SV.bool b_1 ∧ Keeps [b] w1 w1_3 ∧ some (SV.box b 112 (SV.struct
  [SV.int IntKind.i64 o_0, SV.struct [SV.int IntKind.i64 o_1_0, SV.arr IntKind.u8 16 o_1_1], SV.struct [SV.int IntKind.i64 o_2_0, SV.arr IntKind.u8 16 o_2_1],
  SV.slice o_3, SV.struct [SV.int IntKind.i64 o_4_0, SV.int IntKind.i64 o_4_1, SV.bool o_4_2, SV.slice o_4_3], SV.struct [SV.int IntKind.i64 o_5_0, SV.int
  IntKind.i64 o_5_1, SV.int IntKind.i64 o_5_2, SV.int IntKind.i64 o_5_3, SV.int IntKind.i64 o_5_4, SV.int IntKind.i64 o_5_5, SV.int IntKind.i64 o_5_6, SV.slice
  o_5_7, SV.slice o_5_8], SV.slice o_6, SV.int IntKind.i64 o_7])) = some (SV.box b 112 (SV.struct [SV.int IntKind.i64 o_0, SV.struct [SV.int IntKind.i64 o_1_0,
  SV.arr IntKind.u8 16 o_1_1], SV.struct [SV.int IntKind.i64 o_2_0, SV.arr IntKind.u8 16 o_2_1], SV.slice o_3, SV.struct [SV.int IntKind.i64 o_4_0, SV.int
  IntKind.i64 o_4_1, SV.bool o_4_2, SV.slice o_4_3], SV.struct [SV.int IntKind.i64 o_5_0, SV.int IntKind.i64 o_5_1, SV.int IntKind.i64 o_5_2, SV.int IntKind.i64
  o_5_3, SV.int IntKind.i64 o_5_4, SV.int IntKind.i64 o_5_5, SV.int IntKind.i64 o_5_6, SV.slice o_5_7, SV.slice o_5_8], SV.slice o_6, SV.int IntKind.i64 o_7]))
  ∧ J b_1 w1_3) (some (SV.box b 112 (SV.struct [SV.int IntKind.i64 o_0, SV.struct [SV.int IntKind.i64 o_1_0, SV.arr IntKind.u8 16 o_1_1], SV.struct [SV.int
  IntKind.i64 o_2_0, SV.arr IntKind.u8 16 o_2_1], SV.slice o_3, SV.struct [SV.int IntKind.i64 o_4_0, SV.int IntKind.i64 o_4_1, SV.bool o_4_2, SV.slice o_4_3],
  SV.struct [SV.int IntKind.i64 o_5_0, SV.int IntKind.i64 o_5_1, SV.int IntKind.i64 o_5_2, SV.int IntKind.i64 o_5_3, SV.int IntKind.i64 o_5_4, SV.int IntKind.i64
  o_5_5, SV.int IntKind.i64 o_5_6, SV.slice o_5_7, SV.slice o_5_8], SV.slice o_6, SV.int IntKind.i64 o_7])) = some (SV.box b 112 (SV.struct [SV.int IntKind.i64
  o_0, SV.struct [SV.int IntKind.i64 o_1_0, SV.arr IntKind.u8 16 o_1_1], SV.struct [SV.int IntKind.i64 o_2_0, SV.arr IntKind.u8 16 o_2_1], SV.slice o_3, SV.struct
  [SV.int IntKind.i64 o_4_0, SV.int IntKind.i64 o_4_1, SV.bool o_4_2, SV.slice o_4_3], SV.struct [SV.int IntKind.i64 o_5_0, SV.int IntKind.i64 o_5_1, SV.int
  IntKind.i64 o_5_2, SV.int IntKind.i64 o_5_3, SV.int IntKind.i64 o_5_4, SV.int IntKind.i64 o_5_5, SV.int IntKind.i64 o_5_6, SV.slice o_5_7, SV.slice o_5_8],
  SV.slice o_6, SV.int IntKind.i64 o_7])) ∧ J false w1)) (some (SV.box b 112 (SV.struct [SV.int IntKind.i64 o_0, SV.struct [SV.int IntKind.i64 o_1_0, SV.arr
  IntKind.u8 16 o_1_1], SV.struct [SV.int IntKind.i64 o_2_0, SV.arr IntKind.u8 16 o_2_1], SV.slice o_3, SV.struct [SV.int IntKind.i64 o_4_0, SV.int IntKind.i64
  o_4_1, SV.bool o_4_2, SV.slice o_4_3], SV.struct [SV.int IntKind.i64 o_5_0, SV.int IntKind.i64 o_5_1, SV.int IntKind.i64 o_5_2, SV.int IntKind.i64 o_5_3,
  SV.int IntKind.i64 o_5_4, SV.int IntKind.i64 o_5_5, SV.int IntKind.i64 o_5_6, SV.slice o_5_7, SV.slice o_5_8], SV.slice o_6, SV.int IntKind.i64 o_7])) =
  some (SV.box b 112 (SV.struct [SV.int IntKind.i64 o_0, SV.struct [SV.int IntKind.i64 o_1_0, SV.arr IntKind.u8 16 o_1_1], SV.struct [SV.int IntKind.i64 o_2_0,
  SV.arr IntKind.u8 16 o_2_1], SV.slice o_3, SV.struct [SV.int IntKind.i64 o_4_0, SV.int IntKind.i64 o_4_1, SV.bool o_4_2, SV.slice o_4_3], SV.struct [SV.int
  IntKind.i64 o_5_0, SV.int IntKind.i64 o_5_1, SV.int IntKind.i64 o_5_2, SV.int IntKind.i64 o_5_3, SV.int IntKind.i64 o_5_4, SV.int IntKind.i64 o_5_5, SV.int
  IntKind.i64 o_5_6, SV.slice o_5_7, SV.slice o_5_8], SV.slice o_6, SV.int IntKind.i64 o_7])) ∧ J true w1_1))))
theorem f66_of (o_0 : Int) (o_1_0 : Int) (o_1_1 : Nat → Int) (o_2_0 : Int) (o_2_1 : Nat → Int) (o_3 : Sl) (o_4_0 : Int) (o_4_1 : Int) (o_4_2 : Bool) (o_4_3 : Sl) (o_5_0 : Int) (o_5_1 : Int) (o_5_2 : Int) (o_5_3 : Int) (o_5_4 : Int) (o_5_5 : Int) (o_5_6 : Int) (o_5_7 : Sl) (o_5_8 : Sl) (o_6 : Sl) (o_7 : Int) (w : World) (R : SV → World → Prop) (h : vc66 o_0 o_1_0 o_1_1 o_2_0 o_2_1 o_3 o_4_0 o_4_1 o_4_2 o_4_3 o_5_0 o_5_1 o_5_2 o_5_3 o_5_4 o_5_5 o_5_6 o_5_7 o_5_8 o_6 o_7 w R) : Ret Tryd.prog 66 [.struct [.int .i64 o_0, .struct [.int .i64 o_1_0, .arr .u8 16 o_1_1], .struct [.int .i64 o_2_0, .arr .u8 16 o_2_1], .slice o_3, .struct [.int .i64 o_4_0, .int .i64 o_4_1, .bool o_4_2, .slice o_4_3], .struct [.int .i64 o_5_0, .int .i64 o_5_1, .int .i64 o_5_2, .int .i64 o_5_3, .int .i64 o_5_4, .int .i64 o_5_5, .int .i64 o_5_6, .slice o_5_7, .slice o_5_8], .slice o_6, .int .i64 o_7]] w R :=
  have e : vc66 o_0 o_1_0 o_1_1 o_2_0 o_2_1 o_3 o_4_0 o_4_1 o_4_2 o_4_3 o_5_0 o_5_1 o_5_2 o_5_3 o_5_4 o_5_5 o_5_6 o_5_7 o_5_8 o_6 o_7 w R = fnVC X Tryd.f66 a66 [.struct [.int .i64 o_0, .struct [.int .i64 o_1_0, .arr .u8 16 o_1_1], .struct [.int .i64 o_2_0, .arr .u8 16 o_2_1], .slice o_3, .struct [.int .i64 o_4_0, .int .i64 o_4_1, .bool o_4_2, .slice o_4_3], .struct [.int .i64 o_5_0, .int .i64 o_5_1, .int .i64 o_5_2, .int .i64 o_5_3, .int .i64 o_5_4, .int .i64 o_5_5, .int .i64 o_5_6, .slice o_5_7, .slice o_5_8], .slice o_6, .int .i64 o_7]] w R := by kernel_rfl
  fnVC_sound X_ok (n := a66) (e ▸ h) (by kernel_rfl) (by kernel_rfl) rfl rfl

def vc67 (o_0 : Int) (o_1_0 : Int) (o_1_1 : Nat → Int) (o_2_0 : Int) (o_2_1 : Nat → Int) (o_3 : Sl) (o_4_0 : Int) (o_4_1 : Int) (o_4_2 : Bool) (o_4_3 :
  Sl) (o_5_0 : Int) (o_5_1 : Int) (o_5_2 : Int) (o_5_3 : Int) (o_5_4 : Int) (o_5_5 : Int) (o_5_6 : Int) (o_5_7 : Sl) (o_5_8 : Sl) (o_6 : Sl) (o_7 : Int) (w
  : World) (R : SV → World → Prop) : Prop := ∀ (b b_1 : Nat) (w1 : World), Upd [] [b_1, b] w w1 → Ret Tryd.prog 32 [SV.slice o_4_3] w1 fun (r : SV) (w1_1
  : World) => ∃ (s : Sl), r = SV.slice s ∧ Keeps [b, b_1] w1 w1_1 ∧ Need (decide (0 ≤ (↑o_4_3.2 : Int)) && decide ((↑o_4_3.2 : Int) ≤ (↑s.3 : Int))) (∀ (J
  : Bool → World → Prop), (∀ (b_2 : Bool) (w1 : World), Br b_2 (Ret Tryd.prog 23 [SV.struct [SV.int IntKind.i64 o_4_0, SV.int IntKind.i64 o_4_1, SV.bool o_4_2,
  SV.slice (Sl.sub s 1 0 (Int.toNat (↑o_4_3.2 : Int)) s.3)], SV.struct [SV.int IntKind.i64 o_4_0, SV.int IntKind.i64 o_4_1, SV.bool o_4_2, SV.slice o_4_3]]
  w1 fun (r : SV) (w1_2 : World) => ∃ (b_3 : Bool), r = SV.bool b_3 ∧ Keeps [b, b_1] w1 w1_2 ∧ Br b_3 (Ret Tryd.prog 34 [SV.slice s, SV.slice o_4_3] w1_2
  fun (r : SV) (w1 : World) => ∃ (b_4 : Bool), r = SV.bool b_4 ∧ Keeps [b, b_1] w1_2 w1 ∧ R (SV.bool b_4) w1) (R (SV.bool false) w1_2)) (R (SV.bool false)
  w1) → J b_2 w1) → Br (o_0 == 2) (∀ (w1 : World), Upd [b_1] [] w1_1 w1 → Ret Tryd.prog 25 [SV.int IntKind.i64 o_7, SV.struct [SV.int IntKind.i64 o_4_0, SV.int
  IntKind.i64 o_4_1, SV.bool o_4_2, SV.slice (Sl.sub s 1 0 (Int.toNat (↑o_4_3.2 : Int)) s.3)]] w1 fun (r : SV) (w1_2 : World) => ∃ (n : Int), r = SV.int IntKind.i64
  n ∧ Keeps [b, b_1] w1 w1_2 ∧ ∀ (w1 : World), Upd [] [] w1_2 w1 → Ret Tryd.prog 20 [SV.int IntKind.i64 n] w1 fun (r : SV) (w1_3 : World) => ∃ (n : Int),
  r = SV.int IntKind.i64 n ∧ Keeps [b, b_1] w1 w1_3 ∧ Upd [] [] w1_2 w1_3 ∧ Ret Tryd.prog 59 [SV.int IntKind.i64 o_7, SV.struct [SV.int IntKind.i64 o_4_0,
  SV.int IntKind.i64 o_4_1, SV.bool o_4_2, SV.slice o_4_3]] w1_3 fun (r : SV) (w1 : World) => ∃ (n_1 : Int), r = SV.int IntKind.i64 n_1 ∧ Keeps [b, b_1] w1_3
  w1 ∧ some (SV.box b 112 (SV.struct [SV.int IntKind.i64 o_0, SV.struct [SV.int IntKind.i64 o_1_0, SV.arr IntKind.u8 16 o_1_1], SV.struct [SV.int IntKind.i64
  o_2_0, SV.arr IntKind.u8 16 o_2_1], SV.slice o_3, SV.struct [SV.int IntKind.i64 o_4_0, SV.int IntKind.i64 o_4_1, SV.bool o_4_2, SV.slice o_4_3], SV.struct
  [SV.int IntKind.i64 o_5_0, SV.int IntKind.i64 o_5_1, SV.int IntKind.i64 o_5_2, SV.int IntKind.i64 o_5_3, SV.int IntKind.i64 o_5_4, SV.int IntKind.i64 o_5_5,
  SV.int IntKind.i64 o_5_6, SV.slice o_5_7, SV.slice o_5_8], SV.slice o_6, SV.int IntKind.i64 o_7])) = some (SV.box b 112 (SV.struct [SV.int IntKind.i64 o_0,
  SV.struct [SV.int IntKind.i64 o_1_0, SV.arr IntKind.u8 16 o_1_1], SV.struct [SV.int IntKind.i64 o_2_0, SV.arr IntKind.u8 16 o_2_1], SV.slice o_3, SV.struct
  [SV.int IntKind.i64 o_4_0, SV.int IntKind.i64 o_4_1, SV.bool o_4_2, SV.slice o_4_3], SV.struct [SV.int IntKind.i64 o_5_0, SV.int IntKind.i64 o_5_1, SV.int
  IntKind.i64 o_5_2, SV.int IntKind.i64 o_5_3, SV.int IntKind.i64 o_5_4, SV.int IntKind.i64 o_5_5, SV.int IntKind.i64 o_5_6, SV.slice o_5_7, SV.slice o_5_8],
  SV.slice o_6, SV.int IntKind.i64 o_7])) ∧ some (SV.box b_1 30 (SV.struct [SV.int IntKind.i64 o_4_0, SV.int IntKind.i64 o_4_1, SV.bool o_4_2, SV.slice (Sl.sub
  s 1 0 (Int.toNat (↑o_4_3.2 : Int)) s.3)])) = some (SV.box b_1 30 (SV.struct [SV.int IntKind.i64 o_4_0, SV.int IntKind.i64 o_4_1, SV.bool o_4_2, SV.slice
  (Sl.sub s 1 0 (Int.toNat (↑o_4_3.2 : Int)) s.3)])) ∧ J (n == n_1) w1) (∀ (w1 : World), Upd [b_1] [] w1_1 w1 → Ret Tryd.prog 19 [SV.struct [SV.int IntKind.i64
  o_1_0, SV.arr IntKind.u8 16 o_1_1], SV.struct [SV.int IntKind.i64 o_2_0, SV.arr IntKind.u8 16 o_2_1], SV.struct [SV.int IntKind.i64 o_4_0, SV.int IntKind.i64
  o_4_1, SV.bool o_4_2, SV.slice (Sl.sub s 1 0 (Int.toNat (↑o_4_3.2 : Int)) s.3)]] w1 fun (r : SV) (w1_2 : World) => ∃ (s_1 : Sl), ∃ (n : Int), r = SV.tuple
  [SV.slice s_1, SV.int IntKind.i64 n] ∧ Keeps [b, b_1] w1 w1_2 ∧ Ret Tryd.prog 54 [SV.struct [SV.int IntKind.i64 o_1_0, SV.arr IntKind.u8 16 o_1_1], SV.struct
  [SV.int IntKind.i64 o_2_0, SV.arr IntKind.u8 16 o_2_1], SV.struct [SV.int IntKind.i64 o_4_0, SV.int IntKind.i64 o_4_1, SV.bool o_4_2, SV.slice o_4_3]] w1_2
  fun (r : SV) (w1 : World) => ∃ (s_2 : Sl), ∃ (n_1 : Int), r = SV.tuple [SV.slice s_2, SV.int IntKind.i64 n_1] ∧ Keeps [b, b_1] w1_2 w1 ∧ Ret Tryd.prog 20
  [SV.int IntKind.i64 n] w1 fun (r : SV) (w1_3 : World) => ∃ (n : Int), r = SV.int IntKind.i64 n ∧ Keeps [b, b_1] w1 w1_3 ∧ Br (n == n_1) (Ret Tryd.prog 30
  [SV.slice s_1, SV.slice s_2] w1_3 fun (r : SV) (w1 : World) => ∃ (b_2 : Bool), r = SV.bool b_2 ∧ Keeps [b, b_1] w1_3 w1 ∧ some (SV.box b 112 (SV.struct
  [SV.int IntKind.i64 o_0, SV.struct [SV.int IntKind.i64 o_1_0, SV.arr IntKind.u8 16 o_1_1], SV.struct [SV.int IntKind.i64 o_2_0, SV.arr IntKind.u8 16 o_2_1],
  SV.slice o_3, SV.struct [SV.int IntKind.i64 o_4_0, SV.int IntKind.i64 o_4_1, SV.bool o_4_2, SV.slice o_4_3], SV.struct [SV.int IntKind.i64 o_5_0, SV.int
  IntKind.i64 o_5_1, SV.int IntKind.i64 o_5_2, SV.int IntKind.i64 o_5_3, SV.int IntKind.i64 o_5_4, SV.int IntKind.i64 o_5_5, SV.int IntKind.i64 o_5_6, SV.slice
  o_5_7, SV.slice o_5_8], SV.slice o_6, SV.int IntKind.i64 o_7])) = some (SV.box b 112 (SV.struct [SV.int IntKind.i64 o_0, SV.struct [SV.int IntKind.i64 o_1_0,
  SV.arr IntKind.u8 16 o_1_1], SV.struct [SV.int IntKind.i64 o_2_0, SV.arr IntKind.u8 16 o_2_1], SV.slice o_3, SV.struct [SV.int IntKind.i64 o_4_0, SV.int
  IntKind.i64 o_4_1, SV.bool o_4_2, SV.slice o_4_3], SV.struct [SV.int IntKind.i64 o_5_0, SV.int IntKind.i64 o_5_1, SV.int IntKind.i64 o_5_2, SV.int IntKind.i64
  o_5_3, SV.int IntKind.i64 o_5_4, SV.int IntKind.i64 o_5_5, SV.int IntKind.i64 o_5_6, SV.slice o_5_7, SV.slice o_5_8], SV.slice o_6, SV.int IntKind.i64 o_7]))
  ∧ some (SV.box b_1 30 (SV.struct [SV.int IntKind.i64 o_4_0, SV.int IntKind.i64 o_4_1, SV.bool o_4_2, SV.slice (Sl.sub s 1 0 (Int.toNat (↑o_4_3.2 : Int))
  s.3)])) = some (SV.box b_1 30 (SV.struct [SV.int IntKind.i64 o_4_0, SV.int IntKind.i64 o_4_1, SV.bool o_4_2, SV.slice (Sl.sub s 1 0 (Int.toNat (↑o_4_3.2
  : Int)) s.3)])) ∧ J b_2 w1) (some (SV.box b 112 (SV.struct [SV.int IntKind.i64 o_0, SV.struct [SV.int IntKind.i64 o_1_0, SV.arr IntKind.u8 16 o_1_1], SV.struct
  [SV.int IntKind.i64 o_2_0, SV.arr IntKind.u8 16 o_2_1], SV.slice o_3, SV.struct [SV.int IntKind.i64 o_4_0, SV.int IntKind.i64 o_4_1, SV.bool o_4_2, SV.slice
  o_4_3], SV.struct [SV.int IntKind.i64 o_5_0, SV.int IntKind.i64 o_5_1, SV.int IntKind.i64 o_5_2, SV.int IntKind.i64 o_5_3, SV.int IntKind.i64 o_5_4, SV.int
  IntKind.i64 o_5_5, SV.int IntKind.i64 o_5_6, SV.slice o_5_7, SV.slice o_5_8], SV.slice o_6, SV.int IntKind.i64 o_7])) = some (SV.box b 112 (SV.struct [SV.int
  IntKind.i64 o_0, SV.struct [SV.int IntKind.i64 o_1_0, SV.arr IntKind.u8 16 o_1_1], SV.struct [SV.int IntKind.i64 o_2_0, SV.arr IntKind.u8 16 o_2_1], SV.slice
  o_3, SV.struct [SV.int IntKind.i64 o_4_0, SV.int IntKind.i64 o_4_1, SV.bool o_4_2, SV.slice o_4_3], SV.struct [SV.int IntKind.i64 o_5_0, SV.int IntKind.i64
  o_5_1, SV.int IntKind.i64 o_5_2, SV.int IntKind.i64 o_5_3, SV.int IntKind.i64 o_5_4, SV.int IntKind.i64 o_5_5, SV.int IntKind.i64 o_5_6, SV.slice o_5_7,
  SV.slice o_5_8], SV.slice o_6, SV.int IntKind.i64 o_7])) ∧ some (SV.box b_1 30 (SV.struct [SV.int IntKind.i64 o_4_0, SV.int IntKind.i64 o_4_1, SV.bool o_4_2,
  SV.slice (Sl.sub s 1 0 (Int.toNat (↑o_4_3.2 : Int)) s.3)])) = some (SV.box b_1 30 (SV.struct [SV.int IntKind.i64 o_4_0, SV.int IntKind.i64 o_4_1, SV.bool
  o_4_2, SV.slice (Sl.sub s 1 0 (Int.toNat (↑o_4_3.2 : Int)) s.3)])) ∧ J false w1_3)))
theorem f67_of (o_0 : Int) (o_1_0 : Int) (o_1_1 : Nat → Int) (o_2_0 : Int) (o_2_1 : Nat → Int) (o_3 : Sl) (o_4_0 : Int) (o_4_1 : Int) (o_4_2 : Bool) (o_4_3 : Sl) (o_5_0 : Int) (o_5_1 : Int) (o_5_2 : Int) (o_5_3 : Int) (o_5_4 : Int) (o_5_5 : Int) (o_5_6 : Int) (o_5_7 : Sl) (o_5_8 : Sl) (o_6 : Sl) (o_7 : Int) (w : World) (R : SV → World → Prop) (h : vc67 o_0 o_1_0 o_1_1 o_2_0 o_2_1 o_3 o_4_0 o_4_1 o_4_2 o_4_3 o_5_0 o_5_1 o_5_2 o_5_3 o_5_4 o_5_5 o_5_6 o_5_7 o_5_8 o_6 o_7 w R) : Ret Tryd.prog 67 [.struct [.int .i64 o_0, .struct [.int .i64 o_1_0, .arr .u8 16 o_1_1], .struct [.int .i64 o_2_0, .arr .u8 16 o_2_1], .slice o_3, .struct [.int .i64 o_4_0, .int .i64 o_4_1, .bool o_4_2, .slice o_4_3], .struct [.int .i64 o_5_0, .int .i64 o_5_1, .int .i64 o_5_2, .int .i64 o_5_3, .int .i64 o_5_4, .int .i64 o_5_5, .int .i64 o_5_6, .slice o_5_7, .slice o_5_8], .slice o_6, .int .i64 o_7]] w R :=
  have e : vc67 o_0 o_1_0 o_1_1 o_2_0 o_2_1 o_3 o_4_0 o_4_1 o_4_2 o_4_3 o_5_0 o_5_1 o_5_2 o_5_3 o_5_4 o_5_5 o_5_6 o_5_7 o_5_8 o_6 o_7 w R = fnVC X Tryd.f67 a67 [.struct [.int .i64 o_0, .struct [.int .i64 o_1_0, .arr .u8 16 o_1_1], .struct [.int .i64 o_2_0, .arr .u8 16 o_2_1], .slice o_3, .struct [.int .i64 o_4_0, .int .i64 o_4_1, .bool o_4_2, .slice o_4_3], .struct [.int .i64 o_5_0, .int .i64 o_5_1, .int .i64 o_5_2, .int .i64 o_5_3, .int .i64 o_5_4, .int .i64 o_5_5, .int .i64 o_5_6, .slice o_5_7, .slice o_5_8], .slice o_6, .int .i64 o_7]] w R := by kernel_rfl
  fnVC_sound X_ok (n := a67) (e ▸ h) (by kernel_rfl) (by kernel_rfl) rfl rfl

def vc68 (o_0 : Int) (o_1_0 : Int) (o_1_1 : Nat → Int) (o_2_0 : Int) (o_2_1 : Nat → Int) (o_3 : Sl) (o_4_0 : Int) (o_4_1 : Int) (o_4_2 : Bool) (o_4_3 :
  Sl) (o_5_0 : Int) (o_5_1 : Int) (o_5_2 : Int) (o_5_3 : Int) (o_5_4 : Int) (o_5_5 : Int) (o_5_6 : Int) (o_5_7 : Sl) (o_5_8 : Sl) (o_6 : Sl) (o_7 : Int) (w
  : World) (R : SV → World → Prop) : Prop := ∀ (b b_1 : Nat) (w1 : World), Upd [] [b_1, b] w w1 → Ret Tryd.prog 32 [SV.slice o_5_8] w1 fun (r : SV) (w1_1
  : World) => ∃ (s : Sl), r = SV.slice s ∧ Keeps [b, b_1] w1 w1_1 ∧ Ret Tryd.prog 95 [SV.slice o_5_7] w1_1 fun (r : SV) (w1 : World) => ∃ (s_1 : Sl), ∃ (s_2
  : Sl), r = SV.tuple [SV.slice s_1, SV.slice s_2] ∧ Keeps [b, b_1] w1_1 w1 ∧ Need (decide (0 ≤ (↑o_5_8.2 : Int)) && decide ((↑o_5_8.2 : Int) ≤ (↑s.3 : Int)))
  (Need (decide (0 ≤ (↑o_5_7.2 : Int)) && decide ((↑o_5_7.2 : Int) ≤ (↑s_1.3 : Int))) (∀ (w1_2 : World), Upd [b_1] [] w1 w1_2 → Ret Tryd.prog 95 [SV.slice
  o_6] w1_2 fun (r : SV) (w1 : World) => ∃ (s_3 : Sl), ∃ (s_4 : Sl), r = SV.tuple [SV.slice s_3, SV.slice s_4] ∧ Keeps [b, b_1] w1_2 w1 ∧ ∀ (J : Bool → World
  → Prop), (∀ (b_2 : Bool) (w1 : World), Br b_2 (Ret Tryd.prog 28 [SV.struct [SV.int IntKind.i64 o_5_0, SV.int IntKind.i64 o_5_1, SV.int IntKind.i64 o_5_2,
  SV.int IntKind.i64 o_5_3, SV.int IntKind.i64 o_5_4, SV.int IntKind.i64 o_5_5, SV.int IntKind.i64 o_5_6, SV.slice (Sl.sub s_1 2 0 (Int.toNat (↑o_5_7.2 :
  Int)) s_1.3), SV.slice (Sl.sub s 1 0 (Int.toNat (↑o_5_8.2 : Int)) s.3)], SV.struct [SV.int IntKind.i64 o_5_0, SV.int IntKind.i64 o_5_1, SV.int IntKind.i64
  o_5_2, SV.int IntKind.i64 o_5_3, SV.int IntKind.i64 o_5_4, SV.int IntKind.i64 o_5_5, SV.int IntKind.i64 o_5_6, SV.slice o_5_7, SV.slice o_5_8]] w1 fun (r
  : SV) (w1_3 : World) => ∃ (b_3 : Bool), r = SV.bool b_3 ∧ Keeps [b, b_1] w1 w1_3 ∧ Br b_3 (Ret Tryd.prog 34 [SV.slice s, SV.slice o_5_8] w1_3 fun (r : SV)
  (w1 : World) => ∃ (b_4 : Bool), r = SV.bool b_4 ∧ Keeps [b, b_1] w1_3 w1 ∧ Br b_4 (Ret Tryd.prog 96 [SV.slice s_1, SV.slice s_2, SV.slice o_5_7] w1 fun
  (r : SV) (w1_4 : World) => ∃ (b_5 : Bool), r = SV.bool b_5 ∧ Keeps [b, b_1] w1 w1_4 ∧ Br b_5 (Ret Tryd.prog 96 [SV.slice s_3, SV.slice s_4, SV.slice o_6]
  w1_4 fun (r : SV) (w1 : World) => ∃ (b_6 : Bool), r = SV.bool b_6 ∧ Keeps [b, b_1] w1_4 w1 ∧ R (SV.bool b_6) w1) (R (SV.bool false) w1_4)) (R (SV.bool false)
  w1)) (R (SV.bool false) w1_3)) (R (SV.bool false) w1) → J b_2 w1) → Br (o_0 == 5) (Ret Tryd.prog 29 [SV.struct [SV.int IntKind.i64 o_5_0, SV.int IntKind.i64
  o_5_1, SV.int IntKind.i64 o_5_2, SV.int IntKind.i64 o_5_3, SV.int IntKind.i64 o_5_4, SV.int IntKind.i64 o_5_5, SV.int IntKind.i64 o_5_6, SV.slice (Sl.sub
  s_1 2 0 (Int.toNat (↑o_5_7.2 : Int)) s_1.3), SV.slice (Sl.sub s 1 0 (Int.toNat (↑o_5_8.2 : Int)) s.3)]] w1 fun (r : SV) (w1_3 : World) => ∃ (n : Int), r
  = SV.int IntKind.i64 n ∧ Keeps [b, b_1] w1 w1_3 ∧ ∀ (w1 : World), Upd [] [] w1_3 w1 → Ret Tryd.prog 20 [SV.int IntKind.i64 n] w1 fun (r : SV) (w1_4 : World)
  => ∃ (n : Int), r = SV.int IntKind.i64 n ∧ Keeps [b, b_1] w1 w1_4 ∧ Upd [] [] w1_3 w1_4 ∧ Ret Tryd.prog 60 [SV.struct [SV.int IntKind.i64 o_5_0, SV.int
  IntKind.i64 o_5_1, SV.int IntKind.i64 o_5_2, SV.int IntKind.i64 o_5_3, SV.int IntKind.i64 o_5_4, SV.int IntKind.i64 o_5_5, SV.int IntKind.i64 o_5_6, SV.slice
  o_5_7, SV.slice o_5_8]] w1_4 fun (r : SV) (w1 : World) => ∃ (n_1 : Int), r = SV.int IntKind.i64 n_1 ∧ Keeps [b, b_1] w1_4 w1 ∧ some (SV.box b 112 (SV.struct
  [SV.int IntKind.i64 o_0, SV.struct [SV.int IntKind.i64 o_1_0, SV.arr IntKind.u8 16 o_1_1], SV.struct [SV.int IntKind.i64 o_2_0, SV.arr IntKind.u8 16 o_2_1],
  SV.slice o_3, SV.struct [SV.int IntKind.i64 o_4_0, SV.int IntKind.i64 o_4_1, SV.bool o_4_2, SV.slice o_4_3], SV.struct [SV.int IntKind.i64 o_5_0, SV.int
  IntKind.i64 o_5_1, SV.int IntKind.i64 o_5_2, SV.int IntKind.i64 o_5_3, SV.int IntKind.i64 o_5_4, SV.int IntKind.i64 o_5_5, SV.int IntKind.i64 o_5_6, SV.slice
  o_5_7, SV.slice o_5_8], SV.slice o_6, SV.int IntKind.i64 o_7])) = some (SV.box b 112 (SV.struct [SV.int IntKind.i64 o_0, SV.struct [SV.int IntKind.i64 o_1_0,
  SV.arr IntKind.u8 16 o_1_1], SV.struct [SV.int IntKind.i64 o_2_0, SV.arr IntKind.u8 16 o_2_1], SV.slice o_3, SV.struct [SV.int IntKind.i64 o_4_0, SV.int
  IntKind.i64 o_4_1, SV.bool o_4_2, SV.slice o_4_3], SV.struct [SV.int IntKind.i64 o_5_0, SV.int IntKind.i64 o_5_1, SV.int IntKind.i64 o_5_2, SV.int IntKind.i64
  o_5_3, SV.int IntKind.i64 o_5_4, SV.int IntKind.i64 o_5_5, SV.int IntKind.i64 o_5_6, SV.slice o_5_7, SV.slice o_5_8], SV.slice o_6, SV.int IntKind.i64 o_7]))
  ∧ some (SV.box b_1 45 (SV.struct [SV.int IntKind.i64 o_5_0, SV.int IntKind.i64 o_5_1, SV.int IntKind.i64 o_5_2, SV.int IntKind.i64 o_5_3, SV.int IntKind.i64
  o_5_4, SV.int IntKind.i64 o_5_5, SV.int IntKind.i64 o_5_6, SV.slice (Sl.sub s_1 2 0 (Int.toNat (↑o_5_7.2 : Int)) s_1.3), SV.slice (Sl.sub s 1 0 (Int.toNat
  (↑o_5_8.2 : Int)) s.3)])) = some (SV.box b_1 45 (SV.struct [SV.int IntKind.i64 o_5_0, SV.int IntKind.i64 o_5_1, SV.int IntKind.i64 o_5_2, SV.int IntKind.i64
  o_5_3, SV.int IntKind.i64 o_5_4, SV.int IntKind.i64 o_5_5, SV.int IntKind.i64 o_5_6, SV.slice (Sl.sub s_1 2 0 (Int.toNat (↑o_5_7.2 : Int)) s_1.3), SV.slice
  (Sl.sub s 1 0 (Int.toNat (↑o_5_8.2 : Int)) s.3)])) ∧ J (n == n_1) w1) (Br (o_0 == 6) (Ret Tryd.prog 26 [SV.struct [SV.int IntKind.i64 o_1_0, SV.arr IntKind.u8
  16 o_1_1], SV.struct [SV.int IntKind.i64 o_2_0, SV.arr IntKind.u8 16 o_2_1], SV.struct [SV.int IntKind.i64 o_5_0, SV.int IntKind.i64 o_5_1, SV.int IntKind.i64
  o_5_2, SV.int IntKind.i64 o_5_3, SV.int IntKind.i64 o_5_4, SV.int IntKind.i64 o_5_5, SV.int IntKind.i64 o_5_6, SV.slice (Sl.sub s_1 2 0 (Int.toNat (↑o_5_7.2
  : Int)) s_1.3), SV.slice (Sl.sub s 1 0 (Int.toNat (↑o_5_8.2 : Int)) s.3)]] w1 fun (r : SV) (w1_3 : World) => ∃ (s_5 : Sl), ∃ (n : Int), r = SV.tuple [SV.slice
  s_5, SV.int IntKind.i64 n] ∧ Keeps [b, b_1] w1 w1_3 ∧ Ret Tryd.prog 55 [SV.struct [SV.int IntKind.i64 o_1_0, SV.arr IntKind.u8 16 o_1_1], SV.struct [SV.int
  IntKind.i64 o_2_0, SV.arr IntKind.u8 16 o_2_1], SV.struct [SV.int IntKind.i64 o_5_0, SV.int IntKind.i64 o_5_1, SV.int IntKind.i64 o_5_2, SV.int IntKind.i64
  o_5_3, SV.int IntKind.i64 o_5_4, SV.int IntKind.i64 o_5_5, SV.int IntKind.i64 o_5_6, SV.slice o_5_7, SV.slice o_5_8]] w1_3 fun (r : SV) (w1 : World) =>
  ∃ (s_6 : Sl), ∃ (n_1 : Int), r = SV.tuple [SV.slice s_6, SV.int IntKind.i64 n_1] ∧ Keeps [b, b_1] w1_3 w1 ∧ Ret Tryd.prog 20 [SV.int IntKind.i64 n] w1 fun
  (r : SV) (w1_4 : World) => ∃ (n : Int), r = SV.int IntKind.i64 n ∧ Keeps [b, b_1] w1 w1_4 ∧ Br (n == n_1) (Ret Tryd.prog 30 [SV.slice s_5, SV.slice s_6]
  w1_4 fun (r : SV) (w1 : World) => ∃ (b_2 : Bool), r = SV.bool b_2 ∧ Keeps [b, b_1] w1_4 w1 ∧ some (SV.box b 112 (SV.struct [SV.int IntKind.i64 o_0, SV.struct
  [SV.int IntKind.i64 o_1_0, SV.arr IntKind.u8 16 o_1_1], SV.struct [SV.int IntKind.i64 o_2_0, SV.arr IntKind.u8 16 o_2_1], SV.slice o_3, SV.struct [SV.int
  IntKind.i64 o_4_0, SV.int IntKind.i64 o_4_1, SV.bool o_4_2, SV.slice o_4_3], SV.struct [SV.int IntKind.i64 o_5_0, SV.int IntKind.i64 o_5_1, SV.int IntKind.i64
  o_5_2, SV.int IntKind.i64 o_5_3, SV.int IntKind.i64 o_5_4, SV.int IntKind.i64 o_5_5, SV.int IntKind.i64 o_5_6, SV.slice o_5_7, SV.slice o_5_8], SV.slice
  o_6, SV.int IntKind.i64 o_7])) = some (SV.box b 112 (SV.struct [SV.int IntKind.i64 o_0, SV.struct [SV.int IntKind.i64 o_1_0, SV.arr IntKind.u8 16 o_1_1],
  SV.struct [SV.int IntKind.i64 o_2_0, SV.arr IntKind.u8 16 o_2_1], SV.slice o_3, SV.struct [SV.int IntKind.i64 o_4_0, SV.int IntKind.i64 o_4_1, SV.bool o_4_2,
  SV.slice o_4_3], SV.struct [SV.int IntKind.i64 o_5_0, SV.int IntKind.i64 o_5_1, SV.int IntKind.i64 o_5_2, SV.int IntKind.i64 o_5_3, SV.int IntKind.i64 o_5_4,
  SV.int IntKind.i64 o_5_5, SV.int IntKind.i64 o_5_6, SV.slice o_5_7, SV.slice o_5_8], SV.slice o_6, SV.int IntKind.i64 o_7])) ∧ some (SV.box b_1 45 (SV.struct
  [SV.int IntKind.i64 o_5_0, SV.int IntKind.i64 o_5_1, SV.int IntKind.i64 o_5_2, SV.int IntKind.i64 o_5_3, SV.int IntKind.i64 o_5_4, SV.int IntKind.i64 o_5_5,
  SV.int IntKind.i64 o_5_6, SV.slice (Sl.sub s_1 2 0 (Int.toNat (↑o_5_7.2 : Int)) s_1.3), SV.slice (Sl.sub s 1 0 (Int.toNat (↑o_5_8.2 : Int)) s.3)])) = some
  (SV.box b_1 45 (SV.struct [SV.int IntKind.i64 o_5_0, SV.int IntKind.i64 o_5_1, SV.int IntKind.i64 o_5_2, SV.int IntKind.i64 o_5_3, SV.int IntKind.i64 o_5_4,
  SV.int IntKind.i64 o_5_5, SV.int IntKind.i64 o_5_6, SV.slice (Sl.sub s_1 2 0 (Int.toNat (↑o_5_7.2 : Int)) s_1.3), SV.slice (Sl.sub s 1 0 (Int.toNat (↑o_5_8.2
  : Int)) s.3)])) ∧ J b_2 w1) (some (SV.box b 112 (SV.struct [SV.int IntKind.i64 o_0, SV.struct [SV.int IntKind.i64 o_1_0, SV.arr IntKind.u8 16 o_1_1], SV.struct
  [SV.int IntKind.i64 o_2_0, SV.arr IntKind.u8 16 o_2_1], SV.slice o_3, SV.struct [SV.int IntKind.i64 o_4_0, SV.int IntKind.i64 o_4_1, SV.bool o_4_2, SV.slice
  o_4_3], SV.struct [SV.int IntKind.i64 o_5_0, SV.int IntKind.i64 o_5_1, SV.int IntKind.i64 o_5_2, SV.int IntKind.i64 o_5_3, SV.int IntKind.i64 o_5_4, SV.int
  IntKind.i64 o_5_5, SV.int IntKind.i64 o_5_6, SV.slice o_5_7, SV.slice o_5_8], SV.slice o_6, SV.int IntKind.i64 o_7])) = some (SV.box b 112 (SV.struct [SV.int
  IntKind.i64 o_0, SV.struct [SV.int IntKind.i64 o_1_0, SV.arr IntKind.u8 16 o_1_1], SV.struct [SV.int IntKind.i64 o_2_0, SV.arr IntKind.u8 16 o_2_1], SV.slice
  o_3, SV.struct [SV.int IntKind.i64 o_4_0, SV.int IntKind.i64 o_4_1, SV.bool o_4_2, SV.slice o_4_3], SV.struct [SV.int IntKind.i64 o_5_0, SV.int IntKind.i64
  o_5_1, SV.int IntKind.i64 o_5_2, SV.int IntKind.i64 o_5_3, SV.int IntKind.i64 o_5_4, SV.int IntKind.i64 o_5_5, SV.int IntKind.i64 o_5_6, SV.slice o_5_7,
  SV.slice o_5_8], SV.slice o_6, SV.int IntKind.i64 o_7])) ∧ some (SV.box b_1 45 (SV.struct [SV.int IntKind.i64 o_5_0, SV.int IntKind.i64 o_5_1, SV.int IntKind.i64
  o_5_2, SV.int IntKind.i64 o_5_3, SV.int IntKind.i64 o_5_4, SV.int IntKind.i64 o_5_5, SV.int IntKind.i64 o_5_6, SV.slice (Sl.sub s_1 2 0 (Int.toNat (↑o_5_7.2
  : Int)) s_1.3), SV.slice (Sl.sub s 1 0 (Int.toNat (↑o_5_8.2 : Int)) s.3)])) = some (SV.box b_1 45 (SV.struct [SV.int IntKind.i64 o_5_0, SV.int IntKind.i64
  o_5_1, SV.int IntKind.i64 o_5_2, SV.int IntKind.i64 o_5_3, SV.int IntKind.i64 o_5_4, SV.int IntKind.i64 o_5_5, SV.int IntKind.i64 o_5_6, SV.slice (Sl.sub
  s_1 2 0 (Int.toNat (↑o_5_7.2 : Int)) s_1.3), SV.slice (Sl.sub s 1 0 (Int.toNat (↑o_5_8.2 : Int)) s.3)])) ∧ J false w1_4)) (Br (o_0 == 8) (Need (decide (0
  ≤ (↑o_6.2 : Int)) && decide ((↑o_6.2 : Int) ≤ (↑s_3.3 : Int))) (Ret Tryd.prog 39 [SV.slice (Sl.sub s_3 2 0 (Int.toNat (↑o_6.2 : Int)) s_3.3)] w1 fun (r
  : SV) (w1_3 : World) => ∃ (s_5 : Sl), ∃ (n : Int), r = SV.tuple [SV.slice s_5, SV.int IntKind.i64 n] ∧ Keeps [b, b_1] w1 w1_3 ∧ Ret Tryd.prog 56 [SV.slice
  o_6] w1_3 fun (r : SV) (w1 : World) => ∃ (s_6 : Sl), ∃ (n_1 : Int), r = SV.tuple [SV.slice s_6, SV.int IntKind.i64 n_1] ∧ Keeps [b, b_1] w1_3 w1 ∧ Ret Tryd.prog
  20 [SV.int IntKind.i64 n] w1 fun (r : SV) (w1_4 : World) => ∃ (n : Int), r = SV.int IntKind.i64 n ∧ Keeps [b, b_1] w1 w1_4 ∧ Br (n == n_1) (Ret Tryd.prog
  30 [SV.slice s_5, SV.slice s_6] w1_4 fun (r : SV) (w1 : World) => ∃ (b_2 : Bool), r = SV.bool b_2 ∧ Keeps [b, b_1] w1_4 w1 ∧ some (SV.box b 112 (SV.struct
  [SV.int IntKind.i64 o_0, SV.struct [SV.int IntKind.i64 o_1_0, SV.arr IntKind.u8 16 o_1_1], SV.struct [SV.int IntKind.i64 o_2_0, SV.arr IntKind.u8 16 o_2_1],
  SV.slice o_3, SV.struct [SV.int IntKind.i64 o_4_0, SV.int IntKind.i64 o_4_1, SV.bool o_4_2, SV.slice o_4_3], SV.struct [SV.int IntKind.i64 o_5_0, SV.int
  IntKind.i64 o_5_1, SV.int IntKind.i64 o_5_2, SV.int IntKind.i64 o_5_3, SV.int IntKind.i64 o_5_4, SV.int IntKind.i64 o_5_5, SV.int IntKind.i64 o_5_6, SV.slice
  o_5_7, SV.slice o_5_8], SV.slice o_6, SV.int IntKind.i64 o_7])) = some (SV.box b 112 (SV.struct [SV.int IntKind.i64 o_0, SV.struct [SV.int IntKind.i64 o_1_0,
  SV.arr IntKind.u8 16 o_1_1], SV.struct [SV.int IntKind.i64 o_2_0, SV.arr IntKind.u8 16 o_2_1], SV.slice o_3, SV.struct [SV.int IntKind.i64 o_4_0, SV.int
  IntKind.i64 o_4_1, SV.bool o_4_2, SV.slice o_4_3], SV.struct [SV.int IntKind.i64 o_5_0, SV.int IntKind.i64 o_5_1, SV.int IntKind.i64 o_5_2, SV.int IntKind.i64
  o_5_3, SV.int IntKind.i64 o_5_4, SV.int IntKind.i64 o_5_5, SV.int IntKind.i64 o_5_6, SV.slice o_5_7, SV.slice o_5_8], SV.slice o_6, SV.int IntKind.i64 o_7]))
  ∧ some (SV.box b_1 45 (SV.struct [SV.int IntKind.i64 o_5_0, SV.int IntKind.i64 o_5_1, SV.int IntKind.i64 o_5_2, SV.int IntKind.i64 o_5_3, SV.int IntKind.i64
  o_5_4, SV.int IntKind.i64 o_5_5, SV.int IntKind.i64 o_5_6, SV.slice (Sl.sub s_1 2 0 (Int.toNat (↑o_5_7.2 : Int)) s_1.3), SV.slice (Sl.sub s 1 0 (Int.toNat
  (↑o_5_8.2 : Int)) s.3)])) = some (SV.box b_1 45 (SV.struct [SV.int IntKind.i64 o_5_0, SV.int IntKind.i64 o_5_1, SV.int IntKind.i64 o_5_2, SV.int IntKind.i64
  o_5_3, SV.int IntKind.i64 o_5_4, SV.int IntKind.i64 o_5_5, SV.int IntKind.i64 o_5_6, SV.slice (Sl.sub s_1 2 0 (Int.toNat (↑o_5_7.2 : Int)) s_1.3), SV.slice
  (Sl.sub s 1 0 (Int.toNat (↑o_5_8.2 : Int)) s.3)])) ∧ J b_2 w1) (some (SV.box b 112 (SV.struct [SV.int IntKind.i64 o_0, SV.struct [SV.int IntKind.i64 o_1_0,
  SV.arr IntKind.u8 16 o_1_1], SV.struct [SV.int IntKind.i64 o_2_0, SV.arr IntKind.u8 16 o_2_1], SV.slice o_3, SV.struct [SV.int IntKind.i64 o_4_0, SV.int
  IntKind.i64 o_4_1, SV.bool o_4_2, SV.slice o_4_3], SV.struct [SV.int IntKind.i64 o_5_0, SV.int IntKind.i64 o_5_1, SV.int IntKind.i64 o_5_2, SV.int IntKind.i64
  o_5_3, SV.int IntKind.i64 o_5_4, SV.int IntKind.i64 o_5_5, SV.int IntKind.i64 o_5_6, SV.slice o_5_7, SV.slice o_5_8], SV.slice o_6, SV.int IntKind.i64 o_7]))
  = some (SV.box b 112 (SV.struct [SV.int IntKind.i64 o_0, SV.struct [SV.int IntKind.i64 o_1_0, SV.arr IntKind.u8 16 o_1_1], SV.struct [SV.int IntKind.i64
  o_2_0, SV.arr IntKind.u8 16 o_2_1], SV.slice o_3, SV.struct [SV.int IntKind.i64 o_4_0, SV.int IntKind.i64 o_4_1, SV.bool o_4_2, SV.slice o_4_3], SV.struct
  [SV.int IntKind.i64 o_5_0, SV.int IntKind.i64 o_5_1, SV.int IntKind.i64 o_5_2, SV.int IntKind.i64 o_5_3, SV.int IntKind.i64 o_5_4, SV.int IntKind.i64 o_5_5,
  SV.int IntKind.i64 o_5_6, SV.slice o_5_7, SV.slice o_5_8], SV.slice o_6, SV.int IntKind.i64 o_7])) ∧ some (SV.box b_1 45 (SV.struct [SV.int IntKind.i64
  o_5_0, SV.int IntKind.i64 o_5_1, SV.int IntKind.i64 o_5_2, SV.int IntKind.i64 o_5_3, SV.int IntKind.i64 o_5_4, SV.int IntKind.i64 o_5_5, SV.int IntKind.i64
  o_5_6, SV.slice (Sl.sub s_1 2 0 (Int.toNat (↑o_5_7.2 : Int)) s_1.3), SV.slice (Sl.sub s 1 0 (Int.toNat (↑o_5_8.2 : Int)) s.3)])) = some (SV.box b_1 45 (SV.struct
  [SV.int IntKind.i64 o_5_0, SV.int IntKind.i64 o_5_1, SV.int IntKind.i64 o_5_2, SV.int IntKind.i64 o_5_3, SV.int IntKind.i64 o_5_4, SV.int IntKind.i64 o_5_5,
  SV.int IntKind.i64 o_5_6, SV.slice (Sl.sub s_1 2 0 (Int.toNat (↑o_5_7.2 : Int)) s_1.3), SV.slice (Sl.sub s 1 0 (Int.toNat (↑o_5_8.2 : Int)) s.3)])) ∧ J
  false w1_4))) (Br (o_0 == 9) (Ret Tryd.prog 36 [SV.struct [SV.int IntKind.i64 o_5_0, SV.int IntKind.i64 o_5_1, SV.int IntKind.i64 o_5_2, SV.int IntKind.i64
  o_5_3, SV.int IntKind.i64 o_5_4, SV.int IntKind.i64 o_5_5, SV.int IntKind.i64 o_5_6, SV.slice (Sl.sub s_1 2 0 (Int.toNat (↑o_5_7.2 : Int)) s_1.3), SV.slice
  (Sl.sub s 1 0 (Int.toNat (↑o_5_8.2 : Int)) s.3)]] w1 fun (r : SV) (w1_3 : World) => ∃ (n : Int), ∃ (b_2 : Bool), r = SV.tuple [SV.int IntKind.i64 n, SV.bool
  b_2] ∧ Keeps [b, b_1] w1 w1_3 ∧ Ret Tryd.prog 58 [SV.struct [SV.int IntKind.i64 o_5_0, SV.int IntKind.i64 o_5_1, SV.int IntKind.i64 o_5_2, SV.int IntKind.i64
  o_5_3, SV.int IntKind.i64 o_5_4, SV.int IntKind.i64 o_5_5, SV.int IntKind.i64 o_5_6, SV.slice o_5_7, SV.slice o_5_8]] w1_3 fun (r : SV) (w1 : World) =>
  ∃ (n_1 : Int), ∃ (b_3 : Bool), r = SV.tuple [SV.int IntKind.i64 n_1, SV.bool b_3] ∧ Keeps [b, b_1] w1_3 w1 ∧ Br (n == n_1) (some (SV.box b 112 (SV.struct
  [SV.int IntKind.i64 o_0, SV.struct [SV.int IntKind.i64 o_1_0, SV.arr IntKind.u8 16 o_1_1], SV.struct [SV.int IntKind.i64 o_2_0, SV.arr IntKind.u8 16 o_2_1],
  SV.slice o_3, SV.struct [SV.int IntKind.i64 o_4_0, SV.int IntKind.i64 o_4_1, SV.bool o_4_2, SV.slice o_4_3], SV.struct [SV.int IntKind.i64 o_5_0, SV.int
  IntKind.i64 o_5_1, SV.int IntKind.i64 o_5_2, SV.int IntKind.i64 o_5_3, SV.int IntKind.i64 o_5_4, SV.int IntKind.i64 o_5_5, SV.int IntKind.i64 o_5_6, SV.slice
  o_5_7, SV.slice o_5_8], SV.slice o_6, SV.int IntKind.i64 o_7])) = some (SV.box b 112 (SV.struct [SV.int IntKind.i64 o_0, SV.struct [SV.int IntKind.i64 o_1_0,
  SV.arr IntKind.u8 16 o_1_1], SV.struct [SV.int IntKind.i64 o_2_0, SV.arr IntKind.u8 16 o_2_1], SV.slice o_3, SV.struct [SV.int IntKind.i64 o_4_0, SV.int
  IntKind.i64 o_4_1, SV.bool o_4_2, SV.slice o_4_3], SV.struct [SV.int IntKind.i64 o_5_0, SV.int IntKind.i64 o_5_1, SV.int IntKind.i64 o_5_2, SV.int IntKind.i64
  o_5_3, SV.int IntKind.i64 o_5_4, SV.int IntKind.i64 o_5_5, SV.int IntKind.i64 o_5_6, SV.slice o_5_7, SV.slice o_5_8], SV.slice o_6, SV.int IntKind.i64 o_7]))
  ∧ some (SV.box b_1 45 (SV.struct [SV.int IntKind.i64 o_5_0, SV.int IntKind.i64 o_5_1, SV.int IntKind.i64 o_5_2, SV.int IntKind.i64 o_5_3, SV.int IntKind.i64
  o_5_4, SV.int IntKind.i64 o_5_5, SV.int IntKind.i64 o_5_6, SV.slice (Sl.sub s_1 2 0 (Int.toNat (↑o_5_7.2 : Int)) s_1.3), SV.slice (Sl.sub s 1 0 (Int.toNat
  (↑o_5_8.2 : Int)) s.3)])) = some (SV.box b_1 45 (SV.struct [SV.int IntKind.i64 o_5_0, SV.int IntKind.i64 o_5_1, SV.int IntKind.i64 o_5_2, SV.int IntKind.i64
  o_5_3, SV.int IntKind.i64 o_5_4, SV.int IntKind.i64 o_5_5, SV.int IntKind.i64 o_5_6, SV.slice (Sl.sub s_1 2 0 (Int.toNat (↑o_5_7.2 : Int)) s_1.3), SV.slice
  (Sl.sub s 1 0 (Int.toNat (↑o_5_8.2 : Int)) s.3)])) ∧ J (b_2 == b_3) w1) (some (SV.box b 112 (SV.struct [SV.int IntKind.i64 o_0, SV.struct [SV.int IntKind.i64
  o_1_0, SV.arr IntKind.u8 16 o_1_1], SV.struct [SV.int IntKind.i64 o_2_0, SV.arr IntKind.u8 16 o_2_1], SV.slice o_3, SV.struct [SV.int IntKind.i64 o_4_0,
  SV.int IntKind.i64 o_4_1, SV.bool o_4_2, SV.slice o_4_3], SV.struct [SV.int IntKind.i64 o_5_0, SV.int IntKind.i64 o_5_1, SV.int IntKind.i64 o_5_2, SV.int
  IntKind.i64 o_5_3, SV.int IntKind.i64 o_5_4, SV.int IntKind.i64 o_5_5, SV.int IntKind.i64 o_5_6, SV.slice o_5_7, SV.slice o_5_8], SV.slice o_6, SV.int IntKind.i64
  o_7])) = some (SV.box b 112 (SV.struct [SV.int IntKind.i64 o_0, SV.struct [SV.int IntKind.i64 o_1_0, SV.arr IntKind.u8 16 o_1_1], SV.struct [SV.int IntKind.i64
  o_2_0, SV.arr IntKind.u8 16 o_2_1], SV.slice o_3, SV.struct [SV.int IntKind.i64 o_4_0, SV.int IntKind.i64 o_4_1, SV.bool o_4_2, SV.slice o_4_3], SV.struct
  [SV.int IntKind.i64 o_5_0, SV.int IntKind.i64 o_5_1, SV.int IntKind.i64 o_5_2, SV.int IntKind.i64 o_5_3, SV.int IntKind.i64 o_5_4, SV.int IntKind.i64 o_5_5,
  SV.int IntKind.i64 o_5_6, SV.slice o_5_7, SV.slice o_5_8], SV.slice o_6, SV.int IntKind.i64 o_7])) ∧ some (SV.box b_1 45 (SV.struct [SV.int IntKind.i64
  o_5_0, SV.int IntKind.i64 o_5_1, SV.int IntKind.i64 o_5_2, SV.int IntKind.i64 o_5_3, SV.int IntKind.i64 o_5_4, SV.int IntKind.i64 o_5_5, SV.int IntKind.i64
  o_5_6, SV.slice (Sl.sub s_1 2 0 (Int.toNat (↑o_5_7.2 : Int)) s_1.3), SV.slice (Sl.sub s 1 0 (Int.toNat (↑o_5_8.2 : Int)) s.3)])) = some (SV.box b_1 45 (SV.struct
  [SV.int IntKind.i64 o_5_0, SV.int IntKind.i64 o_5_1, SV.int IntKind.i64 o_5_2, SV.int IntKind.i64 o_5_3, SV.int IntKind.i64 o_5_4, SV.int IntKind.i64 o_5_5,
  SV.int IntKind.i64 o_5_6, SV.slice (Sl.sub s_1 2 0 (Int.toNat (↑o_5_7.2 : Int)) s_1.3), SV.slice (Sl.sub s 1 0 (Int.toNat (↑o_5_8.2 : Int)) s.3)])) ∧ J
  false w1)) (Br (o_0 == 10) (Ret Tryd.prog 35 [SV.struct [SV.int IntKind.i64 o_5_0, SV.int IntKind.i64 o_5_1, SV.int IntKind.i64 o_5_2, SV.int IntKind.i64
  o_5_3, SV.int IntKind.i64 o_5_4, SV.int IntKind.i64 o_5_5, SV.int IntKind.i64 o_5_6, SV.slice (Sl.sub s_1 2 0 (Int.toNat (↑o_5_7.2 : Int)) s_1.3), SV.slice
  (Sl.sub s 1 0 (Int.toNat (↑o_5_8.2 : Int)) s.3)], SV.int IntKind.i64 o_7] w1 fun (r : SV) (w1_3 : World) => ∃ (n : Int), ∃ (n_1 : Int), ∃ (n_2 : Int), ∃
  (n_3 : Int), ∃ (n_4 : Int), ∃ (n_5 : Int), ∃ (n_6 : Int), ∃ (s_5 : Sl), ∃ (s_6 : Sl), r = SV.struct [SV.int IntKind.i64 n, SV.int IntKind.i64 n_1, SV.int
  IntKind.i64 n_2, SV.int IntKind.i64 n_3, SV.int IntKind.i64 n_4, SV.int IntKind.i64 n_5, SV.int IntKind.i64 n_6, SV.slice s_5, SV.slice s_6] ∧ Keeps [b,
  b_1] w1 w1_3 ∧ ∀ (b_2 : Nat) (w1 : World), Upd [] [b_2] w1_3 w1 → Ret Tryd.prog 57 [SV.struct [SV.int IntKind.i64 o_5_0, SV.int IntKind.i64 o_5_1, SV.int
  IntKind.i64 o_5_2, SV.int IntKind.i64 o_5_3, SV.int IntKind.i64 o_5_4, SV.int IntKind.i64 o_5_5, SV.int IntKind.i64 o_5_6, SV.slice o_5_7, SV.slice o_5_8],
  SV.int IntKind.i64 o_7] w1 fun (r : SV) (w1_4 : World) => ∃ (n_7 : Int), ∃ (n_8 : Int), ∃ (n_9 : Int), ∃ (n_10 : Int), ∃ (n_11 : Int), ∃ (n_12 : Int), ∃
  (n_13 : Int), ∃ (s_7 : Sl), ∃ (s_8 : Sl), r = SV.struct [SV.int IntKind.i64 n_7, SV.int IntKind.i64 n_8, SV.int IntKind.i64 n_9, SV.int IntKind.i64 n_10,
  SV.int IntKind.i64 n_11, SV.int IntKind.i64 n_12, SV.int IntKind.i64 n_13, SV.slice s_7, SV.slice s_8] ∧ Keeps [b, b_1, b_2] w1 w1_4 ∧ Upd [] [] w1_3 w1_4
  ∧ Ret Tryd.prog 28 [SV.struct [SV.int IntKind.i64 n, SV.int IntKind.i64 n_1, SV.int IntKind.i64 n_2, SV.int IntKind.i64 n_3, SV.int IntKind.i64 n_4, SV.int
  IntKind.i64 n_5, SV.int IntKind.i64 n_6, SV.slice s_5, SV.slice s_6], SV.struct [SV.int IntKind.i64 n_7, SV.int IntKind.i64 n_8, SV.int IntKind.i64 n_9,
  SV.int IntKind.i64 n_10, SV.int IntKind.i64 n_11, SV.int IntKind.i64 n_12, SV.int IntKind.i64 n_13, SV.slice s_7, SV.slice s_8]] w1_4 fun (r : SV) (w1 :
  World) => ∃ (b_3 : Bool), r = SV.bool b_3 ∧ Keeps [b, b_1, b_2] w1_4 w1 ∧ some (SV.box b 112 (SV.struct [SV.int IntKind.i64 o_0, SV.struct [SV.int IntKind.i64
  o_1_0, SV.arr IntKind.u8 16 o_1_1], SV.struct [SV.int IntKind.i64 o_2_0, SV.arr IntKind.u8 16 o_2_1], SV.slice o_3, SV.struct [SV.int IntKind.i64 o_4_0,
  SV.int IntKind.i64 o_4_1, SV.bool o_4_2, SV.slice o_4_3], SV.struct [SV.int IntKind.i64 o_5_0, SV.int IntKind.i64 o_5_1, SV.int IntKind.i64 o_5_2, SV.int
  IntKind.i64 o_5_3, SV.int IntKind.i64 o_5_4, SV.int IntKind.i64 o_5_5, SV.int IntKind.i64 o_5_6, SV.slice o_5_7, SV.slice o_5_8], SV.slice o_6, SV.int IntKind.i64
  o_7])) = some (SV.box b 112 (SV.struct [SV.int IntKind.i64 o_0, SV.struct [SV.int IntKind.i64 o_1_0, SV.arr IntKind.u8 16 o_1_1], SV.struct [SV.int IntKind.i64
  o_2_0, SV.arr IntKind.u8 16 o_2_1], SV.slice o_3, SV.struct [SV.int IntKind.i64 o_4_0, SV.int IntKind.i64 o_4_1, SV.bool o_4_2, SV.slice o_4_3], SV.struct
  [SV.int IntKind.i64 o_5_0, SV.int IntKind.i64 o_5_1, SV.int IntKind.i64 o_5_2, SV.int IntKind.i64 o_5_3, SV.int IntKind.i64 o_5_4, SV.int IntKind.i64 o_5_5,
  SV.int IntKind.i64 o_5_6, SV.slice o_5_7, SV.slice o_5_8], SV.slice o_6, SV.int IntKind.i64 o_7])) ∧ some (SV.box b_1 45 (SV.struct [SV.int IntKind.i64
  o_5_0, SV.int IntKind.i64 o_5_1, SV.int IntKind.i64 o_5_2, SV.int IntKind.i64 o_5_3, SV.int IntKind.i64 o_5_4, SV.int IntKind.i64 o_5_5, SV.int IntKind.i64
  o_5_6, SV.slice (Sl.sub s_1 2 0 (Int.toNat (↑o_5_7.2 : Int)) s_1.3), SV.slice (Sl.sub s 1 0 (Int.toNat (↑o_5_8.2 : Int)) s.3)])) = some (SV.box b_1 45 (SV.struct
  [SV.int IntKind.i64 o_5_0, SV.int IntKind.i64 o_5_1, SV.int IntKind.i64 o_5_2, SV.int IntKind.i64 o_5_3, SV.int IntKind.i64 o_5_4, SV.int IntKind.i64 o_5_5,
  SV.int IntKind.i64 o_5_6, SV.slice (Sl.sub s_1 2 0 (Int.toNat (↑o_5_7.2 : Int)) s_1.3), SV.slice (Sl.sub s 1 0 (Int.toNat (↑o_5_8.2 : Int)) s.3)])) ∧ J
  b_3 w1) (some (SV.box b 112 (SV.struct [SV.int IntKind.i64 o_0, SV.struct [SV.int IntKind.i64 o_1_0, SV.arr IntKind.u8 16 o_1_1], SV.struct [SV.int IntKind.i64
  o_2_0, SV.arr IntKind.u8 16 o_2_1], SV.slice o_3, SV.struct [SV.int IntKind.i64 o_4_0, SV.int IntKind.i64 o_4_1, SV.bool o_4_2, SV.slice o_4_3], SV.struct
  [SV.int IntKind.i64 o_5_0, SV.int IntKind.i64 o_5_1, SV.int IntKind.i64 o_5_2, SV.int IntKind.i64 o_5_3, SV.int IntKind.i64 o_5_4, SV.int IntKind.i64 o_5_5,
  SV.int IntKind.i64 o_5_6, SV.slice o_5_7, SV.slice o_5_8], SV.slice o_6, SV.int IntKind.i64 o_7])) = some (SV.box b 112 (SV.struct [SV.int IntKind.i64 o_0,
  SV.struct [SV.int IntKind.i64 o_1_0, SV.arr IntKind.u8 16 o_1_1], SV.struct [SV.int IntKind.i64 o_2_0, SV.arr IntKind.u8 16 o_2_1], SV.slice o_3, SV.struct
  [SV.int IntKind.i64 o_4_0, SV.int IntKind.i64 o_4_1, SV.bool o_4_2, SV.slice o_4_3], SV.struct [SV.int IntKind.i64 o_5_0, SV.int IntKind.i64 o_5_1, SV.int
  IntKind.i64 o_5_2, SV.int IntKind.i64 o_5_3, SV.int IntKind.i64 o_5_4, SV.int IntKind.i64 o_5_5, SV.int IntKind.i64 o_5_6, SV.slice o_5_7, SV.slice o_5_8],
  SV.slice o_6, SV.int IntKind.i64 o_7])) ∧ some (SV.box b_1 45 (SV.struct [SV.int IntKind.i64 o_5_0, SV.int IntKind.i64 o_5_1, SV.int IntKind.i64 o_5_2,
  SV.int IntKind.i64 o_5_3, SV.int IntKind.i64 o_5_4, SV.int IntKind.i64 o_5_5, SV.int IntKind.i64 o_5_6, SV.slice (Sl.sub s_1 2 0 (Int.toNat (↑o_5_7.2 :
  Int)) s_1.3), SV.slice (Sl.sub s 1 0 (Int.toNat (↑o_5_8.2 : Int)) s.3)])) = some (SV.box b_1 45 (SV.struct [SV.int IntKind.i64 o_5_0, SV.int IntKind.i64
  o_5_1, SV.int IntKind.i64 o_5_2, SV.int IntKind.i64 o_5_3, SV.int IntKind.i64 o_5_4, SV.int IntKind.i64 o_5_5, SV.int IntKind.i64 o_5_6, SV.slice (Sl.sub
  s_1 2 0 (Int.toNat (↑o_5_7.2 : Int)) s_1.3), SV.slice (Sl.sub s 1 0 (Int.toNat (↑o_5_8.2 : Int)) s.3)])) ∧ J true w1)))))))
theorem f68_of (o_0 : Int) (o_1_0 : Int) (o_1_1 : Nat → Int) (o_2_0 : Int) (o_2_1 : Nat → Int) (o_3 : Sl) (o_4_0 : Int) (o_4_1 : Int) (o_4_2 : Bool) (o_4_3 : Sl) (o_5_0 : Int) (o_5_1 : Int) (o_5_2 : Int) (o_5_3 : Int) (o_5_4 : Int) (o_5_5 : Int) (o_5_6 : Int) (o_5_7 : Sl) (o_5_8 : Sl) (o_6 : Sl) (o_7 : Int) (w : World) (R : SV → World → Prop) (h : vc68 o_0 o_1_0 o_1_1 o_2_0 o_2_1 o_3 o_4_0 o_4_1 o_4_2 o_4_3 o_5_0 o_5_1 o_5_2 o_5_3 o_5_4 o_5_5 o_5_6 o_5_7 o_5_8 o_6 o_7 w R) : Ret Tryd.prog 68 [.struct [.int .i64 o_0, .struct [.int .i64 o_1_0, .arr .u8 16 o_1_1], .struct [.int .i64 o_2_0, .arr .u8 16 o_2_1], .slice o_3, .struct [.int .i64 o_4_0, .int .i64 o_4_1, .bool o_4_2, .slice o_4_3], .struct [.int .i64 o_5_0, .int .i64 o_5_1, .int .i64 o_5_2, .int .i64 o_5_3, .int .i64 o_5_4, .int .i64 o_5_5, .int .i64 o_5_6, .slice o_5_7, .slice o_5_8], .slice o_6, .int .i64 o_7]] w R :=
  have e : vc68 o_0 o_1_0 o_1_1 o_2_0 o_2_1 o_3 o_4_0 o_4_1 o_4_2 o_4_3 o_5_0 o_5_1 o_5_2 o_5_3 o_5_4 o_5_5 o_5_6 o_5_7 o_5_8 o_6 o_7 w R = fnVC X Tryd.f68 a68 [.struct [.int .i64 o_0, .struct [.int .i64 o_1_0, .arr .u8 16 o_1_1], .struct [.int .i64 o_2_0, .arr .u8 16 o_2_1], .slice o_3, .struct [.int .i64 o_4_0, .int .i64 o_4_1, .bool o_4_2, .slice o_4_3], .struct [.int .i64 o_5_0, .int .i64 o_5_1, .int .i64 o_5_2, .int .i64 o_5_3, .int .i64 o_5_4, .int .i64 o_5_5, .int .i64 o_5_6, .slice o_5_7, .slice o_5_8], .slice o_6, .int .i64 o_7]] w R := by kernel_rfl
  fnVC_sound X_ok (n := a68) (e ▸ h) (by kernel_rfl) (by kernel_rfl) rfl rfl

def vc95 (l : Sl) (w : World) (R : SV → World → Prop) : Prop :=
  ∃ (I : Sl → Sl → Int → World → Prop),
    ∃ (M : Sl → Sl → Int → World → Nat),
      I { ptr := none, len := 0, cap := 0 } { ptr := none, len := 0, cap := 0 } 0 w ∧
        ∀ (s s_1 : Sl) (n : Int) (w1 : World),
          I s s_1 n w1 →
            Br (decide (n < (↑l.2 : Int)))
              (Need (decide (0 ≤ n) && decide (n < (↑l.2 : Int)) && Option.isSome l.1)
                (∃ (s_2 : Sl),
                  World.cell? w1 (Addr.add (Sl.at l 2 (Int.toNat n)) 1) = some (Sl.val s_2) ∧
                    Ret Tryd.prog 32 [SV.slice s_2] w1 fun (r : SV) (w1_1 : World) =>
                      ∃ (s_3 : Sl),
                        r = SV.slice s_3 ∧
                          ∀ (b : Nat) (w1_2 : World),
                            Upd [] [b] w1_1 w1_2 →
                              (World.heap w1_2)[b]? = some (Obj.cells { toList := SV.cells (SV.struct [SV.slice s_3]) } 28) →
                                Vc.Append 28 1 24 s_1 { ptr := some { block := b, off := 0 }, len := 1, cap := 1 } [] w1_2 fun (r : Sl) (w : World) =>
                                  Need (decide (0 ≤ n) && decide (n < (↑l.2 : Int)) && Option.isSome l.1)
                                    (∃ (n_1 : Int),
                                      World.cell? w (Sl.at l 2 (Int.toNat n)) = some (Value.int IntKind.i64 n_1) ∧
                                        Need (decide (0 ≤ n) && decide (n < (↑l.2 : Int)) && Option.isSome l.1)
                                          (∃ (s_4 : Sl),
                                            World.cell? w (Addr.add (Sl.at l 2 (Int.toNat n)) 1) = some (Sl.val s_4) ∧
                                              Need (decide (0 ≤ (↑s_4.2 : Int)) && decide ((↑s_4.2 : Int) ≤ (↑s_3.3 : Int)))
                                                (∀ (b : Nat) (w1_3 : World),
                                                  Upd [] [b] w w1_3 →
                                                    (World.heap w1_3)[b]? =
                                                        some
                                                          (Obj.cells
                                                            {
                                                              toList :=
                                                                SV.cells
                                                                  (SV.struct [SV.struct [SV.int IntKind.i64 n_1, SV.slice (Sl.sub s_3 1 0 (Int.toNat (↑s_4.2 : Int)) s_3.3)]]) }
                                                            60) →
                                                      Vc.Append 60 2 32 s { ptr := some { block := b, off := 0 }, len := 1, cap := 1 } [] w1_3 fun (r_1 : Sl) (w : World) =>
                                                        I r_1 r (wr IntKind.i64 (n + 1)) w ∧ M r_1 r (wr IntKind.i64 (n + 1)) w < M s s_1 n w1)))))
              (∀ (b : Nat) (w1_1 : World),
                Upd [] [b] w1 w1_1 →
                  (World.heap w1_1)[b]? = some (Obj.cells { toList := SV.cells (SV.struct [SV.struct [SV.int IntKind.i64 99, SV.slice { ptr := none, len := 0, cap := 0 }]]) } 60) →
                    Vc.Append 60 2 32 s { ptr := some { block := b, off := 0 }, len := 1, cap := 1 } [] w1_1 fun (r : Sl) (w : World) => R (SV.tuple [SV.slice r, SV.slice s_1]) w)
theorem f95_of (l : Sl) (w : World) (R : SV → World → Prop) (h : vc95 l w R) : Ret Tryd.prog 95 [.slice l] w R :=
  have e : vc95 l w R = fnVC X Tryd.f95 a95 [.slice l] w R := by kernel_rfl
  fnVC_sound X_ok (n := a95) (e ▸ h) (by kernel_rfl) (by kernel_rfl) rfl rfl

def vc96 (m : Sl) (p1 : Sl) (l : Sl) (w : World) (R : SV → World → Prop) : Prop :=
  ∀ (J : World → Prop),
    (∀ (w1 : World),
        (∃ (I : Int → World → Prop),
            ∃ (M : Int → World → Nat),
              I 0 w1 ∧
                ∀ (n : Int) (w1 : World),
                  I n w1 →
                    Br (decide (n < (↑l.2 : Int)))
                      (Need (decide (0 ≤ n) && decide (n < (↑p1.2 : Int)) && Option.isSome p1.1)
                        (∃ (s : Sl),
                          World.cell? w1 (Sl.at p1 1 (Int.toNat n)) = some (Sl.val s) ∧
                            Need (decide (0 ≤ n) && decide (n < (↑l.2 : Int)) && Option.isSome l.1)
                              (∃ (s_1 : Sl),
                                World.cell? w1 (Addr.add (Sl.at l 2 (Int.toNat n)) 1) = some (Sl.val s_1) ∧
                                  ∀ (w1_1 : World),
                                    Upd [] [] w1 w1_1 →
                                      Ret Tryd.prog 34 [SV.slice s, SV.slice s_1] w1_1 fun (r : SV) (w1_2 : World) =>
                                        ∃ (b : Bool), r = SV.bool b ∧ Br (!b) (R (SV.bool false) w1_2) (I (wr IntKind.i64 (n + 1)) w1_2 ∧ M (wr IntKind.i64 (n + 1)) w1_2 < M n w1))))
                      (R (SV.bool true) w1)) →
          J w1) →
      Br ((↑m.2 : Int) != wr IntKind.i64 ((↑l.2 : Int) + 1)) (R (SV.bool false) w)
        (Need (decide (0 ≤ (↑l.2 : Int)) && decide ((↑l.2 : Int) < (↑m.2 : Int)) && Option.isSome m.1)
          (∃ (n : Int),
            World.cell? w (Sl.at m 2 (Int.toNat (↑l.2 : Int))) = some (Value.int IntKind.i64 n) ∧
              Br (n != 99) (R (SV.bool false) w)
                (Need (decide (0 ≤ (↑l.2 : Int)) && decide ((↑l.2 : Int) ≤ (↑m.3 : Int)))
                  (Ret Tryd.prog 47 [SV.slice (Sl.sub m 2 0 (Int.toNat (↑l.2 : Int)) m.3), SV.slice l] w fun (r : SV) (w1 : World) =>
                    ∃ (b : Bool), r = SV.bool b ∧ Br (!b) (R (SV.bool false) w1) (J w1)))))
theorem f96_of (m : Sl) (p1 : Sl) (l : Sl) (w : World) (R : SV → World → Prop) (h : vc96 m p1 l w R) : Ret Tryd.prog 96 [.slice m, .slice p1, .slice l] w R :=
  have e : vc96 m p1 l w R = fnVC X Tryd.f96 a96 [.slice m, .slice p1, .slice l] w R := by kernel_rfl
  fnVC_sound X_ok (n := a96) (e ▸ h) (by kernel_rfl) (by kernel_rfl) rfl rfl

def vc17 (script : Sl) (lo : Int) (hi : Int) (w : World) (R : SV → World → Prop) : Prop := Ret Tryd.prog 18 [] w fun (r : SV) (w1 : World) => ∃ (b : Bool),
  r = SV.bool b ∧ ∃ (I : Bool → Int → World → Prop), ∃ (M : Bool → Int → World → Nat), I b 0 w1 ∧ ∀ (b : Bool) (n : Int) (w1 : World), I b n w1 → ∀ (J : World
  → Prop), (∀ (w1_1 : World), (∀ (J : Bool → World → Prop), (∀ (b_1 : Bool) (w1_2 : World), I b_1 (wr IntKind.i64 (n + 1)) w1_2 ∧ M b_1 (wr IntKind.i64 (n
  + 1)) w1_2 < M b n w1 → J b_1 w1_2) → Need (decide (0 ≤ n) && decide (n < (↑script.2 : Int)) && Option.isSome script.1) (∃ (n_1 : Int), World.cell? w1_1
  (Sl.at script 51 (Int.toNat n)) = some (Value.int IntKind.i64 n_1) ∧ ∃ (n_2 : Int), World.cell? w1_1 (Addr.add (Sl.at script 51 (Int.toNat n)) 1) = some
  (Value.int IntKind.i64 n_2) ∧ ∃ (f : Nat → Int), (∀ (i : Nat), i < 16 → World.cell? w1_1 (Addr.add (Sl.at script 51 (Int.toNat n)) (2 + i)) = some (Value.int
  IntKind.u8 (f i))) ∧ ∃ (n_3 : Int), World.cell? w1_1 (Addr.add (Sl.at script 51 (Int.toNat n)) 18) = some (Value.int IntKind.i64 n_3) ∧ ∃ (f_1 : Nat → Int),
  (∀ (i : Nat), i < 16 → World.cell? w1_1 (Addr.add (Sl.at script 51 (Int.toNat n)) (19 + i)) = some (Value.int IntKind.u8 (f_1 i))) ∧ ∃ (s : Sl), World.cell?
  w1_1 (Addr.add (Sl.at script 51 (Int.toNat n)) 35) = some (Sl.val s) ∧ ∃ (n_4 : Int), World.cell? w1_1 (Addr.add (Sl.at script 51 (Int.toNat n)) 36) = some
  (Value.int IntKind.i64 n_4) ∧ ∃ (n_5 : Int), World.cell? w1_1 (Addr.add (Sl.at script 51 (Int.toNat n)) 37) = some (Value.int IntKind.i64 n_5) ∧ ∃ (b_1
  : Bool), World.cell? w1_1 (Addr.add (Sl.at script 51 (Int.toNat n)) 38) = some (Value.bool b_1) ∧ ∃ (s_1 : Sl), World.cell? w1_1 (Addr.add (Sl.at script
  51 (Int.toNat n)) 39) = some (Sl.val s_1) ∧ ∃ (n_6 : Int), World.cell? w1_1 (Addr.add (Sl.at script 51 (Int.toNat n)) 40) = some (Value.int IntKind.i64
  n_6) ∧ ∃ (n_7 : Int), World.cell? w1_1 (Addr.add (Sl.at script 51 (Int.toNat n)) 41) = some (Value.int IntKind.i64 n_7) ∧ ∃ (n_8 : Int), World.cell? w1_1
  (Addr.add (Sl.at script 51 (Int.toNat n)) 42) = some (Value.int IntKind.i64 n_8) ∧ ∃ (n_9 : Int), World.cell? w1_1 (Addr.add (Sl.at script 51 (Int.toNat
  n)) 43) = some (Value.int IntKind.i64 n_9) ∧ ∃ (n_10 : Int), World.cell? w1_1 (Addr.add (Sl.at script 51 (Int.toNat n)) 44) = some (Value.int IntKind.i64
  n_10) ∧ ∃ (n_11 : Int), World.cell? w1_1 (Addr.add (Sl.at script 51 (Int.toNat n)) 45) = some (Value.int IntKind.i64 n_11) ∧ ∃ (n_12 : Int), World.cell?
  w1_1 (Addr.add (Sl.at script 51 (Int.toNat n)) 46) = some (Value.int IntKind.i64 n_12) ∧ ∃ (s_2 : Sl), World.cell? w1_1 (Addr.add (Sl.at script 51 (Int.toNat
  n)) 47) = some (Sl.val s_2) ∧ ∃ (s_3 : Sl), World.cell? w1_1 (Addr.add (Sl.at script 51 (Int.toNat n)) 48) = some (Sl.val s_3) ∧ ∃ (s_4 : Sl), World.cell?
  w1_1 (Addr.add (Sl.at script 51 (Int.toNat n)) 49) = some (Sl.val s_4) ∧ ∃ (n_13 : Int), World.cell? w1_1 (Addr.add (Sl.at script 51 (Int.toNat n)) 50)
  = some (Value.int IntKind.i64 n_13) ∧ ∀ (b_2 : Nat), Br (decide (n_1 < lo)) (∀ (w1 : World), Upd [] [b_2] w1_1 w1 → J b w1) (Br (decide (n_1 > hi)) (∀ (w1
  : World), Upd [] [b_2] w1_1 w1 → J b w1) (∀ (J_1 : Bool → World → Prop), (∀ (b : Bool) (w1 : World), Br b (Ret Tryd.prog 66 [SV.struct [SV.int IntKind.i64
  n_1, SV.struct [SV.int IntKind.i64 n_2, SV.arr IntKind.u8 16 f], SV.struct [SV.int IntKind.i64 n_3, SV.arr IntKind.u8 16 f_1], SV.slice s, SV.struct [SV.int
  IntKind.i64 n_4, SV.int IntKind.i64 n_5, SV.bool b_1, SV.slice s_1], SV.struct [SV.int IntKind.i64 n_6, SV.int IntKind.i64 n_7, SV.int IntKind.i64 n_8,
  SV.int IntKind.i64 n_9, SV.int IntKind.i64 n_10, SV.int IntKind.i64 n_11, SV.int IntKind.i64 n_12, SV.slice s_2, SV.slice s_3], SV.slice s_4, SV.int IntKind.i64
  n_13]] w1 fun (r : SV) (w1_2 : World) => ∃ (b : Bool), r = SV.bool b ∧ Keeps [b_2] w1 w1_2 ∧ J b w1_2) (Br (n_1 == 2) (Ret Tryd.prog 67 [SV.struct [SV.int
  IntKind.i64 n_1, SV.struct [SV.int IntKind.i64 n_2, SV.arr IntKind.u8 16 f], SV.struct [SV.int IntKind.i64 n_3, SV.arr IntKind.u8 16 f_1], SV.slice s, SV.struct
  [SV.int IntKind.i64 n_4, SV.int IntKind.i64 n_5, SV.bool b_1, SV.slice s_1], SV.struct [SV.int IntKind.i64 n_6, SV.int IntKind.i64 n_7, SV.int IntKind.i64
  n_8, SV.int IntKind.i64 n_9, SV.int IntKind.i64 n_10, SV.int IntKind.i64 n_11, SV.int IntKind.i64 n_12, SV.slice s_2, SV.slice s_3], SV.slice s_4, SV.int
  IntKind.i64 n_13]] w1 fun (r : SV) (w1_2 : World) => ∃ (b : Bool), r = SV.bool b ∧ Keeps [b_2] w1 w1_2 ∧ J b w1_2) (Br (n_1 == 3) (Ret Tryd.prog 67 [SV.struct
  [SV.int IntKind.i64 n_1, SV.struct [SV.int IntKind.i64 n_2, SV.arr IntKind.u8 16 f], SV.struct [SV.int IntKind.i64 n_3, SV.arr IntKind.u8 16 f_1], SV.slice
  s, SV.struct [SV.int IntKind.i64 n_4, SV.int IntKind.i64 n_5, SV.bool b_1, SV.slice s_1], SV.struct [SV.int IntKind.i64 n_6, SV.int IntKind.i64 n_7, SV.int
  IntKind.i64 n_8, SV.int IntKind.i64 n_9, SV.int IntKind.i64 n_10, SV.int IntKind.i64 n_11, SV.int IntKind.i64 n_12, SV.slice s_2, SV.slice s_3], SV.slice
  s_4, SV.int IntKind.i64 n_13]] w1 fun (r : SV) (w1_2 : World) => ∃ (b : Bool), r = SV.bool b ∧ Keeps [b_2] w1 w1_2 ∧ J b w1_2) (Ret Tryd.prog 68 [SV.struct
  [SV.int IntKind.i64 n_1, SV.struct [SV.int IntKind.i64 n_2, SV.arr IntKind.u8 16 f], SV.struct [SV.int IntKind.i64 n_3, SV.arr IntKind.u8 16 f_1], SV.slice
  s, SV.struct [SV.int IntKind.i64 n_4, SV.int IntKind.i64 n_5, SV.bool b_1, SV.slice s_1], SV.struct [SV.int IntKind.i64 n_6, SV.int IntKind.i64 n_7, SV.int
  IntKind.i64 n_8, SV.int IntKind.i64 n_9, SV.int IntKind.i64 n_10, SV.int IntKind.i64 n_11, SV.int IntKind.i64 n_12, SV.slice s_2, SV.slice s_3], SV.slice
  s_4, SV.int IntKind.i64 n_13]] w1 fun (r : SV) (w1_2 : World) => ∃ (b : Bool), r = SV.bool b ∧ Keeps [b_2] w1 w1_2 ∧ J b w1_2))) → J_1 b w1) → Br (n_1 ==
  1) (∀ (w1 : World), Upd [] [b_2] w1_1 w1 → some (SV.box b_2 112 (SV.struct [SV.int IntKind.i64 n_1, SV.struct [SV.int IntKind.i64 n_2, SV.arr IntKind.u8
  16 f], SV.struct [SV.int IntKind.i64 n_3, SV.arr IntKind.u8 16 f_1], SV.slice s, SV.struct [SV.int IntKind.i64 n_4, SV.int IntKind.i64 n_5, SV.bool b_1,
  SV.slice s_1], SV.struct [SV.int IntKind.i64 n_6, SV.int IntKind.i64 n_7, SV.int IntKind.i64 n_8, SV.int IntKind.i64 n_9, SV.int IntKind.i64 n_10, SV.int
  IntKind.i64 n_11, SV.int IntKind.i64 n_12, SV.slice s_2, SV.slice s_3], SV.slice s_4, SV.int IntKind.i64 n_13])) = some (SV.box b_2 112 (SV.struct [SV.int
  IntKind.i64 n_1, SV.struct [SV.int IntKind.i64 n_2, SV.arr IntKind.u8 16 f], SV.struct [SV.int IntKind.i64 n_3, SV.arr IntKind.u8 16 f_1], SV.slice s, SV.struct
  [SV.int IntKind.i64 n_4, SV.int IntKind.i64 n_5, SV.bool b_1, SV.slice s_1], SV.struct [SV.int IntKind.i64 n_6, SV.int IntKind.i64 n_7, SV.int IntKind.i64
  n_8, SV.int IntKind.i64 n_9, SV.int IntKind.i64 n_10, SV.int IntKind.i64 n_11, SV.int IntKind.i64 n_12, SV.slice s_2, SV.slice s_3], SV.slice s_4, SV.int
  IntKind.i64 n_13])) ∧ J_1 true w1) (Br (n_1 == 4) (∀ (w1 : World), Upd [] [b_2] w1_1 w1 → some (SV.box b_2 112 (SV.struct [SV.int IntKind.i64 n_1, SV.struct
  [SV.int IntKind.i64 n_2, SV.arr IntKind.u8 16 f], SV.struct [SV.int IntKind.i64 n_3, SV.arr IntKind.u8 16 f_1], SV.slice s, SV.struct [SV.int IntKind.i64
  n_4, SV.int IntKind.i64 n_5, SV.bool b_1, SV.slice s_1], SV.struct [SV.int IntKind.i64 n_6, SV.int IntKind.i64 n_7, SV.int IntKind.i64 n_8, SV.int IntKind.i64
  n_9, SV.int IntKind.i64 n_10, SV.int IntKind.i64 n_11, SV.int IntKind.i64 n_12, SV.slice s_2, SV.slice s_3], SV.slice s_4, SV.int IntKind.i64 n_13])) =
  some (SV.box b_2 112 (SV.struct [SV.int IntKind.i64 n_1, SV.struct [SV.int IntKind.i64 n_2, SV.arr IntKind.u8 16 f], SV.struct [SV.int IntKind.i64 n_3,
  SV.arr IntKind.u8 16 f_1], SV.slice s, SV.struct [SV.int IntKind.i64 n_4, SV.int IntKind.i64 n_5, SV.bool b_1, SV.slice s_1], SV.struct [SV.int IntKind.i64
  n_6, SV.int IntKind.i64 n_7, SV.int IntKind.i64 n_8, SV.int IntKind.i64 n_9, SV.int IntKind.i64 n_10, SV.int IntKind.i64 n_11, SV.int IntKind.i64 n_12,
  SV.slice s_2, SV.slice s_3], SV.slice s_4, SV.int IntKind.i64 n_13])) ∧ J_1 true w1) (∀ (w1 : World), Upd [] [b_2] w1_1 w1 → some (SV.box b_2 112 (SV.struct
  [SV.int IntKind.i64 n_1, SV.struct [SV.int IntKind.i64 n_2, SV.arr IntKind.u8 16 f], SV.struct [SV.int IntKind.i64 n_3, SV.arr IntKind.u8 16 f_1], SV.slice
  s, SV.struct [SV.int IntKind.i64 n_4, SV.int IntKind.i64 n_5, SV.bool b_1, SV.slice s_1], SV.struct [SV.int IntKind.i64 n_6, SV.int IntKind.i64 n_7, SV.int
  IntKind.i64 n_8, SV.int IntKind.i64 n_9, SV.int IntKind.i64 n_10, SV.int IntKind.i64 n_11, SV.int IntKind.i64 n_12, SV.slice s_2, SV.slice s_3], SV.slice
  s_4, SV.int IntKind.i64 n_13])) = some (SV.box b_2 112 (SV.struct [SV.int IntKind.i64 n_1, SV.struct [SV.int IntKind.i64 n_2, SV.arr IntKind.u8 16 f], SV.struct
  [SV.int IntKind.i64 n_3, SV.arr IntKind.u8 16 f_1], SV.slice s, SV.struct [SV.int IntKind.i64 n_4, SV.int IntKind.i64 n_5, SV.bool b_1, SV.slice s_1], SV.struct
  [SV.int IntKind.i64 n_6, SV.int IntKind.i64 n_7, SV.int IntKind.i64 n_8, SV.int IntKind.i64 n_9, SV.int IntKind.i64 n_10, SV.int IntKind.i64 n_11, SV.int
  IntKind.i64 n_12, SV.slice s_2, SV.slice s_3], SV.slice s_4, SV.int IntKind.i64 n_13])) ∧ J_1 (n_1 == 7) w1)))))) → J w1_1) → Br (decide (n < (↑script.2
  : Int))) (Br b (J w1) (R (SV.bool b) w1)) (R (SV.bool b) w1)
theorem f17_of (script : Sl) (lo : Int) (hi : Int) (w : World) (R : SV → World → Prop) (h : vc17 script lo hi w R) : Ret Tryd.prog 17 [.slice script, .int .i64 lo, .int .i64 hi] w R :=
  have e : vc17 script lo hi w R = fnVC X Tryd.f17 a17 [.slice script, .int .i64 lo, .int .i64 hi] w R := by kernel_rfl
  fnVC_sound X_ok (n := a17) (e ▸ h) (by kernel_rfl) (by kernel_rfl) rfl rfl

def vc3 (script : Sl) (w : World) (R : SV → World → Prop) : Prop :=
  Ret Tryd.prog 17 [SV.slice script, SV.int IntKind.i64 1, SV.int IntKind.i64 3] w fun (r : SV) (w1 : World) => ∃ (b : Bool), r = SV.bool b ∧ R (SV.bool b) w1
theorem f3_of (script : Sl) (w : World) (R : SV → World → Prop) (h : vc3 script w R) : Ret Tryd.prog 3 [.slice script] w R :=
  have e : vc3 script w R = fnVC X Tryd.f3 a3 [.slice script] w R := by kernel_rfl
  fnVC_sound X_ok (n := a3) (e ▸ h) (by kernel_rfl) (by kernel_rfl) rfl rfl

def vc4 (script : Sl) (w : World) (R : SV → World → Prop) : Prop :=
  Ret Tryd.prog 17 [SV.slice script, SV.int IntKind.i64 4, SV.int IntKind.i64 6] w fun (r : SV) (w1 : World) => ∃ (b : Bool), r = SV.bool b ∧ R (SV.bool b) w1
theorem f4_of (script : Sl) (w : World) (R : SV → World → Prop) (h : vc4 script w R) : Ret Tryd.prog 4 [.slice script] w R :=
  have e : vc4 script w R = fnVC X Tryd.f4 a4 [.slice script] w R := by kernel_rfl
  fnVC_sound X_ok (n := a4) (e ▸ h) (by kernel_rfl) (by kernel_rfl) rfl rfl

def vc5 (script : Sl) (w : World) (R : SV → World → Prop) : Prop :=
  Ret Tryd.prog 17 [SV.slice script, SV.int IntKind.i64 7, SV.int IntKind.i64 10] w fun (r : SV) (w1 : World) => ∃ (b : Bool), r = SV.bool b ∧ R (SV.bool b) w1
theorem f5_of (script : Sl) (w : World) (R : SV → World → Prop) (h : vc5 script w R) : Ret Tryd.prog 5 [.slice script] w R :=
  have e : vc5 script w R = fnVC X Tryd.f5 a5 [.slice script] w R := by kernel_rfl
  fnVC_sound X_ok (n := a5) (e ▸ h) (by kernel_rfl) (by kernel_rfl) rfl rfl

def vc6 (script : Sl) (w : World) (R : SV → World → Prop) : Prop :=
  Ret Tryd.prog 17 [SV.slice script, SV.int IntKind.i64 1, SV.int IntKind.i64 10] w fun (r : SV) (w1 : World) => ∃ (b : Bool), r = SV.bool b ∧ R (SV.bool b) w1
theorem f6_of (script : Sl) (w : World) (R : SV → World → Prop) (h : vc6 script w R) : Ret Tryd.prog 6 [.slice script] w R :=
  have e : vc6 script w R = fnVC X Tryd.f6 a6 [.slice script] w R := by kernel_rfl
  fnVC_sound X_ok (n := a6) (e ▸ h) (by kernel_rfl) (by kernel_rfl) rfl rfl

end Go.Vc.S9
