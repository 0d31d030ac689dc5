import Derived.Test.YtlohkdkgpajkaaaDoorG2
import Derived.Test.YtlohkdkgpajkaaaDoorG3
import Derived.KernelRfl
open Go Go.Vc Go.Vc.S6 Go.Proofs
set_option maxRecDepth 100000
set_option linter.unusedVariables false
namespace Go.Vc.S6
def vc5 (h_0 : Int) (h_1 : Int) (h_2 : Bool) (h_3 : Bool) (h_4 : Int) (h_5 : Int) (h_6 : Int) (h_7_0 : Int) (h_7_1 : Nat → Int) (h_8_0 : Int) (h_8_1 : Nat
  → Int) (h_9 : Sl) (h_10 : Sl) (l : Sl) (w : World) (R : SV → World → Prop) : Prop := ∀ (b : Nat) (w1 : World), Upd [] [b] w w1 → Ret Tryd.prog 18 [] w1
  fun (r : SV) (w1_1 : World) => ∃ (b_1 : Bool), r = SV.bool b_1 ∧ Keeps [b] w1 w1_1 ∧ Ret Tryd.prog 26 [SV.struct [SV.int IntKind.i64 h_0, SV.int IntKind.i64
  h_1, SV.bool h_2, SV.bool h_3, SV.int IntKind.i64 h_4, SV.int IntKind.i64 h_5, SV.int IntKind.i64 h_6, SV.struct [SV.int IntKind.i64 h_7_0, SV.arr IntKind.u8
  16 h_7_1], SV.struct [SV.int IntKind.i64 h_8_0, SV.arr IntKind.u8 16 h_8_1], SV.slice h_9, SV.slice h_10]] w1_1 fun (r : SV) (w1 : World) => ∃ (n : Int),
  ∃ (n_1 : Int), ∃ (b_2 : Bool), ∃ (b_3 : Bool), ∃ (n_2 : Int), ∃ (n_3 : Int), ∃ (n_4 : Int), ∃ (n_5 : Int), ∃ (f : Nat → Int), ∃ (n_6 : Int), ∃ (f_1 : Nat
  → Int), ∃ (s : Sl), ∃ (s_1 : Sl), r = SV.struct [SV.int IntKind.i64 n, SV.int IntKind.i64 n_1, SV.bool b_2, SV.bool b_3, SV.int IntKind.i64 n_2, SV.int
  IntKind.i64 n_3, SV.int IntKind.i64 n_4, SV.struct [SV.int IntKind.i64 n_5, SV.arr IntKind.u8 16 f], SV.struct [SV.int IntKind.i64 n_6, SV.arr IntKind.u8
  16 f_1], SV.slice s, SV.slice s_1] ∧ Keeps [b] w1_1 w1 ∧ ∀ (b_4 : Nat) (w1_2 : World), Upd [] [b_4] w1 w1_2 → Ret Tryd.prog 25 [SV.struct [SV.int IntKind.i64
  h_0, SV.int IntKind.i64 h_1, SV.bool h_2, SV.bool h_3, SV.int IntKind.i64 h_4, SV.int IntKind.i64 h_5, SV.int IntKind.i64 h_6, SV.struct [SV.int IntKind.i64
  h_7_0, SV.arr IntKind.u8 16 h_7_1], SV.struct [SV.int IntKind.i64 h_8_0, SV.arr IntKind.u8 16 h_8_1], SV.slice h_9, SV.slice h_10]] w1_2 fun (r : SV) (w1
  : World) => ∃ (s_2 : Sl), ∃ (n_7 : Int), r = SV.tuple [SV.slice s_2, SV.int IntKind.i64 n_7] ∧ Keeps [b, b_4] w1_2 w1 ∧ Ret Tryd.prog 25 [SV.struct [SV.int
  IntKind.i64 h_0, SV.int IntKind.i64 h_1, SV.bool h_2, SV.bool h_3, SV.int IntKind.i64 h_4, SV.int IntKind.i64 h_5, SV.int IntKind.i64 h_6, SV.struct [SV.int
  IntKind.i64 h_7_0, SV.arr IntKind.u8 16 h_7_1], SV.struct [SV.int IntKind.i64 h_8_0, SV.arr IntKind.u8 16 h_8_1], SV.slice h_9, SV.slice h_10]] w1 fun (r
  : SV) (w1_3 : World) => ∃ (s_3 : Sl), ∃ (n_8 : Int), r = SV.tuple [SV.slice s_3, SV.int IntKind.i64 n_8] ∧ Keeps [b, b_4] w1 w1_3 ∧ Ret Tryd.prog 27 [SV.slice
  l] w1_3 fun (r : SV) (w1 : World) => ∃ (s_4 : Sl), ∃ (n_9 : Int), r = SV.tuple [SV.slice s_4, SV.int IntKind.i64 n_9] ∧ Keeps [b, b_4] w1_3 w1 ∧ Ret Tryd.prog
  27 [SV.slice l] w1 fun (r : SV) (w1_4 : World) => ∃ (s_5 : Sl), ∃ (n_10 : Int), r = SV.tuple [SV.slice s_5, SV.int IntKind.i64 n_10] ∧ Keeps [b, b_4] w1
  w1_4 ∧ Ret Tryd.prog 23 [SV.slice s_2] w1_4 fun (r : SV) (w1 : World) => ∃ (s_6 : Sl), r = SV.slice s_6 ∧ Keeps [b, b_4] w1_4 w1 ∧ Ret Tryd.prog 23 [SV.slice
  s_4] w1 fun (r : SV) (w1_5 : World) => ∃ (s_7 : Sl), r = SV.slice s_7 ∧ Keeps [b, b_4] w1 w1_5 ∧ Ret Tryd.prog 28 [SV.slice s_2, SV.int IntKind.u8 11] w1_5
  fun (r : SV) (w1 : World) => ∃ (s_8 : Sl), r = SV.slice s_8 ∧ Keeps [b, b_4] w1_5 w1 ∧ Ret Tryd.prog 28 [SV.slice s_4, SV.int IntKind.u8 12] w1 fun (r :
  SV) (w1_6 : World) => ∃ (s_9 : Sl), r = SV.slice s_9 ∧ Keeps [b, b_4] w1 w1_6 ∧ ∀ (J : World → Prop), (∀ (w1 : World), (Ret Tryd.prog 28 [SV.slice s_3,
  SV.int IntKind.u8 13] w1 fun (r : SV) (w1_7 : World) => ∃ (s : Sl), r = SV.slice s ∧ Keeps [b, b_4] w1 w1_7 ∧ Ret Tryd.prog 28 [SV.slice s_5, SV.int IntKind.u8
  14] w1_7 fun (r : SV) (w1 : World) => ∃ (s_10 : Sl), r = SV.slice s_10 ∧ Keeps [b, b_4] w1_7 w1 ∧ Ret Tryd.prog 25 [SV.struct [SV.int IntKind.i64 h_0, SV.int
  IntKind.i64 h_1, SV.bool h_2, SV.bool h_3, SV.int IntKind.i64 h_4, SV.int IntKind.i64 h_5, SV.int IntKind.i64 h_6, SV.struct [SV.int IntKind.i64 h_7_0,
  SV.arr IntKind.u8 16 h_7_1], SV.struct [SV.int IntKind.i64 h_8_0, SV.arr IntKind.u8 16 h_8_1], SV.slice h_9, SV.slice h_10]] w1 fun (r : SV) (w1_8 : World)
  => ∃ (s_11 : Sl), ∃ (n : Int), r = SV.tuple [SV.slice s_11, SV.int IntKind.i64 n] ∧ Keeps [b, b_4] w1 w1_8 ∧ Ret Tryd.prog 27 [SV.slice l] w1_8 fun (r :
  SV) (w1 : World) => ∃ (s_12 : Sl), ∃ (n_11 : Int), r = SV.tuple [SV.slice s_12, SV.int IntKind.i64 n_11] ∧ Keeps [b, b_4] w1_8 w1 ∧ Ret Tryd.prog 21 [SV.int
  IntKind.i64 n_7] w1 fun (r : SV) (w1_9 : World) => ∃ (n_12 : Int), r = SV.int IntKind.i64 n_12 ∧ Keeps [b, b_4] w1 w1_9 ∧ Ret Tryd.prog 21 [SV.int IntKind.i64
  n] w1_9 fun (r : SV) (w1 : World) => ∃ (n : Int), r = SV.int IntKind.i64 n ∧ Keeps [b, b_4] w1_9 w1 ∧ Br (n_12 == n) (Ret Tryd.prog 21 [SV.int IntKind.i64
  n_9] w1 fun (r : SV) (w1_10 : World) => ∃ (n : Int), r = SV.int IntKind.i64 n ∧ Keeps [b, b_4] w1 w1_10 ∧ Ret Tryd.prog 21 [SV.int IntKind.i64 n_11] w1_10
  fun (r : SV) (w1 : World) => ∃ (n_13 : Int), r = SV.int IntKind.i64 n_13 ∧ Keeps [b, b_4] w1_10 w1 ∧ Br (n == n_13) (Ret Tryd.prog 24 [SV.slice s_11, SV.slice
  s_6] w1 fun (r : SV) (w1_11 : World) => ∃ (b_5 : Bool), r = SV.bool b_5 ∧ Keeps [b, b_4] w1 w1_11 ∧ Br b_5 (Ret Tryd.prog 24 [SV.slice s_12, SV.slice s_7]
  w1_11 fun (r : SV) (w1 : World) => ∃ (b_6 : Bool), r = SV.bool b_6 ∧ Keeps [b, b_4] w1_11 w1 ∧ Br b_6 (Ret Tryd.prog 30 [SV.slice s_8, SV.int IntKind.u8
  11] w1 fun (r : SV) (w1_12 : World) => ∃ (b_7 : Bool), r = SV.bool b_7 ∧ Keeps [b, b_4] w1 w1_12 ∧ Br b_7 (Ret Tryd.prog 30 [SV.slice s_9, SV.int IntKind.u8
  12] w1_12 fun (r : SV) (w1 : World) => ∃ (b_8 : Bool), r = SV.bool b_8 ∧ Keeps [b, b_4] w1_12 w1 ∧ Br b_8 (Ret Tryd.prog 30 [SV.slice s, SV.int IntKind.u8
  13] w1 fun (r : SV) (w1_13 : World) => ∃ (b_9 : Bool), r = SV.bool b_9 ∧ Keeps [b, b_4] w1 w1_13 ∧ Br b_9 (Ret Tryd.prog 30 [SV.slice s_10, SV.int IntKind.u8
  14] w1_13 fun (r : SV) (w1 : World) => ∃ (b_10 : Bool), r = SV.bool b_10 ∧ Keeps [b, b_4] w1_13 w1 ∧ R (SV.bool b_10) w1) (R (SV.bool false) w1_13)) (R
  (SV.bool false) w1)) (R (SV.bool false) w1_12)) (R (SV.bool false) w1)) (R (SV.bool false) w1_11)) (R (SV.bool false) w1)) (R (SV.bool false) w1)) → J w1)
  → Br (!b_1) (R (SV.bool false) w1_6) (Ret Tryd.prog 24 [SV.slice s_3, SV.slice s_6] w1_6 fun (r : SV) (w1 : World) => ∃ (b_5 : Bool), r = SV.bool b_5 ∧
  Keeps [b, b_4] w1_6 w1 ∧ Br (!b_5) (R (SV.bool false) w1) (Ret Tryd.prog 24 [SV.slice s_5, SV.slice s_7] w1 fun (r : SV) (w1_7 : World) => ∃ (b_6 : Bool),
  r = SV.bool b_6 ∧ Keeps [b, b_4] w1 w1_7 ∧ Br (!b_6) (R (SV.bool false) w1_7) (Ret Tryd.prog 29 [SV.struct [SV.int IntKind.i64 h_0, SV.int IntKind.i64 h_1,
  SV.bool h_2, SV.bool h_3, SV.int IntKind.i64 h_4, SV.int IntKind.i64 h_5, SV.int IntKind.i64 h_6, SV.struct [SV.int IntKind.i64 h_7_0, SV.arr IntKind.u8
  16 h_7_1], SV.struct [SV.int IntKind.i64 h_8_0, SV.arr IntKind.u8 16 h_8_1], SV.slice h_9, SV.slice h_10], SV.struct [SV.int IntKind.i64 n, SV.int IntKind.i64
  n_1, SV.bool b_2, SV.bool b_3, SV.int IntKind.i64 n_2, SV.int IntKind.i64 n_3, SV.int IntKind.i64 n_4, SV.struct [SV.int IntKind.i64 n_5, SV.arr IntKind.u8
  16 f], SV.struct [SV.int IntKind.i64 n_6, SV.arr IntKind.u8 16 f_1], SV.slice s, SV.slice s_1]] w1_7 fun (r : SV) (w1 : World) => ∃ (b_7 : Bool), r = SV.bool
  b_7 ∧ Keeps [b, b_4] w1_7 w1 ∧ Br (!b_7) (R (SV.bool false) w1) (some (SV.box b 30 (SV.struct [SV.int IntKind.i64 h_0, SV.int IntKind.i64 h_1, SV.bool h_2,
  SV.bool h_3, SV.int IntKind.i64 h_4, SV.int IntKind.i64 h_5, SV.int IntKind.i64 h_6, SV.struct [SV.int IntKind.i64 h_7_0, SV.arr IntKind.u8 16 h_7_1], SV.struct
  [SV.int IntKind.i64 h_8_0, SV.arr IntKind.u8 16 h_8_1], SV.slice h_9, SV.slice h_10])) = some (SV.box b 30 (SV.struct [SV.int IntKind.i64 h_0, SV.int IntKind.i64
  h_1, SV.bool h_2, SV.bool h_3, SV.int IntKind.i64 h_4, SV.int IntKind.i64 h_5, SV.int IntKind.i64 h_6, SV.struct [SV.int IntKind.i64 h_7_0, SV.arr IntKind.u8
  16 h_7_1], SV.struct [SV.int IntKind.i64 h_8_0, SV.arr IntKind.u8 16 h_8_1], SV.slice h_9, SV.slice h_10])) ∧ some (SV.box b_4 30 (SV.struct [SV.int IntKind.i64
  n, SV.int IntKind.i64 n_1, SV.bool b_2, SV.bool b_3, SV.int IntKind.i64 n_2, SV.int IntKind.i64 n_3, SV.int IntKind.i64 n_4, SV.struct [SV.int IntKind.i64
  n_5, SV.arr IntKind.u8 16 f], SV.struct [SV.int IntKind.i64 n_6, SV.arr IntKind.u8 16 f_1], SV.slice s, SV.slice s_1])) = some (SV.box b_4 30 (SV.struct
  [SV.int IntKind.i64 n, SV.int IntKind.i64 n_1, SV.bool b_2, SV.bool b_3, SV.int IntKind.i64 n_2, SV.int IntKind.i64 n_3, SV.int IntKind.i64 n_4, SV.struct
  [SV.int IntKind.i64 n_5, SV.arr IntKind.u8 16 f], SV.struct [SV.int IntKind.i64 n_6, SV.arr IntKind.u8 16 f_1], SV.slice s, SV.slice s_1])) ∧ J w1))))
theorem f5_of (h_0 : Int) (h_1 : Int) (h_2 : Bool) (h_3 : Bool) (h_4 : Int) (h_5 : Int) (h_6 : Int) (h_7_0 : Int) (h_7_1 : Nat → Int) (h_8_0 : Int) (h_8_1 : Nat → Int) (h_9 : Sl) (h_10 : Sl) (l : Sl) (w : World) (R : SV → World → Prop) (h : vc5 h_0 h_1 h_2 h_3 h_4 h_5 h_6 h_7_0 h_7_1 h_8_0 h_8_1 h_9 h_10 l w R) : Ret Tryd.prog 5 [.struct [.int .i64 h_0, .int .i64 h_1, .bool h_2, .bool h_3, .int .i64 h_4, .int .i64 h_5, .int .i64 h_6, .struct [.int .i64 h_7_0, .arr .u8 16 h_7_1], .struct [.int .i64 h_8_0, .arr .u8 16 h_8_1], .slice h_9, .slice h_10], .slice l] w R :=
  have e : vc5 h_0 h_1 h_2 h_3 h_4 h_5 h_6 h_7_0 h_7_1 h_8_0 h_8_1 h_9 h_10 l w R = fnVC X Tryd.f5 a5 [.struct [.int .i64 h_0, .int .i64 h_1, .bool h_2, .bool h_3, .int .i64 h_4, .int .i64 h_5, .int .i64 h_6, .struct [.int .i64 h_7_0, .arr .u8 16 h_7_1], .struct [.int .i64 h_8_0, .arr .u8 16 h_8_1], .slice h_9, .slice h_10], .slice l] w R := by kernel_rfl
  fnVC_sound X_ok (n := a5) (e ▸ h) (by kernel_rfl) (by kernel_rfl) rfl rfl

def vc3 (b : Sl) (c : Int) (w : World) (R : SV → World → Prop) : Prop := Ret Tryd.prog 18 [] w fun (r : SV) (w1 : World) => ∃ (b_1 : Bool), r = SV.bool
  b_1 ∧ Ret Tryd.prog 19 [SV.slice b] w1 fun (r : SV) (w1 : World) => ∃ (s : Sl), r = SV.slice s ∧ Need (decide (0 ≤ (↑b.2 : Int)) && decide ((↑b.2 : Int)
  ≤ (↑s.3 : Int))) (Ret Tryd.prog 20 [SV.slice (Sl.sub s 1 0 (Int.toNat (↑b.2 : Int)) s.3)] w1 fun (r : SV) (w1 : World) => ∃ (n : Int), ∃ (n_1 : Int), ∃
  (b_2 : Bool), ∃ (b_3 : Bool), ∃ (n_2 : Int), ∃ (n_3 : Int), ∃ (n_4 : Int), ∃ (n_5 : Int), ∃ (f : Nat → Int), ∃ (n_6 : Int), ∃ (f_1 : Nat → Int), ∃ (s_1
  : Sl), ∃ (s_2 : Sl), ∃ (n_7 : Int), r = SV.tuple [SV.struct [SV.int IntKind.i64 n, SV.int IntKind.i64 n_1, SV.bool b_2, SV.bool b_3, SV.int IntKind.i64
  n_2, SV.int IntKind.i64 n_3, SV.int IntKind.i64 n_4, SV.struct [SV.int IntKind.i64 n_5, SV.arr IntKind.u8 16 f], SV.struct [SV.int IntKind.i64 n_6, SV.arr
  IntKind.u8 16 f_1], SV.slice s_1, SV.slice s_2], SV.int IntKind.i64 n_7] ∧ ∀ (b_4 : Nat) (J : World → Prop), (∀ (w1 : World), (∀ (b_5 : Nat) (w1_1 : World),
  Upd [] [b_5] w1 w1_1 → (World.heap w1_1)[b_5]? = some (Obj.cells { toList := SV.cells (SV.struct [SV.int IntKind.u8 7, SV.int IntKind.u8 8, SV.int IntKind.u8 9]) }
  5) → Vc.Append 5 1 1 s_2 { ptr := some { block := b_5, off := 0 }, len := 3, cap := 3 } [b_4] w1_1 fun (r : Sl) (w : World) => ∀ (J : World → Prop), (∀
  (w1 : World), (∃ (I : Int → World → Prop), ∃ (M : Int → World → Nat), I 0 w1 ∧ ∀ (n_8 : Int) (w1 : World), I n_8 w1 → Br (decide (n_8 < (↑s_1.2 : Int)))
  (∀ (J : World → Prop), (∀ (w1_2 : World), some (SV.box b_4 30 (SV.struct [SV.int IntKind.i64 n, SV.int IntKind.i64 n_1, SV.bool b_2, SV.bool b_3, SV.int
  IntKind.i64 n_2, SV.int IntKind.i64 n_3, SV.int IntKind.i64 n_4, SV.struct [SV.int IntKind.i64 n_5, SV.arr IntKind.u8 16 f], SV.struct [SV.int IntKind.i64
  n_6, SV.arr IntKind.u8 16 f_1], SV.slice s_1, SV.slice s_2])) = some (SV.box b_4 30 (SV.struct [SV.int IntKind.i64 n, SV.int IntKind.i64 n_1, SV.bool b_2,
  SV.bool b_3, SV.int IntKind.i64 n_2, SV.int IntKind.i64 n_3, SV.int IntKind.i64 n_4, SV.struct [SV.int IntKind.i64 n_5, SV.arr IntKind.u8 16 f], SV.struct
  [SV.int IntKind.i64 n_6, SV.arr IntKind.u8 16 f_1], SV.slice s_1, SV.slice s_2])) ∧ I (wr IntKind.i64 (n_8 + 1)) w1_2 ∧ M (wr IntKind.i64 (n_8 + 1)) w1_2
  < M n_8 w1 → J w1_2) → Need (decide (0 ≤ n_8) && decide (n_8 < (↑s_1.2 : Int)) && Option.isSome s_1.1) (∃ (s_3 : Sl), World.cell? w1 (Addr.add (Sl.at s_1
  2 (Int.toNat n_8)) 1) = some (Sl.val s_3) ∧ ∀ (b_6 : Nat) (w1_2 : World), Upd [] [b_6] w1 w1_2 → (World.heap w1_2)[b_6]? = some (Obj.cells { toList := SV.cells (SV.struct [SV.int IntKind.u8 7, SV.int IntKind.u8 8, SV.int IntKind.u8 9]) }
  5) → Vc.Append 5 1 1 s_3 { ptr := some { block := b_6, off := 0 }, len := 3, cap := 3 } [b_4] w1_2 fun (r : Sl) (w : World) => Need (decide (0 ≤ n_8) &&
  decide (n_8 < (↑s_1.2 : Int)) && Option.isSome s_1.1) (∃ (s_4 : Sl), World.cell? w (Addr.add (Sl.at s_1 2 (Int.toNat n_8)) 1) = some (Sl.val s_4) ∧ Br ((↑r.2
  : Int) != wr IntKind.i64 ((↑s_4.2 : Int) + 3)) (R (SV.bool false) w) (Ret Tryd.prog 22 [SV.slice s, SV.slice b] w fun (r : SV) (w1 : World) => ∃ (b : Bool),
  r = SV.bool b ∧ Keeps [b_4] w w1 ∧ Br (!b) (R (SV.bool false) w1) (some (SV.box b_4 30 (SV.struct [SV.int IntKind.i64 n, SV.int IntKind.i64 n_1, SV.bool
  b_2, SV.bool b_3, SV.int IntKind.i64 n_2, SV.int IntKind.i64 n_3, SV.int IntKind.i64 n_4, SV.struct [SV.int IntKind.i64 n_5, SV.arr IntKind.u8 16 f], SV.struct
  [SV.int IntKind.i64 n_6, SV.arr IntKind.u8 16 f_1], SV.slice s_1, SV.slice s_2])) = some (SV.box b_4 30 (SV.struct [SV.int IntKind.i64 n, SV.int IntKind.i64
  n_1, SV.bool b_2, SV.bool b_3, SV.int IntKind.i64 n_2, SV.int IntKind.i64 n_3, SV.int IntKind.i64 n_4, SV.struct [SV.int IntKind.i64 n_5, SV.arr IntKind.u8
  16 f], SV.struct [SV.int IntKind.i64 n_6, SV.arr IntKind.u8 16 f_1], SV.slice s_1, SV.slice s_2])) ∧ J w1))))) (∃ (I : Int → World → Prop), ∃ (M : Int →
  World → Nat), I 0 w1 ∧ ∀ (n_9 : Int) (w1 : World), I n_9 w1 → Br (decide (n_9 < (↑s_1.2 : Int))) (∀ (J : World → Prop), (∀ (w1_2 : World), some (SV.box
  b_4 30 (SV.struct [SV.int IntKind.i64 n, SV.int IntKind.i64 n_1, SV.bool b_2, SV.bool b_3, SV.int IntKind.i64 n_2, SV.int IntKind.i64 n_3, SV.int IntKind.i64
  n_4, SV.struct [SV.int IntKind.i64 n_5, SV.arr IntKind.u8 16 f], SV.struct [SV.int IntKind.i64 n_6, SV.arr IntKind.u8 16 f_1], SV.slice s_1, SV.slice s_2]))
  = some (SV.box b_4 30 (SV.struct [SV.int IntKind.i64 n, SV.int IntKind.i64 n_1, SV.bool b_2, SV.bool b_3, SV.int IntKind.i64 n_2, SV.int IntKind.i64 n_3,
  SV.int IntKind.i64 n_4, SV.struct [SV.int IntKind.i64 n_5, SV.arr IntKind.u8 16 f], SV.struct [SV.int IntKind.i64 n_6, SV.arr IntKind.u8 16 f_1], SV.slice
  s_1, SV.slice s_2])) ∧ I (wr IntKind.i64 (n_9 + 1)) w1_2 ∧ M (wr IntKind.i64 (n_9 + 1)) w1_2 < M n_9 w1 → J w1_2) → Need (decide (0 ≤ n_9) && decide (n_9
  < (↑s_1.2 : Int)) && Option.isSome s_1.1) (∃ (s_3 : Sl), World.cell? w1 (Addr.add (Sl.at s_1 2 (Int.toNat n_9)) 1) = some (Sl.val s_3) ∧ Ret Tryd.prog 23
  [SV.slice s] w1 fun (r : SV) (w1_2 : World) => ∃ (s_4 : Sl), r = SV.slice s_4 ∧ Keeps [b_4] w1 w1_2 ∧ ∃ (I : Int → World → Prop), ∃ (M : Int → World → Nat),
  I 0 w1_2 ∧ ∀ (n_10 : Int) (w1 : World), I n_10 w1 → Br (decide (n_10 < (↑s_3.2 : Int))) (Need (decide (0 ≤ n_10) && decide (n_10 < (↑s_3.2 : Int)) && Option.isSome
  s_3.1) (∃ (n_11 : Int), World.cell? w1 (Sl.at s_3 1 (Int.toNat n_10)) = some (Value.int IntKind.u8 n_11) ∧ Need (decide (0 ≤ n_10) && decide (n_10 < (↑s_3.2
  : Int)) && Option.isSome s_3.1) (Store w1 (Sl.at s_3 1 (Int.toNat n_10)) (SV.cells (SV.int IntKind.u8 (ixor IntKind.u8 n_11 255))) [b_4] fun (w1_3 : World)
  => some (SV.box b_4 30 (SV.struct [SV.int IntKind.i64 n, SV.int IntKind.i64 n_1, SV.bool b_2, SV.bool b_3, SV.int IntKind.i64 n_2, SV.int IntKind.i64 n_3,
  SV.int IntKind.i64 n_4, SV.struct [SV.int IntKind.i64 n_5, SV.arr IntKind.u8 16 f], SV.struct [SV.int IntKind.i64 n_6, SV.arr IntKind.u8 16 f_1], SV.slice
  s_1, SV.slice s_2])) = some (SV.box b_4 30 (SV.struct [SV.int IntKind.i64 n, SV.int IntKind.i64 n_1, SV.bool b_2, SV.bool b_3, SV.int IntKind.i64 n_2, SV.int
  IntKind.i64 n_3, SV.int IntKind.i64 n_4, SV.struct [SV.int IntKind.i64 n_5, SV.arr IntKind.u8 16 f], SV.struct [SV.int IntKind.i64 n_6, SV.arr IntKind.u8
  16 f_1], SV.slice s_1, SV.slice s_2])) ∧ I (wr IntKind.i64 (n_10 + 1)) w1_3 ∧ M (wr IntKind.i64 (n_10 + 1)) w1_3 < M n_10 w1))) (∃ (I : Int → Int → World
  → Prop), ∃ (M : Int → Int → World → Nat), I 0 0 w1 ∧ ∀ (n_11 n_12 : Int) (w1 : World), I n_11 n_12 w1 → Br (decide (n_12 < (↑s.2 : Int))) (∀ (J : Int →
  World → Prop), (∀ (n_13 : Int) (w1_3 : World), some (SV.box b_4 30 (SV.struct [SV.int IntKind.i64 n, SV.int IntKind.i64 n_1, SV.bool b_2, SV.bool b_3, SV.int
  IntKind.i64 n_2, SV.int IntKind.i64 n_3, SV.int IntKind.i64 n_4, SV.struct [SV.int IntKind.i64 n_5, SV.arr IntKind.u8 16 f], SV.struct [SV.int IntKind.i64
  n_6, SV.arr IntKind.u8 16 f_1], SV.slice s_1, SV.slice s_2])) = some (SV.box b_4 30 (SV.struct [SV.int IntKind.i64 n, SV.int IntKind.i64 n_1, SV.bool b_2,
  SV.bool b_3, SV.int IntKind.i64 n_2, SV.int IntKind.i64 n_3, SV.int IntKind.i64 n_4, SV.struct [SV.int IntKind.i64 n_5, SV.arr IntKind.u8 16 f], SV.struct
  [SV.int IntKind.i64 n_6, SV.arr IntKind.u8 16 f_1], SV.slice s_1, SV.slice s_2])) ∧ I n_13 (wr IntKind.i64 (n_12 + 1)) w1_3 ∧ M n_13 (wr IntKind.i64 (n_12
  + 1)) w1_3 < M n_11 n_12 w1 → J n_13 w1_3) → Need (decide (0 ≤ n_12) && decide (n_12 < (↑s.2 : Int)) && Option.isSome s.1) (∃ (n_13 : Int), World.cell?
  w1 (Sl.at s 1 (Int.toNat n_12)) = some (Value.int IntKind.u8 n_13) ∧ Need (decide (0 ≤ n_12) && decide (n_12 < (↑s_4.2 : Int)) && Option.isSome s_4.1) (∃
  (n_14 : Int), World.cell? w1 (Sl.at s_4 1 (Int.toNat n_12)) = some (Value.int IntKind.u8 n_14) ∧ Br (n_13 == ixor IntKind.u8 n_14 255) (∀ (w1_3 : World),
  Upd [] [] w1 w1_3 → some (SV.box b_4 30 (SV.struct [SV.int IntKind.i64 n, SV.int IntKind.i64 n_1, SV.bool b_2, SV.bool b_3, SV.int IntKind.i64 n_2, SV.int
  IntKind.i64 n_3, SV.int IntKind.i64 n_4, SV.struct [SV.int IntKind.i64 n_5, SV.arr IntKind.u8 16 f], SV.struct [SV.int IntKind.i64 n_6, SV.arr IntKind.u8
  16 f_1], SV.slice s_1, SV.slice s_2])) = some (SV.box b_4 30 (SV.struct [SV.int IntKind.i64 n, SV.int IntKind.i64 n_1, SV.bool b_2, SV.bool b_3, SV.int
  IntKind.i64 n_2, SV.int IntKind.i64 n_3, SV.int IntKind.i64 n_4, SV.struct [SV.int IntKind.i64 n_5, SV.arr IntKind.u8 16 f], SV.struct [SV.int IntKind.i64
  n_6, SV.arr IntKind.u8 16 f_1], SV.slice s_1, SV.slice s_2])) ∧ J (wr IntKind.i64 (n_11 + 1)) w1_3) (∀ (w1_3 : World), Upd [] [] w1 w1_3 → some (SV.box
  b_4 30 (SV.struct [SV.int IntKind.i64 n, SV.int IntKind.i64 n_1, SV.bool b_2, SV.bool b_3, SV.int IntKind.i64 n_2, SV.int IntKind.i64 n_3, SV.int IntKind.i64
  n_4, SV.struct [SV.int IntKind.i64 n_5, SV.arr IntKind.u8 16 f], SV.struct [SV.int IntKind.i64 n_6, SV.arr IntKind.u8 16 f_1], SV.slice s_1, SV.slice s_2]))
  = some (SV.box b_4 30 (SV.struct [SV.int IntKind.i64 n, SV.int IntKind.i64 n_1, SV.bool b_2, SV.bool b_3, SV.int IntKind.i64 n_2, SV.int IntKind.i64 n_3,
  SV.int IntKind.i64 n_4, SV.struct [SV.int IntKind.i64 n_5, SV.arr IntKind.u8 16 f], SV.struct [SV.int IntKind.i64 n_6, SV.arr IntKind.u8 16 f_1], SV.slice
  s_1, SV.slice s_2])) ∧ J n_11 w1_3)))) (∃ (I : Int → World → Prop), ∃ (M : Int → World → Nat), I 0 w1 ∧ ∀ (n_13 : Int) (w1 : World), I n_13 w1 → Br (decide
  (n_13 < (↑s_3.2 : Int))) (Need (decide (0 ≤ n_13) && decide (n_13 < (↑s_3.2 : Int)) && Option.isSome s_3.1) (∃ (n_14 : Int), World.cell? w1 (Sl.at s_3 1
  (Int.toNat n_13)) = some (Value.int IntKind.u8 n_14) ∧ Need (decide (0 ≤ n_13) && decide (n_13 < (↑s_3.2 : Int)) && Option.isSome s_3.1) (Store w1 (Sl.at
  s_3 1 (Int.toNat n_13)) (SV.cells (SV.int IntKind.u8 (ixor IntKind.u8 n_14 255))) [b_4] fun (w1_3 : World) => some (SV.box b_4 30 (SV.struct [SV.int IntKind.i64
  n, SV.int IntKind.i64 n_1, SV.bool b_2, SV.bool b_3, SV.int IntKind.i64 n_2, SV.int IntKind.i64 n_3, SV.int IntKind.i64 n_4, SV.struct [SV.int IntKind.i64
  n_5, SV.arr IntKind.u8 16 f], SV.struct [SV.int IntKind.i64 n_6, SV.arr IntKind.u8 16 f_1], SV.slice s_1, SV.slice s_2])) = some (SV.box b_4 30 (SV.struct
  [SV.int IntKind.i64 n, SV.int IntKind.i64 n_1, SV.bool b_2, SV.bool b_3, SV.int IntKind.i64 n_2, SV.int IntKind.i64 n_3, SV.int IntKind.i64 n_4, SV.struct
  [SV.int IntKind.i64 n_5, SV.arr IntKind.u8 16 f], SV.struct [SV.int IntKind.i64 n_6, SV.arr IntKind.u8 16 f_1], SV.slice s_1, SV.slice s_2])) ∧ I (wr IntKind.i64
  (n_13 + 1)) w1_3 ∧ M (wr IntKind.i64 (n_13 + 1)) w1_3 < M n_13 w1))) (Br (n_11 != (↑s_3.2 : Int)) (R (SV.bool false) w1) (Ret Tryd.prog 22 [SV.slice s,
  SV.slice b] w1 fun (r : SV) (w1_3 : World) => ∃ (b : Bool), r = SV.bool b ∧ Keeps [b_4] w1 w1_3 ∧ Br (!b) (R (SV.bool false) w1_3) (some (SV.box b_4 30
  (SV.struct [SV.int IntKind.i64 n, SV.int IntKind.i64 n_1, SV.bool b_2, SV.bool b_3, SV.int IntKind.i64 n_2, SV.int IntKind.i64 n_3, SV.int IntKind.i64 n_4,
  SV.struct [SV.int IntKind.i64 n_5, SV.arr IntKind.u8 16 f], SV.struct [SV.int IntKind.i64 n_6, SV.arr IntKind.u8 16 f_1], SV.slice s_1, SV.slice s_2]))
  = some (SV.box b_4 30 (SV.struct [SV.int IntKind.i64 n, SV.int IntKind.i64 n_1, SV.bool b_2, SV.bool b_3, SV.int IntKind.i64 n_2, SV.int IntKind.i64 n_3,
  SV.int IntKind.i64 n_4, SV.struct [SV.int IntKind.i64 n_5, SV.arr IntKind.u8 16 f], SV.struct [SV.int IntKind.i64 n_6, SV.arr IntKind.u8 16 f_1], SV.slice
  s_1, SV.slice s_2])) ∧ J w1_3))))))) (∃ (I : Int → World → Prop), ∃ (M : Int → World → Nat), I 0 w1 ∧ ∀ (n_10 : Int) (w1 : World), I n_10 w1 → Br (decide
  (n_10 < (↑s_2.2 : Int))) (Need (decide (0 ≤ n_10) && decide (n_10 < (↑s_2.2 : Int)) && Option.isSome s_2.1) (∃ (n_11 : Int), World.cell? w1 (Sl.at s_2 1
  (Int.toNat n_10)) = some (Value.int IntKind.u8 n_11) ∧ Need (decide (0 ≤ n_10) && decide (n_10 < (↑s_2.2 : Int)) && Option.isSome s_2.1) (∀ (w1_2 : World),
  Upd [] [] w1 w1_2 → Store w1_2 (Sl.at s_2 1 (Int.toNat n_10)) (SV.cells (SV.int IntKind.u8 (ixor IntKind.u8 n_11 c))) [b_4] fun (w1_3 : World) => some (SV.box
  b_4 30 (SV.struct [SV.int IntKind.i64 n, SV.int IntKind.i64 n_1, SV.bool b_2, SV.bool b_3, SV.int IntKind.i64 n_2, SV.int IntKind.i64 n_3, SV.int IntKind.i64
  n_4, SV.struct [SV.int IntKind.i64 n_5, SV.arr IntKind.u8 16 f], SV.struct [SV.int IntKind.i64 n_6, SV.arr IntKind.u8 16 f_1], SV.slice s_1, SV.slice s_2]))
  = some (SV.box b_4 30 (SV.struct [SV.int IntKind.i64 n, SV.int IntKind.i64 n_1, SV.bool b_2, SV.bool b_3, SV.int IntKind.i64 n_2, SV.int IntKind.i64 n_3,
  SV.int IntKind.i64 n_4, SV.struct [SV.int IntKind.i64 n_5, SV.arr IntKind.u8 16 f], SV.struct [SV.int IntKind.i64 n_6, SV.arr IntKind.u8 16 f_1], SV.slice
  s_1, SV.slice s_2])) ∧ I (wr IntKind.i64 (n_10 + 1)) w1_3 ∧ M (wr IntKind.i64 (n_10 + 1)) w1_3 < M n_10 w1))) (Ret Tryd.prog 20 [SV.slice (Sl.sub s 1 0
  (Int.toNat (↑b.2 : Int)) s.3)] w1 fun (r : SV) (w1_2 : World) => ∃ (n_11 : Int), ∃ (n_12 : Int), ∃ (b_6 : Bool), ∃ (b_7 : Bool), ∃ (n_13 : Int), ∃ (n_14
  : Int), ∃ (n_15 : Int), ∃ (n_16 : Int), ∃ (f_2 : Nat → Int), ∃ (n_17 : Int), ∃ (f_3 : Nat → Int), ∃ (s_3 : Sl), ∃ (s_4 : Sl), ∃ (n_18 : Int), r = SV.tuple
  [SV.struct [SV.int IntKind.i64 n_11, SV.int IntKind.i64 n_12, SV.bool b_6, SV.bool b_7, SV.int IntKind.i64 n_13, SV.int IntKind.i64 n_14, SV.int IntKind.i64
  n_15, SV.struct [SV.int IntKind.i64 n_16, SV.arr IntKind.u8 16 f_2], SV.struct [SV.int IntKind.i64 n_17, SV.arr IntKind.u8 16 f_3], SV.slice s_3, SV.slice
  s_4], SV.int IntKind.i64 n_18] ∧ Keeps [b_4] w1 w1_2 ∧ ∀ (b_8 : Nat) (J : World → Prop), (∀ (w1 : World), (∃ (I : Int → World → Prop), ∃ (M : Int → World
  → Nat), I 0 w1 ∧ ∀ (n_19 : Int) (w1 : World), I n_19 w1 → Br (decide (n_19 < (↑s_2.2 : Int))) (Need (decide (0 ≤ n_19) && decide (n_19 < (↑s_4.2 : Int))
  && Option.isSome s_4.1) (∃ (n_20 : Int), World.cell? w1 (Sl.at s_4 1 (Int.toNat n_19)) = some (Value.int IntKind.u8 n_20) ∧ Need (decide (0 ≤ n_19) && decide
  (n_19 < (↑s_4.2 : Int)) && Option.isSome s_4.1) (∀ (w1_3 : World), Upd [] [] w1 w1_3 → Store w1_3 (Sl.at s_4 1 (Int.toNat n_19)) (SV.cells (SV.int IntKind.u8
  (ixor IntKind.u8 n_20 c))) [b_4, b_8] fun (w1_4 : World) => some (SV.box b_4 30 (SV.struct [SV.int IntKind.i64 n, SV.int IntKind.i64 n_1, SV.bool b_2, SV.bool
  b_3, SV.int IntKind.i64 n_2, SV.int IntKind.i64 n_3, SV.int IntKind.i64 n_4, SV.struct [SV.int IntKind.i64 n_5, SV.arr IntKind.u8 16 f], SV.struct [SV.int
  IntKind.i64 n_6, SV.arr IntKind.u8 16 f_1], SV.slice s_1, SV.slice s_2])) = some (SV.box b_4 30 (SV.struct [SV.int IntKind.i64 n, SV.int IntKind.i64 n_1,
  SV.bool b_2, SV.bool b_3, SV.int IntKind.i64 n_2, SV.int IntKind.i64 n_3, SV.int IntKind.i64 n_4, SV.struct [SV.int IntKind.i64 n_5, SV.arr IntKind.u8 16
  f], SV.struct [SV.int IntKind.i64 n_6, SV.arr IntKind.u8 16 f_1], SV.slice s_1, SV.slice s_2])) ∧ some (SV.box b_8 30 (SV.struct [SV.int IntKind.i64 n_11,
  SV.int IntKind.i64 n_12, SV.bool b_6, SV.bool b_7, SV.int IntKind.i64 n_13, SV.int IntKind.i64 n_14, SV.int IntKind.i64 n_15, SV.struct [SV.int IntKind.i64
  n_16, SV.arr IntKind.u8 16 f_2], SV.struct [SV.int IntKind.i64 n_17, SV.arr IntKind.u8 16 f_3], SV.slice s_3, SV.slice s_4])) = some (SV.box b_8 30 (SV.struct
  [SV.int IntKind.i64 n_11, SV.int IntKind.i64 n_12, SV.bool b_6, SV.bool b_7, SV.int IntKind.i64 n_13, SV.int IntKind.i64 n_14, SV.int IntKind.i64 n_15,
  SV.struct [SV.int IntKind.i64 n_16, SV.arr IntKind.u8 16 f_2], SV.struct [SV.int IntKind.i64 n_17, SV.arr IntKind.u8 16 f_3], SV.slice s_3, SV.slice s_4]))
  ∧ I (wr IntKind.i64 (n_19 + 1)) w1_4 ∧ M (wr IntKind.i64 (n_19 + 1)) w1_4 < M n_19 w1))) (Ret Tryd.prog 20 [SV.slice (Sl.sub s 1 0 (Int.toNat (↑b.2 : Int))
  s.3)] w1 fun (r : SV) (w1_3 : World) => ∃ (n : Int), ∃ (n_20 : Int), ∃ (b_9 : Bool), ∃ (b_10 : Bool), ∃ (n_21 : Int), ∃ (n_22 : Int), ∃ (n_23 : Int), ∃
  (n_24 : Int), ∃ (f : Nat → Int), ∃ (n_25 : Int), ∃ (f_4 : Nat → Int), ∃ (s_5 : Sl), ∃ (s_6 : Sl), ∃ (n_26 : Int), r = SV.tuple [SV.struct [SV.int IntKind.i64
  n, SV.int IntKind.i64 n_20, SV.bool b_9, SV.bool b_10, SV.int IntKind.i64 n_21, SV.int IntKind.i64 n_22, SV.int IntKind.i64 n_23, SV.struct [SV.int IntKind.i64
  n_24, SV.arr IntKind.u8 16 f], SV.struct [SV.int IntKind.i64 n_25, SV.arr IntKind.u8 16 f_4], SV.slice s_5, SV.slice s_6], SV.int IntKind.i64 n_26] ∧ Keeps
  [b_4, b_8] w1 w1_3 ∧ ∀ (b_11 : Nat) (w1 : World), Upd [] [b_11] w1_3 w1 → Ret Tryd.prog 21 [SV.int IntKind.i64 n_26] w1 fun (r : SV) (w1_4 : World) => ∃
  (n : Int), r = SV.int IntKind.i64 n ∧ Keeps [b_4, b_8, b_11] w1 w1_4 ∧ Br (n == 0) (Ret Tryd.prog 24 [SV.slice s_6, SV.slice s_2] w1_4 fun (r : SV) (w1
  : World) => ∃ (b_12 : Bool), r = SV.bool b_12 ∧ Keeps [b_4, b_8, b_11] w1_4 w1 ∧ Br b_12 (Ret Tryd.prog 22 [SV.slice s, SV.slice b] w1 fun (r : SV) (w1_5
  : World) => ∃ (b : Bool), r = SV.bool b ∧ Keeps [b_4, b_8, b_11] w1 w1_5 ∧ R (SV.bool b) w1_5) (R (SV.bool false) w1)) (R (SV.bool false) w1_4))) → J w1)
  → ∀ (w1 : World), Upd [] [b_8] w1_2 w1 → Ret Tryd.prog 21 [SV.int IntKind.i64 n_18] w1 fun (r : SV) (w1_3 : World) => ∃ (n_19 : Int), r = SV.int IntKind.i64
  n_19 ∧ Keeps [b_4, b_8] w1 w1_3 ∧ Br (n_19 != 0) (R (SV.bool false) w1_3) (Ret Tryd.prog 24 [SV.slice s_4, SV.slice s_2] w1_3 fun (r : SV) (w1 : World)
  => ∃ (b : Bool), r = SV.bool b ∧ Keeps [b_4, b_8] w1_3 w1 ∧ Br (!b) (R (SV.bool false) w1) (some (SV.box b_4 30 (SV.struct [SV.int IntKind.i64 n, SV.int
  IntKind.i64 n_1, SV.bool b_2, SV.bool b_3, SV.int IntKind.i64 n_2, SV.int IntKind.i64 n_3, SV.int IntKind.i64 n_4, SV.struct [SV.int IntKind.i64 n_5, SV.arr
  IntKind.u8 16 f], SV.struct [SV.int IntKind.i64 n_6, SV.arr IntKind.u8 16 f_1], SV.slice s_1, SV.slice s_2])) = some (SV.box b_4 30 (SV.struct [SV.int IntKind.i64
  n, SV.int IntKind.i64 n_1, SV.bool b_2, SV.bool b_3, SV.int IntKind.i64 n_2, SV.int IntKind.i64 n_3, SV.int IntKind.i64 n_4, SV.struct [SV.int IntKind.i64
  n_5, SV.arr IntKind.u8 16 f], SV.struct [SV.int IntKind.i64 n_6, SV.arr IntKind.u8 16 f_1], SV.slice s_1, SV.slice s_2])) ∧ some (SV.box b_8 30 (SV.struct
  [SV.int IntKind.i64 n_11, SV.int IntKind.i64 n_12, SV.bool b_6, SV.bool b_7, SV.int IntKind.i64 n_13, SV.int IntKind.i64 n_14, SV.int IntKind.i64 n_15,
  SV.struct [SV.int IntKind.i64 n_16, SV.arr IntKind.u8 16 f_2], SV.struct [SV.int IntKind.i64 n_17, SV.arr IntKind.u8 16 f_3], SV.slice s_3, SV.slice s_4]))
  = some (SV.box b_8 30 (SV.struct [SV.int IntKind.i64 n_11, SV.int IntKind.i64 n_12, SV.bool b_6, SV.bool b_7, SV.int IntKind.i64 n_13, SV.int IntKind.i64
  n_14, SV.int IntKind.i64 n_15, SV.struct [SV.int IntKind.i64 n_16, SV.arr IntKind.u8 16 f_2], SV.struct [SV.int IntKind.i64 n_17, SV.arr IntKind.u8 16 f_3],
  SV.slice s_3, SV.slice s_4])) ∧ J w1)))))) → J w1) → Ret Tryd.prog 22 [SV.slice s, SV.slice b] w fun (r_1 : SV) (w1 : World) => ∃ (b : Bool), r_1 = SV.bool
  b ∧ Keeps [b_4] w w1 ∧ Br (!b) (R (SV.bool false) w1) (Br ((↑r.2 : Int) != wr IntKind.i64 ((↑s_2.2 : Int) + 3)) (R (SV.bool false) w1) (some (SV.box b_4
  30 (SV.struct [SV.int IntKind.i64 n, SV.int IntKind.i64 n_1, SV.bool b_2, SV.bool b_3, SV.int IntKind.i64 n_2, SV.int IntKind.i64 n_3, SV.int IntKind.i64
  n_4, SV.struct [SV.int IntKind.i64 n_5, SV.arr IntKind.u8 16 f], SV.struct [SV.int IntKind.i64 n_6, SV.arr IntKind.u8 16 f_1], SV.slice s_1, SV.slice s_2]))
  = some (SV.box b_4 30 (SV.struct [SV.int IntKind.i64 n, SV.int IntKind.i64 n_1, SV.bool b_2, SV.bool b_3, SV.int IntKind.i64 n_2, SV.int IntKind.i64 n_3,
  SV.int IntKind.i64 n_4, SV.struct [SV.int IntKind.i64 n_5, SV.arr IntKind.u8 16 f], SV.struct [SV.int IntKind.i64 n_6, SV.arr IntKind.u8 16 f_1], SV.slice
  s_1, SV.slice s_2])) ∧ J w1))) → J w1) → Br (!b_1) (Br b_1 (∀ (w1_1 : World), Upd [] [b_4] w1 w1_1 → Ret Tryd.prog 22 [SV.slice s, SV.slice b] w1_1 fun
  (r : SV) (w1 : World) => ∃ (b : Bool), r = SV.bool b ∧ Keeps [b_4] w1_1 w1 ∧ R (SV.bool b) w1) (∀ (w1_1 : World), Upd [] [b_4] w1 w1_1 → R (SV.bool false)
  w1_1)) (∀ (w1_1 : World), Upd [] [b_4] w1 w1_1 → Ret Tryd.prog 21 [SV.int IntKind.i64 n_7] w1_1 fun (r : SV) (w1 : World) => ∃ (n_8 : Int), r = SV.int IntKind.i64
  n_8 ∧ Keeps [b_4] w1_1 w1 ∧ Br (n_8 != 0) (Br b_1 (Ret Tryd.prog 22 [SV.slice s, SV.slice b] w1 fun (r : SV) (w1_2 : World) => ∃ (b : Bool), r = SV.bool
  b ∧ Keeps [b_4] w1 w1_2 ∧ R (SV.bool b) w1_2) (R (SV.bool false) w1)) (some (SV.box b_4 30 (SV.struct [SV.int IntKind.i64 n, SV.int IntKind.i64 n_1, SV.bool
  b_2, SV.bool b_3, SV.int IntKind.i64 n_2, SV.int IntKind.i64 n_3, SV.int IntKind.i64 n_4, SV.struct [SV.int IntKind.i64 n_5, SV.arr IntKind.u8 16 f], SV.struct
  [SV.int IntKind.i64 n_6, SV.arr IntKind.u8 16 f_1], SV.slice s_1, SV.slice s_2])) = some (SV.box b_4 30 (SV.struct [SV.int IntKind.i64 n, SV.int IntKind.i64
  n_1, SV.bool b_2, SV.bool b_3, SV.int IntKind.i64 n_2, SV.int IntKind.i64 n_3, SV.int IntKind.i64 n_4, SV.struct [SV.int IntKind.i64 n_5, SV.arr IntKind.u8
  16 f], SV.struct [SV.int IntKind.i64 n_6, SV.arr IntKind.u8 16 f_1], SV.slice s_1, SV.slice s_2])) ∧ J w1)))
theorem f3_of (b : Sl) (c : Int) (w : World) (R : SV → World → Prop) (h : vc3 b c w R) : Ret Tryd.prog 3 [.slice b, .int .u8 c] w R :=
  have e : vc3 b c w R = fnVC X Tryd.f3 a3 [.slice b, .int .u8 c] w R := by kernel_rfl
  fnVC_sound X_ok (n := a3) (e ▸ h) (by kernel_rfl) (by kernel_rfl) rfl rfl

end Go.Vc.S6
