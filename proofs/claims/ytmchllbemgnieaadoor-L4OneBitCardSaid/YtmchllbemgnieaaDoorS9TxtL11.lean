import Derived.Test.YtmchllbemgnieaaDoorG2
import Derived.Test.YtmchllbemgnieaaDoorG3
import Derived.KernelRfl
open Go Go.Vc Go.Vc.S9 Go.Proofs
set_option maxRecDepth 100000
set_option linter.unusedVariables false
namespace Go.Vc.S9
def vc11 (src_0 : Int) (src_1 : Nat → Int) (dst_0 : Int) (dst_1 : Nat → Int) (u_0 : Int) (u_1 : Int) (u_2 : Bool) (u_3 : Sl) (t_0 : Int) (t_1 : Int) (t_2
  : Int) (t_3 : Int) (t_4 : Int) (t_5 : Int) (t_6 : Int) (t_7 : Sl) (t_8 : Sl) (bit : Int) (w : World) (R : SV → World → Prop) : Prop := ∀ (b b_1 b_2 b_3
  : Nat) (w1 : World), Upd [] [b_3, b_2, b_1, b] w w1 → Ret Tryd.prog 18 [] w1 fun (r : SV) (w1_1 : World) => ∃ (b_4 : Bool), r = SV.bool b_4 ∧ Keeps [b,
  b_1, b_2, b_3] w1 w1_1 ∧ ∀ (J : Int → World → Prop), (∀ (n : Int) (w1 : World), (∀ (J : World → Prop), (∀ (w1 : World), (∀ (b_5 b_6 : Nat) (J : Int → (Nat
  → Int) → Int → (Nat → Int) → World → Prop), (∀ (n : Int) (f : Nat → Int) (n_1 : Int) (f_1 : Nat → Int) (w1 : World), (Ret Tryd.prog 19 [SV.struct [SV.int
  IntKind.i64 src_0, SV.arr IntKind.u8 16 src_1], SV.struct [SV.int IntKind.i64 dst_0, SV.arr IntKind.u8 16 dst_1], SV.struct [SV.int IntKind.i64 u_0, SV.int
  IntKind.i64 u_1, SV.bool u_2, SV.slice u_3]] w1 fun (r : SV) (w1_2 : World) => ∃ (s : Sl), ∃ (n_2 : Int), r = SV.tuple [SV.slice s, SV.int IntKind.i64 n_2]
  ∧ Keeps [b, b_1, b_2, b_3, b_5, b_6] w1 w1_2 ∧ Ret Tryd.prog 26 [SV.struct [SV.int IntKind.i64 src_0, SV.arr IntKind.u8 16 src_1], SV.struct [SV.int IntKind.i64
  dst_0, SV.arr IntKind.u8 16 dst_1], SV.struct [SV.int IntKind.i64 t_0, SV.int IntKind.i64 t_1, SV.int IntKind.i64 t_2, SV.int IntKind.i64 t_3, SV.int IntKind.i64
  t_4, SV.int IntKind.i64 t_5, SV.int IntKind.i64 t_6, SV.slice t_7, SV.slice t_8]] w1_2 fun (r : SV) (w1 : World) => ∃ (s_1 : Sl), ∃ (n_3 : Int), r = SV.tuple
  [SV.slice s_1, SV.int IntKind.i64 n_3] ∧ Keeps [b, b_1, b_2, b_3, b_5, b_6] w1_2 w1 ∧ Ret Tryd.prog 21 [SV.struct [SV.int IntKind.i64 n, SV.arr IntKind.u8
  16 f], SV.struct [SV.int IntKind.i64 n_1, SV.arr IntKind.u8 16 f_1], SV.slice s] w1 fun (r : SV) (w1_3 : World) => ∃ (n_4 : Int), ∃ (n_5 : Int), ∃ (b_7
  : Bool), ∃ (s : Sl), ∃ (n_6 : Int), r = SV.tuple [SV.struct [SV.int IntKind.i64 n_4, SV.int IntKind.i64 n_5, SV.bool b_7, SV.slice s], SV.int IntKind.i64
  n_6] ∧ Keeps [b, b_1, b_2, b_3, b_5, b_6] w1 w1_3 ∧ ∀ (b_8 : Nat) (w1 : World), Upd [] [b_8] w1_3 w1 → Ret Tryd.prog 27 [SV.struct [SV.int IntKind.i64 n,
  SV.arr IntKind.u8 16 f], SV.struct [SV.int IntKind.i64 n_1, SV.arr IntKind.u8 16 f_1], SV.slice s_1] w1 fun (r : SV) (w1_4 : World) => ∃ (n : Int), ∃ (n_7
  : Int), ∃ (n_8 : Int), ∃ (n_9 : Int), ∃ (n_10 : Int), ∃ (n_11 : Int), ∃ (n_12 : Int), ∃ (s : Sl), ∃ (s_2 : Sl), ∃ (n_13 : Int), r = SV.tuple [SV.struct
  [SV.int IntKind.i64 n, SV.int IntKind.i64 n_7, SV.int IntKind.i64 n_8, SV.int IntKind.i64 n_9, SV.int IntKind.i64 n_10, SV.int IntKind.i64 n_11, SV.int
  IntKind.i64 n_12, SV.slice s, SV.slice s_2], SV.int IntKind.i64 n_13] ∧ Keeps [b, b_1, b_2, b_3, b_5, b_6, b_8] w1 w1_4 ∧ ∀ (b_9 : Nat) (w1 : World), Upd
  [] [b_9] w1_4 w1 → Ret Tryd.prog 20 [SV.int IntKind.i64 n_2] w1 fun (r : SV) (w1_5 : World) => ∃ (n : Int), r = SV.int IntKind.i64 n ∧ Keeps [b, b_1, b_2,
  b_3, b_5, b_6, b_8, b_9] w1 w1_5 ∧ Br (n != 0) (Ret Tryd.prog 20 [SV.int IntKind.i64 n_3] w1_5 fun (r : SV) (w1 : World) => ∃ (n : Int), r = SV.int IntKind.i64
  n ∧ Keeps [b, b_1, b_2, b_3, b_5, b_6, b_8, b_9] w1_5 w1 ∧ Br (n != 0) (R (SV.bool true) w1) (Ret Tryd.prog 20 [SV.int IntKind.i64 n_13] w1 fun (r : SV)
  (w1_6 : World) => ∃ (n : Int), r = SV.int IntKind.i64 n ∧ Keeps [b, b_1, b_2, b_3, b_5, b_6, b_8, b_9] w1 w1_6 ∧ R (SV.bool (n == 96)) w1_6)) (Br u_2 (Ret
  Tryd.prog 20 [SV.int IntKind.i64 n_3] w1_5 fun (r : SV) (w1 : World) => ∃ (n : Int), r = SV.int IntKind.i64 n ∧ Keeps [b, b_1, b_2, b_3, b_5, b_6, b_8,
  b_9] w1_5 w1 ∧ Br (n != 0) (R (SV.bool true) w1) (Ret Tryd.prog 20 [SV.int IntKind.i64 n_13] w1 fun (r : SV) (w1_6 : World) => ∃ (n : Int), r = SV.int IntKind.i64
  n ∧ Keeps [b, b_1, b_2, b_3, b_5, b_6, b_8, b_9] w1 w1_6 ∧ R (SV.bool (n == 96)) w1_6)) (Ret Tryd.prog 20 [SV.int IntKind.i64 n_6] w1_5 fun (r : SV) (w1
  : World) => ∃ (n : Int), r = SV.int IntKind.i64 n ∧ Keeps [b, b_1, b_2, b_3, b_5, b_6, b_8, b_9] w1_5 w1 ∧ Br (n == 93) (Ret Tryd.prog 20 [SV.int IntKind.i64
  n_3] w1 fun (r : SV) (w1_6 : World) => ∃ (n : Int), r = SV.int IntKind.i64 n ∧ Keeps [b, b_1, b_2, b_3, b_5, b_6, b_8, b_9] w1 w1_6 ∧ Br (n != 0) (R (SV.bool
  true) w1_6) (Ret Tryd.prog 20 [SV.int IntKind.i64 n_13] w1_6 fun (r : SV) (w1 : World) => ∃ (n : Int), r = SV.int IntKind.i64 n ∧ Keeps [b, b_1, b_2, b_3,
  b_5, b_6, b_8, b_9] w1_6 w1 ∧ R (SV.bool (n == 96)) w1)) (R (SV.bool false) w1)))) → J n f n_1 f_1 w1) → Br (decide (bit < n)) (Need (decide (0 ≤ wr IntKind.i64
  (Int.tdiv bit 8)) && decide (wr IntKind.i64 (Int.tdiv bit 8) < 16)) (Need (decide (0 ≤ Int.tmod bit 8)) (Need (decide (0 ≤ wr IntKind.i64 (Int.tdiv bit
  8)) && decide (wr IntKind.i64 (Int.tdiv bit 8) < 16)) (∀ (w1_2 : World), Upd [] [b_6, b_5] w1 w1_2 → some (SV.box b 27 (SV.struct [SV.int IntKind.i64 src_0,
  SV.arr IntKind.u8 16 src_1])) = some (SV.box b 27 (SV.struct [SV.int IntKind.i64 src_0, SV.arr IntKind.u8 16 src_1])) ∧ some (SV.box b_1 27 (SV.struct [SV.int
  IntKind.i64 dst_0, SV.arr IntKind.u8 16 dst_1])) = some (SV.box b_1 27 (SV.struct [SV.int IntKind.i64 dst_0, SV.arr IntKind.u8 16 dst_1])) ∧ some (SV.box
  b_2 30 (SV.struct [SV.int IntKind.i64 u_0, SV.int IntKind.i64 u_1, SV.bool u_2, SV.slice u_3])) = some (SV.box b_2 30 (SV.struct [SV.int IntKind.i64 u_0,
  SV.int IntKind.i64 u_1, SV.bool u_2, SV.slice u_3])) ∧ some (SV.box b_3 45 (SV.struct [SV.int IntKind.i64 t_0, SV.int IntKind.i64 t_1, SV.int IntKind.i64
  t_2, SV.int IntKind.i64 t_3, SV.int IntKind.i64 t_4, SV.int IntKind.i64 t_5, SV.int IntKind.i64 t_6, SV.slice t_7, SV.slice t_8])) = some (SV.box b_3 45
  (SV.struct [SV.int IntKind.i64 t_0, SV.int IntKind.i64 t_1, SV.int IntKind.i64 t_2, SV.int IntKind.i64 t_3, SV.int IntKind.i64 t_4, SV.int IntKind.i64 t_5,
  SV.int IntKind.i64 t_6, SV.slice t_7, SV.slice t_8])) ∧ (b_5, 27) = (b_5, 27) ∧ (b_6, 27) = (b_6, 27) ∧ J src_0 (fset src_1 (Int.toNat (wr IntKind.i64 (Int.tdiv
  bit 8))) (ixor IntKind.u8 (src_1 (Int.toNat (wr IntKind.i64 (Int.tdiv bit 8)))) (gshr IntKind.u8 128 (Int.tmod bit 8)))) dst_0 dst_1 w1_2)))) (Need (decide
  (0 ≤ wr IntKind.i64 (wr IntKind.i64 (Int.tdiv bit 8) - wr IntKind.i64 (Int.tdiv n 8))) && decide (wr IntKind.i64 (wr IntKind.i64 (Int.tdiv bit 8) - wr IntKind.i64
  (Int.tdiv n 8)) < 16)) (Need (decide (0 ≤ Int.tmod bit 8)) (Need (decide (0 ≤ wr IntKind.i64 (wr IntKind.i64 (Int.tdiv bit 8) - wr IntKind.i64 (Int.tdiv
  n 8))) && decide (wr IntKind.i64 (wr IntKind.i64 (Int.tdiv bit 8) - wr IntKind.i64 (Int.tdiv n 8)) < 16)) (∀ (w1_2 : World), Upd [] [b_6, b_5] w1 w1_2 →
  some (SV.box b 27 (SV.struct [SV.int IntKind.i64 src_0, SV.arr IntKind.u8 16 src_1])) = some (SV.box b 27 (SV.struct [SV.int IntKind.i64 src_0, SV.arr IntKind.u8
  16 src_1])) ∧ some (SV.box b_1 27 (SV.struct [SV.int IntKind.i64 dst_0, SV.arr IntKind.u8 16 dst_1])) = some (SV.box b_1 27 (SV.struct [SV.int IntKind.i64
  dst_0, SV.arr IntKind.u8 16 dst_1])) ∧ some (SV.box b_2 30 (SV.struct [SV.int IntKind.i64 u_0, SV.int IntKind.i64 u_1, SV.bool u_2, SV.slice u_3])) = some
  (SV.box b_2 30 (SV.struct [SV.int IntKind.i64 u_0, SV.int IntKind.i64 u_1, SV.bool u_2, SV.slice u_3])) ∧ some (SV.box b_3 45 (SV.struct [SV.int IntKind.i64
  t_0, SV.int IntKind.i64 t_1, SV.int IntKind.i64 t_2, SV.int IntKind.i64 t_3, SV.int IntKind.i64 t_4, SV.int IntKind.i64 t_5, SV.int IntKind.i64 t_6, SV.slice
  t_7, SV.slice t_8])) = some (SV.box b_3 45 (SV.struct [SV.int IntKind.i64 t_0, SV.int IntKind.i64 t_1, SV.int IntKind.i64 t_2, SV.int IntKind.i64 t_3, SV.int
  IntKind.i64 t_4, SV.int IntKind.i64 t_5, SV.int IntKind.i64 t_6, SV.slice t_7, SV.slice t_8])) ∧ (b_5, 27) = (b_5, 27) ∧ (b_6, 27) = (b_6, 27) ∧ J src_0
  src_1 dst_0 (fset dst_1 (Int.toNat (wr IntKind.i64 (wr IntKind.i64 (Int.tdiv bit 8) - wr IntKind.i64 (Int.tdiv n 8)))) (ixor IntKind.u8 (dst_1 (Int.toNat
  (wr IntKind.i64 (wr IntKind.i64 (Int.tdiv bit 8) - wr IntKind.i64 (Int.tdiv n 8))))) (gshr IntKind.u8 128 (Int.tmod bit 8)))) w1_2))))) → J w1) → Br (!b_4)
  (R (SV.bool b_4) w1) (Br (decide (bit < 0)) (R (SV.bool b_4) w1) (Br (decide (bit ≥ wr IntKind.i64 (2 * n))) (R (SV.bool b_4) w1) (some (SV.box b 27 (SV.struct
  [SV.int IntKind.i64 src_0, SV.arr IntKind.u8 16 src_1])) = some (SV.box b 27 (SV.struct [SV.int IntKind.i64 src_0, SV.arr IntKind.u8 16 src_1])) ∧ some
  (SV.box b_1 27 (SV.struct [SV.int IntKind.i64 dst_0, SV.arr IntKind.u8 16 dst_1])) = some (SV.box b_1 27 (SV.struct [SV.int IntKind.i64 dst_0, SV.arr IntKind.u8
  16 dst_1])) ∧ some (SV.box b_2 30 (SV.struct [SV.int IntKind.i64 u_0, SV.int IntKind.i64 u_1, SV.bool u_2, SV.slice u_3])) = some (SV.box b_2 30 (SV.struct
  [SV.int IntKind.i64 u_0, SV.int IntKind.i64 u_1, SV.bool u_2, SV.slice u_3])) ∧ some (SV.box b_3 45 (SV.struct [SV.int IntKind.i64 t_0, SV.int IntKind.i64
  t_1, SV.int IntKind.i64 t_2, SV.int IntKind.i64 t_3, SV.int IntKind.i64 t_4, SV.int IntKind.i64 t_5, SV.int IntKind.i64 t_6, SV.slice t_7, SV.slice t_8]))
  = some (SV.box b_3 45 (SV.struct [SV.int IntKind.i64 t_0, SV.int IntKind.i64 t_1, SV.int IntKind.i64 t_2, SV.int IntKind.i64 t_3, SV.int IntKind.i64 t_4,
  SV.int IntKind.i64 t_5, SV.int IntKind.i64 t_6, SV.slice t_7, SV.slice t_8])) ∧ J w1)))) → J n w1) → Br (src_0 == 6) (some (SV.box b 27 (SV.struct [SV.int
  IntKind.i64 src_0, SV.arr IntKind.u8 16 src_1])) = some (SV.box b 27 (SV.struct [SV.int IntKind.i64 src_0, SV.arr IntKind.u8 16 src_1])) ∧ some (SV.box
  b_1 27 (SV.struct [SV.int IntKind.i64 dst_0, SV.arr IntKind.u8 16 dst_1])) = some (SV.box b_1 27 (SV.struct [SV.int IntKind.i64 dst_0, SV.arr IntKind.u8
  16 dst_1])) ∧ some (SV.box b_2 30 (SV.struct [SV.int IntKind.i64 u_0, SV.int IntKind.i64 u_1, SV.bool u_2, SV.slice u_3])) = some (SV.box b_2 30 (SV.struct
  [SV.int IntKind.i64 u_0, SV.int IntKind.i64 u_1, SV.bool u_2, SV.slice u_3])) ∧ some (SV.box b_3 45 (SV.struct [SV.int IntKind.i64 t_0, SV.int IntKind.i64
  t_1, SV.int IntKind.i64 t_2, SV.int IntKind.i64 t_3, SV.int IntKind.i64 t_4, SV.int IntKind.i64 t_5, SV.int IntKind.i64 t_6, SV.slice t_7, SV.slice t_8]))
  = some (SV.box b_3 45 (SV.struct [SV.int IntKind.i64 t_0, SV.int IntKind.i64 t_1, SV.int IntKind.i64 t_2, SV.int IntKind.i64 t_3, SV.int IntKind.i64 t_4,
  SV.int IntKind.i64 t_5, SV.int IntKind.i64 t_6, SV.slice t_7, SV.slice t_8])) ∧ J 128 w1_1) (some (SV.box b 27 (SV.struct [SV.int IntKind.i64 src_0, SV.arr
  IntKind.u8 16 src_1])) = some (SV.box b 27 (SV.struct [SV.int IntKind.i64 src_0, SV.arr IntKind.u8 16 src_1])) ∧ some (SV.box b_1 27 (SV.struct [SV.int
  IntKind.i64 dst_0, SV.arr IntKind.u8 16 dst_1])) = some (SV.box b_1 27 (SV.struct [SV.int IntKind.i64 dst_0, SV.arr IntKind.u8 16 dst_1])) ∧ some (SV.box
  b_2 30 (SV.struct [SV.int IntKind.i64 u_0, SV.int IntKind.i64 u_1, SV.bool u_2, SV.slice u_3])) = some (SV.box b_2 30 (SV.struct [SV.int IntKind.i64 u_0,
  SV.int IntKind.i64 u_1, SV.bool u_2, SV.slice u_3])) ∧ some (SV.box b_3 45 (SV.struct [SV.int IntKind.i64 t_0, SV.int IntKind.i64 t_1, SV.int IntKind.i64
  t_2, SV.int IntKind.i64 t_3, SV.int IntKind.i64 t_4, SV.int IntKind.i64 t_5, SV.int IntKind.i64 t_6, SV.slice t_7, SV.slice t_8])) = some (SV.box b_3 45
  (SV.struct [SV.int IntKind.i64 t_0, SV.int IntKind.i64 t_1, SV.int IntKind.i64 t_2, SV.int IntKind.i64 t_3, SV.int IntKind.i64 t_4, SV.int IntKind.i64 t_5,
  SV.int IntKind.i64 t_6, SV.slice t_7, SV.slice t_8])) ∧ J 32 w1_1)
theorem f11_of (src_0 : Int) (src_1 : Nat → Int) (dst_0 : Int) (dst_1 : Nat → Int) (u_0 : Int) (u_1 : Int) (u_2 : Bool) (u_3 : Sl) (t_0 : Int) (t_1 : Int) (t_2 : Int) (t_3 : Int) (t_4 : Int) (t_5 : Int) (t_6 : Int) (t_7 : Sl) (t_8 : Sl) (bit : Int) (w : World) (R : SV → World → Prop) (h : vc11 src_0 src_1 dst_0 dst_1 u_0 u_1 u_2 u_3 t_0 t_1 t_2 t_3 t_4 t_5 t_6 t_7 t_8 bit w R) : Ret Tryd.prog 11 [.struct [.int .i64 src_0, .arr .u8 16 src_1], .struct [.int .i64 dst_0, .arr .u8 16 dst_1], .struct [.int .i64 u_0, .int .i64 u_1, .bool u_2, .slice u_3], .struct [.int .i64 t_0, .int .i64 t_1, .int .i64 t_2, .int .i64 t_3, .int .i64 t_4, .int .i64 t_5, .int .i64 t_6, .slice t_7, .slice t_8], .int .i64 bit] w R :=
  have e : vc11 src_0 src_1 dst_0 dst_1 u_0 u_1 u_2 u_3 t_0 t_1 t_2 t_3 t_4 t_5 t_6 t_7 t_8 bit w R = fnVC X Tryd.f11 a11 [.struct [.int .i64 src_0, .arr .u8 16 src_1], .struct [.int .i64 dst_0, .arr .u8 16 dst_1], .struct [.int .i64 u_0, .int .i64 u_1, .bool u_2, .slice u_3], .struct [.int .i64 t_0, .int .i64 t_1, .int .i64 t_2, .int .i64 t_3, .int .i64 t_4, .int .i64 t_5, .int .i64 t_6, .slice t_7, .slice t_8], .int .i64 bit] w R := by kernel_rfl
  fnVC_sound X_ok (n := a11) (e ▸ h) (by kernel_rfl) (by kernel_rfl) rfl rfl

end Go.Vc.S9
