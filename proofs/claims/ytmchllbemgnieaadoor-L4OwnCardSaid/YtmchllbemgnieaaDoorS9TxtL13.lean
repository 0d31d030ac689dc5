import Derived.Test.YtmchllbemgnieaaDoorG2
import Derived.Test.YtmchllbemgnieaaDoorG3
import Derived.KernelRfl
open Go Go.Vc Go.Vc.S9 Go.Proofs
set_option maxRecDepth 100000
set_option linter.unusedVariables false
namespace Go.Vc.S9
def vc13 (t_0 : Int) (t_1 : Int) (t_2 : Int) (t_3 : Int) (t_4 : Int) (t_5 : Int) (t_6 : Int) (t_7 : Sl) (t_8 : Sl) (most : Int) (w : World) (R : SV → World
  → Prop) : Prop := ∀ (b : Nat) (w1 : World), Upd [] [b] w w1 → Ret Tryd.prog 18 [] w1 fun (r : SV) (w1_1 : World) => ∃ (b_1 : Bool), r = SV.bool b_1 ∧ Keeps
  [b] w1 w1_1 ∧ Ret Tryd.prog 35 [SV.struct [SV.int IntKind.i64 t_0, SV.int IntKind.i64 t_1, SV.int IntKind.i64 t_2, SV.int IntKind.i64 t_3, SV.int IntKind.i64
  t_4, SV.int IntKind.i64 t_5, SV.int IntKind.i64 t_6, SV.slice t_7, SV.slice t_8], SV.int IntKind.i64 most] w1_1 fun (r : SV) (w1 : World) => ∃ (n : Int),
  ∃ (n_1 : Int), ∃ (n_2 : Int), ∃ (n_3 : Int), ∃ (n_4 : Int), ∃ (n_5 : Int), ∃ (n_6 : Int), ∃ (s : Sl), ∃ (s_1 : Sl), r = SV.struct [SV.int IntKind.i64 n,
  SV.int IntKind.i64 n_1, SV.int IntKind.i64 n_2, SV.int IntKind.i64 n_3, SV.int IntKind.i64 n_4, SV.int IntKind.i64 n_5, SV.int IntKind.i64 n_6, SV.slice
  s, SV.slice s_1] ∧ Keeps [b] w1_1 w1 ∧ ∀ (b_2 : Nat) (w1_2 : World), Upd [] [b_2] w1 w1_2 → Ret Tryd.prog 36 [SV.struct [SV.int IntKind.i64 n, SV.int IntKind.i64
  n_1, SV.int IntKind.i64 n_2, SV.int IntKind.i64 n_3, SV.int IntKind.i64 n_4, SV.int IntKind.i64 n_5, SV.int IntKind.i64 n_6, SV.slice s, SV.slice s_1]]
  w1_2 fun (r : SV) (w1 : World) => ∃ (n_7 : Int), ∃ (b_3 : Bool), r = SV.tuple [SV.int IntKind.i64 n_7, SV.bool b_3] ∧ Keeps [b, b_2] w1_2 w1 ∧ Ret Tryd.prog
  36 [SV.struct [SV.int IntKind.i64 t_0, SV.int IntKind.i64 t_1, SV.int IntKind.i64 t_2, SV.int IntKind.i64 t_3, SV.int IntKind.i64 t_4, SV.int IntKind.i64
  t_5, SV.int IntKind.i64 t_6, SV.slice t_7, SV.slice t_8]] w1 fun (r : SV) (w1_3 : World) => ∃ (n_8 : Int), ∃ (b_4 : Bool), r = SV.tuple [SV.int IntKind.i64
  n_8, SV.bool b_4] ∧ Keeps [b, b_2] w1 w1_3 ∧ ∀ (J : World → Prop), (∀ (w1 : World), (∀ (J : World → Prop), (∀ (w1 : World), (∀ (J : Int → World → Prop),
  (∀ (n_9 : Int) (w1 : World), (Ret Tryd.prog 35 [SV.struct [SV.int IntKind.i64 n, SV.int IntKind.i64 n_1, SV.int IntKind.i64 n_2, SV.int IntKind.i64 n_3,
  SV.int IntKind.i64 n_4, SV.int IntKind.i64 n_5, SV.int IntKind.i64 n_6, SV.slice s, SV.slice s_1], SV.int IntKind.i64 n_9] w1 fun (r : SV) (w1_4 : World)
  => ∃ (n_10 : Int), ∃ (n_11 : Int), ∃ (n_12 : Int), ∃ (n_13 : Int), ∃ (n_14 : Int), ∃ (n_15 : Int), ∃ (n_16 : Int), ∃ (s_2 : Sl), ∃ (s_3 : Sl), r = SV.struct
  [SV.int IntKind.i64 n_10, SV.int IntKind.i64 n_11, SV.int IntKind.i64 n_12, SV.int IntKind.i64 n_13, SV.int IntKind.i64 n_14, SV.int IntKind.i64 n_15, SV.int
  IntKind.i64 n_16, SV.slice s_2, SV.slice s_3] ∧ Keeps [b, b_2] w1 w1_4 ∧ ∀ (b_5 : Nat), Br (n_7 == n_9) (∀ (w1 : World), Upd [] [b_5] w1_4 w1 → Ret Tryd.prog
  28 [SV.struct [SV.int IntKind.i64 n_10, SV.int IntKind.i64 n_11, SV.int IntKind.i64 n_12, SV.int IntKind.i64 n_13, SV.int IntKind.i64 n_14, SV.int IntKind.i64
  n_15, SV.int IntKind.i64 n_16, SV.slice s_2, SV.slice s_3], SV.struct [SV.int IntKind.i64 n, SV.int IntKind.i64 n_1, SV.int IntKind.i64 n_2, SV.int IntKind.i64
  n_3, SV.int IntKind.i64 n_4, SV.int IntKind.i64 n_5, SV.int IntKind.i64 n_6, SV.slice s, SV.slice s_1]] w1 fun (r : SV) (w1_5 : World) => ∃ (b_6 : Bool),
  r = SV.bool b_6 ∧ Keeps [b, b_2, b_5] w1 w1_5 ∧ Upd [] [] w1_4 w1_5 ∧ Br b_6 (Ret Tryd.prog 29 [SV.struct [SV.int IntKind.i64 n, SV.int IntKind.i64 n_1,
  SV.int IntKind.i64 n_2, SV.int IntKind.i64 n_3, SV.int IntKind.i64 n_4, SV.int IntKind.i64 n_5, SV.int IntKind.i64 n_6, SV.slice s, SV.slice s_1]] w1_5
  fun (r : SV) (w1 : World) => ∃ (n : Int), r = SV.int IntKind.i64 n ∧ Keeps [b, b_2, b_5] w1_5 w1 ∧ Upd [] [] w1_4 w1 ∧ Ret Tryd.prog 20 [SV.int IntKind.i64
  n] w1 fun (r : SV) (w1_6 : World) => ∃ (n : Int), r = SV.int IntKind.i64 n ∧ Keeps [b, b_2, b_5] w1 w1_6 ∧ Upd [] [] w1_4 w1_6 ∧ Ret Tryd.prog 29 [SV.struct
  [SV.int IntKind.i64 t_0, SV.int IntKind.i64 t_1, SV.int IntKind.i64 t_2, SV.int IntKind.i64 t_3, SV.int IntKind.i64 t_4, SV.int IntKind.i64 t_5, SV.int
  IntKind.i64 t_6, SV.slice t_7, SV.slice t_8]] w1_6 fun (r : SV) (w1 : World) => ∃ (n_17 : Int), r = SV.int IntKind.i64 n_17 ∧ Keeps [b, b_2, b_5] w1_6 w1
  ∧ Ret Tryd.prog 20 [SV.int IntKind.i64 n_17] w1 fun (r : SV) (w1_7 : World) => ∃ (n_18 : Int), r = SV.int IntKind.i64 n_18 ∧ Keeps [b, b_2, b_5] w1 w1_7
  ∧ R (SV.bool (n == n_18)) w1_7) (R (SV.bool false) w1_5)) (∀ (w1 : World), Upd [] [b_5] w1_4 w1 → R (SV.bool false) w1)) → J n_9 w1) → Br (decide (most
  < 0)) (some (SV.box b 45 (SV.struct [SV.int IntKind.i64 t_0, SV.int IntKind.i64 t_1, SV.int IntKind.i64 t_2, SV.int IntKind.i64 t_3, SV.int IntKind.i64
  t_4, SV.int IntKind.i64 t_5, SV.int IntKind.i64 t_6, SV.slice t_7, SV.slice t_8])) = some (SV.box b 45 (SV.struct [SV.int IntKind.i64 t_0, SV.int IntKind.i64
  t_1, SV.int IntKind.i64 t_2, SV.int IntKind.i64 t_3, SV.int IntKind.i64 t_4, SV.int IntKind.i64 t_5, SV.int IntKind.i64 t_6, SV.slice t_7, SV.slice t_8]))
  ∧ some (SV.box b_2 45 (SV.struct [SV.int IntKind.i64 n, SV.int IntKind.i64 n_1, SV.int IntKind.i64 n_2, SV.int IntKind.i64 n_3, SV.int IntKind.i64 n_4,
  SV.int IntKind.i64 n_5, SV.int IntKind.i64 n_6, SV.slice s, SV.slice s_1])) = some (SV.box b_2 45 (SV.struct [SV.int IntKind.i64 n, SV.int IntKind.i64 n_1,
  SV.int IntKind.i64 n_2, SV.int IntKind.i64 n_3, SV.int IntKind.i64 n_4, SV.int IntKind.i64 n_5, SV.int IntKind.i64 n_6, SV.slice s, SV.slice s_1])) ∧ J
  0 w1) (some (SV.box b 45 (SV.struct [SV.int IntKind.i64 t_0, SV.int IntKind.i64 t_1, SV.int IntKind.i64 t_2, SV.int IntKind.i64 t_3, SV.int IntKind.i64
  t_4, SV.int IntKind.i64 t_5, SV.int IntKind.i64 t_6, SV.slice t_7, SV.slice t_8])) = some (SV.box b 45 (SV.struct [SV.int IntKind.i64 t_0, SV.int IntKind.i64
  t_1, SV.int IntKind.i64 t_2, SV.int IntKind.i64 t_3, SV.int IntKind.i64 t_4, SV.int IntKind.i64 t_5, SV.int IntKind.i64 t_6, SV.slice t_7, SV.slice t_8]))
  ∧ some (SV.box b_2 45 (SV.struct [SV.int IntKind.i64 n, SV.int IntKind.i64 n_1, SV.int IntKind.i64 n_2, SV.int IntKind.i64 n_3, SV.int IntKind.i64 n_4,
  SV.int IntKind.i64 n_5, SV.int IntKind.i64 n_6, SV.slice s, SV.slice s_1])) = some (SV.box b_2 45 (SV.struct [SV.int IntKind.i64 n, SV.int IntKind.i64 n_1,
  SV.int IntKind.i64 n_2, SV.int IntKind.i64 n_3, SV.int IntKind.i64 n_4, SV.int IntKind.i64 n_5, SV.int IntKind.i64 n_6, SV.slice s, SV.slice s_1])) ∧ J
  most w1)) → J w1) → Br (iand IntKind.i64 t_4 2 == 0) (R (SV.bool (n_7 == n_8)) w1) (Br (decide (n_8 ≤ most)) (R (SV.bool (n_7 == n_8)) w1) (some (SV.box
  b 45 (SV.struct [SV.int IntKind.i64 t_0, SV.int IntKind.i64 t_1, SV.int IntKind.i64 t_2, SV.int IntKind.i64 t_3, SV.int IntKind.i64 t_4, SV.int IntKind.i64
  t_5, SV.int IntKind.i64 t_6, SV.slice t_7, SV.slice t_8])) = some (SV.box b 45 (SV.struct [SV.int IntKind.i64 t_0, SV.int IntKind.i64 t_1, SV.int IntKind.i64
  t_2, SV.int IntKind.i64 t_3, SV.int IntKind.i64 t_4, SV.int IntKind.i64 t_5, SV.int IntKind.i64 t_6, SV.slice t_7, SV.slice t_8])) ∧ some (SV.box b_2 45
  (SV.struct [SV.int IntKind.i64 n, SV.int IntKind.i64 n_1, SV.int IntKind.i64 n_2, SV.int IntKind.i64 n_3, SV.int IntKind.i64 n_4, SV.int IntKind.i64 n_5,
  SV.int IntKind.i64 n_6, SV.slice s, SV.slice s_1])) = some (SV.box b_2 45 (SV.struct [SV.int IntKind.i64 n, SV.int IntKind.i64 n_1, SV.int IntKind.i64 n_2,
  SV.int IntKind.i64 n_3, SV.int IntKind.i64 n_4, SV.int IntKind.i64 n_5, SV.int IntKind.i64 n_6, SV.slice s, SV.slice s_1])) ∧ J w1))) → J w1) → Br (!b_1)
  (R (SV.bool false) w1_3) (Br (!b_3 == b_4) (R (SV.bool false) w1_3) (Br ((↑s.2 : Int) != (↑t_7.2 : Int)) (R (SV.bool false) w1_3) (Br (n_4 != t_4) (R (SV.bool
  false) w1_3) (some (SV.box b 45 (SV.struct [SV.int IntKind.i64 t_0, SV.int IntKind.i64 t_1, SV.int IntKind.i64 t_2, SV.int IntKind.i64 t_3, SV.int IntKind.i64
  t_4, SV.int IntKind.i64 t_5, SV.int IntKind.i64 t_6, SV.slice t_7, SV.slice t_8])) = some (SV.box b 45 (SV.struct [SV.int IntKind.i64 t_0, SV.int IntKind.i64
  t_1, SV.int IntKind.i64 t_2, SV.int IntKind.i64 t_3, SV.int IntKind.i64 t_4, SV.int IntKind.i64 t_5, SV.int IntKind.i64 t_6, SV.slice t_7, SV.slice t_8]))
  ∧ some (SV.box b_2 45 (SV.struct [SV.int IntKind.i64 n, SV.int IntKind.i64 n_1, SV.int IntKind.i64 n_2, SV.int IntKind.i64 n_3, SV.int IntKind.i64 n_4,
  SV.int IntKind.i64 n_5, SV.int IntKind.i64 n_6, SV.slice s, SV.slice s_1])) = some (SV.box b_2 45 (SV.struct [SV.int IntKind.i64 n, SV.int IntKind.i64 n_1,
  SV.int IntKind.i64 n_2, SV.int IntKind.i64 n_3, SV.int IntKind.i64 n_4, SV.int IntKind.i64 n_5, SV.int IntKind.i64 n_6, SV.slice s, SV.slice s_1])) ∧ J
  w1_3))))
theorem f13_of (t_0 : Int) (t_1 : Int) (t_2 : Int) (t_3 : Int) (t_4 : Int) (t_5 : Int) (t_6 : Int) (t_7 : Sl) (t_8 : Sl) (most : Int) (w : World) (R : SV → World → Prop) (h : vc13 t_0 t_1 t_2 t_3 t_4 t_5 t_6 t_7 t_8 most w R) : Ret Tryd.prog 13 [.struct [.int .i64 t_0, .int .i64 t_1, .int .i64 t_2, .int .i64 t_3, .int .i64 t_4, .int .i64 t_5, .int .i64 t_6, .slice t_7, .slice t_8], .int .i64 most] w R :=
  have e : vc13 t_0 t_1 t_2 t_3 t_4 t_5 t_6 t_7 t_8 most w R = fnVC X Tryd.f13 a13 [.struct [.int .i64 t_0, .int .i64 t_1, .int .i64 t_2, .int .i64 t_3, .int .i64 t_4, .int .i64 t_5, .int .i64 t_6, .slice t_7, .slice t_8], .int .i64 most] w R := by kernel_rfl
  fnVC_sound X_ok (n := a13) (e ▸ h) (by kernel_rfl) (by kernel_rfl) rfl rfl

end Go.Vc.S9
