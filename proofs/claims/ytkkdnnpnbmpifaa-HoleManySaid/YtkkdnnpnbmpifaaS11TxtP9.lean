import Derived.Test.YtkkdnnpnbmpifaaG3
import Derived.KernelRfl
open Go Go.Vc Go.Vc.S11 Go.Proofs
set_option maxRecDepth 100000
set_option linter.unusedVariables false
namespace Go.Vc.S11
def vc9 (n : Int) (size : Int) (w : World) (R : SV → World → Prop) : Prop := Need (decide (0 ≤ imin (imax n 1) 65535) && decide (imin (imax n 1) 65535 ≤
  imin (imax n 1) 65535) && decide (imin (imax n 1) 65535 ≤ 281474976710656) && decide (1 * imin (imax n 1) 65535 ≤ 281474976710656)) (∀ (b : Nat) (w1 : World),
  Upd [] [b] w w1 → (World.heap w1)[b]? = some (Obj.cells { toList := zerosOf (Ty.int IntKind.u8) (Int.toNat (imin (imax n 1) 65535)) } 5) → ∃ (I : Int →
  World → Prop), ∃ (M : Int → World → Nat), I 0 w1 ∧ ∀ (n_1 : Int) (w1 : World), I n_1 w1 → Br (decide (n_1 < imin (imax n 1) 65535)) (Need (decide (0 ≤ n_1)
  && decide (n_1 < (↑(Int.toNat (imin (imax n 1) 65535)) : Int)) && true) (Store w1 (Sl.at { ptr := some { block := b, off := 0 }, len := Int.toNat (imin (imax n 1) 65535), cap := Int.toNat (imin (imax n 1) 65535) }
  1 (Int.toNat n_1)) (SV.cells (SV.int IntKind.u8 (wr IntKind.u8 (wr IntKind.i64 (wr IntKind.i64 (n_1 * 7) + gshr IntKind.i64 n_1 8))))) [] fun (w1_1 : World)
  => I (wr IntKind.i64 (n_1 + 1)) w1_1 ∧ M (wr IntKind.i64 (n_1 + 1)) w1_1 < M n_1 w1)) (Ret Try.prog 10 [SV.int IntKind.i64 65535] w1 fun (r : SV) (w1 :
  World) => ∃ (p : Option Addr), ∃ (n_2 : Int), r = SV.tuple [SV.ptr p, SV.int IntKind.i64 n_2] ∧ ∀ (J : World → Prop), (∀ (w1 : World), Need (wr IntKind.i64
  (8 * imin (imax size 1) 8192) != 0) (∃ (I : Int → Int → World → Prop), ∃ (M : Int → Int → World → Nat), I 0 0 w1 ∧ ∀ (n_3 n_4 : Int) (w1 : World), I n_3
  n_4 w1 → Br (decide (n_4 < wr IntKind.i64 (2 * wr IntKind.i64 (Int.tdiv (wr IntKind.i64 (wr IntKind.i64 (imin (imax n 1) 65535 + wr IntKind.i64 (8 * imin
  (imax size 1) 8192)) - 1)) (wr IntKind.i64 (8 * imin (imax size 1) 8192)))))) (∀ (J : Int → World → Prop), (∀ (n : Int) (w1_1 : World), I n (wr IntKind.i64
  (n_4 + 1)) w1_1 ∧ M n (wr IntKind.i64 (n_4 + 1)) w1_1 < M n_3 n_4 w1 → J n w1_1) → ∀ (J_1 : World → Prop), (∀ (w1 : World), (∀ (J_2 : Int → World → Prop),
  (∀ (n_5 : Int) (w1 : World), Br (decide (n_5 ≥ wr IntKind.i64 (Int.tdiv (wr IntKind.i64 (wr IntKind.i64 (imin (imax n 1) 65535 + wr IntKind.i64 (8 * imin
  (imax size 1) 8192)) - 1)) (wr IntKind.i64 (8 * imin (imax size 1) 8192))))) (J n_3 w1) (Need (decide (0 ≤ imin (imin (imax n 1) 65535) (wr IntKind.i64
  (wr IntKind.i64 (n_5 + 1) * wr IntKind.i64 (8 * imin (imax size 1) 8192)))) && decide (imin (imin (imax n 1) 65535) (wr IntKind.i64 (wr IntKind.i64 (n_5
  + 1) * wr IntKind.i64 (8 * imin (imax size 1) 8192))) ≤ (↑(Int.toNat (imin (imax n 1) 65535)) : Int)) && (decide (0 ≤ wr IntKind.i64 (n_5 * wr IntKind.i64
  (8 * imin (imax size 1) 8192))) && decide (wr IntKind.i64 (n_5 * wr IntKind.i64 (8 * imin (imax size 1) 8192)) ≤ (↑(Int.toNat (imin (imin (imax n 1) 65535)
  (wr IntKind.i64 (wr IntKind.i64 (n_5 + 1) * wr IntKind.i64 (8 * imin (imax size 1) 8192))))) : Int)))) (Ret Try.prog 12 [SV.ptr p, SV.int IntKind.i64 (wr
  IntKind.i64 (n_5 * wr IntKind.i64 (8 * imin (imax size 1) 8192))), SV.slice (Sl.sub { ptr := some { block := b, off := 0 }, len := Int.toNat (imin (imax n 1) 65535), cap := Int.toNat (imin (imax n 1) 65535) }
  1 (Int.toNat (wr IntKind.i64 (n_5 * wr IntKind.i64 (8 * imin (imax size 1) 8192)))) (Int.toNat (imin (imin (imax n 1) 65535) (wr IntKind.i64 (wr IntKind.i64
  (n_5 + 1) * wr IntKind.i64 (8 * imin (imax size 1) 8192))))) (Int.toNat (imin (imax n 1) 65535))), SV.bool (decide (imin (imin (imax n 1) 65535) (wr IntKind.i64
  (wr IntKind.i64 (n_5 + 1) * wr IntKind.i64 (8 * imin (imax size 1) 8192))) < imin (imax n 1) 65535))] w1 fun (r : SV) (w1 : World) => ∃ (n_6 : Int), ∃ (n_7
  : Int), ∃ (b : Bool), ∃ (n_8 : Int), r = SV.tuple [SV.struct [SV.int IntKind.i64 n_6, SV.int IntKind.i64 n_7, SV.bool b], SV.int IntKind.i64 n_8] ∧ ∀ (b_1
  : Nat), Br (n_8 != 0) (∀ (w1_1 : World), Upd [] [b_1] w1 w1_1 → R (SV.bool false) w1_1) (Br (n_6 != wr IntKind.i64 (imin (imin (imax n 1) 65535) (wr IntKind.i64
  (wr IntKind.i64 (n_5 + 1) * wr IntKind.i64 (8 * imin (imax size 1) 8192))) - wr IntKind.i64 (n_5 * wr IntKind.i64 (8 * imin (imax size 1) 8192)))) (∀ (w1_1
  : World), Upd [] [b_1] w1 w1_1 → R (SV.bool false) w1_1) (Br (n_7 != 0) (∀ (w1_1 : World), Upd [] [b_1] w1 w1_1 → R (SV.bool false) w1_1) (Br b (∀ (w1_1
  : World), Upd [] [b_1] w1 w1_1 → R (SV.bool false) w1_1) (∀ (w1_1 : World), Upd [] [b_1] w1 w1_1 → Ret Try.prog 15 [SV.ptr p] w1_1 fun (r : SV) (w1 : World)
  => ∃ (n_9 : Int), r = SV.int IntKind.i64 n_9 ∧ Keeps [b_1] w1_1 w1 ∧ Br (n_9 != wr IntKind.i64 (wr IntKind.i64 (n_3 + imin (imin (imax n 1) 65535) (wr IntKind.i64
  (wr IntKind.i64 (n_5 + 1) * wr IntKind.i64 (8 * imin (imax size 1) 8192)))) - wr IntKind.i64 (n_5 * wr IntKind.i64 (8 * imin (imax size 1) 8192)))) (R (SV.bool
  false) w1) (Ret Try.prog 16 [SV.ptr p] w1 fun (r : SV) (w1_2 : World) => ∃ (b : Bool), r = SV.bool b ∧ Keeps [b_1] w1 w1_2 ∧ Br (!b == (wr IntKind.i64 (wr
  IntKind.i64 (n_3 + imin (imin (imax n 1) 65535) (wr IntKind.i64 (wr IntKind.i64 (n_5 + 1) * wr IntKind.i64 (8 * imin (imax size 1) 8192)))) - wr IntKind.i64
  (n_5 * wr IntKind.i64 (8 * imin (imax size 1) 8192))) == imin (imax n 1) 65535)) (R (SV.bool false) w1_2) (J (wr IntKind.i64 (wr IntKind.i64 (n_3 + imin
  (imin (imax n 1) 65535) (wr IntKind.i64 (wr IntKind.i64 (n_5 + 1) * wr IntKind.i64 (8 * imin (imax size 1) 8192)))) - wr IntKind.i64 (n_5 * wr IntKind.i64
  (8 * imin (imax size 1) 8192)))) w1_2)))))))) → J_2 n_5 w1) → Br (decide (n_4 ≥ wr IntKind.i64 (Int.tdiv (wr IntKind.i64 (wr IntKind.i64 (imin (imax n 1)
  65535 + wr IntKind.i64 (8 * imin (imax size 1) 8192)) - 1)) (wr IntKind.i64 (8 * imin (imax size 1) 8192))))) (J_2 (wr IntKind.i64 (2 * wr IntKind.i64 (wr
  IntKind.i64 (wr IntKind.i64 (2 * wr IntKind.i64 (Int.tdiv (wr IntKind.i64 (wr IntKind.i64 (imin (imax n 1) 65535 + wr IntKind.i64 (8 * imin (imax size 1)
  8192)) - 1)) (wr IntKind.i64 (8 * imin (imax size 1) 8192)))) - 1) - n_4))) w1) (J_2 (wr IntKind.i64 (wr IntKind.i64 (2 * n_4) + 1)) w1)) → J_1 w1) → Br
  (n_4 == wr IntKind.i64 (Int.tdiv (wr IntKind.i64 (wr IntKind.i64 (imin (imax n 1) 65535 + wr IntKind.i64 (8 * imin (imax size 1) 8192)) - 1)) (wr IntKind.i64
  (8 * imin (imax size 1) 8192)))) (Ret Try.prog 11 [SV.ptr p] w1 fun (r : SV) (w1 : World) => ∃ (s : Sl), r = SV.slice s ∧ Br ((↑s.2 : Int) != wr IntKind.i64
  (Int.tdiv (wr IntKind.i64 (wr IntKind.i64 (Int.tdiv (wr IntKind.i64 (wr IntKind.i64 (imin (imax n 1) 65535 + wr IntKind.i64 (8 * imin (imax size 1) 8192))
  - 1)) (wr IntKind.i64 (8 * imin (imax size 1) 8192))) + 1)) 2)) (R (SV.bool false) w1) (J_1 w1)) (J_1 w1)) (Ret Try.prog 18 [SV.ptr p] w1 fun (r : SV) (w1
  : World) => ∃ (s : Sl), ∃ (b_1 : Bool), r = SV.tuple [SV.slice s, SV.bool b_1] ∧ Ret Try.prog 14 [SV.ptr p] w1 fun (r : SV) (w1 : World) => ∃ (n_5 : Int),
  ∃ (b_2 : Bool), r = SV.tuple [SV.int IntKind.i64 n_5, SV.bool b_2] ∧ Need (decide (0 ≤ imin (imin (imax n 1) 65535) (wr IntKind.i64 (8 * imin (imax size
  1) 8192))) && decide (imin (imin (imax n 1) 65535) (wr IntKind.i64 (8 * imin (imax size 1) 8192)) ≤ (↑(Int.toNat (imin (imax n 1) 65535)) : Int))) (Ret
  Try.prog 12 [SV.ptr p, SV.int IntKind.i64 0, SV.slice (Sl.sub { ptr := some { block := b, off := 0 }, len := Int.toNat (imin (imax n 1) 65535), cap := Int.toNat (imin (imax n 1) 65535) }
  1 0 (Int.toNat (imin (imin (imax n 1) 65535) (wr IntKind.i64 (8 * imin (imax size 1) 8192)))) (Int.toNat (imin (imax n 1) 65535))), SV.bool (decide (imin
  (imax n 1) 65535 > wr IntKind.i64 (8 * imin (imax size 1) 8192)))] w1 fun (r : SV) (w1 : World) => ∃ (n_6 : Int), ∃ (n_7 : Int), ∃ (b_3 : Bool), ∃ (n_8
  : Int), r = SV.tuple [SV.struct [SV.int IntKind.i64 n_6, SV.int IntKind.i64 n_7, SV.bool b_3], SV.int IntKind.i64 n_8] ∧ ∀ (b_4 : Nat), Br b_1 (∀ (w1_1
  : World), Upd [] [b_4] w1 w1_1 → Ret Try.prog 19 [SV.slice s, SV.slice { ptr := some { block := b, off := 0 }, len := Int.toNat (imin (imax n 1) 65535), cap := Int.toNat (imin (imax n 1) 65535) }]
  w1_1 fun (r : SV) (w1 : World) => ∃ (b : Bool), r = SV.bool b ∧ Keeps [b_4] w1_1 w1 ∧ Br b (Br b_2 (Br (n_5 == imin (imax n 1) 65535) (Ret Try.prog 11 [SV.ptr
  p] w1 fun (r : SV) (w1_2 : World) => ∃ (s : Sl), r = SV.slice s ∧ Keeps [b_4] w1 w1_2 ∧ Br ((↑s.2 : Int) == 0) (Br (n_8 == 0) (Br (n_6 == 0) (R (SV.bool
  b_3) w1_2) (R (SV.bool false) w1_2)) (R (SV.bool false) w1_2)) (R (SV.bool false) w1_2)) (R (SV.bool false) w1)) (R (SV.bool false) w1)) (R (SV.bool false)
  w1)) (∀ (w1_1 : World), Upd [] [b_4] w1 w1_1 → R (SV.bool false) w1_1)))) → J w1) → Br (Option.isNone p) (R (SV.bool false) w1) (Br (n_2 != 0) (R (SV.bool
  false) w1) (J w1))))
theorem f9_of (n : Int) (size : Int) (w : World) (R : SV → World → Prop) (hV : vc9 n size w R) : Ret Try.prog 9 [.int .i64 n, .int .i64 size] w R :=
  have e : vc9 n size w R = fnVC X Try.f9 a9 [.int .i64 n, .int .i64 size] w R := by kernel_rfl
  fnVC_sound X_ok (n := a9) (e ▸ hV) (by kernel_rfl) (by kernel_rfl) rfl rfl

end Go.Vc.S11
