import Derived.Test.YtncgcdicadibbaaG3
import Derived.KernelRfl
open Go Go.Vc Go.Vc.S2 Go.Proofs
set_option maxRecDepth 100000
set_option linter.unusedVariables false
namespace Go.Vc.S2
def vc10 (parts : Sl) (check : Int) (turns : Sl) (w : World) (R : SV → World → Prop) : Prop := Ret Try.prog 13 [] w fun (r : SV) (w1 : World) => ∃ (b :
  Bool), r = SV.bool b ∧ Br (!b) (R (SV.bool false) w1) (∀ (J : Sl → World → Prop), (∀ (s : Sl) (w1 : World), (Ret Try.prog 33 [SV.slice s] w1 fun (r : SV)
  (w1 : World) => ∃ (s : Sl), r = SV.slice s ∧ ∃ (I : Int → World → Prop), ∃ (M : Int → World → Nat), I 0 w1 ∧ ∀ (n : Int) (w1 : World), I n w1 → ∀ (J : World
  → Prop), (∀ (w1_1 : World), (∀ (J : World → Prop), (∀ (w1_2 : World), I (wr IntKind.i64 (n + 1)) w1_2 ∧ M (wr IntKind.i64 (n + 1)) w1_2 < M n w1 → J w1_2)
  → ∃ (I : Sl → Int → World → Prop), ∃ (M : Sl → Int → World → Nat), I { ptr := none, len := 0, cap := 0 } 0 w1_1 ∧ ∀ (s_1 : Sl) (n_1 : Int) (w1 : World),
  I s_1 n_1 w1 → Br (decide (n_1 < (↑s.2 : Int))) (Need (decide (0 ≤ n_1) && decide (n_1 < (↑s.2 : Int)) && Option.isSome s.1) (∃ (s_2 : Sl), World.cell?
  w1 (Sl.at s 1 (Int.toNat n_1)) = some (Sl.val s_2) ∧ Ret Try.prog 34 [SV.slice s_2] w1 fun (r : SV) (w1_2 : World) => ∃ (s : Sl), r = SV.slice s ∧ ∀ (b
  : Nat) (w1_3 : World), Upd [] [b] w1_2 w1_3 → (World.heap w1_3)[b]? = some (Obj.cells { toList := SV.cells (SV.struct [SV.slice s]) } 24) → Vc.Append 24
  1 24 s_1 { ptr := some { block := b, off := 0 }, len := 1, cap := 1 } [] w1_3 fun (r : Sl) (w : World) => I r (wr IntKind.i64 (n_1 + 1)) w ∧ M r (wr IntKind.i64
  (n_1 + 1)) w < M s_1 n_1 w1)) (∀ (J_1 : World → Prop), (∀ (w1 : World), (∀ (J_2 : World → Prop), (∀ (w1 : World), (Ret Try.prog 35 [SV.slice s, SV.slice
  s_1] w1 fun (r : SV) (w1 : World) => ∃ (b : Bool), r = SV.bool b ∧ Br (!b) (R (SV.bool false) w1) (Br (decide (n < (↑turns.2 : Int))) (Need (decide (0 ≤
  n) && decide (n < (↑turns.2 : Int)) && Option.isSome turns.1) (∃ (n_2 : Int), World.cell? w1 (Sl.at turns 4 (Int.toNat n)) = some (Value.int IntKind.i64
  n_2) ∧ ∃ (n_3 : Int), World.cell? w1 (Addr.add (Sl.at turns 4 (Int.toNat n)) 1) = some (Value.int IntKind.i64 n_3) ∧ ∃ (n_4 : Int), World.cell? w1 (Addr.add
  (Sl.at turns 4 (Int.toNat n)) 2) = some (Value.int IntKind.u8 n_4) ∧ ∃ (b : Bool), World.cell? w1 (Addr.add (Sl.at turns 4 (Int.toNat n)) 3) = some (Value.bool
  b) ∧ Ret Try.prog 36 [SV.slice s, SV.struct [SV.int IntKind.i64 n_2, SV.int IntKind.i64 n_3, SV.int IntKind.u8 n_4, SV.bool b]] w1 fun (r : SV) (w1 : World)
  => r = SV.tuple [] ∧ J w1)) (J w1))) → J_2 w1) → Br (decide ((↑s.2 : Int) > 1)) (Need (decide (0 < (↑s.2 : Int)) && Option.isSome s.1) (∃ (s_2 : Sl), World.cell?
  w1 (Sl.at s 1 0) = some (Sl.val s_2) ∧ Need (decide (1 < (↑s.2 : Int)) && Option.isSome s.1) (∃ (s_3 : Sl), World.cell? w1 (Sl.at s 1 1) = some (Sl.val
  s_3) ∧ ∀ (w1_2 : World), Upd [] [] w1 w1_2 → Ret Try.prog 30 [SV.int IntKind.i64 check, SV.slice s_2, SV.slice s_3] w1_2 fun (r : SV) (w1 : World) => ∃
  (n : Int), ∃ (n_2 : Int), r = SV.tuple [SV.int IntKind.i64 n, SV.int IntKind.i64 n_2] ∧ Need (decide (0 < (↑s_1.2 : Int)) && Option.isSome s_1.1) (∃ (s_4
  : Sl), World.cell? w1 (Sl.at s_1 1 0) = some (Sl.val s_4) ∧ Need (decide (1 < (↑s_1.2 : Int)) && Option.isSome s_1.1) (∃ (s_5 : Sl), World.cell? w1 (Sl.at
  s_1 1 1) = some (Sl.val s_5) ∧ ∀ (w1_3 : World), Upd [] [] w1 w1_3 → Ret Try.prog 31 [SV.int IntKind.i64 check, SV.slice s_4, SV.slice s_5] w1_3 fun (r
  : SV) (w1 : World) => ∃ (n_3 : Int), ∃ (n_4 : Int), r = SV.tuple [SV.int IntKind.i64 n_3, SV.int IntKind.i64 n_4] ∧ Need (decide (1 < (↑s.2 : Int)) && Option.isSome
  s.1) (∃ (s_6 : Sl), World.cell? w1 (Sl.at s 1 1) = some (Sl.val s_6) ∧ Need (decide (1 < (↑s.2 : Int)) && Option.isSome s.1) (∃ (s_7 : Sl), World.cell?
  w1 (Sl.at s 1 1) = some (Sl.val s_7) ∧ ∀ (w1_4 : World), Upd [] [] w1 w1_4 → Ret Try.prog 30 [SV.int IntKind.i64 check, SV.slice s_6, SV.slice s_7] w1_4
  fun (r : SV) (w1 : World) => ∃ (n_5 : Int), ∃ (n_6 : Int), r = SV.tuple [SV.int IntKind.i64 n_5, SV.int IntKind.i64 n_6] ∧ Need (decide (1 < (↑s_1.2 : Int))
  && Option.isSome s_1.1) (∃ (s : Sl), World.cell? w1 (Sl.at s_1 1 1) = some (Sl.val s) ∧ Need (decide (1 < (↑s_1.2 : Int)) && Option.isSome s_1.1) (∃ (s_8
  : Sl), World.cell? w1 (Sl.at s_1 1 1) = some (Sl.val s_8) ∧ ∀ (w1_5 : World), Upd [] [] w1 w1_5 → Ret Try.prog 31 [SV.int IntKind.i64 check, SV.slice s,
  SV.slice s_8] w1_5 fun (r : SV) (w1 : World) => ∃ (n_7 : Int), ∃ (n_8 : Int), r = SV.tuple [SV.int IntKind.i64 n_7, SV.int IntKind.i64 n_8] ∧ Br (n_2 !=
  n_4) (R (SV.bool false) w1) (Br (n != n_3) (R (SV.bool false) w1) (Br (n_6 != n_8) (R (SV.bool false) w1) (Br (n_5 != n_7) (R (SV.bool false) w1) (J_2 w1)))))))))))))
  (J_2 w1)) → J_1 w1) → Ret Try.prog 16 [SV.slice s] w1 fun (r : SV) (w1 : World) => ∃ (n : Int), r = SV.int IntKind.i64 n ∧ Ret Try.prog 19 [SV.slice s_1]
  w1 fun (r : SV) (w1 : World) => ∃ (n_2 : Int), r = SV.int IntKind.i64 n_2 ∧ Br (n != n_2) (R (SV.bool false) w1) (Ret Try.prog 17 [SV.slice s] w1 fun (r
  : SV) (w1 : World) => ∃ (n : Int), r = SV.int IntKind.i64 n ∧ Ret Try.prog 20 [SV.slice s_1] w1 fun (r : SV) (w1 : World) => ∃ (n_3 : Int), r = SV.int IntKind.i64
  n_3 ∧ Br (n != n_3) (R (SV.bool false) w1) (Ret Try.prog 18 [SV.slice s] w1 fun (r : SV) (w1 : World) => ∃ (b : Bool), r = SV.bool b ∧ Ret Try.prog 21 [SV.slice
  s_1] w1 fun (r : SV) (w1 : World) => ∃ (b_1 : Bool), r = SV.bool b_1 ∧ Br (!b == b_1) (R (SV.bool false) w1) (J_1 w1))))) → J w1_1) → Br (decide (n ≤ (↑turns.2
  : Int))) (Br (decide (n ≤ 12)) (J w1) (Ret Try.prog 13 [] w1 fun (r : SV) (w1 : World) => ∃ (b : Bool), r = SV.bool b ∧ R (SV.bool b) w1)) (Ret Try.prog
  13 [] w1 fun (r : SV) (w1 : World) => ∃ (b : Bool), r = SV.bool b ∧ R (SV.bool b) w1)) → J s w1) → Br (decide ((↑parts.2 : Int) > 40)) (Need (decide (40
  ≤ (↑parts.3 : Int))) (J (Sl.sub parts 1 0 40 parts.3) w1)) (J parts w1))
theorem f10_of (parts : Sl) (check : Int) (turns : Sl) (w : World) (R : SV → World → Prop) (hV : vc10 parts check turns w R) : Ret Try.prog 10 [.slice parts, .int .i64 check, .slice turns] w R :=
  have e : vc10 parts check turns w R = fnVC X Try.f10 a10 [.slice parts, .int .i64 check, .slice turns] w R := by kernel_rfl
  fnVC_sound X_ok (n := a10) (e ▸ hV) (by kernel_rfl) (by kernel_rfl) rfl rfl

end Go.Vc.S2
