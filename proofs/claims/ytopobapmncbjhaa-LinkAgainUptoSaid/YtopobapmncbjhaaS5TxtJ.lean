import Derived.Test.YtopobapmncbjhaaG3
import Derived.KernelRfl
open Go Go.Vc Go.Vc.S5 Go.Proofs
set_option maxRecDepth 100000
set_option linter.unusedVariables false
namespace Go.Vc.S5
def vc55 (i : Int) (w : World) (R : SV → World → Prop) : Prop :=
  R (SV.int IntKind.u8 (wr IntKind.u8 (wr IntKind.i64 (203 - wr IntKind.i64 (5 * i))))) w
theorem f55_of (i : Int) (w : World) (R : SV → World → Prop) (hV : vc55 i w R) : Ret Try.prog 55 [.int .i64 i] w R :=
  have e : vc55 i w R = fnVC X Try.f55 a55 [.int .i64 i] w R := by kernel_rfl
  fnVC_sound X_ok (n := a55) (e ▸ hV) (by kernel_rfl) (by kernel_rfl) rfl rfl

def vc56 (i : Int) (n : Int) (w : World) (R : SV → World → Prop) : Prop :=
  Need (n != 0) (R (SV.int IntKind.i64 (Int.tmod (iand IntKind.i64 i 1099511627775) n)) w)
theorem f56_of (i : Int) (n : Int) (w : World) (R : SV → World → Prop) (hV : vc56 i n w R) : Ret Try.prog 56 [.int .i64 i, .int .i64 n] w R :=
  have e : vc56 i n w R = fnVC X Try.f56 a56 [.int .i64 i, .int .i64 n] w R := by kernel_rfl
  fnVC_sound X_ok (n := a56) (e ▸ hV) (by kernel_rfl) (by kernel_rfl) rfl rfl

def vc36 (b : Sl) (w : World) (R : SV → World → Prop) : Prop :=
  Need
    (decide (0 ≤ wr IntKind.i64 (wr IntKind.i64 (2 * (↑b.2 : Int)) + 70)) &&
          decide (wr IntKind.i64 (wr IntKind.i64 (2 * (↑b.2 : Int)) + 70) ≤ wr IntKind.i64 (wr IntKind.i64 (2 * (↑b.2 : Int)) + 70)) &&
        decide (wr IntKind.i64 (wr IntKind.i64 (2 * (↑b.2 : Int)) + 70) ≤ 281474976710656) &&
      decide (1 * wr IntKind.i64 (wr IntKind.i64 (2 * (↑b.2 : Int)) + 70) ≤ 281474976710656))
    (∀ (b_1 : Nat) (w1 : World),
      Upd [] [b_1] w w1 →
        (World.heap w1)[b_1]? = some (Obj.cells { toList := zerosOf (Ty.int IntKind.u8) (Int.toNat (wr IntKind.i64 (wr IntKind.i64 (2 * (↑b.2 : Int)) + 70))) } 5) →
          Copy 1
            { ptr := some { block := b_1, off := 0 }, len := Int.toNat (wr IntKind.i64 (wr IntKind.i64 (2 * (↑b.2 : Int)) + 70)),
              cap := Int.toNat (wr IntKind.i64 (wr IntKind.i64 (2 * (↑b.2 : Int)) + 70)) }
            b [] w1 fun (w : World) =>
            ∃ (I : Int → World → Prop),
              ∃ (M : Int → World → Nat),
                I (↑b.2 : Int) w ∧
                  ∀ (n : Int) (w1 : World),
                    I n w1 →
                      Br (decide (n < (↑(Int.toNat (wr IntKind.i64 (wr IntKind.i64 (2 * (↑b.2 : Int)) + 70))) : Int)))
                        (Ret Try.prog 55 [SV.int IntKind.i64 (wr IntKind.i64 (n - (↑b.2 : Int)))] w1 fun (r : SV) (w1_1 : World) =>
                          ∃ (n_1 : Int),
                            r = SV.int IntKind.u8 n_1 ∧
                              Need (decide (0 ≤ n) && decide (n < (↑(Int.toNat (wr IntKind.i64 (wr IntKind.i64 (2 * (↑b.2 : Int)) + 70))) : Int)) && true)
                                (Store w1_1
                                  (Sl.at
                                    { ptr := some { block := b_1, off := 0 }, len := Int.toNat (wr IntKind.i64 (wr IntKind.i64 (2 * (↑b.2 : Int)) + 70)),
                                      cap := Int.toNat (wr IntKind.i64 (wr IntKind.i64 (2 * (↑b.2 : Int)) + 70)) }
                                    1 (Int.toNat n))
                                  (SV.cells (SV.int IntKind.u8 n_1)) [] fun (w1_2 : World) => I (wr IntKind.i64 (n + 1)) w1_2 ∧ M (wr IntKind.i64 (n + 1)) w1_2 < M n w1))
                        (Need (decide (0 ≤ (↑b.2 : Int)) && decide ((↑b.2 : Int) ≤ (↑(Int.toNat (wr IntKind.i64 (wr IntKind.i64 (2 * (↑b.2 : Int)) + 70))) : Int)))
                          (R
                            (SV.slice
                              (Sl.sub
                                { ptr := some { block := b_1, off := 0 }, len := Int.toNat (wr IntKind.i64 (wr IntKind.i64 (2 * (↑b.2 : Int)) + 70)),
                                  cap := Int.toNat (wr IntKind.i64 (wr IntKind.i64 (2 * (↑b.2 : Int)) + 70)) }
                                1 0 (Int.toNat (↑b.2 : Int)) (Int.toNat (wr IntKind.i64 (wr IntKind.i64 (2 * (↑b.2 : Int)) + 70)))))
                            w1)))
theorem f36_of (b : Sl) (w : World) (R : SV → World → Prop) (hV : vc36 b w R) : Ret Try.prog 36 [.slice b] w R :=
  have e : vc36 b w R = fnVC X Try.f36 a36 [.slice b] w R := by kernel_rfl
  fnVC_sound X_ok (n := a36) (e ▸ hV) (by kernel_rfl) (by kernel_rfl) rfl rfl

def vc38 (p0 : Sl) (b : Sl) (w : World) (R : SV → World → Prop) : Prop :=
  Br ((↑p0.2 : Int) != (↑b.2 : Int)) (R (SV.bool false) w)
    (Need (decide (0 ≤ wr IntKind.i64 (wr IntKind.i64 (2 * (↑b.2 : Int)) + 70)) && decide (wr IntKind.i64 (wr IntKind.i64 (2 * (↑b.2 : Int)) + 70) ≤ (↑p0.3 : Int)))
      (∃ (I : Int → World → Prop),
        ∃ (M : Int → World → Nat),
          I 0 w ∧
            ∀ (n : Int) (w1 : World),
              I n w1 →
                Br (decide (n < (↑(Sl.sub p0 1 0 (Int.toNat (wr IntKind.i64 (wr IntKind.i64 (2 * (↑b.2 : Int)) + 70))) p0.3).2 : Int)))
                  (∀ (J : World → Prop),
                    (∀ (w1_1 : World), I (wr IntKind.i64 (n + 1)) w1_1 ∧ M (wr IntKind.i64 (n + 1)) w1_1 < M n w1 → J w1_1) →
                      Br (decide (n < (↑b.2 : Int)))
                        (Need
                          (decide (0 ≤ n) && decide (n < (↑(Sl.sub p0 1 0 (Int.toNat (wr IntKind.i64 (wr IntKind.i64 (2 * (↑b.2 : Int)) + 70))) p0.3).2 : Int)) &&
                            Option.isSome (Sl.sub p0 1 0 (Int.toNat (wr IntKind.i64 (wr IntKind.i64 (2 * (↑b.2 : Int)) + 70))) p0.3).1)
                          (∃ (n_1 : Int),
                            World.cell? w1 (Sl.at (Sl.sub p0 1 0 (Int.toNat (wr IntKind.i64 (wr IntKind.i64 (2 * (↑b.2 : Int)) + 70))) p0.3) 1 (Int.toNat n)) =
                                some (Value.int IntKind.u8 n_1) ∧
                              Need (decide (0 ≤ n) && decide (n < (↑b.2 : Int)) && Option.isSome b.1)
                                (∃ (n_2 : Int),
                                  World.cell? w1 (Sl.at b 1 (Int.toNat n)) = some (Value.int IntKind.u8 n_2) ∧
                                    Br (n_1 != n_2) (∀ (w1_1 : World), Upd [] [] w1 w1_1 → R (SV.bool false) w1_1)
                                      (Br (decide (n ≥ (↑b.2 : Int)))
                                        (Need
                                          (decide (0 ≤ n) && decide (n < (↑(Sl.sub p0 1 0 (Int.toNat (wr IntKind.i64 (wr IntKind.i64 (2 * (↑b.2 : Int)) + 70))) p0.3).2 : Int)) &&
                                            Option.isSome (Sl.sub p0 1 0 (Int.toNat (wr IntKind.i64 (wr IntKind.i64 (2 * (↑b.2 : Int)) + 70))) p0.3).1)
                                          (∃ (n_3 : Int),
                                            World.cell? w1 (Sl.at (Sl.sub p0 1 0 (Int.toNat (wr IntKind.i64 (wr IntKind.i64 (2 * (↑b.2 : Int)) + 70))) p0.3) 1 (Int.toNat n)) =
                                                some (Value.int IntKind.u8 n_3) ∧
                                              ∀ (w1_1 : World),
                                                Upd [] [] w1 w1_1 →
                                                  Ret Try.prog 55 [SV.int IntKind.i64 (wr IntKind.i64 (n - (↑b.2 : Int)))] w1_1 fun (r : SV) (w1_2 : World) =>
                                                    ∃ (n : Int), r = SV.int IntKind.u8 n ∧ Upd [] [] w1 w1_2 ∧ Br (n_3 != n) (R (SV.bool false) w1_2) (J w1_2)))
                                        (∀ (w1_1 : World), Upd [] [] w1 w1_1 → J w1_1)))))
                        (Br (decide (n ≥ (↑b.2 : Int)))
                          (Need
                            (decide (0 ≤ n) && decide (n < (↑(Sl.sub p0 1 0 (Int.toNat (wr IntKind.i64 (wr IntKind.i64 (2 * (↑b.2 : Int)) + 70))) p0.3).2 : Int)) &&
                              Option.isSome (Sl.sub p0 1 0 (Int.toNat (wr IntKind.i64 (wr IntKind.i64 (2 * (↑b.2 : Int)) + 70))) p0.3).1)
                            (∃ (n_1 : Int),
                              World.cell? w1 (Sl.at (Sl.sub p0 1 0 (Int.toNat (wr IntKind.i64 (wr IntKind.i64 (2 * (↑b.2 : Int)) + 70))) p0.3) 1 (Int.toNat n)) =
                                  some (Value.int IntKind.u8 n_1) ∧
                                ∀ (w1_1 : World),
                                  Upd [] [] w1 w1_1 →
                                    Ret Try.prog 55 [SV.int IntKind.i64 (wr IntKind.i64 (n - (↑b.2 : Int)))] w1_1 fun (r : SV) (w1_2 : World) =>
                                      ∃ (n : Int), r = SV.int IntKind.u8 n ∧ Upd [] [] w1 w1_2 ∧ Br (n_1 != n) (R (SV.bool false) w1_2) (J w1_2)))
                          (∀ (w1_1 : World), Upd [] [] w1 w1_1 → J w1_1)))
                  (R (SV.bool true) w1)))
theorem f38_of (p0 : Sl) (b : Sl) (w : World) (R : SV → World → Prop) (hV : vc38 p0 b w R) : Ret Try.prog 38 [.slice p0, .slice b] w R :=
  have e : vc38 p0 b w R = fnVC X Try.f38 a38 [.slice p0, .slice b] w R := by kernel_rfl
  fnVC_sound X_ok (n := a38) (e ▸ hV) (by kernel_rfl) (by kernel_rfl) rfl rfl

end Go.Vc.S5
