import Derived.Test.YtopobapmncbjhaaG3
import Derived.KernelRfl
open Go Go.Vc Go.Vc.S5 Go.Proofs
set_option maxRecDepth 100000
set_option linter.unusedVariables false
namespace Go.Vc.S5
def vc35 (f_0 : Nat → Int) (f_1 : Nat → Int) (f_2 : Sl) (f_3 : Int) (f_4 : Sl) (w : World) (R : SV → World → Prop) : Prop :=
  ∀ (b b_1 : Nat) (w1 : World),
    Upd [] [b_1, b] w w1 →
      Vc.Append 57 4 32 { ptr := none, len := 0, cap := 0 } f_2 [b, b_1] w1 fun (r : Sl) (w : World) =>
        ∃ (I : Sl → Int → World → Prop),
          ∃ (M : Sl → Int → World → Nat),
            I r 0 w ∧
              ∀ (s : Sl) (n : Int) (w1 : World),
                I s n w1 →
                  Br (decide (n < wr IntKind.i64 ((↑f_2.2 : Int) + 9)))
                    (∀ (b_2 : Nat) (w1_1 : World),
                      Upd [] [b_2] w1 w1_1 →
                        (World.heap w1_1)[b_2]? =
                            some
                              (Obj.cells
                                {
                                  toList :=
                                    SV.cells (SV.struct [SV.struct [SV.int IntKind.i64 (wr IntKind.i64 (-7 - n)), SV.int IntKind.i64 0, SV.bool false, SV.int IntKind.i64 0]]) }
                                57) →
                          Vc.Append 57 4 32 s { ptr := some { block := b_2, off := 0 }, len := 1, cap := 1 } [b, b_1] w1_1 fun (r : Sl) (w : World) =>
                            some (SV.box b 50 (SV.struct [SV.arr IntKind.u8 6 f_0, SV.arr IntKind.u8 6 f_1, SV.slice f_2, SV.int IntKind.i64 f_3, SV.slice f_4])) =
                                some (SV.box b 50 (SV.struct [SV.arr IntKind.u8 6 f_0, SV.arr IntKind.u8 6 f_1, SV.slice f_2, SV.int IntKind.i64 f_3, SV.slice f_4])) ∧
                              some
                                    (SV.box b_1 50
                                      (SV.struct
                                        [SV.arr IntKind.u8 6 fun (x : Nat) => 0, SV.arr IntKind.u8 6 fun (x : Nat) => 0, SV.slice { ptr := none, len := 0, cap := 0 },
                                          SV.int IntKind.i64 0, SV.slice { ptr := none, len := 0, cap := 0 }])) =
                                  some
                                    (SV.box b_1 50
                                      (SV.struct
                                        [SV.arr IntKind.u8 6 fun (x : Nat) => 0, SV.arr IntKind.u8 6 fun (x : Nat) => 0, SV.slice { ptr := none, len := 0, cap := 0 },
                                          SV.int IntKind.i64 0, SV.slice { ptr := none, len := 0, cap := 0 }])) ∧
                                I r (wr IntKind.i64 (n + 1)) w ∧ M r (wr IntKind.i64 (n + 1)) w < M s n w1)
                    (Ret Try.prog 36 [SV.slice f_4] w1 fun (r : SV) (w1_1 : World) =>
                      ∃ (s_1 : Sl),
                        r = SV.slice s_1 ∧
                          Keeps [b, b_1] w1 w1_1 ∧
                            Need (decide (0 ≤ (↑f_2.2 : Int)) && decide ((↑f_2.2 : Int) ≤ (↑s.3 : Int)))
                              (∀ (w1 : World),
                                Upd [b_1, b] [] w1_1 w1 →
                                  R
                                    (SV.struct
                                      [SV.arr IntKind.u8 6 f_0, SV.arr IntKind.u8 6 f_1, SV.slice (Sl.sub s 4 0 (Int.toNat (↑f_2.2 : Int)) s.3), SV.int IntKind.i64 f_3,
                                        SV.slice s_1])
                                    w1))
theorem f35_of (f_0 : Nat → Int) (f_1 : Nat → Int) (f_2 : Sl) (f_3 : Int) (f_4 : Sl) (w : World) (R : SV → World → Prop) (hV : vc35 f_0 f_1 f_2 f_3 f_4 w R) : Ret Try.prog 35 [.struct [.arr .u8 6 f_0, .arr .u8 6 f_1, .slice f_2, .int .i64 f_3, .slice f_4]] w R :=
  have e : vc35 f_0 f_1 f_2 f_3 f_4 w R = fnVC X Try.f35 a35 [.struct [.arr .u8 6 f_0, .arr .u8 6 f_1, .slice f_2, .int .i64 f_3, .slice f_4]] w R := by kernel_rfl
  fnVC_sound X_ok (n := a35) (e ▸ hV) (by kernel_rfl) (by kernel_rfl) rfl rfl

def vc37 (p0_0 : Nat → Int) (p0_1 : Nat → Int) (p0_2 : Sl) (p0_3 : Int) (p0_4 : Sl) (now_0 : Nat → Int) (now_1 : Nat → Int) (now_2 : Sl) (now_3 : Int) (now_4
  : Sl) (w : World) (R : SV → World → Prop) : Prop := ∀ (b b_1 : Nat) (J : World → Prop), (∀ (w1 : World), Need (decide (0 ≤ wr IntKind.i64 (wr IntKind.i64
  (2 * (↑now_2.2 : Int)) + 9)) && decide (wr IntKind.i64 (wr IntKind.i64 (2 * (↑now_2.2 : Int)) + 9) ≤ (↑p0_2.3 : Int))) (∃ (I : Int → World → Prop), ∃ (M
  : Int → World → Nat), I 0 w1 ∧ ∀ (n : Int) (w1 : World), I n w1 → Br (decide (n < (↑(Sl.sub p0_2 4 0 (Int.toNat (wr IntKind.i64 (wr IntKind.i64 (2 * (↑now_2.2
  : Int)) + 9))) p0_2.3).2 : Int))) (∀ (J : World → Prop), (∀ (w1_1 : World), some (SV.box b 50 (SV.struct [SV.arr IntKind.u8 6 p0_0, SV.arr IntKind.u8 6
  p0_1, SV.slice p0_2, SV.int IntKind.i64 p0_3, SV.slice p0_4])) = some (SV.box b 50 (SV.struct [SV.arr IntKind.u8 6 p0_0, SV.arr IntKind.u8 6 p0_1, SV.slice
  p0_2, SV.int IntKind.i64 p0_3, SV.slice p0_4])) ∧ some (SV.box b_1 50 (SV.struct [SV.arr IntKind.u8 6 now_0, SV.arr IntKind.u8 6 now_1, SV.slice now_2,
  SV.int IntKind.i64 now_3, SV.slice now_4])) = some (SV.box b_1 50 (SV.struct [SV.arr IntKind.u8 6 now_0, SV.arr IntKind.u8 6 now_1, SV.slice now_2, SV.int
  IntKind.i64 now_3, SV.slice now_4])) ∧ I (wr IntKind.i64 (n + 1)) w1_1 ∧ M (wr IntKind.i64 (n + 1)) w1_1 < M n w1 → J w1_1) → Br (decide (n < (↑now_2.2
  : Int))) (Need (decide (0 ≤ n) && decide (n < (↑(Sl.sub p0_2 4 0 (Int.toNat (wr IntKind.i64 (wr IntKind.i64 (2 * (↑now_2.2 : Int)) + 9))) p0_2.3).2 : Int))
  && Option.isSome (Sl.sub p0_2 4 0 (Int.toNat (wr IntKind.i64 (wr IntKind.i64 (2 * (↑now_2.2 : Int)) + 9))) p0_2.3).1) (∃ (n_1 : Int), World.cell? w1 (Sl.at
  (Sl.sub p0_2 4 0 (Int.toNat (wr IntKind.i64 (wr IntKind.i64 (2 * (↑now_2.2 : Int)) + 9))) p0_2.3) 4 (Int.toNat n)) = some (Value.int IntKind.i64 n_1) ∧
  ∃ (n_2 : Int), World.cell? w1 (Addr.add (Sl.at (Sl.sub p0_2 4 0 (Int.toNat (wr IntKind.i64 (wr IntKind.i64 (2 * (↑now_2.2 : Int)) + 9))) p0_2.3) 4 (Int.toNat
  n)) 1) = some (Value.int IntKind.i64 n_2) ∧ ∃ (b_2 : Bool), World.cell? w1 (Addr.add (Sl.at (Sl.sub p0_2 4 0 (Int.toNat (wr IntKind.i64 (wr IntKind.i64
  (2 * (↑now_2.2 : Int)) + 9))) p0_2.3) 4 (Int.toNat n)) 2) = some (Value.bool b_2) ∧ ∃ (n_3 : Int), World.cell? w1 (Addr.add (Sl.at (Sl.sub p0_2 4 0 (Int.toNat
  (wr IntKind.i64 (wr IntKind.i64 (2 * (↑now_2.2 : Int)) + 9))) p0_2.3) 4 (Int.toNat n)) 3) = some (Value.int IntKind.i64 n_3) ∧ Need (decide (0 ≤ n) && decide
  (n < (↑now_2.2 : Int)) && Option.isSome now_2.1) (∃ (n_4 : Int), World.cell? w1 (Sl.at now_2 4 (Int.toNat n)) = some (Value.int IntKind.i64 n_4) ∧ ∃ (n_5
  : Int), World.cell? w1 (Addr.add (Sl.at now_2 4 (Int.toNat n)) 1) = some (Value.int IntKind.i64 n_5) ∧ ∃ (b_3 : Bool), World.cell? w1 (Addr.add (Sl.at now_2
  4 (Int.toNat n)) 2) = some (Value.bool b_3) ∧ ∃ (n_6 : Int), World.cell? w1 (Addr.add (Sl.at now_2 4 (Int.toNat n)) 3) = some (Value.int IntKind.i64 n_6)
  ∧ Br (!(n_1 == n_4 && (n_2 == n_5 && (b_2 == b_3 && n_3 == n_6)))) (∀ (w1_1 : World), Upd [] [] w1 w1_1 → R (SV.bool false) w1_1) (Br (decide (n ≥ (↑now_2.2
  : Int))) (Need (decide (0 ≤ n) && decide (n < (↑(Sl.sub p0_2 4 0 (Int.toNat (wr IntKind.i64 (wr IntKind.i64 (2 * (↑now_2.2 : Int)) + 9))) p0_2.3).2 : Int))
  && Option.isSome (Sl.sub p0_2 4 0 (Int.toNat (wr IntKind.i64 (wr IntKind.i64 (2 * (↑now_2.2 : Int)) + 9))) p0_2.3).1) (∃ (n_7 : Int), World.cell? w1 (Sl.at
  (Sl.sub p0_2 4 0 (Int.toNat (wr IntKind.i64 (wr IntKind.i64 (2 * (↑now_2.2 : Int)) + 9))) p0_2.3) 4 (Int.toNat n)) = some (Value.int IntKind.i64 n_7) ∧
  ∃ (n_8 : Int), World.cell? w1 (Addr.add (Sl.at (Sl.sub p0_2 4 0 (Int.toNat (wr IntKind.i64 (wr IntKind.i64 (2 * (↑now_2.2 : Int)) + 9))) p0_2.3) 4 (Int.toNat
  n)) 1) = some (Value.int IntKind.i64 n_8) ∧ ∃ (b_4 : Bool), World.cell? w1 (Addr.add (Sl.at (Sl.sub p0_2 4 0 (Int.toNat (wr IntKind.i64 (wr IntKind.i64
  (2 * (↑now_2.2 : Int)) + 9))) p0_2.3) 4 (Int.toNat n)) 2) = some (Value.bool b_4) ∧ ∃ (n_9 : Int), World.cell? w1 (Addr.add (Sl.at (Sl.sub p0_2 4 0 (Int.toNat
  (wr IntKind.i64 (wr IntKind.i64 (2 * (↑now_2.2 : Int)) + 9))) p0_2.3) 4 (Int.toNat n)) 3) = some (Value.int IntKind.i64 n_9) ∧ Br (!(n_7 == wr IntKind.i64
  (wr IntKind.i64 (-7 - n) + (↑now_2.2 : Int)) && (n_8 == 0 && (b_4 == false && n_9 == 0)))) (∀ (w1_1 : World), Upd [] [] w1 w1_1 → R (SV.bool false) w1_1)
  (∀ (w1_1 : World), Upd [] [] w1 w1_1 → some (SV.box b 50 (SV.struct [SV.arr IntKind.u8 6 p0_0, SV.arr IntKind.u8 6 p0_1, SV.slice p0_2, SV.int IntKind.i64
  p0_3, SV.slice p0_4])) = some (SV.box b 50 (SV.struct [SV.arr IntKind.u8 6 p0_0, SV.arr IntKind.u8 6 p0_1, SV.slice p0_2, SV.int IntKind.i64 p0_3, SV.slice
  p0_4])) ∧ some (SV.box b_1 50 (SV.struct [SV.arr IntKind.u8 6 now_0, SV.arr IntKind.u8 6 now_1, SV.slice now_2, SV.int IntKind.i64 now_3, SV.slice now_4]))
  = some (SV.box b_1 50 (SV.struct [SV.arr IntKind.u8 6 now_0, SV.arr IntKind.u8 6 now_1, SV.slice now_2, SV.int IntKind.i64 now_3, SV.slice now_4])) ∧ J
  w1_1))) (∀ (w1_1 : World), Upd [] [] w1 w1_1 → some (SV.box b 50 (SV.struct [SV.arr IntKind.u8 6 p0_0, SV.arr IntKind.u8 6 p0_1, SV.slice p0_2, SV.int IntKind.i64
  p0_3, SV.slice p0_4])) = some (SV.box b 50 (SV.struct [SV.arr IntKind.u8 6 p0_0, SV.arr IntKind.u8 6 p0_1, SV.slice p0_2, SV.int IntKind.i64 p0_3, SV.slice
  p0_4])) ∧ some (SV.box b_1 50 (SV.struct [SV.arr IntKind.u8 6 now_0, SV.arr IntKind.u8 6 now_1, SV.slice now_2, SV.int IntKind.i64 now_3, SV.slice now_4]))
  = some (SV.box b_1 50 (SV.struct [SV.arr IntKind.u8 6 now_0, SV.arr IntKind.u8 6 now_1, SV.slice now_2, SV.int IntKind.i64 now_3, SV.slice now_4])) ∧ J
  w1_1))))) (Br (decide (n ≥ (↑now_2.2 : Int))) (Need (decide (0 ≤ n) && decide (n < (↑(Sl.sub p0_2 4 0 (Int.toNat (wr IntKind.i64 (wr IntKind.i64 (2 * (↑now_2.2
  : Int)) + 9))) p0_2.3).2 : Int)) && Option.isSome (Sl.sub p0_2 4 0 (Int.toNat (wr IntKind.i64 (wr IntKind.i64 (2 * (↑now_2.2 : Int)) + 9))) p0_2.3).1) (∃
  (n_1 : Int), World.cell? w1 (Sl.at (Sl.sub p0_2 4 0 (Int.toNat (wr IntKind.i64 (wr IntKind.i64 (2 * (↑now_2.2 : Int)) + 9))) p0_2.3) 4 (Int.toNat n)) =
  some (Value.int IntKind.i64 n_1) ∧ ∃ (n_2 : Int), World.cell? w1 (Addr.add (Sl.at (Sl.sub p0_2 4 0 (Int.toNat (wr IntKind.i64 (wr IntKind.i64 (2 * (↑now_2.2
  : Int)) + 9))) p0_2.3) 4 (Int.toNat n)) 1) = some (Value.int IntKind.i64 n_2) ∧ ∃ (b_2 : Bool), World.cell? w1 (Addr.add (Sl.at (Sl.sub p0_2 4 0 (Int.toNat
  (wr IntKind.i64 (wr IntKind.i64 (2 * (↑now_2.2 : Int)) + 9))) p0_2.3) 4 (Int.toNat n)) 2) = some (Value.bool b_2) ∧ ∃ (n_3 : Int), World.cell? w1 (Addr.add
  (Sl.at (Sl.sub p0_2 4 0 (Int.toNat (wr IntKind.i64 (wr IntKind.i64 (2 * (↑now_2.2 : Int)) + 9))) p0_2.3) 4 (Int.toNat n)) 3) = some (Value.int IntKind.i64
  n_3) ∧ Br (!(n_1 == wr IntKind.i64 (wr IntKind.i64 (-7 - n) + (↑now_2.2 : Int)) && (n_2 == 0 && (b_2 == false && n_3 == 0)))) (∀ (w1_1 : World), Upd []
  [] w1 w1_1 → R (SV.bool false) w1_1) (∀ (w1_1 : World), Upd [] [] w1 w1_1 → some (SV.box b 50 (SV.struct [SV.arr IntKind.u8 6 p0_0, SV.arr IntKind.u8 6
  p0_1, SV.slice p0_2, SV.int IntKind.i64 p0_3, SV.slice p0_4])) = some (SV.box b 50 (SV.struct [SV.arr IntKind.u8 6 p0_0, SV.arr IntKind.u8 6 p0_1, SV.slice
  p0_2, SV.int IntKind.i64 p0_3, SV.slice p0_4])) ∧ some (SV.box b_1 50 (SV.struct [SV.arr IntKind.u8 6 now_0, SV.arr IntKind.u8 6 now_1, SV.slice now_2,
  SV.int IntKind.i64 now_3, SV.slice now_4])) = some (SV.box b_1 50 (SV.struct [SV.arr IntKind.u8 6 now_0, SV.arr IntKind.u8 6 now_1, SV.slice now_2, SV.int
  IntKind.i64 now_3, SV.slice now_4])) ∧ J w1_1))) (∀ (w1_1 : World), Upd [] [] w1 w1_1 → some (SV.box b 50 (SV.struct [SV.arr IntKind.u8 6 p0_0, SV.arr IntKind.u8
  6 p0_1, SV.slice p0_2, SV.int IntKind.i64 p0_3, SV.slice p0_4])) = some (SV.box b 50 (SV.struct [SV.arr IntKind.u8 6 p0_0, SV.arr IntKind.u8 6 p0_1, SV.slice
  p0_2, SV.int IntKind.i64 p0_3, SV.slice p0_4])) ∧ some (SV.box b_1 50 (SV.struct [SV.arr IntKind.u8 6 now_0, SV.arr IntKind.u8 6 now_1, SV.slice now_2,
  SV.int IntKind.i64 now_3, SV.slice now_4])) = some (SV.box b_1 50 (SV.struct [SV.arr IntKind.u8 6 now_0, SV.arr IntKind.u8 6 now_1, SV.slice now_2, SV.int
  IntKind.i64 now_3, SV.slice now_4])) ∧ J w1_1))) (R (SV.bool true) w1)) → J w1) → ∀ (w1 : World), Upd [] [b_1, b] w w1 → Ret Try.prog 38 [SV.slice p0_4,
  SV.slice now_4] w1 fun (r : SV) (w1_1 : World) => ∃ (b_2 : Bool), r = SV.bool b_2 ∧ Keeps [b, b_1] w1 w1_1 ∧ Br (!b_2) (R (SV.bool false) w1_1) (Br ((↑p0_2.2
  : Int) != (↑now_2.2 : Int)) (R (SV.bool false) w1_1) (some (SV.box b 50 (SV.struct [SV.arr IntKind.u8 6 p0_0, SV.arr IntKind.u8 6 p0_1, SV.slice p0_2, SV.int
  IntKind.i64 p0_3, SV.slice p0_4])) = some (SV.box b 50 (SV.struct [SV.arr IntKind.u8 6 p0_0, SV.arr IntKind.u8 6 p0_1, SV.slice p0_2, SV.int IntKind.i64
  p0_3, SV.slice p0_4])) ∧ some (SV.box b_1 50 (SV.struct [SV.arr IntKind.u8 6 now_0, SV.arr IntKind.u8 6 now_1, SV.slice now_2, SV.int IntKind.i64 now_3,
  SV.slice now_4])) = some (SV.box b_1 50 (SV.struct [SV.arr IntKind.u8 6 now_0, SV.arr IntKind.u8 6 now_1, SV.slice now_2, SV.int IntKind.i64 now_3, SV.slice
  now_4])) ∧ J w1_1))
theorem f37_of (p0_0 : Nat → Int) (p0_1 : Nat → Int) (p0_2 : Sl) (p0_3 : Int) (p0_4 : Sl) (now_0 : Nat → Int) (now_1 : Nat → Int) (now_2 : Sl) (now_3 : Int) (now_4 : Sl) (w : World) (R : SV → World → Prop) (hV : vc37 p0_0 p0_1 p0_2 p0_3 p0_4 now_0 now_1 now_2 now_3 now_4 w R) : Ret Try.prog 37 [.struct [.arr .u8 6 p0_0, .arr .u8 6 p0_1, .slice p0_2, .int .i64 p0_3, .slice p0_4], .struct [.arr .u8 6 now_0, .arr .u8 6 now_1, .slice now_2, .int .i64 now_3, .slice now_4]] w R :=
  have e : vc37 p0_0 p0_1 p0_2 p0_3 p0_4 now_0 now_1 now_2 now_3 now_4 w R = fnVC X Try.f37 a37 [.struct [.arr .u8 6 p0_0, .arr .u8 6 p0_1, .slice p0_2, .int .i64 p0_3, .slice p0_4], .struct [.arr .u8 6 now_0, .arr .u8 6 now_1, .slice now_2, .int .i64 now_3, .slice now_4]] w R := by kernel_rfl
  fnVC_sound X_ok (n := a37) (e ▸ hV) (by kernel_rfl) (by kernel_rfl) rfl rfl

def vc39 (b : Sl) (f_0 : Nat → Int) (f_1 : Nat → Int) (f_2 : Sl) (f_3 : Int) (f_4 : Sl) (t_0 : Int) (t_1 : Int) (t_2 : Int) (w : World) (R : SV → World → Prop) : Prop :=
  ∀ (b_1 b_2 : Nat) (J : World → Prop),
    (∀ (w1 : World),
        (∀ (J : World → Prop),
            (∀ (w1 : World),
                Br (decide ((↑f_2.2 : Int) > 0))
                    (∀ (w1_1 : World),
                      Upd [] [] w1 w1_1 →
                        Ret Try.prog 56 [SV.int IntKind.i64 t_0, SV.int IntKind.i64 (↑f_2.2 : Int)] w1_1 fun (r : SV) (w1_2 : World) =>
                          ∃ (n : Int),
                            r = SV.int IntKind.i64 n ∧
                              Keeps [b_1, b_2] w1_1 w1_2 ∧
                                Upd [] [] w1 w1_2 ∧
                                  Need (decide (0 ≤ n) && decide (n < (↑f_2.2 : Int)) && Option.isSome f_2.1)
                                    (Br (t_1 == 1)
                                      (Store w1_2 (Addr.add (Sl.at f_2 4 (Int.toNat n)) 3) (SV.cells (SV.int IntKind.i64 t_2)) [b_1, b_2] fun (w1 : World) => R (SV.tuple []) w1)
                                      (Br (t_1 == 2)
                                        (Store w1_2 (Addr.add (Sl.at f_2 4 (Int.toNat n)) 1) (SV.cells (SV.int IntKind.i64 t_2)) [b_1, b_2] fun (w1 : World) => R (SV.tuple []) w1)
                                        (Br (t_1 == 3) (Store w1_2 (Sl.at f_2 4 (Int.toNat n)) (SV.cells (SV.int IntKind.i64 t_2)) [b_1, b_2] fun (w1 : World) => R (SV.tuple []) w1)
                                          (Br (t_1 == 4)
                                            (∃ (b : Bool),
                                              World.cell? w1_2 (Addr.add (Sl.at f_2 4 (Int.toNat n)) 2) = some (Value.bool b) ∧
                                                Store w1_2 (Addr.add (Sl.at f_2 4 (Int.toNat n)) 2) (SV.cells (SV.bool !b)) [b_1, b_2] fun (w1 : World) => R (SV.tuple []) w1)
                                            (R (SV.tuple []) w1_2))))))
                    (R (SV.tuple []) w1) →
                  J w1) →
              Br (decide ((↑f_4.2 : Int) > 0))
                (Br (t_1 == 0)
                  (∀ (w1_1 : World),
                    Upd [] [] w1 w1_1 →
                      Ret Try.prog 56 [SV.int IntKind.i64 t_0, SV.int IntKind.i64 (↑f_4.2 : Int)] w1_1 fun (r : SV) (w1_2 : World) =>
                        ∃ (n : Int),
                          r = SV.int IntKind.i64 n ∧
                            Keeps [b_1, b_2] w1_1 w1_2 ∧
                              Upd [] [] w1 w1_2 ∧
                                Need (decide (0 ≤ n) && decide (n < (↑f_4.2 : Int)) && Option.isSome f_4.1)
                                  (Store w1_2 (Sl.at f_4 1 (Int.toNat n)) (SV.cells (SV.int IntKind.u8 (wr IntKind.u8 t_2))) [b_1, b_2] fun (w1 : World) =>
                                    some (SV.box b_1 50 (SV.struct [SV.arr IntKind.u8 6 f_0, SV.arr IntKind.u8 6 f_1, SV.slice f_2, SV.int IntKind.i64 f_3, SV.slice f_4])) =
                                        some (SV.box b_1 50 (SV.struct [SV.arr IntKind.u8 6 f_0, SV.arr IntKind.u8 6 f_1, SV.slice f_2, SV.int IntKind.i64 f_3, SV.slice f_4])) ∧
                                      some (SV.box b_2 72 (SV.struct [SV.int IntKind.i64 t_0, SV.int IntKind.i64 t_1, SV.int IntKind.i64 t_2])) =
                                          some (SV.box b_2 72 (SV.struct [SV.int IntKind.i64 t_0, SV.int IntKind.i64 t_1, SV.int IntKind.i64 t_2])) ∧
                                        J w1))
                  (some (SV.box b_1 50 (SV.struct [SV.arr IntKind.u8 6 f_0, SV.arr IntKind.u8 6 f_1, SV.slice f_2, SV.int IntKind.i64 f_3, SV.slice f_4])) =
                      some (SV.box b_1 50 (SV.struct [SV.arr IntKind.u8 6 f_0, SV.arr IntKind.u8 6 f_1, SV.slice f_2, SV.int IntKind.i64 f_3, SV.slice f_4])) ∧
                    some (SV.box b_2 72 (SV.struct [SV.int IntKind.i64 t_0, SV.int IntKind.i64 t_1, SV.int IntKind.i64 t_2])) =
                        some (SV.box b_2 72 (SV.struct [SV.int IntKind.i64 t_0, SV.int IntKind.i64 t_1, SV.int IntKind.i64 t_2])) ∧
                      J w1))
                (some (SV.box b_1 50 (SV.struct [SV.arr IntKind.u8 6 f_0, SV.arr IntKind.u8 6 f_1, SV.slice f_2, SV.int IntKind.i64 f_3, SV.slice f_4])) =
                    some (SV.box b_1 50 (SV.struct [SV.arr IntKind.u8 6 f_0, SV.arr IntKind.u8 6 f_1, SV.slice f_2, SV.int IntKind.i64 f_3, SV.slice f_4])) ∧
                  some (SV.box b_2 72 (SV.struct [SV.int IntKind.i64 t_0, SV.int IntKind.i64 t_1, SV.int IntKind.i64 t_2])) =
                      some (SV.box b_2 72 (SV.struct [SV.int IntKind.i64 t_0, SV.int IntKind.i64 t_1, SV.int IntKind.i64 t_2])) ∧
                    J w1)) →
          J w1) →
      Br (decide ((↑b.2 : Int) > 0))
        (∀ (w1 : World),
          Upd [] [b_2, b_1] w w1 →
            Ret Try.prog 56 [SV.int IntKind.i64 t_0, SV.int IntKind.i64 (↑b.2 : Int)] w1 fun (r : SV) (w1_1 : World) =>
              ∃ (n : Int),
                r = SV.int IntKind.i64 n ∧
                  Keeps [b_1, b_2] w1 w1_1 ∧
                    Upd [] [] w w1_1 ∧
                      Need (decide (0 ≤ n) && decide (n < (↑b.2 : Int)) && Option.isSome b.1)
                        (Store w1_1 (Sl.at b 1 (Int.toNat n)) (SV.cells (SV.int IntKind.u8 (wr IntKind.u8 t_2))) [b_1, b_2] fun (w1 : World) =>
                          some (SV.box b_1 50 (SV.struct [SV.arr IntKind.u8 6 f_0, SV.arr IntKind.u8 6 f_1, SV.slice f_2, SV.int IntKind.i64 f_3, SV.slice f_4])) =
                              some (SV.box b_1 50 (SV.struct [SV.arr IntKind.u8 6 f_0, SV.arr IntKind.u8 6 f_1, SV.slice f_2, SV.int IntKind.i64 f_3, SV.slice f_4])) ∧
                            some (SV.box b_2 72 (SV.struct [SV.int IntKind.i64 t_0, SV.int IntKind.i64 t_1, SV.int IntKind.i64 t_2])) =
                                some (SV.box b_2 72 (SV.struct [SV.int IntKind.i64 t_0, SV.int IntKind.i64 t_1, SV.int IntKind.i64 t_2])) ∧
                              J w1))
        (∀ (w1 : World),
          Upd [] [b_2, b_1] w w1 →
            some (SV.box b_1 50 (SV.struct [SV.arr IntKind.u8 6 f_0, SV.arr IntKind.u8 6 f_1, SV.slice f_2, SV.int IntKind.i64 f_3, SV.slice f_4])) =
                some (SV.box b_1 50 (SV.struct [SV.arr IntKind.u8 6 f_0, SV.arr IntKind.u8 6 f_1, SV.slice f_2, SV.int IntKind.i64 f_3, SV.slice f_4])) ∧
              some (SV.box b_2 72 (SV.struct [SV.int IntKind.i64 t_0, SV.int IntKind.i64 t_1, SV.int IntKind.i64 t_2])) =
                  some (SV.box b_2 72 (SV.struct [SV.int IntKind.i64 t_0, SV.int IntKind.i64 t_1, SV.int IntKind.i64 t_2])) ∧
                J w1)
theorem f39_of (b : Sl) (f_0 : Nat → Int) (f_1 : Nat → Int) (f_2 : Sl) (f_3 : Int) (f_4 : Sl) (t_0 : Int) (t_1 : Int) (t_2 : Int) (w : World) (R : SV → World → Prop) (hV : vc39 b f_0 f_1 f_2 f_3 f_4 t_0 t_1 t_2 w R) : Ret Try.prog 39 [.slice b, .struct [.arr .u8 6 f_0, .arr .u8 6 f_1, .slice f_2, .int .i64 f_3, .slice f_4], .struct [.int .i64 t_0, .int .i64 t_1, .int .i64 t_2]] w R :=
  have e : vc39 b f_0 f_1 f_2 f_3 f_4 t_0 t_1 t_2 w R = fnVC X Try.f39 a39 [.slice b, .struct [.arr .u8 6 f_0, .arr .u8 6 f_1, .slice f_2, .int .i64 f_3, .slice f_4], .struct [.int .i64 t_0, .int .i64 t_1, .int .i64 t_2]] w R := by kernel_rfl
  fnVC_sound X_ok (n := a39) (e ▸ hV) (by kernel_rfl) (by kernel_rfl) rfl rfl

end Go.Vc.S5
