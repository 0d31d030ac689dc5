import Derived.Test.YtopobapmncbjhaaAnnr5
import Derived.Test.YtopobapmncbjhaaNum
import Derived.KernelRfl
open Go Go.Vc Go.Vc.S5 Go.Proofs
set_option maxRecDepth 100000
set_option linter.unusedVariables false
namespace Go.Vc.S5
def vc44 (b : Sl) (n : Int) (w : World) (R : SV → World → Prop) : Prop :=
  ∀ (b_1 : Nat) (w1 : World),
    Upd [] [b_1] w w1 →
      (World.heap w1)[b_1]? = some (Obj.cells { toList := SV.cells (SV.struct [SV.int IntKind.u8 (wr IntKind.u8 (gshr IntKind.i64 n 8)), SV.int IntKind.u8 (wr IntKind.u8 n)]) } 5) →
        Vc.Append 5 1 1 b { ptr := some { block := b_1, off := 0 }, len := 2, cap := 2 } [] w1 fun (r : Sl) (w : World) => R (SV.slice r) w
theorem f44_of (b : Sl) (n : Int) (w : World) (R : SV → World → Prop) (h : vc44 b n w R) : Ret Try.prog 44 [.slice b, .int .i64 n] w R :=
  have e : vc44 b n w R = fnVC X Try.f44 a44 [.slice b, .int .i64 n] w R := by kernel_rfl
  fnVC_sound X_ok (n := a44) (e ▸ h) (by kernel_rfl) (by kernel_rfl) rfl rfl

def vc46 (b : Sl) (p1 : Int) (w : World) (R : SV → World → Prop) : Prop :=
  Need (decide (0 ≤ p1) && decide (p1 < (↑b.2 : Int)) && Option.isSome b.1)
    (∃ (n : Int),
      World.cell? w (Sl.at b 1 (Int.toNat p1)) = some (Value.int IntKind.u8 n) ∧
        Need (decide (0 ≤ wr IntKind.i64 (p1 + 1)) && decide (wr IntKind.i64 (p1 + 1) < (↑b.2 : Int)) && Option.isSome b.1)
          (∃ (n_1 : Int),
            World.cell? w (Sl.at b 1 (Int.toNat (wr IntKind.i64 (p1 + 1)))) = some (Value.int IntKind.u8 n_1) ∧
              ∀ (w1 : World), Upd [] [] w w1 → R (SV.int IntKind.i64 (wr IntKind.i64 (wr IntKind.i64 (wr IntKind.i64 n * 256) + wr IntKind.i64 n_1))) w1))
theorem f46_of (b : Sl) (p1 : Int) (w : World) (R : SV → World → Prop) (h : vc46 b p1 w R) : Ret Try.prog 46 [.slice b, .int .i64 p1] w R :=
  have e : vc46 b p1 w R = fnVC X Try.f46 a46 [.slice b, .int .i64 p1] w R := by kernel_rfl
  fnVC_sound X_ok (n := a46) (e ▸ h) (by kernel_rfl) (by kernel_rfl) rfl rfl

def vc50 (b : Sl) (p1 : Int) (w : World) (R : SV → World → Prop) : Prop :=
  Need (decide (0 ≤ p1) && decide (p1 < (↑b.2 : Int)) && Option.isSome b.1)
    (∃ (n : Int),
      World.cell? w (Sl.at b 1 (Int.toNat p1)) = some (Value.int IntKind.u8 n) ∧
        Need (decide (0 ≤ wr IntKind.i64 (p1 + 1)) && decide (wr IntKind.i64 (p1 + 1) < (↑b.2 : Int)) && Option.isSome b.1)
          (∃ (n_1 : Int),
            World.cell? w (Sl.at b 1 (Int.toNat (wr IntKind.i64 (p1 + 1)))) = some (Value.int IntKind.u8 n_1) ∧
              ∀ (w1 : World), Upd [] [] w w1 → R (SV.int IntKind.i64 (ior IntKind.i64 (gshl IntKind.i64 (wr IntKind.i64 n) 8) (wr IntKind.i64 n_1))) w1))
theorem f50_of (b : Sl) (p1 : Int) (w : World) (R : SV → World → Prop) (h : vc50 b p1 w R) : Ret Try.prog 50 [.slice b, .int .i64 p1] w R :=
  have e : vc50 b p1 w R = fnVC X Try.f50 a50 [.slice b, .int .i64 p1] w R := by kernel_rfl
  fnVC_sound X_ok (n := a50) (e ▸ h) (by kernel_rfl) (by kernel_rfl) rfl rfl

def vc51 (n : Int) (w : World) (R : SV → World → Prop) : Prop :=
  Br (n == 33024) (R (SV.bool true) w) (R (SV.bool (n == 34984)) w)
theorem f51_of (n : Int) (w : World) (R : SV → World → Prop) (h : vc51 n w R) : Ret Try.prog 51 [.int .i64 n] w R :=
  have e : vc51 n w R = fnVC X Try.f51 a51 [.int .i64 n] w R := by kernel_rfl
  fnVC_sound X_ok (n := a51) (e ▸ h) (by kernel_rfl) (by kernel_rfl) rfl rfl

def vc52 (f_0 : Nat → Int) (f_1 : Nat → Int) (f_2 : Sl) (f_3 : Int) (f_4 : Sl) (w : World) (R : SV → World → Prop) : Prop :=
  ∀ (b : Nat) (w1 : World),
    Upd [] [b] w w1 →
      Ret Try.prog 15 [SV.arr IntKind.u8 6 f_1] w1 fun (r : SV) (w1_1 : World) =>
        ∃ (b_1 : Bool),
          r = SV.bool b_1 ∧
            Keeps [b] w1 w1_1 ∧
              Br b_1 (R (SV.int IntKind.i64 54) w1_1)
                (Ret Try.prog 60 [SV.slice f_2] w1_1 fun (r : SV) (w1 : World) =>
                  ∃ (n : Int),
                    r = SV.int IntKind.i64 n ∧
                      Keeps [b] w1_1 w1 ∧
                        Br (n != 0) (R (SV.int IntKind.i64 n) w1)
                          (∃ (I : Int → World → Prop),
                            ∃ (M : Int → World → Nat),
                              I 0 w1 ∧
                                ∀ (n : Int) (w1 : World),
                                  I n w1 →
                                    Br (decide (n < (↑f_2.2 : Int)))
                                      (∀ (J : World → Prop),
                                        (∀ (w1_2 : World),
                                            some (SV.box b 50 (SV.struct [SV.arr IntKind.u8 6 f_0, SV.arr IntKind.u8 6 f_1, SV.slice f_2, SV.int IntKind.i64 f_3, SV.slice f_4])) =
                                                  some
                                                    (SV.box b 50 (SV.struct [SV.arr IntKind.u8 6 f_0, SV.arr IntKind.u8 6 f_1, SV.slice f_2, SV.int IntKind.i64 f_3, SV.slice f_4])) ∧
                                                I (wr IntKind.i64 (n + 1)) w1_2 ∧ M (wr IntKind.i64 (n + 1)) w1_2 < M n w1 →
                                              J w1_2) →
                                          Need (decide (0 ≤ n) && decide (n < (↑f_2.2 : Int)) && Option.isSome f_2.1)
                                            (∃ (n_1 : Int),
                                              World.cell? w1 (Sl.at f_2 4 (Int.toNat n)) = some (Value.int IntKind.i64 n_1) ∧
                                                ∃ (n_2 : Int),
                                                  World.cell? w1 (Addr.add (Sl.at f_2 4 (Int.toNat n)) 1) = some (Value.int IntKind.i64 n_2) ∧
                                                    ∃ (b_2 : Bool),
                                                      World.cell? w1 (Addr.add (Sl.at f_2 4 (Int.toNat n)) 2) = some (Value.bool b_2) ∧
                                                        ∃ (n_3 : Int),
                                                          World.cell? w1 (Addr.add (Sl.at f_2 4 (Int.toNat n)) 3) = some (Value.int IntKind.i64 n_3) ∧
                                                            ∀ (b_3 : Nat),
                                                              Br (decide (n_2 < 0)) (∀ (w1_2 : World), Upd [] [b_3] w1 w1_2 → R (SV.int IntKind.i64 52) w1_2)
                                                                (Br (decide (n_2 > 7)) (∀ (w1_2 : World), Upd [] [b_3] w1 w1_2 → R (SV.int IntKind.i64 52) w1_2)
                                                                  (Br (decide (n_3 < 0)) (∀ (w1_2 : World), Upd [] [b_3] w1 w1_2 → R (SV.int IntKind.i64 52) w1_2)
                                                                    (Br (decide (n_3 > 4094)) (∀ (w1_2 : World), Upd [] [b_3] w1 w1_2 → R (SV.int IntKind.i64 52) w1_2)
                                                                      (∀ (w1_2 : World),
                                                                        Upd [] [b_3] w1 w1_2 →
                                                                          some
                                                                                (SV.box b 50
                                                                                  (SV.struct
                                                                                    [SV.arr IntKind.u8 6 f_0, SV.arr IntKind.u8 6 f_1, SV.slice f_2, SV.int IntKind.i64 f_3,
                                                                                      SV.slice f_4])) =
                                                                              some
                                                                                (SV.box b 50
                                                                                  (SV.struct
                                                                                    [SV.arr IntKind.u8 6 f_0, SV.arr IntKind.u8 6 f_1, SV.slice f_2, SV.int IntKind.i64 f_3,
                                                                                      SV.slice f_4])) ∧
                                                                            J w1_2))))))
                                      (∀ (J : World → Prop),
                                        (∀ (w1 : World),
                                            Br (decide ((↑f_4.2 : Int) > wr IntKind.i64 (65521 - wr IntKind.i64 (4 * (↑f_2.2 : Int))))) (R (SV.int IntKind.i64 2) w1)
                                                (R (SV.int IntKind.i64 0) w1) →
                                              J w1) →
                                          Br (decide (f_3 < 1536)) (R (SV.int IntKind.i64 53) w1)
                                            (Br (decide (f_3 > 65535)) (R (SV.int IntKind.i64 53) w1)
                                              (Br (f_3 == 33024) (R (SV.int IntKind.i64 53) w1)
                                                (Br (f_3 == 34984) (R (SV.int IntKind.i64 53) w1)
                                                  (some
                                                        (SV.box b 50
                                                          (SV.struct [SV.arr IntKind.u8 6 f_0, SV.arr IntKind.u8 6 f_1, SV.slice f_2, SV.int IntKind.i64 f_3, SV.slice f_4])) =
                                                      some
                                                        (SV.box b 50
                                                          (SV.struct [SV.arr IntKind.u8 6 f_0, SV.arr IntKind.u8 6 f_1, SV.slice f_2, SV.int IntKind.i64 f_3, SV.slice f_4])) ∧
                                                    J w1)))))))
theorem f52_of (f_0 : Nat → Int) (f_1 : Nat → Int) (f_2 : Sl) (f_3 : Int) (f_4 : Sl) (w : World) (R : SV → World → Prop) (h : vc52 f_0 f_1 f_2 f_3 f_4 w R) : Ret Try.prog 52 [.struct [.arr .u8 6 f_0, .arr .u8 6 f_1, .slice f_2, .int .i64 f_3, .slice f_4]] w R :=
  have e : vc52 f_0 f_1 f_2 f_3 f_4 w R = fnVC X Try.f52 a52 [.struct [.arr .u8 6 f_0, .arr .u8 6 f_1, .slice f_2, .int .i64 f_3, .slice f_4]] w R := by kernel_rfl
  fnVC_sound X_ok (n := a52) (e ▸ h) (by kernel_rfl) (by kernel_rfl) rfl rfl

def vc53 (n : Int) (w : World) (R : SV → World → Prop) : Prop :=
  ∀ (b : Nat) (w1 : World),
    Upd [] [b] w w1 →
      (World.heap w1)[b]? =
          some
            (Obj.cells { toList := SV.cells (SV.struct [SV.int IntKind.u8 (wr IntKind.u8 (wr IntKind.i64 (Int.tdiv n 256))), SV.int IntKind.u8 (wr IntKind.u8 (Int.tmod n 256))]) }
              5) →
        R (SV.slice { ptr := some { block := b, off := 0 }, len := 2, cap := 2 }) w1
theorem f53_of (n : Int) (w : World) (R : SV → World → Prop) (h : vc53 n w R) : Ret Try.prog 53 [.int .i64 n] w R :=
  have e : vc53 n w R = fnVC X Try.f53 a53 [.int .i64 n] w R := by kernel_rfl
  fnVC_sound X_ok (n := a53) (e ▸ h) (by kernel_rfl) (by kernel_rfl) rfl rfl

def vc60 (l : Sl) (w : World) (R : SV → World → Prop) : Prop :=
  Br (decide ((↑l.2 : Int) > 2)) (R (SV.int IntKind.i64 51) w)
    (∃ (I : Int → World → Prop),
      ∃ (M : Int → World → Nat),
        I 0 w ∧
          ∀ (n : Int) (w1 : World),
            I n w1 →
              Br (decide (n < (↑l.2 : Int)))
                (∀ (J : World → Prop),
                  (∀ (w1_1 : World), I (wr IntKind.i64 (n + 1)) w1_1 ∧ M (wr IntKind.i64 (n + 1)) w1_1 < M n w1 → J w1_1) →
                    Need (decide (0 ≤ n) && decide (n < (↑l.2 : Int)) && Option.isSome l.1)
                      (∃ (n_1 : Int),
                        World.cell? w1 (Sl.at l 4 (Int.toNat n)) = some (Value.int IntKind.i64 n_1) ∧
                          Br (n_1 != 33024)
                            (Need (decide (0 ≤ n) && decide (n < (↑l.2 : Int)) && Option.isSome l.1)
                              (∃ (n_2 : Int),
                                World.cell? w1 (Sl.at l 4 (Int.toNat n)) = some (Value.int IntKind.i64 n_2) ∧
                                  Br (n_2 != 34984) (R (SV.int IntKind.i64 51) w1) (Br (decide (n > 0)) (R (SV.int IntKind.i64 51) w1) (J w1))))
                            (J w1)))
                (R (SV.int IntKind.i64 0) w1))
theorem f60_of (l : Sl) (w : World) (R : SV → World → Prop) (h : vc60 l w R) : Ret Try.prog 60 [.slice l] w R :=
  have e : vc60 l w R = fnVC X Try.f60 a60 [.slice l] w R := by kernel_rfl
  fnVC_sound X_ok (n := a60) (e ▸ h) (by kernel_rfl) (by kernel_rfl) rfl rfl

def vc30 (f_0 : Nat → Int) (f_1 : Nat → Int) (f_2 : Sl) (f_3 : Int) (f_4 : Sl) (w : World) (R : SV → World → Prop) : Prop :=
  ∀ (b : Nat) (w1 : World),
    Upd [] [b] w w1 →
      Ret Try.prog 14 [SV.arr IntKind.u8 6 f_1] w1 fun (r : SV) (w1_1 : World) =>
        ∃ (b_1 : Bool),
          r = SV.bool b_1 ∧
            Keeps [b] w1 w1_1 ∧
              Br b_1 (R (SV.int IntKind.i64 54) w1_1)
                (Br (decide ((↑f_2.2 : Int) > 2)) (R (SV.int IntKind.i64 51) w1_1)
                  (∃ (I : Int → World → Prop),
                    ∃ (M : Int → World → Nat),
                      I 0 w1_1 ∧
                        ∀ (n : Int) (w1 : World),
                          I n w1 →
                            Br (decide (n < (↑f_2.2 : Int)))
                              (Need (decide (0 ≤ n) && decide (n < (↑f_2.2 : Int)) && Option.isSome f_2.1)
                                (∃ (n_1 : Int),
                                  World.cell? w1 (Sl.at f_2 4 (Int.toNat n)) = some (Value.int IntKind.i64 n_1) ∧
                                    ∃ (n_2 : Int),
                                      World.cell? w1 (Addr.add (Sl.at f_2 4 (Int.toNat n)) 1) = some (Value.int IntKind.i64 n_2) ∧
                                        ∃ (b_2 : Bool),
                                          World.cell? w1 (Addr.add (Sl.at f_2 4 (Int.toNat n)) 2) = some (Value.bool b_2) ∧
                                            ∃ (n_3 : Int),
                                              World.cell? w1 (Addr.add (Sl.at f_2 4 (Int.toNat n)) 3) = some (Value.int IntKind.i64 n_3) ∧
                                                ∀ (b_3 : Nat) (w1_2 : World),
                                                  Upd [] [b_3] w1 w1_2 →
                                                    Ret Try.prog 51 [SV.int IntKind.i64 n_1] w1_2 fun (r : SV) (w1_3 : World) =>
                                                      ∃ (b_4 : Bool),
                                                        r = SV.bool b_4 ∧
                                                          Keeps [b, b_3] w1_2 w1_3 ∧
                                                            Br (!b_4) (R (SV.int IntKind.i64 51) w1_3)
                                                              (Br (n == 1)
                                                                (Br (n_1 != 33024) (R (SV.int IntKind.i64 51) w1_3)
                                                                  (some
                                                                        (SV.box b 50
                                                                          (SV.struct
                                                                            [SV.arr IntKind.u8 6 f_0, SV.arr IntKind.u8 6 f_1, SV.slice f_2, SV.int IntKind.i64 f_3, SV.slice f_4])) =
                                                                      some
                                                                        (SV.box b 50
                                                                          (SV.struct
                                                                            [SV.arr IntKind.u8 6 f_0, SV.arr IntKind.u8 6 f_1, SV.slice f_2, SV.int IntKind.i64 f_3, SV.slice f_4])) ∧
                                                                    I (wr IntKind.i64 (n + 1)) w1_3 ∧ M (wr IntKind.i64 (n + 1)) w1_3 < M n w1))
                                                                (some
                                                                      (SV.box b 50
                                                                        (SV.struct
                                                                          [SV.arr IntKind.u8 6 f_0, SV.arr IntKind.u8 6 f_1, SV.slice f_2, SV.int IntKind.i64 f_3, SV.slice f_4])) =
                                                                    some
                                                                      (SV.box b 50
                                                                        (SV.struct
                                                                          [SV.arr IntKind.u8 6 f_0, SV.arr IntKind.u8 6 f_1, SV.slice f_2, SV.int IntKind.i64 f_3, SV.slice f_4])) ∧
                                                                  I (wr IntKind.i64 (n + 1)) w1_3 ∧ M (wr IntKind.i64 (n + 1)) w1_3 < M n w1))))
                              (∃ (I : Int → World → Prop),
                                ∃ (M : Int → World → Nat),
                                  I 0 w1 ∧
                                    ∀ (n : Int) (w1 : World),
                                      I n w1 →
                                        Br (decide (n < (↑f_2.2 : Int)))
                                          (Need (decide (0 ≤ n) && decide (n < (↑f_2.2 : Int)) && Option.isSome f_2.1)
                                            (∃ (n_1 : Int),
                                              World.cell? w1 (Sl.at f_2 4 (Int.toNat n)) = some (Value.int IntKind.i64 n_1) ∧
                                                ∃ (n_2 : Int),
                                                  World.cell? w1 (Addr.add (Sl.at f_2 4 (Int.toNat n)) 1) = some (Value.int IntKind.i64 n_2) ∧
                                                    ∃ (b_2 : Bool),
                                                      World.cell? w1 (Addr.add (Sl.at f_2 4 (Int.toNat n)) 2) = some (Value.bool b_2) ∧
                                                        ∃ (n_3 : Int),
                                                          World.cell? w1 (Addr.add (Sl.at f_2 4 (Int.toNat n)) 3) = some (Value.int IntKind.i64 n_3) ∧
                                                            ∀ (b_3 : Nat),
                                                              Br (decide (n_2 < 0)) (∀ (w1_2 : World), Upd [] [b_3] w1 w1_2 → R (SV.int IntKind.i64 52) w1_2)
                                                                (Br (decide (n_2 > 7)) (∀ (w1_2 : World), Upd [] [b_3] w1 w1_2 → R (SV.int IntKind.i64 52) w1_2)
                                                                  (Br (decide (n_3 < 0)) (∀ (w1_2 : World), Upd [] [b_3] w1 w1_2 → R (SV.int IntKind.i64 52) w1_2)
                                                                    (Br (decide (n_3 > 4094)) (∀ (w1_2 : World), Upd [] [b_3] w1 w1_2 → R (SV.int IntKind.i64 52) w1_2)
                                                                      (∀ (w1_2 : World),
                                                                        Upd [] [b_3] w1 w1_2 →
                                                                          some
                                                                                (SV.box b 50
                                                                                  (SV.struct
                                                                                    [SV.arr IntKind.u8 6 f_0, SV.arr IntKind.u8 6 f_1, SV.slice f_2, SV.int IntKind.i64 f_3,
                                                                                      SV.slice f_4])) =
                                                                              some
                                                                                (SV.box b 50
                                                                                  (SV.struct
                                                                                    [SV.arr IntKind.u8 6 f_0, SV.arr IntKind.u8 6 f_1, SV.slice f_2, SV.int IntKind.i64 f_3,
                                                                                      SV.slice f_4])) ∧
                                                                            I (wr IntKind.i64 (n + 1)) w1_2 ∧ M (wr IntKind.i64 (n + 1)) w1_2 < M n w1))))))
                                          (∀ (J : World → Prop),
                                            (∀ (w1 : World),
                                                Br (decide (wr IntKind.i64 (wr IntKind.i64 (14 + wr IntKind.i64 (4 * (↑f_2.2 : Int))) + (↑f_4.2 : Int)) > 65535))
                                                    (R (SV.int IntKind.i64 2) w1) (R (SV.int IntKind.i64 0) w1) →
                                                  J w1) →
                                              Br (decide (f_3 < 1536)) (R (SV.int IntKind.i64 53) w1)
                                                (Br (decide (f_3 > 65535)) (R (SV.int IntKind.i64 53) w1)
                                                  (Ret Try.prog 51 [SV.int IntKind.i64 f_3] w1 fun (r : SV) (w1_2 : World) =>
                                                    ∃ (b_2 : Bool),
                                                      r = SV.bool b_2 ∧
                                                        Keeps [b] w1 w1_2 ∧
                                                          Br b_2 (R (SV.int IntKind.i64 53) w1_2)
                                                            (some
                                                                  (SV.box b 50
                                                                    (SV.struct
                                                                      [SV.arr IntKind.u8 6 f_0, SV.arr IntKind.u8 6 f_1, SV.slice f_2, SV.int IntKind.i64 f_3, SV.slice f_4])) =
                                                                some
                                                                  (SV.box b 50
                                                                    (SV.struct
                                                                      [SV.arr IntKind.u8 6 f_0, SV.arr IntKind.u8 6 f_1, SV.slice f_2, SV.int IntKind.i64 f_3, SV.slice f_4])) ∧
                                                              J w1_2)))))))
theorem f30_of (f_0 : Nat → Int) (f_1 : Nat → Int) (f_2 : Sl) (f_3 : Int) (f_4 : Sl) (w : World) (R : SV → World → Prop) (h : vc30 f_0 f_1 f_2 f_3 f_4 w R) : Ret Try.prog 30 [.struct [.arr .u8 6 f_0, .arr .u8 6 f_1, .slice f_2, .int .i64 f_3, .slice f_4]] w R :=
  have e : vc30 f_0 f_1 f_2 f_3 f_4 w R = fnVC X Try.f30 a30 [.struct [.arr .u8 6 f_0, .arr .u8 6 f_1, .slice f_2, .int .i64 f_3, .slice f_4]] w R := by kernel_rfl
  fnVC_sound X_ok (n := a30) (e ▸ h) (by kernel_rfl) (by kernel_rfl) rfl rfl

def vc31 (f_0 : Nat → Int) (f_1 : Nat → Int) (f_2 : Sl) (f_3 : Int) (f_4 : Sl) (w : World) (R : SV → World → Prop) : Prop :=
  ∀ (b : Nat) (w1 : World),
    Upd [] [b] w w1 →
      Ret Try.prog 30 [SV.struct [SV.arr IntKind.u8 6 f_0, SV.arr IntKind.u8 6 f_1, SV.slice f_2, SV.int IntKind.i64 f_3, SV.slice f_4]] w1 fun (r : SV) (w1_1 : World) =>
        ∃ (n : Int),
          r = SV.int IntKind.i64 n ∧
            Keeps [b] w1 w1_1 ∧
              Br (n != 0) (R (SV.tuple [SV.slice { ptr := none, len := 0, cap := 0 }, SV.int IntKind.i64 n]) w1_1)
                ((World.heap w1_1)[b]? =
                    some (Obj.cells { toList := SV.cells (SV.struct [SV.arr IntKind.u8 6 f_0, SV.arr IntKind.u8 6 f_1, SV.slice f_2, SV.int IntKind.i64 f_3, SV.slice f_4]) } 50) →
                  ∃ (bs : List Nat),
                    (∀ (b : Nat), b ∈ bs → b < List.length (World.heap w1_1).1) ∧
                      ((∀ (w1 : World),
                            Upd [] [] w1_1 w1 →
                              Ret Try.prog 40 [SV.slice (Sl.sub { ptr := some { block := b, off := 0 }, len := 6, cap := 6 } 1 0 6 6)] w1 fun (r : SV) (w1 : World) =>
                                ∃ (s : Sl),
                                  r = SV.slice s ∧
                                    Vc.Append 5 1 1 s (Sl.sub { ptr := some (Addr.add { block := b, off := 0 } 6), len := 6, cap := 6 } 1 0 6 6) [] w1 fun (r : Sl) (w : World) =>
                                      ∃ (s : Sl),
                                        World.cell? w (Addr.add { block := b, off := 0 } 12) = some (Sl.val s) ∧
                                          ∃ (I : Sl → Int → World → Prop),
                                            ∃ (M : Sl → Int → World → Nat),
                                              I r 0 w ∧
                                                ∀ (s_1 : Sl) (n : Int) (w1 : World),
                                                  I s_1 n w1 →
                                                    Br (decide (n < (↑s.2 : Int)))
                                                      (Need (decide (0 ≤ n) && decide (n < (↑s.2 : Int)) && Option.isSome s.1)
                                                        (∃ (n_1 : Int),
                                                          World.cell? w1 (Sl.at s 4 (Int.toNat n)) = some (Value.int IntKind.i64 n_1) ∧
                                                            ∃ (n_2 : Int),
                                                              World.cell? w1 (Addr.add (Sl.at s 4 (Int.toNat n)) 1) = some (Value.int IntKind.i64 n_2) ∧
                                                                ∃ (b : Bool),
                                                                  World.cell? w1 (Addr.add (Sl.at s 4 (Int.toNat n)) 2) = some (Value.bool b) ∧
                                                                    ∃ (n_3 : Int),
                                                                      World.cell? w1 (Addr.add (Sl.at s 4 (Int.toNat n)) 3) = some (Value.int IntKind.i64 n_3) ∧
                                                                        ∀ (b_1 : Nat) (J : Int → World → Prop),
                                                                          (∀ (n_4 : Int) (w1_2 : World),
                                                                              (Ret Try.prog 44 [SV.slice s_1, SV.int IntKind.i64 n_1] w1_2 fun (r : SV) (w1_3 : World) =>
                                                                                  ∃ (s : Sl),
                                                                                    r = SV.slice s ∧
                                                                                      Keeps [b_1] w1_2 w1_3 ∧
                                                                                        Ret Try.prog 44 [SV.slice s, SV.int IntKind.i64 n_4] w1_3 fun (r : SV) (w1_4 : World) =>
                                                                                          ∃ (s : Sl),
                                                                                            r = SV.slice s ∧
                                                                                              Keeps [b_1] w1_3 w1_4 ∧
                                                                                                I s (wr IntKind.i64 (n + 1)) w1_4 ∧ M s (wr IntKind.i64 (n + 1)) w1_4 < M s_1 n w1) →
                                                                                J n_4 w1_2) →
                                                                            Br b
                                                                              (∀ (w1_2 : World),
                                                                                Upd [] [b_1] w1 w1_2 →
                                                                                  some
                                                                                        (SV.box b_1 57
                                                                                          (SV.struct
                                                                                            [SV.int IntKind.i64 n_1, SV.int IntKind.i64 n_2, SV.bool b, SV.int IntKind.i64 n_3])) =
                                                                                      some
                                                                                        (SV.box b_1 57
                                                                                          (SV.struct
                                                                                            [SV.int IntKind.i64 n_1, SV.int IntKind.i64 n_2, SV.bool b, SV.int IntKind.i64 n_3])) ∧
                                                                                    J (ior IntKind.i64 (ior IntKind.i64 (gshl IntKind.i64 n_2 13) n_3) 4096) w1_2)
                                                                              (∀ (w1_2 : World),
                                                                                Upd [] [b_1] w1 w1_2 →
                                                                                  some
                                                                                        (SV.box b_1 57
                                                                                          (SV.struct
                                                                                            [SV.int IntKind.i64 n_1, SV.int IntKind.i64 n_2, SV.bool b, SV.int IntKind.i64 n_3])) =
                                                                                      some
                                                                                        (SV.box b_1 57
                                                                                          (SV.struct
                                                                                            [SV.int IntKind.i64 n_1, SV.int IntKind.i64 n_2, SV.bool b, SV.int IntKind.i64 n_3])) ∧
                                                                                    J (ior IntKind.i64 (gshl IntKind.i64 n_2 13) n_3) w1_2)))
                                                      (∃ (bs : List Nat),
                                                        (∀ (b : Nat), b ∈ bs → b < List.length (World.heap w1).1) ∧
                                                          Addr.block (Addr.add { block := b, off := 0 } 13) ∈ bs ∧
                                                            ∃ (n : Int),
                                                              World.cell? w1 (Addr.add { block := b, off := 0 } 13) = some (Value.int IntKind.i64 n) ∧
                                                                Addr.block (Addr.add { block := b, off := 0 } 14) ∈ bs ∧
                                                                  ∃ (s : Sl),
                                                                    World.cell? w1 (Addr.add { block := b, off := 0 } 14) = some (Sl.val s) ∧
                                                                      ∀ (w1_2 : World),
                                                                        Upd [] [] w1 w1_2 →
                                                                          Ret Try.prog 44 [SV.slice s_1, SV.int IntKind.i64 n] w1_2 fun (r : SV) (w1_3 : World) =>
                                                                            ∃ (s_2 : Sl),
                                                                              r = SV.slice s_2 ∧
                                                                                Kept bs w1 w1_3 ∧
                                                                                  Vc.Append 5 1 1 s_2 s [] w1_3 fun (r : Sl) (w : World) =>
                                                                                    R (SV.tuple [SV.slice r, SV.int IntKind.i64 0]) w)) ∧
                          ∀ (w1 : World),
                            Upd [] [] w1_1 w1 →
                              Ret Try.prog 40 [SV.slice (Sl.sub { ptr := some { block := b, off := 0 }, len := 6, cap := 6 } 1 0 6 6)] w1 fun (r : SV) (w1 : World) =>
                                ∃ (s : Sl),
                                  r = SV.slice s ∧
                                    Vc.Append 5 1 1 s (Sl.sub { ptr := some (Addr.add { block := b, off := 0 } 6), len := 6, cap := 6 } 1 0 6 6) [] w1 fun (r : Sl) (w : World) =>
                                      ∃ (s : Sl),
                                        World.cell? w (Addr.add { block := b, off := 0 } 12) = some (Sl.val s) ∧
                                          ∃ (I : Sl → Int → World → Prop),
                                            ∃ (M : Sl → Int → World → Nat),
                                              I r 0 w ∧
                                                ∀ (s_1 : Sl) (n : Int) (w1 : World),
                                                  I s_1 n w1 →
                                                    Br (decide (n < (↑s.2 : Int)))
                                                      (Need (decide (0 ≤ n) && decide (n < (↑s.2 : Int)) && Option.isSome s.1)
                                                        (∃ (n_1 : Int),
                                                          World.cell? w1 (Sl.at s 4 (Int.toNat n)) = some (Value.int IntKind.i64 n_1) ∧
                                                            ∃ (n_2 : Int),
                                                              World.cell? w1 (Addr.add (Sl.at s 4 (Int.toNat n)) 1) = some (Value.int IntKind.i64 n_2) ∧
                                                                ∃ (b : Bool),
                                                                  World.cell? w1 (Addr.add (Sl.at s 4 (Int.toNat n)) 2) = some (Value.bool b) ∧
                                                                    ∃ (n_3 : Int),
                                                                      World.cell? w1 (Addr.add (Sl.at s 4 (Int.toNat n)) 3) = some (Value.int IntKind.i64 n_3) ∧
                                                                        ∀ (b_1 : Nat) (J : Int → World → Prop),
                                                                          (∀ (n_4 : Int) (w1_2 : World),
                                                                              (Ret Try.prog 44 [SV.slice s_1, SV.int IntKind.i64 n_1] w1_2 fun (r : SV) (w1_3 : World) =>
                                                                                  ∃ (s : Sl),
                                                                                    r = SV.slice s ∧
                                                                                      Keeps [b_1] w1_2 w1_3 ∧
                                                                                        Ret Try.prog 44 [SV.slice s, SV.int IntKind.i64 n_4] w1_3 fun (r : SV) (w1_4 : World) =>
                                                                                          ∃ (s : Sl),
                                                                                            r = SV.slice s ∧
                                                                                              Keeps [b_1] w1_3 w1_4 ∧
                                                                                                I s (wr IntKind.i64 (n + 1)) w1_4 ∧ M s (wr IntKind.i64 (n + 1)) w1_4 < M s_1 n w1) →
                                                                                J n_4 w1_2) →
                                                                            Br b
                                                                              (∀ (w1_2 : World),
                                                                                Upd [] [b_1] w1 w1_2 →
                                                                                  some
                                                                                        (SV.box b_1 57
                                                                                          (SV.struct
                                                                                            [SV.int IntKind.i64 n_1, SV.int IntKind.i64 n_2, SV.bool b, SV.int IntKind.i64 n_3])) =
                                                                                      some
                                                                                        (SV.box b_1 57
                                                                                          (SV.struct
                                                                                            [SV.int IntKind.i64 n_1, SV.int IntKind.i64 n_2, SV.bool b, SV.int IntKind.i64 n_3])) ∧
                                                                                    J (ior IntKind.i64 (ior IntKind.i64 (gshl IntKind.i64 n_2 13) n_3) 4096) w1_2)
                                                                              (∀ (w1_2 : World),
                                                                                Upd [] [b_1] w1 w1_2 →
                                                                                  some
                                                                                        (SV.box b_1 57
                                                                                          (SV.struct
                                                                                            [SV.int IntKind.i64 n_1, SV.int IntKind.i64 n_2, SV.bool b, SV.int IntKind.i64 n_3])) =
                                                                                      some
                                                                                        (SV.box b_1 57
                                                                                          (SV.struct
                                                                                            [SV.int IntKind.i64 n_1, SV.int IntKind.i64 n_2, SV.bool b, SV.int IntKind.i64 n_3])) ∧
                                                                                    J (ior IntKind.i64 (gshl IntKind.i64 n_2 13) n_3) w1_2)))
                                                      (∃ (bs : List Nat),
                                                        (∀ (b : Nat), b ∈ bs → b < List.length (World.heap w1).1) ∧
                                                          Addr.block (Addr.add { block := b, off := 0 } 13) ∈ bs ∧
                                                            ∃ (n : Int),
                                                              World.cell? w1 (Addr.add { block := b, off := 0 } 13) = some (Value.int IntKind.i64 n) ∧
                                                                Addr.block (Addr.add { block := b, off := 0 } 14) ∈ bs ∧
                                                                  ∃ (s : Sl),
                                                                    World.cell? w1 (Addr.add { block := b, off := 0 } 14) = some (Sl.val s) ∧
                                                                      ∀ (w1_2 : World),
                                                                        Upd [] [] w1 w1_2 →
                                                                          Ret Try.prog 44 [SV.slice s_1, SV.int IntKind.i64 n] w1_2 fun (r : SV) (w1_3 : World) =>
                                                                            ∃ (s_2 : Sl),
                                                                              r = SV.slice s_2 ∧
                                                                                Kept bs w1 w1_3 ∧
                                                                                  Vc.Append 5 1 1 s_2 s [] w1_3 fun (r : Sl) (w : World) =>
                                                                                    R (SV.tuple [SV.slice r, SV.int IntKind.i64 0]) w)) ∧
                        ∀ (w1 : World),
                          Upd [] [] w1_1 w1 →
                            Ret Try.prog 40 [SV.slice (Sl.sub { ptr := some { block := b, off := 0 }, len := 6, cap := 6 } 1 0 6 6)] w1 fun (r : SV) (w1 : World) =>
                              ∃ (s : Sl),
                                r = SV.slice s ∧
                                  Vc.Append 5 1 1 s (Sl.sub { ptr := some (Addr.add { block := b, off := 0 } 6), len := 6, cap := 6 } 1 0 6 6) [] w1 fun (r : Sl) (w : World) =>
                                    ∃ (s : Sl),
                                      World.cell? w (Addr.add { block := b, off := 0 } 12) = some (Sl.val s) ∧
                                        ∃ (I : Sl → Int → World → Prop),
                                          ∃ (M : Sl → Int → World → Nat),
                                            I r 0 w ∧
                                              ∀ (s_1 : Sl) (n : Int) (w1 : World),
                                                I s_1 n w1 →
                                                  Br (decide (n < (↑s.2 : Int)))
                                                    (Need (decide (0 ≤ n) && decide (n < (↑s.2 : Int)) && Option.isSome s.1)
                                                      (∃ (n_1 : Int),
                                                        World.cell? w1 (Sl.at s 4 (Int.toNat n)) = some (Value.int IntKind.i64 n_1) ∧
                                                          ∃ (n_2 : Int),
                                                            World.cell? w1 (Addr.add (Sl.at s 4 (Int.toNat n)) 1) = some (Value.int IntKind.i64 n_2) ∧
                                                              ∃ (b : Bool),
                                                                World.cell? w1 (Addr.add (Sl.at s 4 (Int.toNat n)) 2) = some (Value.bool b) ∧
                                                                  ∃ (n_3 : Int),
                                                                    World.cell? w1 (Addr.add (Sl.at s 4 (Int.toNat n)) 3) = some (Value.int IntKind.i64 n_3) ∧
                                                                      ∀ (b_1 : Nat) (J : Int → World → Prop),
                                                                        (∀ (n_4 : Int) (w1_2 : World),
                                                                            (Ret Try.prog 44 [SV.slice s_1, SV.int IntKind.i64 n_1] w1_2 fun (r : SV) (w1_3 : World) =>
                                                                                ∃ (s : Sl),
                                                                                  r = SV.slice s ∧
                                                                                    Keeps [b_1] w1_2 w1_3 ∧
                                                                                      Ret Try.prog 44 [SV.slice s, SV.int IntKind.i64 n_4] w1_3 fun (r : SV) (w1_4 : World) =>
                                                                                        ∃ (s : Sl),
                                                                                          r = SV.slice s ∧
                                                                                            Keeps [b_1] w1_3 w1_4 ∧
                                                                                              I s (wr IntKind.i64 (n + 1)) w1_4 ∧ M s (wr IntKind.i64 (n + 1)) w1_4 < M s_1 n w1) →
                                                                              J n_4 w1_2) →
                                                                          Br b
                                                                            (∀ (w1_2 : World),
                                                                              Upd [] [b_1] w1 w1_2 →
                                                                                some
                                                                                      (SV.box b_1 57
                                                                                        (SV.struct
                                                                                          [SV.int IntKind.i64 n_1, SV.int IntKind.i64 n_2, SV.bool b, SV.int IntKind.i64 n_3])) =
                                                                                    some
                                                                                      (SV.box b_1 57
                                                                                        (SV.struct
                                                                                          [SV.int IntKind.i64 n_1, SV.int IntKind.i64 n_2, SV.bool b, SV.int IntKind.i64 n_3])) ∧
                                                                                  J (ior IntKind.i64 (ior IntKind.i64 (gshl IntKind.i64 n_2 13) n_3) 4096) w1_2)
                                                                            (∀ (w1_2 : World),
                                                                              Upd [] [b_1] w1 w1_2 →
                                                                                some
                                                                                      (SV.box b_1 57
                                                                                        (SV.struct
                                                                                          [SV.int IntKind.i64 n_1, SV.int IntKind.i64 n_2, SV.bool b, SV.int IntKind.i64 n_3])) =
                                                                                    some
                                                                                      (SV.box b_1 57
                                                                                        (SV.struct
                                                                                          [SV.int IntKind.i64 n_1, SV.int IntKind.i64 n_2, SV.bool b, SV.int IntKind.i64 n_3])) ∧
                                                                                  J (ior IntKind.i64 (gshl IntKind.i64 n_2 13) n_3) w1_2)))
                                                    (∃ (bs : List Nat),
                                                      (∀ (b : Nat), b ∈ bs → b < List.length (World.heap w1).1) ∧
                                                        Addr.block (Addr.add { block := b, off := 0 } 13) ∈ bs ∧
                                                          ∃ (n : Int),
                                                            World.cell? w1 (Addr.add { block := b, off := 0 } 13) = some (Value.int IntKind.i64 n) ∧
                                                              Addr.block (Addr.add { block := b, off := 0 } 14) ∈ bs ∧
                                                                ∃ (s : Sl),
                                                                  World.cell? w1 (Addr.add { block := b, off := 0 } 14) = some (Sl.val s) ∧
                                                                    ∀ (w1_2 : World),
                                                                      Upd [] [] w1 w1_2 →
                                                                        Ret Try.prog 44 [SV.slice s_1, SV.int IntKind.i64 n] w1_2 fun (r : SV) (w1_3 : World) =>
                                                                          ∃ (s_2 : Sl),
                                                                            r = SV.slice s_2 ∧
                                                                              Kept bs w1 w1_3 ∧
                                                                                Vc.Append 5 1 1 s_2 s [] w1_3 fun (r : Sl) (w : World) =>
                                                                                  R (SV.tuple [SV.slice r, SV.int IntKind.i64 0]) w))
theorem f31_of (f_0 : Nat → Int) (f_1 : Nat → Int) (f_2 : Sl) (f_3 : Int) (f_4 : Sl) (w : World) (R : SV → World → Prop) (h : vc31 f_0 f_1 f_2 f_3 f_4 w R) : Ret Try.prog 31 [.struct [.arr .u8 6 f_0, .arr .u8 6 f_1, .slice f_2, .int .i64 f_3, .slice f_4]] w R :=
  have e : vc31 f_0 f_1 f_2 f_3 f_4 w R = fnVC X Try.f31 a31 [.struct [.arr .u8 6 f_0, .arr .u8 6 f_1, .slice f_2, .int .i64 f_3, .slice f_4]] w R := by kernel_rfl
  fnVC_sound X_ok (n := a31) (e ▸ h) (by kernel_rfl) (by kernel_rfl) rfl rfl

def vc32 (f_0 : Nat → Int) (f_1 : Nat → Int) (f_2 : Sl) (f_3 : Int) (f_4 : Sl) (w : World) (R : SV → World → Prop) : Prop :=
  ∀ (b : Nat) (w1 : World),
    Upd [] [b] w w1 →
      Ret Try.prog 52 [SV.struct [SV.arr IntKind.u8 6 f_0, SV.arr IntKind.u8 6 f_1, SV.slice f_2, SV.int IntKind.i64 f_3, SV.slice f_4]] w1 fun (r : SV) (w1_1 : World) =>
        ∃ (n : Int),
          r = SV.int IntKind.i64 n ∧
            Keeps [b] w1 w1_1 ∧
              Br (n != 0) (R (SV.tuple [SV.slice { ptr := none, len := 0, cap := 0 }, SV.int IntKind.i64 n]) w1_1)
                (∃ (I : Sl → Int → World → Prop),
                  ∃ (M : Sl → Int → World → Nat),
                    I { ptr := none, len := 0, cap := 0 } 0 w1_1 ∧
                      ∀ (s : Sl) (n : Int) (w1 : World),
                        I s n w1 →
                          Br (decide (n < 6))
                            (Need (decide (0 ≤ n) && decide (n < 6))
                              (∀ (b_1 : Nat) (w1_2 : World),
                                Upd [] [b_1] w1 w1_2 →
                                  (World.heap w1_2)[b_1]? = some (Obj.cells { toList := SV.cells (SV.struct [SV.int IntKind.u8 (f_0 (Int.toNat n))]) } 5) →
                                    Vc.Append 5 1 1 s { ptr := some { block := b_1, off := 0 }, len := 1, cap := 1 } [b] w1_2 fun (r : Sl) (w : World) =>
                                      some (SV.box b 50 (SV.struct [SV.arr IntKind.u8 6 f_0, SV.arr IntKind.u8 6 f_1, SV.slice f_2, SV.int IntKind.i64 f_3, SV.slice f_4])) =
                                          some (SV.box b 50 (SV.struct [SV.arr IntKind.u8 6 f_0, SV.arr IntKind.u8 6 f_1, SV.slice f_2, SV.int IntKind.i64 f_3, SV.slice f_4])) ∧
                                        I r (wr IntKind.i64 (n + 1)) w ∧ M r (wr IntKind.i64 (n + 1)) w < M s n w1))
                            (∃ (I : Sl → Int → World → Prop),
                              ∃ (M : Sl → Int → World → Nat),
                                I s 0 w1 ∧
                                  ∀ (s : Sl) (n : Int) (w1 : World),
                                    I s n w1 →
                                      Br (decide (n < 6))
                                        (Need (decide (0 ≤ n) && decide (n < 6))
                                          (∀ (b_1 : Nat) (w1_2 : World),
                                            Upd [] [b_1] w1 w1_2 →
                                              (World.heap w1_2)[b_1]? = some (Obj.cells { toList := SV.cells (SV.struct [SV.int IntKind.u8 (f_1 (Int.toNat n))]) } 5) →
                                                Vc.Append 5 1 1 s { ptr := some { block := b_1, off := 0 }, len := 1, cap := 1 } [b] w1_2 fun (r : Sl) (w : World) =>
                                                  some
                                                        (SV.box b 50
                                                          (SV.struct [SV.arr IntKind.u8 6 f_0, SV.arr IntKind.u8 6 f_1, SV.slice f_2, SV.int IntKind.i64 f_3, SV.slice f_4])) =
                                                      some
                                                        (SV.box b 50
                                                          (SV.struct [SV.arr IntKind.u8 6 f_0, SV.arr IntKind.u8 6 f_1, SV.slice f_2, SV.int IntKind.i64 f_3, SV.slice f_4])) ∧
                                                    I r (wr IntKind.i64 (n + 1)) w ∧ M r (wr IntKind.i64 (n + 1)) w < M s n w1))
                                        (∃ (I : Sl → Int → World → Prop),
                                          ∃ (M : Sl → Int → World → Nat),
                                            I s 0 w1 ∧
                                              ∀ (s : Sl) (n : Int) (w1 : World),
                                                I s n w1 →
                                                  Br (decide (n < (↑f_2.2 : Int)))
                                                    (∀ (J : Sl → World → Prop),
                                                      (∀ (s_1 : Sl) (w1_2 : World),
                                                          some
                                                                  (SV.box b 50
                                                                    (SV.struct
                                                                      [SV.arr IntKind.u8 6 f_0, SV.arr IntKind.u8 6 f_1, SV.slice f_2, SV.int IntKind.i64 f_3, SV.slice f_4])) =
                                                                some
                                                                  (SV.box b 50
                                                                    (SV.struct
                                                                      [SV.arr IntKind.u8 6 f_0, SV.arr IntKind.u8 6 f_1, SV.slice f_2, SV.int IntKind.i64 f_3, SV.slice f_4])) ∧
                                                              I s_1 (wr IntKind.i64 (n + 1)) w1_2 ∧ M s_1 (wr IntKind.i64 (n + 1)) w1_2 < M s n w1 →
                                                            J s_1 w1_2) →
                                                        Need (decide (0 ≤ n) && decide (n < (↑f_2.2 : Int)) && Option.isSome f_2.1)
                                                          (∃ (n_1 : Int),
                                                            World.cell? w1 (Sl.at f_2 4 (Int.toNat n)) = some (Value.int IntKind.i64 n_1) ∧
                                                              ∃ (n_2 : Int),
                                                                World.cell? w1 (Addr.add (Sl.at f_2 4 (Int.toNat n)) 1) = some (Value.int IntKind.i64 n_2) ∧
                                                                  ∃ (b_1 : Bool),
                                                                    World.cell? w1 (Addr.add (Sl.at f_2 4 (Int.toNat n)) 2) = some (Value.bool b_1) ∧
                                                                      ∃ (n_3 : Int),
                                                                        World.cell? w1 (Addr.add (Sl.at f_2 4 (Int.toNat n)) 3) = some (Value.int IntKind.i64 n_3) ∧
                                                                          ∀ (b_2 : Nat) (J_1 : Int → World → Prop),
                                                                            (∀ (n : Int) (w1 : World),
                                                                                (Ret Try.prog 53 [SV.int IntKind.i64 n_1] w1 fun (r : SV) (w1_2 : World) =>
                                                                                    ∃ (s_1 : Sl),
                                                                                      r = SV.slice s_1 ∧
                                                                                        Keeps [b, b_2] w1 w1_2 ∧
                                                                                          Vc.Append 5 1 1 s s_1 [b, b_2] w1_2 fun (r : Sl) (w : World) =>
                                                                                            Ret Try.prog 53 [SV.int IntKind.i64 n] w fun (r_1 : SV) (w1 : World) =>
                                                                                              ∃ (s : Sl),
                                                                                                r_1 = SV.slice s ∧
                                                                                                  Keeps [b, b_2] w w1 ∧
                                                                                                    Vc.Append 5 1 1 r s [b, b_2] w1 fun (r : Sl) (w : World) =>
                                                                                                      some
                                                                                                            (SV.box b 50
                                                                                                              (SV.struct
                                                                                                                [SV.arr IntKind.u8 6 f_0, SV.arr IntKind.u8 6 f_1, SV.slice f_2,
                                                                                                                  SV.int IntKind.i64 f_3, SV.slice f_4])) =
                                                                                                          some
                                                                                                            (SV.box b 50
                                                                                                              (SV.struct
                                                                                                                [SV.arr IntKind.u8 6 f_0, SV.arr IntKind.u8 6 f_1, SV.slice f_2,
                                                                                                                  SV.int IntKind.i64 f_3, SV.slice f_4])) ∧
                                                                                                        J r w) →
                                                                                  J_1 n w1) →
                                                                              Br b_1
                                                                                (∀ (w1_2 : World),
                                                                                  Upd [] [b_2] w1 w1_2 →
                                                                                    some
                                                                                          (SV.box b 50
                                                                                            (SV.struct
                                                                                              [SV.arr IntKind.u8 6 f_0, SV.arr IntKind.u8 6 f_1, SV.slice f_2, SV.int IntKind.i64 f_3,
                                                                                                SV.slice f_4])) =
                                                                                        some
                                                                                          (SV.box b 50
                                                                                            (SV.struct
                                                                                              [SV.arr IntKind.u8 6 f_0, SV.arr IntKind.u8 6 f_1, SV.slice f_2, SV.int IntKind.i64 f_3,
                                                                                                SV.slice f_4])) ∧
                                                                                      some
                                                                                            (SV.box b_2 57
                                                                                              (SV.struct
                                                                                                [SV.int IntKind.i64 n_1, SV.int IntKind.i64 n_2, SV.bool b_1,
                                                                                                  SV.int IntKind.i64 n_3])) =
                                                                                          some
                                                                                            (SV.box b_2 57
                                                                                              (SV.struct
                                                                                                [SV.int IntKind.i64 n_1, SV.int IntKind.i64 n_2, SV.bool b_1,
                                                                                                  SV.int IntKind.i64 n_3])) ∧
                                                                                        J_1 (wr IntKind.i64 (wr IntKind.i64 (wr IntKind.i64 (n_2 * 8192) + n_3) + 4096)) w1_2)
                                                                                (∀ (w1_2 : World),
                                                                                  Upd [] [b_2] w1 w1_2 →
                                                                                    some
                                                                                          (SV.box b 50
                                                                                            (SV.struct
                                                                                              [SV.arr IntKind.u8 6 f_0, SV.arr IntKind.u8 6 f_1, SV.slice f_2, SV.int IntKind.i64 f_3,
                                                                                                SV.slice f_4])) =
                                                                                        some
                                                                                          (SV.box b 50
                                                                                            (SV.struct
                                                                                              [SV.arr IntKind.u8 6 f_0, SV.arr IntKind.u8 6 f_1, SV.slice f_2, SV.int IntKind.i64 f_3,
                                                                                                SV.slice f_4])) ∧
                                                                                      some
                                                                                            (SV.box b_2 57
                                                                                              (SV.struct
                                                                                                [SV.int IntKind.i64 n_1, SV.int IntKind.i64 n_2, SV.bool b_1,
                                                                                                  SV.int IntKind.i64 n_3])) =
                                                                                          some
                                                                                            (SV.box b_2 57
                                                                                              (SV.struct
                                                                                                [SV.int IntKind.i64 n_1, SV.int IntKind.i64 n_2, SV.bool b_1,
                                                                                                  SV.int IntKind.i64 n_3])) ∧
                                                                                        J_1 (wr IntKind.i64 (wr IntKind.i64 (n_2 * 8192) + n_3)) w1_2)))
                                                    (Ret Try.prog 53 [SV.int IntKind.i64 f_3] w1 fun (r : SV) (w1_2 : World) =>
                                                      ∃ (s_1 : Sl),
                                                        r = SV.slice s_1 ∧
                                                          Keeps [b] w1 w1_2 ∧
                                                            Vc.Append 5 1 1 s s_1 [b] w1_2 fun (r : Sl) (w : World) =>
                                                              Vc.Append 5 1 1 r f_4 [b] w fun (r : Sl) (w : World) => R (SV.tuple [SV.slice r, SV.int IntKind.i64 0]) w))))
theorem f32_of (f_0 : Nat → Int) (f_1 : Nat → Int) (f_2 : Sl) (f_3 : Int) (f_4 : Sl) (w : World) (R : SV → World → Prop) (h : vc32 f_0 f_1 f_2 f_3 f_4 w R) : Ret Try.prog 32 [.struct [.arr .u8 6 f_0, .arr .u8 6 f_1, .slice f_2, .int .i64 f_3, .slice f_4]] w R :=
  have e : vc32 f_0 f_1 f_2 f_3 f_4 w R = fnVC X Try.f32 a32 [.struct [.arr .u8 6 f_0, .arr .u8 6 f_1, .slice f_2, .int .i64 f_3, .slice f_4]] w R := by kernel_rfl
  fnVC_sound X_ok (n := a32) (e ▸ h) (by kernel_rfl) (by kernel_rfl) rfl rfl

def vc28 (a_0 : Nat → Int) (a_1 : Nat → Int) (a_2 : Sl) (a_3 : Int) (a_4 : Sl) (b_0 : Nat → Int) (b_1 : Nat → Int) (b_2 : Sl) (b_3 : Int) (b_4 : Sl) (w : World) (R : SV → World → Prop) : Prop :=
  ∀ (b b_5 : Nat) (J : World → Prop),
    (∀ (w1 : World),
        (∃ (I : Int → World → Prop),
            ∃ (M : Int → World → Nat),
              I 0 w1 ∧
                ∀ (n : Int) (w1 : World),
                  I n w1 →
                    Br (decide (n < (↑a_2.2 : Int)))
                      (Need (decide (0 ≤ n) && decide (n < (↑a_2.2 : Int)) && Option.isSome a_2.1)
                        (∃ (n_1 : Int),
                          World.cell? w1 (Sl.at a_2 4 (Int.toNat n)) = some (Value.int IntKind.i64 n_1) ∧
                            ∃ (n_2 : Int),
                              World.cell? w1 (Addr.add (Sl.at a_2 4 (Int.toNat n)) 1) = some (Value.int IntKind.i64 n_2) ∧
                                ∃ (b_6 : Bool),
                                  World.cell? w1 (Addr.add (Sl.at a_2 4 (Int.toNat n)) 2) = some (Value.bool b_6) ∧
                                    ∃ (n_3 : Int),
                                      World.cell? w1 (Addr.add (Sl.at a_2 4 (Int.toNat n)) 3) = some (Value.int IntKind.i64 n_3) ∧
                                        Need (decide (0 ≤ n) && decide (n < (↑b_2.2 : Int)) && Option.isSome b_2.1)
                                          (∃ (n_4 : Int),
                                            World.cell? w1 (Sl.at b_2 4 (Int.toNat n)) = some (Value.int IntKind.i64 n_4) ∧
                                              ∃ (n_5 : Int),
                                                World.cell? w1 (Addr.add (Sl.at b_2 4 (Int.toNat n)) 1) = some (Value.int IntKind.i64 n_5) ∧
                                                  ∃ (b_7 : Bool),
                                                    World.cell? w1 (Addr.add (Sl.at b_2 4 (Int.toNat n)) 2) = some (Value.bool b_7) ∧
                                                      ∃ (n_6 : Int),
                                                        World.cell? w1 (Addr.add (Sl.at b_2 4 (Int.toNat n)) 3) = some (Value.int IntKind.i64 n_6) ∧
                                                          Br (!(n_1 == n_4 && (n_2 == n_5 && (b_6 == b_7 && n_3 == n_6))))
                                                            (∀ (w1_1 : World), Upd [] [] w1 w1_1 → R (SV.bool false) w1_1)
                                                            (∀ (w1_1 : World),
                                                              Upd [] [] w1 w1_1 →
                                                                some
                                                                      (SV.box b 50
                                                                        (SV.struct
                                                                          [SV.arr IntKind.u8 6 a_0, SV.arr IntKind.u8 6 a_1, SV.slice a_2, SV.int IntKind.i64 a_3, SV.slice a_4])) =
                                                                    some
                                                                      (SV.box b 50
                                                                        (SV.struct
                                                                          [SV.arr IntKind.u8 6 a_0, SV.arr IntKind.u8 6 a_1, SV.slice a_2, SV.int IntKind.i64 a_3, SV.slice a_4])) ∧
                                                                  some
                                                                        (SV.box b_5 50
                                                                          (SV.struct
                                                                            [SV.arr IntKind.u8 6 b_0, SV.arr IntKind.u8 6 b_1, SV.slice b_2, SV.int IntKind.i64 b_3, SV.slice b_4])) =
                                                                      some
                                                                        (SV.box b_5 50
                                                                          (SV.struct
                                                                            [SV.arr IntKind.u8 6 b_0, SV.arr IntKind.u8 6 b_1, SV.slice b_2, SV.int IntKind.i64 b_3, SV.slice b_4])) ∧
                                                                    I (wr IntKind.i64 (n + 1)) w1_1 ∧ M (wr IntKind.i64 (n + 1)) w1_1 < M n w1))))
                      (∃ (I : Int → World → Prop),
                        ∃ (M : Int → World → Nat),
                          I 0 w1 ∧
                            ∀ (n : Int) (w1 : World),
                              I n w1 →
                                Br (decide (n < (↑a_4.2 : Int)))
                                  (Need (decide (0 ≤ n) && decide (n < (↑a_4.2 : Int)) && Option.isSome a_4.1)
                                    (∃ (n_1 : Int),
                                      World.cell? w1 (Sl.at a_4 1 (Int.toNat n)) = some (Value.int IntKind.u8 n_1) ∧
                                        Need (decide (0 ≤ n) && decide (n < (↑b_4.2 : Int)) && Option.isSome b_4.1)
                                          (∃ (n_2 : Int),
                                            World.cell? w1 (Sl.at b_4 1 (Int.toNat n)) = some (Value.int IntKind.u8 n_2) ∧
                                              Br (n_1 != n_2) (∀ (w1_1 : World), Upd [] [] w1 w1_1 → R (SV.bool false) w1_1)
                                                (∀ (w1_1 : World),
                                                  Upd [] [] w1 w1_1 →
                                                    some
                                                          (SV.box b 50
                                                            (SV.struct [SV.arr IntKind.u8 6 a_0, SV.arr IntKind.u8 6 a_1, SV.slice a_2, SV.int IntKind.i64 a_3, SV.slice a_4])) =
                                                        some
                                                          (SV.box b 50
                                                            (SV.struct [SV.arr IntKind.u8 6 a_0, SV.arr IntKind.u8 6 a_1, SV.slice a_2, SV.int IntKind.i64 a_3, SV.slice a_4])) ∧
                                                      some
                                                            (SV.box b_5 50
                                                              (SV.struct [SV.arr IntKind.u8 6 b_0, SV.arr IntKind.u8 6 b_1, SV.slice b_2, SV.int IntKind.i64 b_3, SV.slice b_4])) =
                                                          some
                                                            (SV.box b_5 50
                                                              (SV.struct [SV.arr IntKind.u8 6 b_0, SV.arr IntKind.u8 6 b_1, SV.slice b_2, SV.int IntKind.i64 b_3, SV.slice b_4])) ∧
                                                        I (wr IntKind.i64 (n + 1)) w1_1 ∧ M (wr IntKind.i64 (n + 1)) w1_1 < M n w1))))
                                  (R (SV.bool true) w1))) →
          J w1) →
      Br (!eqArr 6 a_0 b_0) (∀ (w1 : World), Upd [] [b_5, b] w w1 → R (SV.bool false) w1)
        (Br (!eqArr 6 a_1 b_1) (∀ (w1 : World), Upd [] [b_5, b] w w1 → R (SV.bool false) w1)
          (Br (a_3 != b_3) (∀ (w1 : World), Upd [] [b_5, b] w w1 → R (SV.bool false) w1)
            (Br ((↑a_2.2 : Int) != (↑b_2.2 : Int)) (∀ (w1 : World), Upd [] [b_5, b] w w1 → R (SV.bool false) w1)
              (Br ((↑a_4.2 : Int) != (↑b_4.2 : Int)) (∀ (w1 : World), Upd [] [b_5, b] w w1 → R (SV.bool false) w1)
                (∀ (w1 : World),
                  Upd [] [b_5, b] w w1 →
                    some (SV.box b 50 (SV.struct [SV.arr IntKind.u8 6 a_0, SV.arr IntKind.u8 6 a_1, SV.slice a_2, SV.int IntKind.i64 a_3, SV.slice a_4])) =
                        some (SV.box b 50 (SV.struct [SV.arr IntKind.u8 6 a_0, SV.arr IntKind.u8 6 a_1, SV.slice a_2, SV.int IntKind.i64 a_3, SV.slice a_4])) ∧
                      some (SV.box b_5 50 (SV.struct [SV.arr IntKind.u8 6 b_0, SV.arr IntKind.u8 6 b_1, SV.slice b_2, SV.int IntKind.i64 b_3, SV.slice b_4])) =
                          some (SV.box b_5 50 (SV.struct [SV.arr IntKind.u8 6 b_0, SV.arr IntKind.u8 6 b_1, SV.slice b_2, SV.int IntKind.i64 b_3, SV.slice b_4])) ∧
                        J w1)))))
theorem f28_of (a_0 : Nat → Int) (a_1 : Nat → Int) (a_2 : Sl) (a_3 : Int) (a_4 : Sl) (b_0 : Nat → Int) (b_1 : Nat → Int) (b_2 : Sl) (b_3 : Int) (b_4 : Sl) (w : World) (R : SV → World → Prop) (h : vc28 a_0 a_1 a_2 a_3 a_4 b_0 b_1 b_2 b_3 b_4 w R) : Ret Try.prog 28 [.struct [.arr .u8 6 a_0, .arr .u8 6 a_1, .slice a_2, .int .i64 a_3, .slice a_4], .struct [.arr .u8 6 b_0, .arr .u8 6 b_1, .slice b_2, .int .i64 b_3, .slice b_4]] w R :=
  have e : vc28 a_0 a_1 a_2 a_3 a_4 b_0 b_1 b_2 b_3 b_4 w R = fnVC X Try.f28 a28 [.struct [.arr .u8 6 a_0, .arr .u8 6 a_1, .slice a_2, .int .i64 a_3, .slice a_4], .struct [.arr .u8 6 b_0, .arr .u8 6 b_1, .slice b_2, .int .i64 b_3, .slice b_4]] w R := by kernel_rfl
  fnVC_sound X_ok (n := a28) (e ▸ h) (by kernel_rfl) (by kernel_rfl) rfl rfl

def vc29 (f_0 : Nat → Int) (f_1 : Nat → Int) (f_2 : Sl) (f_3 : Int) (f_4 : Sl) (w : World) (R : SV → World → Prop) : Prop :=
  ∀ (b b_1 : Nat) (J : (Nat → Int) → (Nat → Int) → Sl → Int → Sl → World → Prop),
    (∀ (f f_5 : Nat → Int) (s : Sl) (n : Int) (s_1 : Sl) (w1 : World),
        (Ret Try.prog 17 [SV.slice s_1] w1 fun (r : SV) (w1_1 : World) =>
            ∃ (s_2 : Sl),
              r = SV.slice s_2 ∧
                Keeps [b, b_1] w1 w1_1 ∧
                  ∀ (w1 : World),
                    Upd [b] [] w1_1 w1 →
                      Vc.Append 57 4 32 { ptr := none, len := 0, cap := 0 } s [b, b_1] w1 fun (r : Sl) (w : World) =>
                        ∀ (w1 : World), Upd [b_1, b] [] w w1 → R (SV.struct [SV.arr IntKind.u8 6 f, SV.arr IntKind.u8 6 f_5, SV.slice r, SV.int IntKind.i64 n, SV.slice s_2]) w1) →
          J f f_5 s n s_1 w1) →
      Br (decide ((↑f_4.2 : Int) > 70000))
        (Need (decide (70000 ≤ (↑f_4.3 : Int)))
          (∀ (w1 : World),
            Upd [] [b_1, b] w w1 →
              some
                    (SV.box b_1 50
                      (SV.struct
                        [SV.arr IntKind.u8 6 fun (x : Nat) => 0, SV.arr IntKind.u8 6 fun (x : Nat) => 0, SV.slice { ptr := none, len := 0, cap := 0 }, SV.int IntKind.i64 0,
                          SV.slice { ptr := none, len := 0, cap := 0 }])) =
                  some
                    (SV.box b_1 50
                      (SV.struct
                        [SV.arr IntKind.u8 6 fun (x : Nat) => 0, SV.arr IntKind.u8 6 fun (x : Nat) => 0, SV.slice { ptr := none, len := 0, cap := 0 }, SV.int IntKind.i64 0,
                          SV.slice { ptr := none, len := 0, cap := 0 }])) ∧
                (b, 50) = (b, 50) ∧ J f_0 f_1 f_2 f_3 (Sl.sub f_4 1 0 70000 f_4.3) w1))
        (∀ (w1 : World),
          Upd [] [b_1, b] w w1 →
            some
                  (SV.box b_1 50
                    (SV.struct
                      [SV.arr IntKind.u8 6 fun (x : Nat) => 0, SV.arr IntKind.u8 6 fun (x : Nat) => 0, SV.slice { ptr := none, len := 0, cap := 0 }, SV.int IntKind.i64 0,
                        SV.slice { ptr := none, len := 0, cap := 0 }])) =
                some
                  (SV.box b_1 50
                    (SV.struct
                      [SV.arr IntKind.u8 6 fun (x : Nat) => 0, SV.arr IntKind.u8 6 fun (x : Nat) => 0, SV.slice { ptr := none, len := 0, cap := 0 }, SV.int IntKind.i64 0,
                        SV.slice { ptr := none, len := 0, cap := 0 }])) ∧
              (b, 50) = (b, 50) ∧ J f_0 f_1 f_2 f_3 f_4 w1)
theorem f29_of (f_0 : Nat → Int) (f_1 : Nat → Int) (f_2 : Sl) (f_3 : Int) (f_4 : Sl) (w : World) (R : SV → World → Prop) (h : vc29 f_0 f_1 f_2 f_3 f_4 w R) : Ret Try.prog 29 [.struct [.arr .u8 6 f_0, .arr .u8 6 f_1, .slice f_2, .int .i64 f_3, .slice f_4]] w R :=
  have e : vc29 f_0 f_1 f_2 f_3 f_4 w R = fnVC X Try.f29 a29 [.struct [.arr .u8 6 f_0, .arr .u8 6 f_1, .slice f_2, .int .i64 f_3, .slice f_4]] w R := by kernel_rfl
  fnVC_sound X_ok (n := a29) (e ▸ h) (by kernel_rfl) (by kernel_rfl) rfl rfl

def vc33 (w : World) (R : SV → World → Prop) : Prop :=
  ∀ (b : Nat) (w1 : World),
    Upd [] [b] w w1 →
      (World.heap w1)[b]? =
          some
            (Obj.cells
              {
                toList :=
                  SV.cells
                    (SV.struct
                      [SV.int IntKind.u8 255, SV.int IntKind.u8 255, SV.int IntKind.u8 255, SV.int IntKind.u8 255, SV.int IntKind.u8 255, SV.int IntKind.u8 255, SV.int IntKind.u8 2,
                        SV.int IntKind.u8 0, SV.int IntKind.u8 0, SV.int IntKind.u8 0, SV.int IntKind.u8 0, SV.int IntKind.u8 1, SV.int IntKind.u8 8, SV.int IntKind.u8 0,
                        SV.int IntKind.u8 7]) }
              5) →
        R (SV.slice { ptr := some { block := b, off := 0 }, len := 15, cap := 15 }) w1
theorem f33_of (w : World) (R : SV → World → Prop) (h : vc33 w R) : Ret Try.prog 33 [] w R :=
  have e : vc33 w R = fnVC X Try.f33 a33 [] w R := by kernel_rfl
  fnVC_sound X_ok (n := a33) (e ▸ h) (by kernel_rfl) (by kernel_rfl) rfl rfl

def vc49 (w : World) (R : SV → World → Prop) : Prop :=
  ∀ (b : Nat) (w1 : World),
    Upd [] [b] w w1 →
      (World.heap w1)[b]? = some (Obj.cells { toList := zerosOf (Ty.struct false [Ty.int IntKind.i64, Ty.int IntKind.i64, Ty.bool, Ty.int IntKind.i64]) 3 } 57) →
        ∀ (b_1 b_2 : Nat) (w1_1 : World),
          Upd [] [b_2, b_1] w1 w1_1 →
            (World.heap w1_1)[b_2]? = some (Obj.cells { toList := zerosOf (Ty.int IntKind.u8) 65536 } 5) →
              ∀ (b_3 : Nat) (w1 : World),
                Upd [] [b_3] w1_1 w1 →
                  Ret Try.prog 30
                    [SV.struct
                        [SV.arr IntKind.u8 6 fun (x : Nat) => 0, SV.arr IntKind.u8 6 (fset (fun (x : Nat) => 0) 0 1),
                          SV.slice { ptr := some { block := b, off := 0 }, len := 3, cap := 3 }, SV.int IntKind.i64 2048, SV.slice { ptr := none, len := 0, cap := 0 }]]
                    w1 fun (r : SV) (w1_2 : World) =>
                    ∃ (n : Int),
                      r = SV.int IntKind.i64 n ∧
                        Keeps [b_1, b_3] w1 w1_2 ∧
                          Upd [] [] w1_1 w1_2 ∧
                            Ret Try.prog 52
                              [SV.struct
                                  [SV.arr IntKind.u8 6 fun (x : Nat) => 0, SV.arr IntKind.u8 6 (fset (fun (x : Nat) => 0) 0 1),
                                    SV.slice { ptr := some { block := b, off := 0 }, len := 3, cap := 3 }, SV.int IntKind.i64 2048, SV.slice { ptr := none, len := 0, cap := 0 }]]
                              w1_2 fun (r : SV) (w1 : World) =>
                              ∃ (n_1 : Int),
                                r = SV.int IntKind.i64 n_1 ∧
                                  Keeps [b_1, b_3] w1_2 w1 ∧
                                    Upd [] [] w1_1 w1 ∧
                                      Br (n == n_1)
                                        (Ret Try.prog 30
                                          [SV.struct
                                              [SV.arr IntKind.u8 6 fun (x : Nat) => 0, SV.arr IntKind.u8 6 fun (x : Nat) => 0, SV.slice { ptr := none, len := 0, cap := 0 },
                                                SV.int IntKind.i64 1, SV.slice { ptr := some { block := b_2, off := 0 }, len := 65536, cap := 65536 }]]
                                          w1 fun (r : SV) (w1_3 : World) =>
                                          ∃ (n : Int),
                                            r = SV.int IntKind.i64 n ∧
                                              Keeps [b_1, b_3] w1 w1_3 ∧
                                                Upd [] [] w1_1 w1_3 ∧
                                                  Ret Try.prog 52
                                                    [SV.struct
                                                        [SV.arr IntKind.u8 6 fun (x : Nat) => 0, SV.arr IntKind.u8 6 fun (x : Nat) => 0, SV.slice { ptr := none, len := 0, cap := 0 },
                                                          SV.int IntKind.i64 1, SV.slice { ptr := some { block := b_2, off := 0 }, len := 65536, cap := 65536 }]]
                                                    w1_3 fun (r : SV) (w1 : World) =>
                                                    ∃ (n_2 : Int), r = SV.int IntKind.i64 n_2 ∧ Keeps [b_1, b_3] w1_3 w1 ∧ R (SV.bool (n == n_2)) w1)
                                        (R (SV.bool false) w1)
theorem f49_of (w : World) (R : SV → World → Prop) (h : vc49 w R) : Ret Try.prog 49 [] w R :=
  have e : vc49 w R = fnVC X Try.f49 a49 [] w R := by kernel_rfl
  fnVC_sound X_ok (n := a49) (e ▸ h) (by kernel_rfl) (by kernel_rfl) rfl rfl

def vc25 (w : World) (R : SV → World → Prop) : Prop :=
  Ret Try.prog 49 [] w fun (r : SV) (w1 : World) =>
    ∃ (b : Bool),
      r = SV.bool b ∧
        Br (!b) (R (SV.bool false) w1)
          (Ret Try.prog 33 [] w1 fun (r : SV) (w1 : World) =>
            ∃ (s : Sl),
              r = SV.slice s ∧
                Ret Try.prog 26 [SV.slice s] w1 fun (r : SV) (w1 : World) =>
                  ∃ (f : Nat → Int),
                    ∃ (f_1 : Nat → Int),
                      ∃ (s : Sl),
                        ∃ (n : Int),
                          ∃ (s_1 : Sl),
                            ∃ (n_1 : Int),
                              r = SV.tuple [SV.struct [SV.arr IntKind.u8 6 f, SV.arr IntKind.u8 6 f_1, SV.slice s, SV.int IntKind.i64 n, SV.slice s_1], SV.int IntKind.i64 n_1] ∧
                                ∀ (b : Nat) (w1_1 : World),
                                  Upd [] [b] w1 w1_1 →
                                    Ret Try.prog 26 [SV.slice { ptr := none, len := 0, cap := 0 }] w1_1 fun (r : SV) (w1 : World) =>
                                      ∃ (f_2 : Nat → Int),
                                        ∃ (f_3 : Nat → Int),
                                          ∃ (s_2 : Sl),
                                            ∃ (n_2 : Int),
                                              ∃ (s_3 : Sl),
                                                ∃ (n_3 : Int),
                                                  r =
                                                      SV.tuple
                                                        [SV.struct [SV.arr IntKind.u8 6 f_2, SV.arr IntKind.u8 6 f_3, SV.slice s_2, SV.int IntKind.i64 n_2, SV.slice s_3],
                                                          SV.int IntKind.i64 n_3] ∧
                                                    Keeps [b] w1_1 w1 ∧
                                                      ∀ (b_1 : Nat) (w1_2 : World),
                                                        Upd [] [b_1] w1 w1_2 →
                                                          Ret Try.prog 31 [SV.struct [SV.arr IntKind.u8 6 f, SV.arr IntKind.u8 6 f_1, SV.slice s, SV.int IntKind.i64 n, SV.slice s_1]]
                                                            w1_2 fun (r : SV) (w1 : World) =>
                                                            ∃ (s : Sl),
                                                              ∃ (n_4 : Int),
                                                                r = SV.tuple [SV.slice s, SV.int IntKind.i64 n_4] ∧
                                                                  Keeps [b, b_1] w1_2 w1 ∧
                                                                    Br (n_1 == 0)
                                                                      (Br (n_3 == 50)
                                                                        (Br (n_4 == 0)
                                                                          (Br (n == 2048)
                                                                            (Br ((↑s_1.2 : Int) == 1)
                                                                              (Need (decide (0 < (↑s_1.2 : Int)) && Option.isSome s_1.1)
                                                                                (∃ (n : Int),
                                                                                  World.cell? w1 (Sl.at s_1 1 0) = some (Value.int IntKind.u8 n) ∧
                                                                                    Br (n == 7)
                                                                                      (Ret Try.prog 33 [] w1 fun (r : SV) (w1_3 : World) =>
                                                                                        ∃ (s_4 : Sl),
                                                                                          r = SV.slice s_4 ∧
                                                                                            Keeps [b, b_1] w1 w1_3 ∧
                                                                                              Ret Try.prog 19 [SV.slice s, SV.slice s_4] w1_3 fun (r : SV) (w1 : World) =>
                                                                                                ∃ (b_2 : Bool), r = SV.bool b_2 ∧ Keeps [b, b_1] w1_3 w1 ∧ R (SV.bool b_2) w1)
                                                                                      (R (SV.bool false) w1)))
                                                                              (R (SV.bool false) w1))
                                                                            (R (SV.bool false) w1))
                                                                          (R (SV.bool false) w1))
                                                                        (R (SV.bool false) w1))
                                                                      (R (SV.bool false) w1))
theorem f25_of (w : World) (R : SV → World → Prop) (h : vc25 w R) : Ret Try.prog 25 [] w R :=
  have e : vc25 w R = fnVC X Try.f25 a25 [] w R := by kernel_rfl
  fnVC_sound X_ok (n := a25) (e ▸ h) (by kernel_rfl) (by kernel_rfl) rfl rfl

def vc26 (b : Sl) (w : World) (R : SV → World → Prop) : Prop :=
  ∀ (b_1 : Nat),
    Br (decide ((↑b.2 : Int) > 65535))
      (∀ (w1 : World),
        Upd [] [b_1] w w1 →
          R
            (SV.tuple
              [SV.struct
                  [SV.arr IntKind.u8 6 fun (x : Nat) => 0, SV.arr IntKind.u8 6 fun (x : Nat) => 0, SV.slice { ptr := none, len := 0, cap := 0 }, SV.int IntKind.i64 0,
                    SV.slice { ptr := none, len := 0, cap := 0 }],
                SV.int IntKind.i64 2])
            w1)
      (Br (decide ((↑b.2 : Int) < 14))
        (∀ (w1 : World),
          Upd [] [b_1] w w1 →
            R
              (SV.tuple
                [SV.struct
                    [SV.arr IntKind.u8 6 fun (x : Nat) => 0, SV.arr IntKind.u8 6 fun (x : Nat) => 0, SV.slice { ptr := none, len := 0, cap := 0 }, SV.int IntKind.i64 0,
                      SV.slice { ptr := none, len := 0, cap := 0 }],
                  SV.int IntKind.i64 50])
              w1)
        (Need (decide (6 ≤ (↑b.3 : Int)))
          (Need (decide (6 ≤ (Sl.sub b 1 0 6 b.3).2) && Option.isSome (Sl.sub b 1 0 6 b.3).1)
            (∃ (f : Nat → Int),
              (∀ (i : Nat), i < 6 → World.cell? w (Addr.add (Sl.at (Sl.sub b 1 0 6 b.3) 0 0) (0 + i)) = some (Value.int IntKind.u8 (f i))) ∧
                Need (decide (12 ≤ (↑b.3 : Int)) && decide (6 ≤ 12))
                  (Need (decide (6 ≤ (Sl.sub b 1 6 12 b.3).2) && Option.isSome (Sl.sub b 1 6 12 b.3).1)
                    (∃ (f_1 : Nat → Int),
                      (∀ (i : Nat), i < 6 → World.cell? w (Addr.add (Sl.at (Sl.sub b 1 6 12 b.3) 0 0) (0 + i)) = some (Value.int IntKind.u8 (f_1 i))) ∧
                        ∀ (b_2 : Nat),
                          Upd [] [] w w ∧
                            ∀ (w1 : World),
                              Upd [] [b_2, b_1] w w1 →
                                Ret Try.prog 14 [SV.arr IntKind.u8 6 f_1] w1 fun (r : SV) (w1_1 : World) =>
                                  ∃ (b_3 : Bool),
                                    r = SV.bool b_3 ∧
                                      Keeps [b_1, b_2] w1 w1_1 ∧
                                        Br b_3
                                          (∀ (w1 : World),
                                            Upd [b_1] [] w1_1 w1 →
                                              R
                                                (SV.tuple
                                                  [SV.struct
                                                      [SV.arr IntKind.u8 6 fun (x : Nat) => 0, SV.arr IntKind.u8 6 fun (x : Nat) => 0, SV.slice { ptr := none, len := 0, cap := 0 },
                                                        SV.int IntKind.i64 0, SV.slice { ptr := none, len := 0, cap := 0 }],
                                                    SV.int IntKind.i64 54])
                                                w1)
                                          (∃ (I : Int → (Nat → Int) → (Nat → Int) → Sl → Int → Sl → (Nat → Int) → (Nat → Int) → Sl → Int → Sl → World → Prop),
                                            ∃ (M : Int → (Nat → Int) → (Nat → Int) → Sl → Int → Sl → (Nat → Int) → (Nat → Int) → Sl → Int → Sl → World → Nat),
                                              I 12 (fun (x : Nat) => 0) (fun (x : Nat) => 0) { ptr := none, len := 0, cap := 0 } 0 { ptr := none, len := 0, cap := 0 } f f_1
                                                  { ptr := none, len := 0, cap := 0 } 0 { ptr := none, len := 0, cap := 0 } w1_1 ∧
                                                ∀ (n : Int) (f f_2 : Nat → Int) (s : Sl) (n_1 : Int) (s_1 : Sl) (f_3 f_4 : Nat → Int) (s_2 : Sl) (n_2 : Int) (s_3 : Sl) (w1 : World),
                                                  I n f f_2 s n_1 s_1 f_3 f_4 s_2 n_2 s_3 w1 →
                                                    Ret Try.prog 50 [SV.slice b, SV.int IntKind.i64 n] w1 fun (r : SV) (w1_2 : World) =>
                                                      ∃ (n_3 : Int),
                                                        r = SV.int IntKind.i64 n_3 ∧
                                                          Keeps [b_1, b_2] w1 w1_2 ∧
                                                            ∀ (J : (Nat → Int) → (Nat → Int) → Sl → Int → Sl → (Nat → Int) → (Nat → Int) → Sl → Int → Sl → World → Prop),
                                                              (∀ (f_5 f_6 : Nat → Int) (s_4 : Sl) (n_4 : Int) (s_5 : Sl) (f_7 f_8 : Nat → Int) (s_6 : Sl) (n_5 : Int) (s_7 : Sl)
                                                                  (w1_3 : World),
                                                                  (Ret Try.prog 50 [SV.slice b, SV.int IntKind.i64 (wr IntKind.i64 (n + 2))] w1_3 fun (r : SV) (w1_4 : World) =>
                                                                      ∃ (n_6 : Int),
                                                                        r = SV.int IntKind.i64 n_6 ∧
                                                                          Keeps [b_1, b_2] w1_3 w1_4 ∧
                                                                            ∀ (b : Nat),
                                                                              Br (iand IntKind.i64 n_6 4095 == 4095)
                                                                                (∀ (w1 : World),
                                                                                  Upd [b_1] [b] w1_4 w1 →
                                                                                    R
                                                                                      (SV.tuple
                                                                                        [SV.struct
                                                                                            [SV.arr IntKind.u8 6 fun (x : Nat) => 0, SV.arr IntKind.u8 6 fun (x : Nat) => 0,
                                                                                              SV.slice { ptr := none, len := 0, cap := 0 }, SV.int IntKind.i64 0,
                                                                                              SV.slice { ptr := none, len := 0, cap := 0 }],
                                                                                          SV.int IntKind.i64 52])
                                                                                      w1)
                                                                                (∀ (b_4 : Nat) (w1_5 : World),
                                                                                  Upd [] [b_4, b] w1_4 w1_5 →
                                                                                    (World.heap w1_5)[b_4]? =
                                                                                        some
                                                                                          (Obj.cells
                                                                                            {
                                                                                              toList :=
                                                                                                SV.cells
                                                                                                  (SV.struct
                                                                                                    [SV.struct
                                                                                                        [SV.int IntKind.i64 n_3, SV.int IntKind.i64 (gshr IntKind.i64 n_6 13),
                                                                                                          SV.bool (iand IntKind.i64 (gshr IntKind.i64 n_6 12) 1 == 1),
                                                                                                          SV.int IntKind.i64 (iand IntKind.i64 n_6 4095)]]) }
                                                                                            57) →
                                                                                      Vc.Append 57 4 32 s_6 { ptr := some { block := b_4, off := 0 }, len := 1, cap := 1 }
                                                                                        [b_1, b_2, b] w1_5 fun (r : Sl) (w : World) =>
                                                                                        ∀ (w1_6 : World),
                                                                                          Upd [b_2] [] w w1_6 →
                                                                                            (b_1, 50) = (b_1, 50) ∧
                                                                                              (b_2, 50) = (b_2, 50) ∧
                                                                                                I (wr IntKind.i64 (n + 4)) f_5 f_6 s_4 n_4 s_5 f_7 f_8 r n_5 s_7 w1_6 ∧
                                                                                                  M (wr IntKind.i64 (n + 4)) f_5 f_6 s_4 n_4 s_5 f_7 f_8 r n_5 s_7 w1_6 <
                                                                                                    M n f f_2 s n_1 s_1 f_3 f_4 s_2 n_2 s_3 w1)) →
                                                                    J f_5 f_6 s_4 n_4 s_5 f_7 f_8 s_6 n_5 s_7 w1_3) →
                                                                Ret Try.prog 51 [SV.int IntKind.i64 n_3] w1_2 fun (r : SV) (w1 : World) =>
                                                                  ∃ (b_4 : Bool),
                                                                    r = SV.bool b_4 ∧
                                                                      Keeps [b_1, b_2] w1_2 w1 ∧
                                                                        Br (!b_4)
                                                                          (Br (decide (n_3 < 1536))
                                                                            (∀ (w1_3 : World),
                                                                              Upd [b_1, b_2] [] w1 w1_3 →
                                                                                R
                                                                                  (SV.tuple
                                                                                    [SV.struct
                                                                                        [SV.arr IntKind.u8 6 fun (x : Nat) => 0, SV.arr IntKind.u8 6 fun (x : Nat) => 0,
                                                                                          SV.slice { ptr := none, len := 0, cap := 0 }, SV.int IntKind.i64 0,
                                                                                          SV.slice { ptr := none, len := 0, cap := 0 }],
                                                                                      SV.int IntKind.i64 53])
                                                                                  w1_3)
                                                                            (Need
                                                                              (decide (0 ≤ (↑b.2 : Int)) && decide ((↑b.2 : Int) ≤ (↑b.3 : Int)) &&
                                                                                  (decide (0 ≤ (↑b.2 : Int)) && decide ((↑b.2 : Int) ≤ (↑(Int.toNat (↑b.2 : Int)) : Int))) &&
                                                                                (decide (0 ≤ wr IntKind.i64 (n + 2)) &&
                                                                                  decide (wr IntKind.i64 (n + 2) ≤ (↑(Int.toNat (↑b.2 : Int)) : Int))))
                                                                              (∀ (w1_3 : World),
                                                                                Upd [b_1, b_2] [] w1 w1_3 →
                                                                                  R
                                                                                    (SV.tuple
                                                                                      [SV.struct
                                                                                          [SV.arr IntKind.u8 6 f_3, SV.arr IntKind.u8 6 f_4, SV.slice s_2, SV.int IntKind.i64 n_3,
                                                                                            SV.slice
                                                                                              (Sl.sub b 1 (Int.toNat (wr IntKind.i64 (n + 2))) (Int.toNat (↑b.2 : Int))
                                                                                                (Int.toNat (↑b.2 : Int)))],
                                                                                        SV.int IntKind.i64 0])
                                                                                    w1_3)))
                                                                          (∀ (J_1 : Bool → World → Prop),
                                                                            (∀ (b_5 : Bool) (w1 : World),
                                                                                Br b_5
                                                                                    (∀ (w1_3 : World),
                                                                                      Upd [b_1] [] w1 w1_3 →
                                                                                        R
                                                                                          (SV.tuple
                                                                                            [SV.struct
                                                                                                [SV.arr IntKind.u8 6 fun (x : Nat) => 0, SV.arr IntKind.u8 6 fun (x : Nat) => 0,
                                                                                                  SV.slice { ptr := none, len := 0, cap := 0 }, SV.int IntKind.i64 0,
                                                                                                  SV.slice { ptr := none, len := 0, cap := 0 }],
                                                                                              SV.int IntKind.i64 51])
                                                                                          w1_3)
                                                                                    (Br (decide ((↑b.2 : Int) < wr IntKind.i64 (n + 6)))
                                                                                      (∀ (w1_3 : World),
                                                                                        Upd [b_1] [] w1 w1_3 →
                                                                                          R
                                                                                            (SV.tuple
                                                                                              [SV.struct
                                                                                                  [SV.arr IntKind.u8 6 fun (x : Nat) => 0, SV.arr IntKind.u8 6 fun (x : Nat) => 0,
                                                                                                    SV.slice { ptr := none, len := 0, cap := 0 }, SV.int IntKind.i64 0,
                                                                                                    SV.slice { ptr := none, len := 0, cap := 0 }],
                                                                                                SV.int IntKind.i64 50])
                                                                                            w1_3)
                                                                                      ((b_1, 50) = (b_1, 50) ∧ (b_2, 50) = (b_2, 50) ∧ J f f_2 s n_1 s_1 f_3 f_4 s_2 n_2 s_3 w1)) →
                                                                                  J_1 b_5 w1) →
                                                                              Br ((↑s_2.2 : Int) == 2)
                                                                                (some
                                                                                      (SV.box b_1 50
                                                                                        (SV.struct
                                                                                          [SV.arr IntKind.u8 6 f, SV.arr IntKind.u8 6 f_2, SV.slice s, SV.int IntKind.i64 n_1,
                                                                                            SV.slice s_1])) =
                                                                                    some
                                                                                      (SV.box b_1 50
                                                                                        (SV.struct
                                                                                          [SV.arr IntKind.u8 6 f, SV.arr IntKind.u8 6 f_2, SV.slice s, SV.int IntKind.i64 n_1,
                                                                                            SV.slice s_1])) ∧
                                                                                  some
                                                                                        (SV.box b_2 50
                                                                                          (SV.struct
                                                                                            [SV.arr IntKind.u8 6 f_3, SV.arr IntKind.u8 6 f_4, SV.slice s_2, SV.int IntKind.i64 n_2,
                                                                                              SV.slice s_3])) =
                                                                                      some
                                                                                        (SV.box b_2 50
                                                                                          (SV.struct
                                                                                            [SV.arr IntKind.u8 6 f_3, SV.arr IntKind.u8 6 f_4, SV.slice s_2, SV.int IntKind.i64 n_2,
                                                                                              SV.slice s_3])) ∧
                                                                                    J_1 true w1)
                                                                                (Br ((↑s_2.2 : Int) == 1)
                                                                                  (some
                                                                                        (SV.box b_1 50
                                                                                          (SV.struct
                                                                                            [SV.arr IntKind.u8 6 f, SV.arr IntKind.u8 6 f_2, SV.slice s, SV.int IntKind.i64 n_1,
                                                                                              SV.slice s_1])) =
                                                                                      some
                                                                                        (SV.box b_1 50
                                                                                          (SV.struct
                                                                                            [SV.arr IntKind.u8 6 f, SV.arr IntKind.u8 6 f_2, SV.slice s, SV.int IntKind.i64 n_1,
                                                                                              SV.slice s_1])) ∧
                                                                                    some
                                                                                          (SV.box b_2 50
                                                                                            (SV.struct
                                                                                              [SV.arr IntKind.u8 6 f_3, SV.arr IntKind.u8 6 f_4, SV.slice s_2, SV.int IntKind.i64 n_2,
                                                                                                SV.slice s_3])) =
                                                                                        some
                                                                                          (SV.box b_2 50
                                                                                            (SV.struct
                                                                                              [SV.arr IntKind.u8 6 f_3, SV.arr IntKind.u8 6 f_4, SV.slice s_2, SV.int IntKind.i64 n_2,
                                                                                                SV.slice s_3])) ∧
                                                                                      J_1 (n_3 == 34984) w1)
                                                                                  (some
                                                                                        (SV.box b_1 50
                                                                                          (SV.struct
                                                                                            [SV.arr IntKind.u8 6 f, SV.arr IntKind.u8 6 f_2, SV.slice s, SV.int IntKind.i64 n_1,
                                                                                              SV.slice s_1])) =
                                                                                      some
                                                                                        (SV.box b_1 50
                                                                                          (SV.struct
                                                                                            [SV.arr IntKind.u8 6 f, SV.arr IntKind.u8 6 f_2, SV.slice s, SV.int IntKind.i64 n_1,
                                                                                              SV.slice s_1])) ∧
                                                                                    some
                                                                                          (SV.box b_2 50
                                                                                            (SV.struct
                                                                                              [SV.arr IntKind.u8 6 f_3, SV.arr IntKind.u8 6 f_4, SV.slice s_2, SV.int IntKind.i64 n_2,
                                                                                                SV.slice s_3])) =
                                                                                        some
                                                                                          (SV.box b_2 50
                                                                                            (SV.struct
                                                                                              [SV.arr IntKind.u8 6 f_3, SV.arr IntKind.u8 6 f_4, SV.slice s_2, SV.int IntKind.i64 n_2,
                                                                                                SV.slice s_3])) ∧
                                                                                      J_1 false w1))))))))))
theorem f26_of (b : Sl) (w : World) (R : SV → World → Prop) (h : vc26 b w R) : Ret Try.prog 26 [.slice b] w R :=
  have e : vc26 b w R = fnVC X Try.f26 a26 [.slice b] w R := by kernel_rfl
  fnVC_sound X_ok (n := a26) (e ▸ h) (by kernel_rfl) (by kernel_rfl) rfl rfl

def vc27 (b : Sl) (w : World) (R : SV → World → Prop) : Prop :=
  ∀ (b_1 b_2 : Nat),
    Br (decide ((↑b.2 : Int) > 65535))
      (∀ (w1 : World),
        Upd [] [b_2, b_1] w w1 →
          R
            (SV.tuple
              [SV.struct
                  [SV.arr IntKind.u8 6 fun (x : Nat) => 0, SV.arr IntKind.u8 6 fun (x : Nat) => 0, SV.slice { ptr := none, len := 0, cap := 0 }, SV.int IntKind.i64 0,
                    SV.slice { ptr := none, len := 0, cap := 0 }],
                SV.int IntKind.i64 2])
            w1)
      (Br (decide ((↑b.2 : Int) < 14))
        (∀ (w1 : World),
          Upd [] [b_2, b_1] w w1 →
            R
              (SV.tuple
                [SV.struct
                    [SV.arr IntKind.u8 6 fun (x : Nat) => 0, SV.arr IntKind.u8 6 fun (x : Nat) => 0, SV.slice { ptr := none, len := 0, cap := 0 }, SV.int IntKind.i64 0,
                      SV.slice { ptr := none, len := 0, cap := 0 }],
                  SV.int IntKind.i64 50])
              w1)
        (∀ (b_3 : Nat),
          ∃ (I : Int → (Nat → Int) → (Nat → Int) → Sl → Int → Sl → World → Prop),
            ∃ (M : Int → (Nat → Int) → (Nat → Int) → Sl → Int → Sl → World → Nat),
              (∀ (w1 : World),
                  Upd [] [b_3, b_2, b_1] w w1 → I 0 (fun (x : Nat) => 0) (fun (x : Nat) => 0) { ptr := none, len := 0, cap := 0 } 0 { ptr := none, len := 0, cap := 0 } w1) ∧
                ∀ (n : Int) (f f_1 : Nat → Int) (s : Sl) (n_1 : Int) (s_1 : Sl) (w1 : World),
                  I n f f_1 s n_1 s_1 w1 →
                    Br (decide (n < 6))
                      (Need (decide (0 ≤ n) && decide (n < (↑b.2 : Int)) && Option.isSome b.1)
                        (∃ (n_2 : Int),
                          World.cell? w1 (Sl.at b 1 (Int.toNat n)) = some (Value.int IntKind.u8 n_2) ∧
                            Need (decide (0 ≤ n) && decide (n < 6))
                              (Need (decide (0 ≤ wr IntKind.i64 (6 + n)) && decide (wr IntKind.i64 (6 + n) < (↑b.2 : Int)) && Option.isSome b.1)
                                (∀ (w1_1 : World),
                                  Upd [b_3] [] w1 w1_1 →
                                    ∃ (n_3 : Int),
                                      World.cell? w1_1 (Sl.at b 1 (Int.toNat (wr IntKind.i64 (6 + n)))) = some (Value.int IntKind.u8 n_3) ∧
                                        Need (decide (0 ≤ n) && decide (n < 6))
                                          (∀ (w1_2 : World),
                                            Upd [b_3] [] w1_1 w1_2 →
                                              some
                                                    (SV.box b_1 50
                                                      (SV.struct
                                                        [SV.arr IntKind.u8 6 fun (x : Nat) => 0, SV.arr IntKind.u8 6 fun (x : Nat) => 0, SV.slice { ptr := none, len := 0, cap := 0 },
                                                          SV.int IntKind.i64 0, SV.slice { ptr := none, len := 0, cap := 0 }])) =
                                                  some
                                                    (SV.box b_1 50
                                                      (SV.struct
                                                        [SV.arr IntKind.u8 6 fun (x : Nat) => 0, SV.arr IntKind.u8 6 fun (x : Nat) => 0, SV.slice { ptr := none, len := 0, cap := 0 },
                                                          SV.int IntKind.i64 0, SV.slice { ptr := none, len := 0, cap := 0 }])) ∧
                                                some
                                                      (SV.box b_2 50
                                                        (SV.struct
                                                          [SV.arr IntKind.u8 6 fun (x : Nat) => 0, SV.arr IntKind.u8 6 fun (x : Nat) => 0,
                                                            SV.slice { ptr := none, len := 0, cap := 0 }, SV.int IntKind.i64 0, SV.slice { ptr := none, len := 0, cap := 0 }])) =
                                                    some
                                                      (SV.box b_2 50
                                                        (SV.struct
                                                          [SV.arr IntKind.u8 6 fun (x : Nat) => 0, SV.arr IntKind.u8 6 fun (x : Nat) => 0,
                                                            SV.slice { ptr := none, len := 0, cap := 0 }, SV.int IntKind.i64 0, SV.slice { ptr := none, len := 0, cap := 0 }])) ∧
                                                  (b_3, 50) = (b_3, 50) ∧
                                                    I (wr IntKind.i64 (n + 1)) (fset f (Int.toNat n) n_2) (fset f_1 (Int.toNat n) n_3) s n_1 s_1 w1_2 ∧
                                                      M (wr IntKind.i64 (n + 1)) (fset f (Int.toNat n) n_2) (fset f_1 (Int.toNat n) n_3) s n_1 s_1 w1_2 < M n f f_1 s n_1 s_1 w1)))))
                      (Ret Try.prog 15 [SV.arr IntKind.u8 6 f_1] w1 fun (r : SV) (w1_1 : World) =>
                        ∃ (b_4 : Bool),
                          r = SV.bool b_4 ∧
                            Keeps [b_1, b_2, b_3] w1 w1_1 ∧
                              Br b_4
                                (∀ (w1 : World),
                                  Upd [b_1] [] w1_1 w1 →
                                    R
                                      (SV.tuple
                                        [SV.struct
                                            [SV.arr IntKind.u8 6 fun (x : Nat) => 0, SV.arr IntKind.u8 6 fun (x : Nat) => 0, SV.slice { ptr := none, len := 0, cap := 0 },
                                              SV.int IntKind.i64 0, SV.slice { ptr := none, len := 0, cap := 0 }],
                                          SV.int IntKind.i64 54])
                                      w1)
                                (∀ (J : Int → (Nat → Int) → (Nat → Int) → Sl → Int → Sl → (Nat → Int) → (Nat → Int) → Sl → Int → Sl → World → Prop),
                                  (∀ (n : Int) (f f_2 : Nat → Int) (s : Sl) (n_2 : Int) (s_2 : Sl) (f_3 f_4 : Nat → Int) (s_3 : Sl) (n_3 : Int) (s_4 : Sl) (w1 : World),
                                      (Ret Try.prog 46 [SV.slice b, SV.int IntKind.i64 n] w1 fun (r : SV) (w1_2 : World) =>
                                          ∃ (n_4 : Int),
                                            r = SV.int IntKind.i64 n_4 ∧
                                              Keeps [b_1, b_2, b_3] w1 w1_2 ∧
                                                Br (decide (n_4 < 1536))
                                                  (∀ (w1 : World),
                                                    Upd [b_1, b_3] [] w1_2 w1 →
                                                      R
                                                        (SV.tuple
                                                          [SV.struct
                                                              [SV.arr IntKind.u8 6 fun (x : Nat) => 0, SV.arr IntKind.u8 6 fun (x : Nat) => 0,
                                                                SV.slice { ptr := none, len := 0, cap := 0 }, SV.int IntKind.i64 0, SV.slice { ptr := none, len := 0, cap := 0 }],
                                                            SV.int IntKind.i64 53])
                                                        w1)
                                                  (∀ (w1 : World),
                                                    Upd [b_3] [] w1_2 w1 →
                                                      Ret Try.prog 41 [SV.slice b, SV.int IntKind.i64 (wr IntKind.i64 (n + 2)), SV.int IntKind.i64 (↑b.2 : Int)] w1
                                                        fun (r : SV) (w1_3 : World) =>
                                                        ∃ (s : Sl),
                                                          r = SV.slice s ∧
                                                            Keeps [b_1, b_2, b_3] w1 w1_3 ∧
                                                              ∀ (w1 : World),
                                                                Upd [b_1, b_3] [] w1_3 w1 →
                                                                  R
                                                                    (SV.tuple
                                                                      [SV.struct [SV.arr IntKind.u8 6 f_3, SV.arr IntKind.u8 6 f_4, SV.slice s_3, SV.int IntKind.i64 n_4, SV.slice s],
                                                                        SV.int IntKind.i64 0])
                                                                    w1)) →
                                        J n f f_2 s n_2 s_2 f_3 f_4 s_3 n_3 s_4 w1) →
                                    ∃ (I : Int → (Nat → Int) → (Nat → Int) → Sl → Int → Sl → (Nat → Int) → (Nat → Int) → Sl → Int → Sl → World → Prop),
                                      ∃ (M : Int → (Nat → Int) → (Nat → Int) → Sl → Int → Sl → (Nat → Int) → (Nat → Int) → Sl → Int → Sl → World → Nat),
                                        I 12 (fun (x : Nat) => 0) (fun (x : Nat) => 0) { ptr := none, len := 0, cap := 0 } 0 { ptr := none, len := 0, cap := 0 } f f_1 s n_1 s_1
                                            w1_1 ∧
                                          ∀ (n : Int) (f f_2 : Nat → Int) (s : Sl) (n_2 : Int) (s_2 : Sl) (f_3 f_4 : Nat → Int) (s_3 : Sl) (n_3 : Int) (s_4 : Sl) (w1 : World),
                                            I n f f_2 s n_2 s_2 f_3 f_4 s_3 n_3 s_4 w1 →
                                              ∀ (J_1 : World → Prop),
                                                (∀ (w1_2 : World),
                                                    (∀ (J : (Nat → Int) → (Nat → Int) → Sl → Int → Sl → World → Prop),
                                                        (∀ (f_5 f_6 : Nat → Int) (s_5 : Sl) (n_4 : Int) (s_6 : Sl) (w1_3 : World),
                                                            Br (decide ((↑b.2 : Int) < wr IntKind.i64 (n + 6)))
                                                                (∀ (w1 : World),
                                                                  Upd [b_1] [] w1_3 w1 →
                                                                    R
                                                                      (SV.tuple
                                                                        [SV.struct
                                                                            [SV.arr IntKind.u8 6 fun (x : Nat) => 0, SV.arr IntKind.u8 6 fun (x : Nat) => 0,
                                                                              SV.slice { ptr := none, len := 0, cap := 0 }, SV.int IntKind.i64 0,
                                                                              SV.slice { ptr := none, len := 0, cap := 0 }],
                                                                          SV.int IntKind.i64 50])
                                                                      w1)
                                                                (Ret Try.prog 46 [SV.slice b, SV.int IntKind.i64 (wr IntKind.i64 (n + 2))] w1_3 fun (r : SV) (w1_4 : World) =>
                                                                  ∃ (n_5 : Int),
                                                                    r = SV.int IntKind.i64 n_5 ∧
                                                                      Keeps [b_1, b_2, b_3] w1_3 w1_4 ∧
                                                                        Ret Try.prog 46 [SV.slice b, SV.int IntKind.i64 n] w1_4 fun (r : SV) (w1_5 : World) =>
                                                                          ∃ (n_6 : Int),
                                                                            r = SV.int IntKind.i64 n_6 ∧
                                                                              Keeps [b_1, b_2, b_3] w1_4 w1_5 ∧
                                                                                ∀ (b : Nat),
                                                                                  Br (Int.tmod n_5 4096 == 4095)
                                                                                    (∀ (w1 : World),
                                                                                      Upd [b_1] [b] w1_5 w1 →
                                                                                        R
                                                                                          (SV.tuple
                                                                                            [SV.struct
                                                                                                [SV.arr IntKind.u8 6 fun (x : Nat) => 0, SV.arr IntKind.u8 6 fun (x : Nat) => 0,
                                                                                                  SV.slice { ptr := none, len := 0, cap := 0 }, SV.int IntKind.i64 0,
                                                                                                  SV.slice { ptr := none, len := 0, cap := 0 }],
                                                                                              SV.int IntKind.i64 52])
                                                                                          w1)
                                                                                    (∀ (b_5 : Nat) (w1_6 : World),
                                                                                      Upd [] [b_5, b] w1_5 w1_6 →
                                                                                        (World.heap w1_6)[b_5]? =
                                                                                            some
                                                                                              (Obj.cells
                                                                                                {
                                                                                                  toList :=
                                                                                                    SV.cells
                                                                                                      (SV.struct
                                                                                                        [SV.struct
                                                                                                            [SV.int IntKind.i64 n_6,
                                                                                                              SV.int IntKind.i64 (wr IntKind.i64 (Int.tdiv n_5 8192)),
                                                                                                              SV.bool (Int.tmod (wr IntKind.i64 (Int.tdiv n_5 4096)) 2 == 1),
                                                                                                              SV.int IntKind.i64 (Int.tmod n_5 4096)]]) }
                                                                                                57) →
                                                                                          Vc.Append 57 4 32 s_3 { ptr := some { block := b_5, off := 0 }, len := 1, cap := 1 }
                                                                                            [b_1, b_2, b_3, b] w1_6 fun (r : Sl) (w : World) =>
                                                                                            ∀ (w1_7 : World),
                                                                                              Upd [b_3] [] w w1_7 →
                                                                                                some
                                                                                                      (SV.box b_2 50
                                                                                                        (SV.struct
                                                                                                          [SV.arr IntKind.u8 6 fun (x : Nat) => 0,
                                                                                                            SV.arr IntKind.u8 6 fun (x : Nat) => 0,
                                                                                                            SV.slice { ptr := none, len := 0, cap := 0 }, SV.int IntKind.i64 0,
                                                                                                            SV.slice { ptr := none, len := 0, cap := 0 }])) =
                                                                                                    some
                                                                                                      (SV.box b_2 50
                                                                                                        (SV.struct
                                                                                                          [SV.arr IntKind.u8 6 fun (x : Nat) => 0,
                                                                                                            SV.arr IntKind.u8 6 fun (x : Nat) => 0,
                                                                                                            SV.slice { ptr := none, len := 0, cap := 0 }, SV.int IntKind.i64 0,
                                                                                                            SV.slice { ptr := none, len := 0, cap := 0 }])) ∧
                                                                                                  (b_1, 50) = (b_1, 50) ∧
                                                                                                    (b_3, 50) = (b_3, 50) ∧
                                                                                                      I (wr IntKind.i64 (n + 4)) f_5 f_6 s_5 n_4 s_6 f_3 f_4 r n_3 s_4 w1_7 ∧
                                                                                                        M (wr IntKind.i64 (n + 4)) f_5 f_6 s_5 n_4 s_6 f_3 f_4 r n_3 s_4 w1_7 <
                                                                                                          M n f f_2 s n_2 s_2 f_3 f_4 s_3 n_3 s_4 w1)) →
                                                              J f_5 f_6 s_5 n_4 s_6 w1_3) →
                                                          Br ((↑s_3.2 : Int) == 2)
                                                            (∀ (w1 : World),
                                                              Upd [b_1] [] w1_2 w1 →
                                                                R
                                                                  (SV.tuple
                                                                    [SV.struct
                                                                        [SV.arr IntKind.u8 6 fun (x : Nat) => 0, SV.arr IntKind.u8 6 fun (x : Nat) => 0,
                                                                          SV.slice { ptr := none, len := 0, cap := 0 }, SV.int IntKind.i64 0,
                                                                          SV.slice { ptr := none, len := 0, cap := 0 }],
                                                                      SV.int IntKind.i64 51])
                                                                  w1)
                                                            (Br ((↑s_3.2 : Int) == 1)
                                                              (Ret Try.prog 46 [SV.slice b, SV.int IntKind.i64 n] w1_2 fun (r : SV) (w1 : World) =>
                                                                ∃ (n : Int),
                                                                  r = SV.int IntKind.i64 n ∧
                                                                    Keeps [b_1, b_2, b_3] w1_2 w1 ∧
                                                                      Br (n == 34984)
                                                                        (∀ (w1_3 : World),
                                                                          Upd [b_1] [] w1 w1_3 →
                                                                            R
                                                                              (SV.tuple
                                                                                [SV.struct
                                                                                    [SV.arr IntKind.u8 6 fun (x : Nat) => 0, SV.arr IntKind.u8 6 fun (x : Nat) => 0,
                                                                                      SV.slice { ptr := none, len := 0, cap := 0 }, SV.int IntKind.i64 0,
                                                                                      SV.slice { ptr := none, len := 0, cap := 0 }],
                                                                                  SV.int IntKind.i64 51])
                                                                              w1_3)
                                                                        (some
                                                                              (SV.box b_2 50
                                                                                (SV.struct
                                                                                  [SV.arr IntKind.u8 6 fun (x : Nat) => 0, SV.arr IntKind.u8 6 fun (x : Nat) => 0,
                                                                                    SV.slice { ptr := none, len := 0, cap := 0 }, SV.int IntKind.i64 0,
                                                                                    SV.slice { ptr := none, len := 0, cap := 0 }])) =
                                                                            some
                                                                              (SV.box b_2 50
                                                                                (SV.struct
                                                                                  [SV.arr IntKind.u8 6 fun (x : Nat) => 0, SV.arr IntKind.u8 6 fun (x : Nat) => 0,
                                                                                    SV.slice { ptr := none, len := 0, cap := 0 }, SV.int IntKind.i64 0,
                                                                                    SV.slice { ptr := none, len := 0, cap := 0 }])) ∧
                                                                          some
                                                                                (SV.box b_3 50
                                                                                  (SV.struct
                                                                                    [SV.arr IntKind.u8 6 f_3, SV.arr IntKind.u8 6 f_4, SV.slice s_3, SV.int IntKind.i64 n_3,
                                                                                      SV.slice s_4])) =
                                                                              some
                                                                                (SV.box b_3 50
                                                                                  (SV.struct
                                                                                    [SV.arr IntKind.u8 6 f_3, SV.arr IntKind.u8 6 f_4, SV.slice s_3, SV.int IntKind.i64 n_3,
                                                                                      SV.slice s_4])) ∧
                                                                            (b_1, 50) = (b_1, 50) ∧ J f f_2 s n_2 s_2 w1))
                                                              (some
                                                                    (SV.box b_2 50
                                                                      (SV.struct
                                                                        [SV.arr IntKind.u8 6 fun (x : Nat) => 0, SV.arr IntKind.u8 6 fun (x : Nat) => 0,
                                                                          SV.slice { ptr := none, len := 0, cap := 0 }, SV.int IntKind.i64 0,
                                                                          SV.slice { ptr := none, len := 0, cap := 0 }])) =
                                                                  some
                                                                    (SV.box b_2 50
                                                                      (SV.struct
                                                                        [SV.arr IntKind.u8 6 fun (x : Nat) => 0, SV.arr IntKind.u8 6 fun (x : Nat) => 0,
                                                                          SV.slice { ptr := none, len := 0, cap := 0 }, SV.int IntKind.i64 0,
                                                                          SV.slice { ptr := none, len := 0, cap := 0 }])) ∧
                                                                some
                                                                      (SV.box b_3 50
                                                                        (SV.struct
                                                                          [SV.arr IntKind.u8 6 f_3, SV.arr IntKind.u8 6 f_4, SV.slice s_3, SV.int IntKind.i64 n_3, SV.slice s_4])) =
                                                                    some
                                                                      (SV.box b_3 50
                                                                        (SV.struct
                                                                          [SV.arr IntKind.u8 6 f_3, SV.arr IntKind.u8 6 f_4, SV.slice s_3, SV.int IntKind.i64 n_3, SV.slice s_4])) ∧
                                                                  (b_1, 50) = (b_1, 50) ∧ J f f_2 s n_2 s_2 w1_2))) →
                                                      J_1 w1_2) →
                                                  Ret Try.prog 46 [SV.slice b, SV.int IntKind.i64 n] w1 fun (r : SV) (w1_2 : World) =>
                                                    ∃ (n_4 : Int),
                                                      r = SV.int IntKind.i64 n_4 ∧
                                                        Keeps [b_1, b_2, b_3] w1 w1_2 ∧
                                                          Br (n_4 == 33024)
                                                            (some
                                                                  (SV.box b_1 50
                                                                    (SV.struct [SV.arr IntKind.u8 6 f, SV.arr IntKind.u8 6 f_2, SV.slice s, SV.int IntKind.i64 n_2, SV.slice s_2])) =
                                                                some
                                                                  (SV.box b_1 50
                                                                    (SV.struct [SV.arr IntKind.u8 6 f, SV.arr IntKind.u8 6 f_2, SV.slice s, SV.int IntKind.i64 n_2, SV.slice s_2])) ∧
                                                              some
                                                                    (SV.box b_2 50
                                                                      (SV.struct
                                                                        [SV.arr IntKind.u8 6 fun (x : Nat) => 0, SV.arr IntKind.u8 6 fun (x : Nat) => 0,
                                                                          SV.slice { ptr := none, len := 0, cap := 0 }, SV.int IntKind.i64 0,
                                                                          SV.slice { ptr := none, len := 0, cap := 0 }])) =
                                                                  some
                                                                    (SV.box b_2 50
                                                                      (SV.struct
                                                                        [SV.arr IntKind.u8 6 fun (x : Nat) => 0, SV.arr IntKind.u8 6 fun (x : Nat) => 0,
                                                                          SV.slice { ptr := none, len := 0, cap := 0 }, SV.int IntKind.i64 0,
                                                                          SV.slice { ptr := none, len := 0, cap := 0 }])) ∧
                                                                some
                                                                      (SV.box b_3 50
                                                                        (SV.struct
                                                                          [SV.arr IntKind.u8 6 f_3, SV.arr IntKind.u8 6 f_4, SV.slice s_3, SV.int IntKind.i64 n_3, SV.slice s_4])) =
                                                                    some
                                                                      (SV.box b_3 50
                                                                        (SV.struct
                                                                          [SV.arr IntKind.u8 6 f_3, SV.arr IntKind.u8 6 f_4, SV.slice s_3, SV.int IntKind.i64 n_3, SV.slice s_4])) ∧
                                                                  J_1 w1_2)
                                                            (Ret Try.prog 46 [SV.slice b, SV.int IntKind.i64 n] w1_2 fun (r : SV) (w1 : World) =>
                                                              ∃ (n_5 : Int),
                                                                r = SV.int IntKind.i64 n_5 ∧
                                                                  Keeps [b_1, b_2, b_3] w1_2 w1 ∧
                                                                    Br (n_5 == 34984)
                                                                      (some
                                                                            (SV.box b_1 50
                                                                              (SV.struct
                                                                                [SV.arr IntKind.u8 6 f, SV.arr IntKind.u8 6 f_2, SV.slice s, SV.int IntKind.i64 n_2, SV.slice s_2])) =
                                                                          some
                                                                            (SV.box b_1 50
                                                                              (SV.struct
                                                                                [SV.arr IntKind.u8 6 f, SV.arr IntKind.u8 6 f_2, SV.slice s, SV.int IntKind.i64 n_2, SV.slice s_2])) ∧
                                                                        some
                                                                              (SV.box b_2 50
                                                                                (SV.struct
                                                                                  [SV.arr IntKind.u8 6 fun (x : Nat) => 0, SV.arr IntKind.u8 6 fun (x : Nat) => 0,
                                                                                    SV.slice { ptr := none, len := 0, cap := 0 }, SV.int IntKind.i64 0,
                                                                                    SV.slice { ptr := none, len := 0, cap := 0 }])) =
                                                                            some
                                                                              (SV.box b_2 50
                                                                                (SV.struct
                                                                                  [SV.arr IntKind.u8 6 fun (x : Nat) => 0, SV.arr IntKind.u8 6 fun (x : Nat) => 0,
                                                                                    SV.slice { ptr := none, len := 0, cap := 0 }, SV.int IntKind.i64 0,
                                                                                    SV.slice { ptr := none, len := 0, cap := 0 }])) ∧
                                                                          some
                                                                                (SV.box b_3 50
                                                                                  (SV.struct
                                                                                    [SV.arr IntKind.u8 6 f_3, SV.arr IntKind.u8 6 f_4, SV.slice s_3, SV.int IntKind.i64 n_3,
                                                                                      SV.slice s_4])) =
                                                                              some
                                                                                (SV.box b_3 50
                                                                                  (SV.struct
                                                                                    [SV.arr IntKind.u8 6 f_3, SV.arr IntKind.u8 6 f_4, SV.slice s_3, SV.int IntKind.i64 n_3,
                                                                                      SV.slice s_4])) ∧
                                                                            J_1 w1)
                                                                      (some
                                                                            (SV.box b_2 50
                                                                              (SV.struct
                                                                                [SV.arr IntKind.u8 6 fun (x : Nat) => 0, SV.arr IntKind.u8 6 fun (x : Nat) => 0,
                                                                                  SV.slice { ptr := none, len := 0, cap := 0 }, SV.int IntKind.i64 0,
                                                                                  SV.slice { ptr := none, len := 0, cap := 0 }])) =
                                                                          some
                                                                            (SV.box b_2 50
                                                                              (SV.struct
                                                                                [SV.arr IntKind.u8 6 fun (x : Nat) => 0, SV.arr IntKind.u8 6 fun (x : Nat) => 0,
                                                                                  SV.slice { ptr := none, len := 0, cap := 0 }, SV.int IntKind.i64 0,
                                                                                  SV.slice { ptr := none, len := 0, cap := 0 }])) ∧
                                                                        (b_1, 50) = (b_1, 50) ∧ (b_3, 50) = (b_3, 50) ∧ J n f f_2 s n_2 s_2 f_3 f_4 s_3 n_3 s_4 w1))))))
theorem f27_of (b : Sl) (w : World) (R : SV → World → Prop) (h : vc27 b w R) : Ret Try.prog 27 [.slice b] w R :=
  have e : vc27 b w R = fnVC X Try.f27 a27 [.slice b] w R := by kernel_rfl
  fnVC_sound X_ok (n := a27) (e ▸ h) (by kernel_rfl) (by kernel_rfl) rfl rfl

end Go.Vc.S5
