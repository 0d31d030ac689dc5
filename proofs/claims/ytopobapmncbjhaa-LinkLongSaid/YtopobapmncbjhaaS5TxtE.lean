import Derived.Test.YtopobapmncbjhaaAnnr5
import Derived.Test.YtopobapmncbjhaaNum
import Derived.KernelRfl
open Go Go.Vc Go.Vc.S5 Go.Proofs
set_option maxRecDepth 100000
set_option linter.unusedVariables false
namespace Go.Vc.S5
def vc12 (n : Int) (m : Int) (w : World) (R : SV → World → Prop) : Prop :=
  Ret Try.prog 25 [] w fun (r : SV) (w1 : World) =>
    ∃ (b : Bool),
      r = SV.bool b ∧
        Br (!b) (R (SV.bool false) w1)
          (Ret Try.prog 33 [] w1 fun (r : SV) (w1 : World) =>
            ∃ (s : Sl),
              r = SV.slice s ∧
                Need (decide (14 ≤ (↑s.3 : Int)))
                  (Need (decide (0 ≤ imin (imax n 0) 1048576) && decide (imin (imax n 0) 1048576 ≤ 281474976710656) && decide (imin (imax n 0) 1048576 * 1 ≤ 281474976710656))
                    (AppendN 5 1 1 (Sl.sub s 1 0 14 s.3) (Int.toNat (imin (imax n 0) 1048576)) (zerosOf (Ty.int IntKind.u8) (Int.toNat (imin (imax n 0) 1048576))) [] w1
                      fun (r : Sl) (w : World) =>
                      ∃ (I : Int → World → Prop),
                        ∃ (M : Int → World → Nat),
                          I 14 w ∧
                            ∀ (n : Int) (w1 : World),
                              I n w1 →
                                Br (decide (n < (↑r.2 : Int)))
                                  (Need (decide (0 ≤ n) && decide (n < (↑r.2 : Int)) && Option.isSome r.1)
                                    (Store w1 (Sl.at r 1 (Int.toNat n)) (SV.cells (SV.int IntKind.u8 (wr IntKind.u8 (m + wr IntKind.u8 n)))) [] fun (w1_1 : World) =>
                                      I (wr IntKind.i64 (n + 1)) w1_1 ∧ M (wr IntKind.i64 (n + 1)) w1_1 < M n w1))
                                  (Ret Try.prog 26 [SV.slice r] w1 fun (r_1 : SV) (w1 : World) =>
                                    ∃ (f : Nat → Int),
                                      ∃ (f_1 : Nat → Int),
                                        ∃ (s : Sl),
                                          ∃ (n : Int),
                                            ∃ (s_1 : Sl),
                                              ∃ (n_1 : Int),
                                                r_1 =
                                                    SV.tuple
                                                      [SV.struct [SV.arr IntKind.u8 6 f, SV.arr IntKind.u8 6 f_1, SV.slice s, SV.int IntKind.i64 n, SV.slice s_1],
                                                        SV.int IntKind.i64 n_1] ∧
                                                  ∀ (b : Nat) (w1_1 : World),
                                                    Upd [] [b] w1 w1_1 →
                                                      Ret Try.prog 22 [SV.slice r] w1_1 fun (r_2 : SV) (w1 : World) =>
                                                        ∃ (n_2 : Int),
                                                          ∃ (f_2 : Nat → Int),
                                                            ∃ (n_3 : Int),
                                                              ∃ (f_3 : Nat → Int),
                                                                ∃ (f_4 : Nat → Int),
                                                                  ∃ (n_4 : Int),
                                                                    ∃ (f_5 : Nat → Int),
                                                                      ∃ (n_5 : Int),
                                                                        r_2 =
                                                                            SV.tuple
                                                                              [SV.struct
                                                                                  [SV.int IntKind.i64 n_2, SV.arr IntKind.u8 6 f_2,
                                                                                    SV.struct [SV.int IntKind.i64 n_3, SV.arr IntKind.u8 16 f_3], SV.arr IntKind.u8 6 f_4,
                                                                                    SV.struct [SV.int IntKind.i64 n_4, SV.arr IntKind.u8 16 f_5]],
                                                                                SV.int IntKind.i64 n_5] ∧
                                                                          Keeps [b] w1_1 w1 ∧
                                                                            ∀ (b_1 : Nat),
                                                                              Need (decide (14 ≤ (↑r.2 : Int)))
                                                                                (∀ (w1_2 : World),
                                                                                  Upd [] [b_1] w1 w1_2 →
                                                                                    Ret Try.prog 31
                                                                                      [SV.struct
                                                                                          [SV.arr IntKind.u8 6
                                                                                              (fset
                                                                                                (fset (fset (fset (fset (fset (fun (x : Nat) => 0) 0 255) 1 255) 2 255) 3 255) 4 255)
                                                                                                5 255),
                                                                                            SV.arr IntKind.u8 6 (fset (fset (fun (x : Nat) => 0) 0 2) 5 1),
                                                                                            SV.slice { ptr := none, len := 0, cap := 0 }, SV.int IntKind.i64 2048,
                                                                                            SV.slice (Sl.sub r 1 14 r.2 r.3)]]
                                                                                      w1_2 fun (r_3 : SV) (w1 : World) =>
                                                                                      ∃ (s_2 : Sl),
                                                                                        ∃ (n_6 : Int),
                                                                                          r_3 = SV.tuple [SV.slice s_2, SV.int IntKind.i64 n_6] ∧
                                                                                            Keeps [b, b_1] w1_2 w1 ∧
                                                                                              Ret Try.prog 13 [SV.slice r] w1 fun (r_4 : SV) (w1_3 : World) =>
                                                                                                ∃ (s_3 : Sl),
                                                                                                  r_4 = SV.slice s_3 ∧
                                                                                                    Keeps [b, b_1] w1 w1_3 ∧
                                                                                                      ∀ (J : World → Prop),
                                                                                                        (∀ (w1 : World),
                                                                                                            Br (decide ((↑r.2 : Int) > 65535))
                                                                                                                (Br (n_1 == 2)
                                                                                                                  (Br (n_5 == 2)
                                                                                                                    (Br (n_6 == 2)
                                                                                                                      (Br ((↑s_2.2 : Int) == 0)
                                                                                                                        (Ret Try.prog 28
                                                                                                                          [SV.struct
                                                                                                                              [SV.arr IntKind.u8 6 f, SV.arr IntKind.u8 6 f_1,
                                                                                                                                SV.slice s, SV.int IntKind.i64 n, SV.slice s_1],
                                                                                                                            SV.struct
                                                                                                                              [SV.arr IntKind.u8 6 fun (x : Nat) => 0,
                                                                                                                                SV.arr IntKind.u8 6 fun (x : Nat) => 0,
                                                                                                                                SV.slice { ptr := none, len := 0, cap := 0 },
                                                                                                                                SV.int IntKind.i64 0,
                                                                                                                                SV.slice { ptr := none, len := 0, cap := 0 }]]
                                                                                                                          w1 fun (r : SV) (w1_4 : World) =>
                                                                                                                          ∃ (b_2 : Bool),
                                                                                                                            r = SV.bool b_2 ∧
                                                                                                                              Keeps [b, b_1] w1 w1_4 ∧ R (SV.bool b_2) w1_4)
                                                                                                                        (R (SV.bool false) w1))
                                                                                                                      (R (SV.bool false) w1))
                                                                                                                    (R (SV.bool false) w1))
                                                                                                                  (R (SV.bool false) w1))
                                                                                                                (Br (n_1 == 0)
                                                                                                                  (Br (n_6 == 0)
                                                                                                                    (Br (n_5 != 0)
                                                                                                                      (Need (decide (14 ≤ (↑r.2 : Int)))
                                                                                                                        (∀ (w1_4 : World),
                                                                                                                          Upd [] [] w1 w1_4 →
                                                                                                                            Ret Try.prog 19
                                                                                                                              [SV.slice s_1, SV.slice (Sl.sub r 1 14 r.2 r.3)] w1_4
                                                                                                                              fun (r_5 : SV) (w1 : World) =>
                                                                                                                              ∃ (b_2 : Bool),
                                                                                                                                r_5 = SV.bool b_2 ∧
                                                                                                                                  Keeps [b, b_1] w1_4 w1 ∧
                                                                                                                                    Br b_2
                                                                                                                                      (Ret Try.prog 19 [SV.slice s_2, SV.slice r] w1
                                                                                                                                        fun (r : SV) (w1_5 : World) =>
                                                                                                                                        ∃ (b_3 : Bool),
                                                                                                                                          r = SV.bool b_3 ∧
                                                                                                                                            Keeps [b, b_1] w1 w1_5 ∧
                                                                                                                                              R (SV.bool b_3) w1_5)
                                                                                                                                      (R (SV.bool false) w1)))
                                                                                                                      (∀ (w1_4 : World), Upd [] [] w1 w1_4 → R (SV.bool false) w1_4))
                                                                                                                    (∀ (w1_4 : World), Upd [] [] w1 w1_4 → R (SV.bool false) w1_4))
                                                                                                                  (∀ (w1_4 : World), Upd [] [] w1 w1_4 → R (SV.bool false) w1_4)) →
                                                                                                              J w1) →
                                                                                                          Br (decide ((↑r.2 : Int) ≥ 60))
                                                                                                            (Ret Try.prog 19 [SV.slice s_3, SV.slice r] w1_3
                                                                                                              fun (r_5 : SV) (w1 : World) =>
                                                                                                              ∃ (b_2 : Bool),
                                                                                                                r_5 = SV.bool b_2 ∧
                                                                                                                  Keeps [b, b_1] w1_3 w1 ∧
                                                                                                                    Br (!b_2) (R (SV.bool false) w1)
                                                                                                                      (Br (decide ((↑r.2 : Int) < 60))
                                                                                                                        (Br ((↑s_3.2 : Int) != 60) (R (SV.bool false) w1)
                                                                                                                          (Need
                                                                                                                            (decide (0 ≤ (↑r.2 : Int)) &&
                                                                                                                              decide ((↑r.2 : Int) ≤ (↑s_3.3 : Int)))
                                                                                                                            (Ret Try.prog 19
                                                                                                                              [SV.slice
                                                                                                                                  (Sl.sub s_3 1 0 (Int.toNat (↑r.2 : Int)) s_3.3),
                                                                                                                                SV.slice r]
                                                                                                                              w1 fun (r : SV) (w1_4 : World) =>
                                                                                                                              ∃ (b_3 : Bool),
                                                                                                                                r = SV.bool b_3 ∧
                                                                                                                                  Keeps [b, b_1] w1 w1_4 ∧
                                                                                                                                    Br (!b_3) (R (SV.bool false) w1_4)
                                                                                                                                      (some
                                                                                                                                            (SV.box b 50
                                                                                                                                              (SV.struct
                                                                                                                                                [SV.arr IntKind.u8 6 f,
                                                                                                                                                  SV.arr IntKind.u8 6 f_1, SV.slice s,
                                                                                                                                                  SV.int IntKind.i64 n,
                                                                                                                                                  SV.slice s_1])) =
                                                                                                                                          some
                                                                                                                                            (SV.box b 50
                                                                                                                                              (SV.struct
                                                                                                                                                [SV.arr IntKind.u8 6 f,
                                                                                                                                                  SV.arr IntKind.u8 6 f_1, SV.slice s,
                                                                                                                                                  SV.int IntKind.i64 n,
                                                                                                                                                  SV.slice s_1])) ∧
                                                                                                                                        some
                                                                                                                                              (SV.box b_1 35
                                                                                                                                                (SV.struct
                                                                                                                                                  [SV.int IntKind.i64 n_2,
                                                                                                                                                    SV.arr IntKind.u8 6 f_2,
                                                                                                                                                    SV.struct
                                                                                                                                                      [SV.int IntKind.i64 n_3,
                                                                                                                                                        SV.arr IntKind.u8 16 f_3],
                                                                                                                                                    SV.arr IntKind.u8 6 f_4,
                                                                                                                                                    SV.struct
                                                                                                                                                      [SV.int IntKind.i64 n_4,
                                                                                                                                                        SV.arr IntKind.u8 16 f_5]])) =
                                                                                                                                            some
                                                                                                                                              (SV.box b_1 35
                                                                                                                                                (SV.struct
                                                                                                                                                  [SV.int IntKind.i64 n_2,
                                                                                                                                                    SV.arr IntKind.u8 6 f_2,
                                                                                                                                                    SV.struct
                                                                                                                                                      [SV.int IntKind.i64 n_3,
                                                                                                                                                        SV.arr IntKind.u8 16 f_3],
                                                                                                                                                    SV.arr IntKind.u8 6 f_4,
                                                                                                                                                    SV.struct
                                                                                                                                                      [SV.int IntKind.i64 n_4,
                                                                                                                                                        SV.arr IntKind.u8 16 f_5]])) ∧
                                                                                                                                          J w1_4))))
                                                                                                                        (some
                                                                                                                              (SV.box b 50
                                                                                                                                (SV.struct
                                                                                                                                  [SV.arr IntKind.u8 6 f, SV.arr IntKind.u8 6 f_1,
                                                                                                                                    SV.slice s, SV.int IntKind.i64 n,
                                                                                                                                    SV.slice s_1])) =
                                                                                                                            some
                                                                                                                              (SV.box b 50
                                                                                                                                (SV.struct
                                                                                                                                  [SV.arr IntKind.u8 6 f, SV.arr IntKind.u8 6 f_1,
                                                                                                                                    SV.slice s, SV.int IntKind.i64 n,
                                                                                                                                    SV.slice s_1])) ∧
                                                                                                                          some
                                                                                                                                (SV.box b_1 35
                                                                                                                                  (SV.struct
                                                                                                                                    [SV.int IntKind.i64 n_2, SV.arr IntKind.u8 6 f_2,
                                                                                                                                      SV.struct
                                                                                                                                        [SV.int IntKind.i64 n_3,
                                                                                                                                          SV.arr IntKind.u8 16 f_3],
                                                                                                                                      SV.arr IntKind.u8 6 f_4,
                                                                                                                                      SV.struct
                                                                                                                                        [SV.int IntKind.i64 n_4,
                                                                                                                                          SV.arr IntKind.u8 16 f_5]])) =
                                                                                                                              some
                                                                                                                                (SV.box b_1 35
                                                                                                                                  (SV.struct
                                                                                                                                    [SV.int IntKind.i64 n_2, SV.arr IntKind.u8 6 f_2,
                                                                                                                                      SV.struct
                                                                                                                                        [SV.int IntKind.i64 n_3,
                                                                                                                                          SV.arr IntKind.u8 16 f_3],
                                                                                                                                      SV.arr IntKind.u8 6 f_4,
                                                                                                                                      SV.struct
                                                                                                                                        [SV.int IntKind.i64 n_4,
                                                                                                                                          SV.arr IntKind.u8 16 f_5]])) ∧
                                                                                                                            J w1)))
                                                                                                            (Br (decide ((↑r.2 : Int) < 60))
                                                                                                              (Br ((↑s_3.2 : Int) != 60) (R (SV.bool false) w1_3)
                                                                                                                (Need
                                                                                                                  (decide (0 ≤ (↑r.2 : Int)) &&
                                                                                                                    decide ((↑r.2 : Int) ≤ (↑s_3.3 : Int)))
                                                                                                                  (Ret Try.prog 19
                                                                                                                    [SV.slice (Sl.sub s_3 1 0 (Int.toNat (↑r.2 : Int)) s_3.3),
                                                                                                                      SV.slice r]
                                                                                                                    w1_3 fun (r : SV) (w1 : World) =>
                                                                                                                    ∃ (b_2 : Bool),
                                                                                                                      r = SV.bool b_2 ∧
                                                                                                                        Keeps [b, b_1] w1_3 w1 ∧
                                                                                                                          Br (!b_2) (R (SV.bool false) w1)
                                                                                                                            (some
                                                                                                                                  (SV.box b 50
                                                                                                                                    (SV.struct
                                                                                                                                      [SV.arr IntKind.u8 6 f, SV.arr IntKind.u8 6 f_1,
                                                                                                                                        SV.slice s, SV.int IntKind.i64 n,
                                                                                                                                        SV.slice s_1])) =
                                                                                                                                some
                                                                                                                                  (SV.box b 50
                                                                                                                                    (SV.struct
                                                                                                                                      [SV.arr IntKind.u8 6 f, SV.arr IntKind.u8 6 f_1,
                                                                                                                                        SV.slice s, SV.int IntKind.i64 n,
                                                                                                                                        SV.slice s_1])) ∧
                                                                                                                              some
                                                                                                                                    (SV.box b_1 35
                                                                                                                                      (SV.struct
                                                                                                                                        [SV.int IntKind.i64 n_2,
                                                                                                                                          SV.arr IntKind.u8 6 f_2,
                                                                                                                                          SV.struct
                                                                                                                                            [SV.int IntKind.i64 n_3,
                                                                                                                                              SV.arr IntKind.u8 16 f_3],
                                                                                                                                          SV.arr IntKind.u8 6 f_4,
                                                                                                                                          SV.struct
                                                                                                                                            [SV.int IntKind.i64 n_4,
                                                                                                                                              SV.arr IntKind.u8 16 f_5]])) =
                                                                                                                                  some
                                                                                                                                    (SV.box b_1 35
                                                                                                                                      (SV.struct
                                                                                                                                        [SV.int IntKind.i64 n_2,
                                                                                                                                          SV.arr IntKind.u8 6 f_2,
                                                                                                                                          SV.struct
                                                                                                                                            [SV.int IntKind.i64 n_3,
                                                                                                                                              SV.arr IntKind.u8 16 f_3],
                                                                                                                                          SV.arr IntKind.u8 6 f_4,
                                                                                                                                          SV.struct
                                                                                                                                            [SV.int IntKind.i64 n_4,
                                                                                                                                              SV.arr IntKind.u8 16 f_5]])) ∧
                                                                                                                                J w1))))
                                                                                                              (some
                                                                                                                    (SV.box b 50
                                                                                                                      (SV.struct
                                                                                                                        [SV.arr IntKind.u8 6 f, SV.arr IntKind.u8 6 f_1, SV.slice s,
                                                                                                                          SV.int IntKind.i64 n, SV.slice s_1])) =
                                                                                                                  some
                                                                                                                    (SV.box b 50
                                                                                                                      (SV.struct
                                                                                                                        [SV.arr IntKind.u8 6 f, SV.arr IntKind.u8 6 f_1, SV.slice s,
                                                                                                                          SV.int IntKind.i64 n, SV.slice s_1])) ∧
                                                                                                                some
                                                                                                                      (SV.box b_1 35
                                                                                                                        (SV.struct
                                                                                                                          [SV.int IntKind.i64 n_2, SV.arr IntKind.u8 6 f_2,
                                                                                                                            SV.struct
                                                                                                                              [SV.int IntKind.i64 n_3, SV.arr IntKind.u8 16 f_3],
                                                                                                                            SV.arr IntKind.u8 6 f_4,
                                                                                                                            SV.struct
                                                                                                                              [SV.int IntKind.i64 n_4, SV.arr IntKind.u8 16 f_5]])) =
                                                                                                                    some
                                                                                                                      (SV.box b_1 35
                                                                                                                        (SV.struct
                                                                                                                          [SV.int IntKind.i64 n_2, SV.arr IntKind.u8 6 f_2,
                                                                                                                            SV.struct
                                                                                                                              [SV.int IntKind.i64 n_3, SV.arr IntKind.u8 16 f_3],
                                                                                                                            SV.arr IntKind.u8 6 f_4,
                                                                                                                            SV.struct
                                                                                                                              [SV.int IntKind.i64 n_4, SV.arr IntKind.u8 16 f_5]])) ∧
                                                                                                                  J w1_3)))))))
theorem f12_of (n : Int) (m : Int) (w : World) (R : SV → World → Prop) (h : vc12 n m w R) : Ret Try.prog 12 [.int .i64 n, .int .u8 m] w R :=
  have e : vc12 n m w R = fnVC X Try.f12 a12 [.int .i64 n, .int .u8 m] w R := by kernel_rfl
  fnVC_sound X_ok (n := a12) (e ▸ h) (by kernel_rfl) (by kernel_rfl) rfl rfl

end Go.Vc.S5
