import Derived.Test.YtlohkdkgpajkaaaDoorG2
import Derived.Test.YtlohkdkgpajkaaaDoorG3
import Derived.KernelRfl
open Go Go.Vc Go.Vc.S6 Go.Proofs
set_option maxRecDepth 100000
set_option linter.unusedVariables false
namespace Go.Vc.S6
def vc80 (o_0 : Int) (o_1 : Sl) (o_2_0 : Int) (o_2_1 : Int) (o_2_2 : Bool) (o_2_3 : Bool) (o_2_4 : Int) (o_2_5 : Int) (o_2_6 : Int) (o_2_7_0 : Int) (o_2_7_1 : Nat → Int) (o_2_8_0 : Int) (o_2_8_1 : Nat → Int) (o_2_9 : Sl) (o_2_10 : Sl) (o_3 : Sl) (w : World) (R : SV → World → Prop) : Prop :=
  ∀ (b : Nat) (w1 : World),
    Upd [] [b] w w1 →
      Ret Tryd.prog 19 [SV.slice o_1] w1 fun (r : SV) (w1_1 : World) =>
        ∃ (s : Sl),
          r = SV.slice s ∧
            Keeps [b] w1 w1_1 ∧
              Need (decide (0 ≤ (↑o_1.2 : Int)) && decide ((↑o_1.2 : Int) ≤ (↑s.3 : Int)))
                (∀ (J : Bool → World → Prop),
                  (∀ (b_1 : Bool) (w1 : World),
                      Br b_1
                          (Ret Tryd.prog 22 [SV.slice s, SV.slice o_1] w1 fun (r : SV) (w1_2 : World) => ∃ (b_2 : Bool), r = SV.bool b_2 ∧ Keeps [b] w1 w1_2 ∧ R (SV.bool b_2) w1_2)
                          (R (SV.bool false) w1) →
                        J b_1 w1) →
                    Br (o_0 == 1)
                      (Ret Tryd.prog 20 [SV.slice (Sl.sub s 1 0 (Int.toNat (↑o_1.2 : Int)) s.3)] w1_1 fun (r : SV) (w1 : World) =>
                        ∃ (n : Int),
                          ∃ (n_1 : Int),
                            ∃ (b_1 : Bool),
                              ∃ (b_2 : Bool),
                                ∃ (n_2 : Int),
                                  ∃ (n_3 : Int),
                                    ∃ (n_4 : Int),
                                      ∃ (n_5 : Int),
                                        ∃ (f : Nat → Int),
                                          ∃ (n_6 : Int),
                                            ∃ (f_1 : Nat → Int),
                                              ∃ (s : Sl),
                                                ∃ (s_1 : Sl),
                                                  ∃ (n_7 : Int),
                                                    r =
                                                        SV.tuple
                                                          [SV.struct
                                                              [SV.int IntKind.i64 n, SV.int IntKind.i64 n_1, SV.bool b_1, SV.bool b_2, SV.int IntKind.i64 n_2, SV.int IntKind.i64 n_3,
                                                                SV.int IntKind.i64 n_4, SV.struct [SV.int IntKind.i64 n_5, SV.arr IntKind.u8 16 f],
                                                                SV.struct [SV.int IntKind.i64 n_6, SV.arr IntKind.u8 16 f_1], SV.slice s, SV.slice s_1],
                                                            SV.int IntKind.i64 n_7] ∧
                                                      Keeps [b] w1_1 w1 ∧
                                                        ∀ (b_3 : Nat) (w1_2 : World),
                                                          Upd [] [b_3] w1 w1_2 →
                                                            Ret Tryd.prog 47 [SV.slice o_1] w1_2 fun (r : SV) (w1 : World) =>
                                                              ∃ (n_8 : Int),
                                                                ∃ (n_9 : Int),
                                                                  ∃ (b_4 : Bool),
                                                                    ∃ (b_5 : Bool),
                                                                      ∃ (n_10 : Int),
                                                                        ∃ (n_11 : Int),
                                                                          ∃ (n_12 : Int),
                                                                            ∃ (n_13 : Int),
                                                                              ∃ (f_2 : Nat → Int),
                                                                                ∃ (n_14 : Int),
                                                                                  ∃ (f_3 : Nat → Int),
                                                                                    ∃ (s_2 : Sl),
                                                                                      ∃ (s_3 : Sl),
                                                                                        ∃ (n_15 : Int),
                                                                                          r =
                                                                                              SV.tuple
                                                                                                [SV.struct
                                                                                                    [SV.int IntKind.i64 n_8, SV.int IntKind.i64 n_9, SV.bool b_4, SV.bool b_5,
                                                                                                      SV.int IntKind.i64 n_10, SV.int IntKind.i64 n_11, SV.int IntKind.i64 n_12,
                                                                                                      SV.struct [SV.int IntKind.i64 n_13, SV.arr IntKind.u8 16 f_2],
                                                                                                      SV.struct [SV.int IntKind.i64 n_14, SV.arr IntKind.u8 16 f_3], SV.slice s_2,
                                                                                                      SV.slice s_3],
                                                                                                  SV.int IntKind.i64 n_15] ∧
                                                                                            Keeps [b, b_3] w1_2 w1 ∧
                                                                                              ∀ (b_6 : Nat) (w1_3 : World),
                                                                                                Upd [] [b_6] w1 w1_3 →
                                                                                                  Ret Tryd.prog 21 [SV.int IntKind.i64 n_7] w1_3 fun (r : SV) (w1 : World) =>
                                                                                                    ∃ (n_16 : Int),
                                                                                                      r = SV.int IntKind.i64 n_16 ∧
                                                                                                        Keeps [b, b_3, b_6] w1_3 w1 ∧
                                                                                                          Br (n_16 == n_15)
                                                                                                            (Ret Tryd.prog 29
                                                                                                              [SV.struct
                                                                                                                  [SV.int IntKind.i64 n, SV.int IntKind.i64 n_1, SV.bool b_1,
                                                                                                                    SV.bool b_2, SV.int IntKind.i64 n_2, SV.int IntKind.i64 n_3,
                                                                                                                    SV.int IntKind.i64 n_4,
                                                                                                                    SV.struct [SV.int IntKind.i64 n_5, SV.arr IntKind.u8 16 f],
                                                                                                                    SV.struct [SV.int IntKind.i64 n_6, SV.arr IntKind.u8 16 f_1],
                                                                                                                    SV.slice s, SV.slice s_1],
                                                                                                                SV.struct
                                                                                                                  [SV.int IntKind.i64 n_8, SV.int IntKind.i64 n_9, SV.bool b_4,
                                                                                                                    SV.bool b_5, SV.int IntKind.i64 n_10, SV.int IntKind.i64 n_11,
                                                                                                                    SV.int IntKind.i64 n_12,
                                                                                                                    SV.struct [SV.int IntKind.i64 n_13, SV.arr IntKind.u8 16 f_2],
                                                                                                                    SV.struct [SV.int IntKind.i64 n_14, SV.arr IntKind.u8 16 f_3],
                                                                                                                    SV.slice s_2, SV.slice s_3]]
                                                                                                              w1 fun (r : SV) (w1_4 : World) =>
                                                                                                              ∃ (b_7 : Bool),
                                                                                                                r = SV.bool b_7 ∧
                                                                                                                  Keeps [b, b_3, b_6] w1 w1_4 ∧
                                                                                                                    some
                                                                                                                          (SV.box b 114
                                                                                                                            (SV.struct
                                                                                                                              [SV.int IntKind.i64 o_0, SV.slice o_1,
                                                                                                                                SV.struct
                                                                                                                                  [SV.int IntKind.i64 o_2_0, SV.int IntKind.i64 o_2_1,
                                                                                                                                    SV.bool o_2_2, SV.bool o_2_3,
                                                                                                                                    SV.int IntKind.i64 o_2_4,
                                                                                                                                    SV.int IntKind.i64 o_2_5,
                                                                                                                                    SV.int IntKind.i64 o_2_6,
                                                                                                                                    SV.struct
                                                                                                                                      [SV.int IntKind.i64 o_2_7_0,
                                                                                                                                        SV.arr IntKind.u8 16 o_2_7_1],
                                                                                                                                    SV.struct
                                                                                                                                      [SV.int IntKind.i64 o_2_8_0,
                                                                                                                                        SV.arr IntKind.u8 16 o_2_8_1],
                                                                                                                                    SV.slice o_2_9, SV.slice o_2_10],
                                                                                                                                SV.slice o_3])) =
                                                                                                                        some
                                                                                                                          (SV.box b 114
                                                                                                                            (SV.struct
                                                                                                                              [SV.int IntKind.i64 o_0, SV.slice o_1,
                                                                                                                                SV.struct
                                                                                                                                  [SV.int IntKind.i64 o_2_0, SV.int IntKind.i64 o_2_1,
                                                                                                                                    SV.bool o_2_2, SV.bool o_2_3,
                                                                                                                                    SV.int IntKind.i64 o_2_4,
                                                                                                                                    SV.int IntKind.i64 o_2_5,
                                                                                                                                    SV.int IntKind.i64 o_2_6,
                                                                                                                                    SV.struct
                                                                                                                                      [SV.int IntKind.i64 o_2_7_0,
                                                                                                                                        SV.arr IntKind.u8 16 o_2_7_1],
                                                                                                                                    SV.struct
                                                                                                                                      [SV.int IntKind.i64 o_2_8_0,
                                                                                                                                        SV.arr IntKind.u8 16 o_2_8_1],
                                                                                                                                    SV.slice o_2_9, SV.slice o_2_10],
                                                                                                                                SV.slice o_3])) ∧
                                                                                                                      J b_7 w1_4)
                                                                                                            (some
                                                                                                                  (SV.box b 114
                                                                                                                    (SV.struct
                                                                                                                      [SV.int IntKind.i64 o_0, SV.slice o_1,
                                                                                                                        SV.struct
                                                                                                                          [SV.int IntKind.i64 o_2_0, SV.int IntKind.i64 o_2_1,
                                                                                                                            SV.bool o_2_2, SV.bool o_2_3, SV.int IntKind.i64 o_2_4,
                                                                                                                            SV.int IntKind.i64 o_2_5, SV.int IntKind.i64 o_2_6,
                                                                                                                            SV.struct
                                                                                                                              [SV.int IntKind.i64 o_2_7_0,
                                                                                                                                SV.arr IntKind.u8 16 o_2_7_1],
                                                                                                                            SV.struct
                                                                                                                              [SV.int IntKind.i64 o_2_8_0,
                                                                                                                                SV.arr IntKind.u8 16 o_2_8_1],
                                                                                                                            SV.slice o_2_9, SV.slice o_2_10],
                                                                                                                        SV.slice o_3])) =
                                                                                                                some
                                                                                                                  (SV.box b 114
                                                                                                                    (SV.struct
                                                                                                                      [SV.int IntKind.i64 o_0, SV.slice o_1,
                                                                                                                        SV.struct
                                                                                                                          [SV.int IntKind.i64 o_2_0, SV.int IntKind.i64 o_2_1,
                                                                                                                            SV.bool o_2_2, SV.bool o_2_3, SV.int IntKind.i64 o_2_4,
                                                                                                                            SV.int IntKind.i64 o_2_5, SV.int IntKind.i64 o_2_6,
                                                                                                                            SV.struct
                                                                                                                              [SV.int IntKind.i64 o_2_7_0,
                                                                                                                                SV.arr IntKind.u8 16 o_2_7_1],
                                                                                                                            SV.struct
                                                                                                                              [SV.int IntKind.i64 o_2_8_0,
                                                                                                                                SV.arr IntKind.u8 16 o_2_8_1],
                                                                                                                            SV.slice o_2_9, SV.slice o_2_10],
                                                                                                                        SV.slice o_3])) ∧
                                                                                                              J false w1))
                      (Br (o_0 == 4)
                        (∀ (w1 : World),
                          Upd [] [] w1_1 w1 →
                            Ret Tryd.prog 43 [SV.slice (Sl.sub s 1 0 (Int.toNat (↑o_1.2 : Int)) s.3)] w1 fun (r : SV) (w1_2 : World) =>
                              ∃ (b_1 : Bool),
                                r = SV.bool b_1 ∧
                                  Keeps [b] w1 w1_2 ∧
                                    Upd [] [] w1_1 w1_2 ∧
                                      Ret Tryd.prog 48 [SV.slice o_1] w1_2 fun (r : SV) (w1 : World) =>
                                        ∃ (b_2 : Bool),
                                          r = SV.bool b_2 ∧
                                            Keeps [b] w1_2 w1 ∧
                                              some
                                                    (SV.box b 114
                                                      (SV.struct
                                                        [SV.int IntKind.i64 o_0, SV.slice o_1,
                                                          SV.struct
                                                            [SV.int IntKind.i64 o_2_0, SV.int IntKind.i64 o_2_1, SV.bool o_2_2, SV.bool o_2_3, SV.int IntKind.i64 o_2_4,
                                                              SV.int IntKind.i64 o_2_5, SV.int IntKind.i64 o_2_6,
                                                              SV.struct [SV.int IntKind.i64 o_2_7_0, SV.arr IntKind.u8 16 o_2_7_1],
                                                              SV.struct [SV.int IntKind.i64 o_2_8_0, SV.arr IntKind.u8 16 o_2_8_1], SV.slice o_2_9, SV.slice o_2_10],
                                                          SV.slice o_3])) =
                                                  some
                                                    (SV.box b 114
                                                      (SV.struct
                                                        [SV.int IntKind.i64 o_0, SV.slice o_1,
                                                          SV.struct
                                                            [SV.int IntKind.i64 o_2_0, SV.int IntKind.i64 o_2_1, SV.bool o_2_2, SV.bool o_2_3, SV.int IntKind.i64 o_2_4,
                                                              SV.int IntKind.i64 o_2_5, SV.int IntKind.i64 o_2_6,
                                                              SV.struct [SV.int IntKind.i64 o_2_7_0, SV.arr IntKind.u8 16 o_2_7_1],
                                                              SV.struct [SV.int IntKind.i64 o_2_8_0, SV.arr IntKind.u8 16 o_2_8_1], SV.slice o_2_9, SV.slice o_2_10],
                                                          SV.slice o_3])) ∧
                                                J (b_1 == b_2) w1)
                        (Br (o_0 == 5)
                          (Ret Tryd.prog 49 [SV.slice (Sl.sub s 1 0 (Int.toNat (↑o_1.2 : Int)) s.3)] w1_1 fun (r : SV) (w1 : World) =>
                            ∃ (s : Sl),
                              ∃ (n : Int),
                                r = SV.tuple [SV.slice s, SV.int IntKind.i64 n] ∧
                                  Keeps [b] w1_1 w1 ∧
                                    Ret Tryd.prog 50 [SV.slice o_1] w1 fun (r : SV) (w1_2 : World) =>
                                      ∃ (s_1 : Sl),
                                        ∃ (n_1 : Int),
                                          r = SV.tuple [SV.slice s_1, SV.int IntKind.i64 n_1] ∧
                                            Keeps [b] w1 w1_2 ∧
                                              Ret Tryd.prog 21 [SV.int IntKind.i64 n] w1_2 fun (r : SV) (w1 : World) =>
                                                ∃ (n : Int),
                                                  r = SV.int IntKind.i64 n ∧
                                                    Keeps [b] w1_2 w1 ∧
                                                      Br (n == n_1)
                                                        (Ret Tryd.prog 51 [SV.slice s, SV.slice s_1] w1 fun (r : SV) (w1_3 : World) =>
                                                          ∃ (b_1 : Bool),
                                                            r = SV.bool b_1 ∧
                                                              Keeps [b] w1 w1_3 ∧
                                                                some
                                                                      (SV.box b 114
                                                                        (SV.struct
                                                                          [SV.int IntKind.i64 o_0, SV.slice o_1,
                                                                            SV.struct
                                                                              [SV.int IntKind.i64 o_2_0, SV.int IntKind.i64 o_2_1, SV.bool o_2_2, SV.bool o_2_3,
                                                                                SV.int IntKind.i64 o_2_4, SV.int IntKind.i64 o_2_5, SV.int IntKind.i64 o_2_6,
                                                                                SV.struct [SV.int IntKind.i64 o_2_7_0, SV.arr IntKind.u8 16 o_2_7_1],
                                                                                SV.struct [SV.int IntKind.i64 o_2_8_0, SV.arr IntKind.u8 16 o_2_8_1], SV.slice o_2_9,
                                                                                SV.slice o_2_10],
                                                                            SV.slice o_3])) =
                                                                    some
                                                                      (SV.box b 114
                                                                        (SV.struct
                                                                          [SV.int IntKind.i64 o_0, SV.slice o_1,
                                                                            SV.struct
                                                                              [SV.int IntKind.i64 o_2_0, SV.int IntKind.i64 o_2_1, SV.bool o_2_2, SV.bool o_2_3,
                                                                                SV.int IntKind.i64 o_2_4, SV.int IntKind.i64 o_2_5, SV.int IntKind.i64 o_2_6,
                                                                                SV.struct [SV.int IntKind.i64 o_2_7_0, SV.arr IntKind.u8 16 o_2_7_1],
                                                                                SV.struct [SV.int IntKind.i64 o_2_8_0, SV.arr IntKind.u8 16 o_2_8_1], SV.slice o_2_9,
                                                                                SV.slice o_2_10],
                                                                            SV.slice o_3])) ∧
                                                                  J b_1 w1_3)
                                                        (some
                                                              (SV.box b 114
                                                                (SV.struct
                                                                  [SV.int IntKind.i64 o_0, SV.slice o_1,
                                                                    SV.struct
                                                                      [SV.int IntKind.i64 o_2_0, SV.int IntKind.i64 o_2_1, SV.bool o_2_2, SV.bool o_2_3, SV.int IntKind.i64 o_2_4,
                                                                        SV.int IntKind.i64 o_2_5, SV.int IntKind.i64 o_2_6,
                                                                        SV.struct [SV.int IntKind.i64 o_2_7_0, SV.arr IntKind.u8 16 o_2_7_1],
                                                                        SV.struct [SV.int IntKind.i64 o_2_8_0, SV.arr IntKind.u8 16 o_2_8_1], SV.slice o_2_9, SV.slice o_2_10],
                                                                    SV.slice o_3])) =
                                                            some
                                                              (SV.box b 114
                                                                (SV.struct
                                                                  [SV.int IntKind.i64 o_0, SV.slice o_1,
                                                                    SV.struct
                                                                      [SV.int IntKind.i64 o_2_0, SV.int IntKind.i64 o_2_1, SV.bool o_2_2, SV.bool o_2_3, SV.int IntKind.i64 o_2_4,
                                                                        SV.int IntKind.i64 o_2_5, SV.int IntKind.i64 o_2_6,
                                                                        SV.struct [SV.int IntKind.i64 o_2_7_0, SV.arr IntKind.u8 16 o_2_7_1],
                                                                        SV.struct [SV.int IntKind.i64 o_2_8_0, SV.arr IntKind.u8 16 o_2_8_1], SV.slice o_2_9, SV.slice o_2_10],
                                                                    SV.slice o_3])) ∧
                                                          J false w1))
                          (Br (o_0 == 7)
                            (Ret Tryd.prog 46 [SV.slice (Sl.sub s 1 0 (Int.toNat (↑o_1.2 : Int)) s.3)] w1_1 fun (r : SV) (w1 : World) =>
                              ∃ (n : Int),
                                r = SV.int IntKind.i64 n ∧
                                  Keeps [b] w1_1 w1 ∧
                                    Ret Tryd.prog 53 [SV.slice o_1] w1 fun (r : SV) (w1_2 : World) =>
                                      ∃ (s_1 : Sl),
                                        ∃ (n_1 : Int),
                                          r = SV.tuple [SV.slice s_1, SV.int IntKind.i64 n_1] ∧
                                            Keeps [b] w1 w1_2 ∧
                                              Ret Tryd.prog 21 [SV.int IntKind.i64 n] w1_2 fun (r : SV) (w1 : World) =>
                                                ∃ (n : Int),
                                                  r = SV.int IntKind.i64 n ∧
                                                    Keeps [b] w1_2 w1 ∧
                                                      Br (n == n_1)
                                                        (Ret Tryd.prog 22 [SV.slice s, SV.slice s_1] w1 fun (r : SV) (w1_3 : World) =>
                                                          ∃ (b_1 : Bool), r = SV.bool b_1 ∧ Keeps [b] w1 w1_3 ∧ R (SV.bool b_1) w1_3)
                                                        (R (SV.bool false) w1))
                            (some
                                  (SV.box b 114
                                    (SV.struct
                                      [SV.int IntKind.i64 o_0, SV.slice o_1,
                                        SV.struct
                                          [SV.int IntKind.i64 o_2_0, SV.int IntKind.i64 o_2_1, SV.bool o_2_2, SV.bool o_2_3, SV.int IntKind.i64 o_2_4, SV.int IntKind.i64 o_2_5,
                                            SV.int IntKind.i64 o_2_6, SV.struct [SV.int IntKind.i64 o_2_7_0, SV.arr IntKind.u8 16 o_2_7_1],
                                            SV.struct [SV.int IntKind.i64 o_2_8_0, SV.arr IntKind.u8 16 o_2_8_1], SV.slice o_2_9, SV.slice o_2_10],
                                        SV.slice o_3])) =
                                some
                                  (SV.box b 114
                                    (SV.struct
                                      [SV.int IntKind.i64 o_0, SV.slice o_1,
                                        SV.struct
                                          [SV.int IntKind.i64 o_2_0, SV.int IntKind.i64 o_2_1, SV.bool o_2_2, SV.bool o_2_3, SV.int IntKind.i64 o_2_4, SV.int IntKind.i64 o_2_5,
                                            SV.int IntKind.i64 o_2_6, SV.struct [SV.int IntKind.i64 o_2_7_0, SV.arr IntKind.u8 16 o_2_7_1],
                                            SV.struct [SV.int IntKind.i64 o_2_8_0, SV.arr IntKind.u8 16 o_2_8_1], SV.slice o_2_9, SV.slice o_2_10],
                                        SV.slice o_3])) ∧
                              J true w1_1)))))
theorem f80_of (o_0 : Int) (o_1 : Sl) (o_2_0 : Int) (o_2_1 : Int) (o_2_2 : Bool) (o_2_3 : Bool) (o_2_4 : Int) (o_2_5 : Int) (o_2_6 : Int) (o_2_7_0 : Int) (o_2_7_1 : Nat → Int) (o_2_8_0 : Int) (o_2_8_1 : Nat → Int) (o_2_9 : Sl) (o_2_10 : Sl) (o_3 : Sl) (w : World) (R : SV → World → Prop) (h : vc80 o_0 o_1 o_2_0 o_2_1 o_2_2 o_2_3 o_2_4 o_2_5 o_2_6 o_2_7_0 o_2_7_1 o_2_8_0 o_2_8_1 o_2_9 o_2_10 o_3 w R) : Ret Tryd.prog 80 [.struct [.int .i64 o_0, .slice o_1, .struct [.int .i64 o_2_0, .int .i64 o_2_1, .bool o_2_2, .bool o_2_3, .int .i64 o_2_4, .int .i64 o_2_5, .int .i64 o_2_6, .struct [.int .i64 o_2_7_0, .arr .u8 16 o_2_7_1], .struct [.int .i64 o_2_8_0, .arr .u8 16 o_2_8_1], .slice o_2_9, .slice o_2_10], .slice o_3]] w R :=
  have e : vc80 o_0 o_1 o_2_0 o_2_1 o_2_2 o_2_3 o_2_4 o_2_5 o_2_6 o_2_7_0 o_2_7_1 o_2_8_0 o_2_8_1 o_2_9 o_2_10 o_3 w R = fnVC X Tryd.f80 a80 [.struct [.int .i64 o_0, .slice o_1, .struct [.int .i64 o_2_0, .int .i64 o_2_1, .bool o_2_2, .bool o_2_3, .int .i64 o_2_4, .int .i64 o_2_5, .int .i64 o_2_6, .struct [.int .i64 o_2_7_0, .arr .u8 16 o_2_7_1], .struct [.int .i64 o_2_8_0, .arr .u8 16 o_2_8_1], .slice o_2_9, .slice o_2_10], .slice o_3]] w R := by kernel_rfl
  fnVC_sound X_ok (n := a80) (e ▸ h) (by kernel_rfl) (by kernel_rfl) rfl rfl

def vc79 (o_0 : Int) (o_1 : Sl) (o_2_0 : Int) (o_2_1 : Int) (o_2_2 : Bool) (o_2_3 : Bool) (o_2_4 : Int) (o_2_5 : Int) (o_2_6 : Int) (o_2_7_0 : Int) (o_2_7_1 : Nat → Int) (o_2_8_0 : Int) (o_2_8_1 : Nat → Int) (o_2_9 : Sl) (o_2_10 : Sl) (o_3 : Sl) (w : World) (R : SV → World → Prop) : Prop :=
  ∀ (b b_1 : Nat) (w1 : World),
    Upd [] [b_1, b] w w1 →
      Ret Tryd.prog 19 [SV.slice o_2_10] w1 fun (r : SV) (w1_1 : World) =>
        ∃ (s : Sl),
          r = SV.slice s ∧
            Keeps [b, b_1] w1 w1_1 ∧
              Ret Tryd.prog 93 [SV.slice o_2_9] w1_1 fun (r : SV) (w1 : World) =>
                ∃ (s_1 : Sl),
                  ∃ (s_2 : Sl),
                    r = SV.tuple [SV.slice s_1, SV.slice s_2] ∧
                      Keeps [b, b_1] w1_1 w1 ∧
                        Need (decide (0 ≤ (↑o_2_10.2 : Int)) && decide ((↑o_2_10.2 : Int) ≤ (↑s.3 : Int)))
                          (Need (decide (0 ≤ (↑o_2_9.2 : Int)) && decide ((↑o_2_9.2 : Int) ≤ (↑s_1.3 : Int)))
                            (∀ (w1_2 : World),
                              Upd [b_1] [] w1 w1_2 →
                                Ret Tryd.prog 93 [SV.slice o_3] w1_2 fun (r : SV) (w1 : World) =>
                                  ∃ (s_3 : Sl),
                                    ∃ (s_4 : Sl),
                                      r = SV.tuple [SV.slice s_3, SV.slice s_4] ∧
                                        Keeps [b, b_1] w1_2 w1 ∧
                                          ∀ (J : Bool → World → Prop),
                                            (∀ (b_2 : Bool) (w1 : World),
                                                Br b_2
                                                    (Ret Tryd.prog 29
                                                      [SV.struct
                                                          [SV.int IntKind.i64 o_2_0, SV.int IntKind.i64 o_2_1, SV.bool o_2_2, SV.bool o_2_3, SV.int IntKind.i64 o_2_4,
                                                            SV.int IntKind.i64 o_2_5, SV.int IntKind.i64 o_2_6, SV.struct [SV.int IntKind.i64 o_2_7_0, SV.arr IntKind.u8 16 o_2_7_1],
                                                            SV.struct [SV.int IntKind.i64 o_2_8_0, SV.arr IntKind.u8 16 o_2_8_1],
                                                            SV.slice (Sl.sub s_1 2 0 (Int.toNat (↑o_2_9.2 : Int)) s_1.3), SV.slice (Sl.sub s 1 0 (Int.toNat (↑o_2_10.2 : Int)) s.3)],
                                                        SV.struct
                                                          [SV.int IntKind.i64 o_2_0, SV.int IntKind.i64 o_2_1, SV.bool o_2_2, SV.bool o_2_3, SV.int IntKind.i64 o_2_4,
                                                            SV.int IntKind.i64 o_2_5, SV.int IntKind.i64 o_2_6, SV.struct [SV.int IntKind.i64 o_2_7_0, SV.arr IntKind.u8 16 o_2_7_1],
                                                            SV.struct [SV.int IntKind.i64 o_2_8_0, SV.arr IntKind.u8 16 o_2_8_1], SV.slice o_2_9, SV.slice o_2_10]]
                                                      w1 fun (r : SV) (w1_3 : World) =>
                                                      ∃ (b_3 : Bool),
                                                        r = SV.bool b_3 ∧
                                                          Keeps [b, b_1] w1 w1_3 ∧
                                                            Br b_3
                                                              (Ret Tryd.prog 22 [SV.slice s, SV.slice o_2_10] w1_3 fun (r : SV) (w1 : World) =>
                                                                ∃ (b_4 : Bool),
                                                                  r = SV.bool b_4 ∧
                                                                    Keeps [b, b_1] w1_3 w1 ∧
                                                                      Br b_4
                                                                        (Ret Tryd.prog 94 [SV.slice s_1, SV.slice s_2, SV.slice o_2_9] w1 fun (r : SV) (w1_4 : World) =>
                                                                          ∃ (b_5 : Bool),
                                                                            r = SV.bool b_5 ∧
                                                                              Keeps [b, b_1] w1 w1_4 ∧
                                                                                Br b_5
                                                                                  (Ret Tryd.prog 94 [SV.slice s_3, SV.slice s_4, SV.slice o_3] w1_4 fun (r : SV) (w1 : World) =>
                                                                                    ∃ (b_6 : Bool), r = SV.bool b_6 ∧ Keeps [b, b_1] w1_4 w1 ∧ R (SV.bool b_6) w1)
                                                                                  (R (SV.bool false) w1_4))
                                                                        (R (SV.bool false) w1))
                                                              (R (SV.bool false) w1_3))
                                                    (R (SV.bool false) w1) →
                                                  J b_2 w1) →
                                              Br (o_0 == 2)
                                                (Ret Tryd.prog 33
                                                  [SV.struct
                                                      [SV.int IntKind.i64 o_2_0, SV.int IntKind.i64 o_2_1, SV.bool o_2_2, SV.bool o_2_3, SV.int IntKind.i64 o_2_4,
                                                        SV.int IntKind.i64 o_2_5, SV.int IntKind.i64 o_2_6, SV.struct [SV.int IntKind.i64 o_2_7_0, SV.arr IntKind.u8 16 o_2_7_1],
                                                        SV.struct [SV.int IntKind.i64 o_2_8_0, SV.arr IntKind.u8 16 o_2_8_1],
                                                        SV.slice (Sl.sub s_1 2 0 (Int.toNat (↑o_2_9.2 : Int)) s_1.3), SV.slice (Sl.sub s 1 0 (Int.toNat (↑o_2_10.2 : Int)) s.3)]]
                                                  w1 fun (r : SV) (w1_3 : World) =>
                                                  ∃ (n : Int),
                                                    r = SV.int IntKind.i64 n ∧
                                                      Keeps [b, b_1] w1 w1_3 ∧
                                                        ∀ (w1 : World),
                                                          Upd [] [] w1_3 w1 →
                                                            Ret Tryd.prog 21 [SV.int IntKind.i64 n] w1 fun (r : SV) (w1_4 : World) =>
                                                              ∃ (n : Int),
                                                                r = SV.int IntKind.i64 n ∧
                                                                  Keeps [b, b_1] w1 w1_4 ∧
                                                                    Upd [] [] w1_3 w1_4 ∧
                                                                      Ret Tryd.prog 36
                                                                        [SV.struct
                                                                            [SV.int IntKind.i64 o_2_0, SV.int IntKind.i64 o_2_1, SV.bool o_2_2, SV.bool o_2_3,
                                                                              SV.int IntKind.i64 o_2_4, SV.int IntKind.i64 o_2_5, SV.int IntKind.i64 o_2_6,
                                                                              SV.struct [SV.int IntKind.i64 o_2_7_0, SV.arr IntKind.u8 16 o_2_7_1],
                                                                              SV.struct [SV.int IntKind.i64 o_2_8_0, SV.arr IntKind.u8 16 o_2_8_1], SV.slice o_2_9, SV.slice o_2_10]]
                                                                        w1_4 fun (r : SV) (w1 : World) =>
                                                                        ∃ (n_1 : Int),
                                                                          r = SV.int IntKind.i64 n_1 ∧
                                                                            Keeps [b, b_1] w1_4 w1 ∧
                                                                              some
                                                                                    (SV.box b 114
                                                                                      (SV.struct
                                                                                        [SV.int IntKind.i64 o_0, SV.slice o_1,
                                                                                          SV.struct
                                                                                            [SV.int IntKind.i64 o_2_0, SV.int IntKind.i64 o_2_1, SV.bool o_2_2, SV.bool o_2_3,
                                                                                              SV.int IntKind.i64 o_2_4, SV.int IntKind.i64 o_2_5, SV.int IntKind.i64 o_2_6,
                                                                                              SV.struct [SV.int IntKind.i64 o_2_7_0, SV.arr IntKind.u8 16 o_2_7_1],
                                                                                              SV.struct [SV.int IntKind.i64 o_2_8_0, SV.arr IntKind.u8 16 o_2_8_1], SV.slice o_2_9,
                                                                                              SV.slice o_2_10],
                                                                                          SV.slice o_3])) =
                                                                                  some
                                                                                    (SV.box b 114
                                                                                      (SV.struct
                                                                                        [SV.int IntKind.i64 o_0, SV.slice o_1,
                                                                                          SV.struct
                                                                                            [SV.int IntKind.i64 o_2_0, SV.int IntKind.i64 o_2_1, SV.bool o_2_2, SV.bool o_2_3,
                                                                                              SV.int IntKind.i64 o_2_4, SV.int IntKind.i64 o_2_5, SV.int IntKind.i64 o_2_6,
                                                                                              SV.struct [SV.int IntKind.i64 o_2_7_0, SV.arr IntKind.u8 16 o_2_7_1],
                                                                                              SV.struct [SV.int IntKind.i64 o_2_8_0, SV.arr IntKind.u8 16 o_2_8_1], SV.slice o_2_9,
                                                                                              SV.slice o_2_10],
                                                                                          SV.slice o_3])) ∧
                                                                                some
                                                                                      (SV.box b_1 30
                                                                                        (SV.struct
                                                                                          [SV.int IntKind.i64 o_2_0, SV.int IntKind.i64 o_2_1, SV.bool o_2_2, SV.bool o_2_3,
                                                                                            SV.int IntKind.i64 o_2_4, SV.int IntKind.i64 o_2_5, SV.int IntKind.i64 o_2_6,
                                                                                            SV.struct [SV.int IntKind.i64 o_2_7_0, SV.arr IntKind.u8 16 o_2_7_1],
                                                                                            SV.struct [SV.int IntKind.i64 o_2_8_0, SV.arr IntKind.u8 16 o_2_8_1],
                                                                                            SV.slice (Sl.sub s_1 2 0 (Int.toNat (↑o_2_9.2 : Int)) s_1.3),
                                                                                            SV.slice (Sl.sub s 1 0 (Int.toNat (↑o_2_10.2 : Int)) s.3)])) =
                                                                                    some
                                                                                      (SV.box b_1 30
                                                                                        (SV.struct
                                                                                          [SV.int IntKind.i64 o_2_0, SV.int IntKind.i64 o_2_1, SV.bool o_2_2, SV.bool o_2_3,
                                                                                            SV.int IntKind.i64 o_2_4, SV.int IntKind.i64 o_2_5, SV.int IntKind.i64 o_2_6,
                                                                                            SV.struct [SV.int IntKind.i64 o_2_7_0, SV.arr IntKind.u8 16 o_2_7_1],
                                                                                            SV.struct [SV.int IntKind.i64 o_2_8_0, SV.arr IntKind.u8 16 o_2_8_1],
                                                                                            SV.slice (Sl.sub s_1 2 0 (Int.toNat (↑o_2_9.2 : Int)) s_1.3),
                                                                                            SV.slice (Sl.sub s 1 0 (Int.toNat (↑o_2_10.2 : Int)) s.3)])) ∧
                                                                                  J (n == n_1) w1)
                                                (Br (o_0 == 3)
                                                  (Ret Tryd.prog 25
                                                    [SV.struct
                                                        [SV.int IntKind.i64 o_2_0, SV.int IntKind.i64 o_2_1, SV.bool o_2_2, SV.bool o_2_3, SV.int IntKind.i64 o_2_4,
                                                          SV.int IntKind.i64 o_2_5, SV.int IntKind.i64 o_2_6, SV.struct [SV.int IntKind.i64 o_2_7_0, SV.arr IntKind.u8 16 o_2_7_1],
                                                          SV.struct [SV.int IntKind.i64 o_2_8_0, SV.arr IntKind.u8 16 o_2_8_1],
                                                          SV.slice (Sl.sub s_1 2 0 (Int.toNat (↑o_2_9.2 : Int)) s_1.3), SV.slice (Sl.sub s 1 0 (Int.toNat (↑o_2_10.2 : Int)) s.3)]]
                                                    w1 fun (r : SV) (w1_3 : World) =>
                                                    ∃ (s_5 : Sl),
                                                      ∃ (n : Int),
                                                        r = SV.tuple [SV.slice s_5, SV.int IntKind.i64 n] ∧
                                                          Keeps [b, b_1] w1 w1_3 ∧
                                                            Ret Tryd.prog 34
                                                              [SV.struct
                                                                  [SV.int IntKind.i64 o_2_0, SV.int IntKind.i64 o_2_1, SV.bool o_2_2, SV.bool o_2_3, SV.int IntKind.i64 o_2_4,
                                                                    SV.int IntKind.i64 o_2_5, SV.int IntKind.i64 o_2_6,
                                                                    SV.struct [SV.int IntKind.i64 o_2_7_0, SV.arr IntKind.u8 16 o_2_7_1],
                                                                    SV.struct [SV.int IntKind.i64 o_2_8_0, SV.arr IntKind.u8 16 o_2_8_1], SV.slice o_2_9, SV.slice o_2_10]]
                                                              w1_3 fun (r : SV) (w1 : World) =>
                                                              ∃ (s_6 : Sl),
                                                                ∃ (n_1 : Int),
                                                                  r = SV.tuple [SV.slice s_6, SV.int IntKind.i64 n_1] ∧
                                                                    Keeps [b, b_1] w1_3 w1 ∧
                                                                      Ret Tryd.prog 21 [SV.int IntKind.i64 n] w1 fun (r : SV) (w1_4 : World) =>
                                                                        ∃ (n : Int),
                                                                          r = SV.int IntKind.i64 n ∧
                                                                            Keeps [b, b_1] w1 w1_4 ∧
                                                                              Br (n == n_1)
                                                                                (Ret Tryd.prog 24 [SV.slice s_5, SV.slice s_6] w1_4 fun (r : SV) (w1 : World) =>
                                                                                  ∃ (b_2 : Bool),
                                                                                    r = SV.bool b_2 ∧
                                                                                      Keeps [b, b_1] w1_4 w1 ∧
                                                                                        some
                                                                                              (SV.box b 114
                                                                                                (SV.struct
                                                                                                  [SV.int IntKind.i64 o_0, SV.slice o_1,
                                                                                                    SV.struct
                                                                                                      [SV.int IntKind.i64 o_2_0, SV.int IntKind.i64 o_2_1, SV.bool o_2_2,
                                                                                                        SV.bool o_2_3, SV.int IntKind.i64 o_2_4, SV.int IntKind.i64 o_2_5,
                                                                                                        SV.int IntKind.i64 o_2_6,
                                                                                                        SV.struct [SV.int IntKind.i64 o_2_7_0, SV.arr IntKind.u8 16 o_2_7_1],
                                                                                                        SV.struct [SV.int IntKind.i64 o_2_8_0, SV.arr IntKind.u8 16 o_2_8_1],
                                                                                                        SV.slice o_2_9, SV.slice o_2_10],
                                                                                                    SV.slice o_3])) =
                                                                                            some
                                                                                              (SV.box b 114
                                                                                                (SV.struct
                                                                                                  [SV.int IntKind.i64 o_0, SV.slice o_1,
                                                                                                    SV.struct
                                                                                                      [SV.int IntKind.i64 o_2_0, SV.int IntKind.i64 o_2_1, SV.bool o_2_2,
                                                                                                        SV.bool o_2_3, SV.int IntKind.i64 o_2_4, SV.int IntKind.i64 o_2_5,
                                                                                                        SV.int IntKind.i64 o_2_6,
                                                                                                        SV.struct [SV.int IntKind.i64 o_2_7_0, SV.arr IntKind.u8 16 o_2_7_1],
                                                                                                        SV.struct [SV.int IntKind.i64 o_2_8_0, SV.arr IntKind.u8 16 o_2_8_1],
                                                                                                        SV.slice o_2_9, SV.slice o_2_10],
                                                                                                    SV.slice o_3])) ∧
                                                                                          some
                                                                                                (SV.box b_1 30
                                                                                                  (SV.struct
                                                                                                    [SV.int IntKind.i64 o_2_0, SV.int IntKind.i64 o_2_1, SV.bool o_2_2, SV.bool o_2_3,
                                                                                                      SV.int IntKind.i64 o_2_4, SV.int IntKind.i64 o_2_5, SV.int IntKind.i64 o_2_6,
                                                                                                      SV.struct [SV.int IntKind.i64 o_2_7_0, SV.arr IntKind.u8 16 o_2_7_1],
                                                                                                      SV.struct [SV.int IntKind.i64 o_2_8_0, SV.arr IntKind.u8 16 o_2_8_1],
                                                                                                      SV.slice (Sl.sub s_1 2 0 (Int.toNat (↑o_2_9.2 : Int)) s_1.3),
                                                                                                      SV.slice (Sl.sub s 1 0 (Int.toNat (↑o_2_10.2 : Int)) s.3)])) =
                                                                                              some
                                                                                                (SV.box b_1 30
                                                                                                  (SV.struct
                                                                                                    [SV.int IntKind.i64 o_2_0, SV.int IntKind.i64 o_2_1, SV.bool o_2_2, SV.bool o_2_3,
                                                                                                      SV.int IntKind.i64 o_2_4, SV.int IntKind.i64 o_2_5, SV.int IntKind.i64 o_2_6,
                                                                                                      SV.struct [SV.int IntKind.i64 o_2_7_0, SV.arr IntKind.u8 16 o_2_7_1],
                                                                                                      SV.struct [SV.int IntKind.i64 o_2_8_0, SV.arr IntKind.u8 16 o_2_8_1],
                                                                                                      SV.slice (Sl.sub s_1 2 0 (Int.toNat (↑o_2_9.2 : Int)) s_1.3),
                                                                                                      SV.slice (Sl.sub s 1 0 (Int.toNat (↑o_2_10.2 : Int)) s.3)])) ∧
                                                                                            J b_2 w1)
                                                                                (some
                                                                                      (SV.box b 114
                                                                                        (SV.struct
                                                                                          [SV.int IntKind.i64 o_0, SV.slice o_1,
                                                                                            SV.struct
                                                                                              [SV.int IntKind.i64 o_2_0, SV.int IntKind.i64 o_2_1, SV.bool o_2_2, SV.bool o_2_3,
                                                                                                SV.int IntKind.i64 o_2_4, SV.int IntKind.i64 o_2_5, SV.int IntKind.i64 o_2_6,
                                                                                                SV.struct [SV.int IntKind.i64 o_2_7_0, SV.arr IntKind.u8 16 o_2_7_1],
                                                                                                SV.struct [SV.int IntKind.i64 o_2_8_0, SV.arr IntKind.u8 16 o_2_8_1], SV.slice o_2_9,
                                                                                                SV.slice o_2_10],
                                                                                            SV.slice o_3])) =
                                                                                    some
                                                                                      (SV.box b 114
                                                                                        (SV.struct
                                                                                          [SV.int IntKind.i64 o_0, SV.slice o_1,
                                                                                            SV.struct
                                                                                              [SV.int IntKind.i64 o_2_0, SV.int IntKind.i64 o_2_1, SV.bool o_2_2, SV.bool o_2_3,
                                                                                                SV.int IntKind.i64 o_2_4, SV.int IntKind.i64 o_2_5, SV.int IntKind.i64 o_2_6,
                                                                                                SV.struct [SV.int IntKind.i64 o_2_7_0, SV.arr IntKind.u8 16 o_2_7_1],
                                                                                                SV.struct [SV.int IntKind.i64 o_2_8_0, SV.arr IntKind.u8 16 o_2_8_1], SV.slice o_2_9,
                                                                                                SV.slice o_2_10],
                                                                                            SV.slice o_3])) ∧
                                                                                  some
                                                                                        (SV.box b_1 30
                                                                                          (SV.struct
                                                                                            [SV.int IntKind.i64 o_2_0, SV.int IntKind.i64 o_2_1, SV.bool o_2_2, SV.bool o_2_3,
                                                                                              SV.int IntKind.i64 o_2_4, SV.int IntKind.i64 o_2_5, SV.int IntKind.i64 o_2_6,
                                                                                              SV.struct [SV.int IntKind.i64 o_2_7_0, SV.arr IntKind.u8 16 o_2_7_1],
                                                                                              SV.struct [SV.int IntKind.i64 o_2_8_0, SV.arr IntKind.u8 16 o_2_8_1],
                                                                                              SV.slice (Sl.sub s_1 2 0 (Int.toNat (↑o_2_9.2 : Int)) s_1.3),
                                                                                              SV.slice (Sl.sub s 1 0 (Int.toNat (↑o_2_10.2 : Int)) s.3)])) =
                                                                                      some
                                                                                        (SV.box b_1 30
                                                                                          (SV.struct
                                                                                            [SV.int IntKind.i64 o_2_0, SV.int IntKind.i64 o_2_1, SV.bool o_2_2, SV.bool o_2_3,
                                                                                              SV.int IntKind.i64 o_2_4, SV.int IntKind.i64 o_2_5, SV.int IntKind.i64 o_2_6,
                                                                                              SV.struct [SV.int IntKind.i64 o_2_7_0, SV.arr IntKind.u8 16 o_2_7_1],
                                                                                              SV.struct [SV.int IntKind.i64 o_2_8_0, SV.arr IntKind.u8 16 o_2_8_1],
                                                                                              SV.slice (Sl.sub s_1 2 0 (Int.toNat (↑o_2_9.2 : Int)) s_1.3),
                                                                                              SV.slice (Sl.sub s 1 0 (Int.toNat (↑o_2_10.2 : Int)) s.3)])) ∧
                                                                                    J false w1_4))
                                                  (Br (o_0 == 6)
                                                    (Need (decide (0 ≤ (↑o_3.2 : Int)) && decide ((↑o_3.2 : Int) ≤ (↑s_3.3 : Int)))
                                                      (Ret Tryd.prog 27 [SV.slice (Sl.sub s_3 2 0 (Int.toNat (↑o_3.2 : Int)) s_3.3)] w1 fun (r : SV) (w1_3 : World) =>
                                                        ∃ (s_5 : Sl),
                                                          ∃ (n : Int),
                                                            r = SV.tuple [SV.slice s_5, SV.int IntKind.i64 n] ∧
                                                              Keeps [b, b_1] w1 w1_3 ∧
                                                                Ret Tryd.prog 35 [SV.slice o_3] w1_3 fun (r : SV) (w1 : World) =>
                                                                  ∃ (s_6 : Sl),
                                                                    ∃ (n_1 : Int),
                                                                      r = SV.tuple [SV.slice s_6, SV.int IntKind.i64 n_1] ∧
                                                                        Keeps [b, b_1] w1_3 w1 ∧
                                                                          Ret Tryd.prog 21 [SV.int IntKind.i64 n] w1 fun (r : SV) (w1_4 : World) =>
                                                                            ∃ (n : Int),
                                                                              r = SV.int IntKind.i64 n ∧
                                                                                Keeps [b, b_1] w1 w1_4 ∧
                                                                                  Br (n == n_1)
                                                                                    (Ret Tryd.prog 24 [SV.slice s_5, SV.slice s_6] w1_4 fun (r : SV) (w1 : World) =>
                                                                                      ∃ (b_2 : Bool),
                                                                                        r = SV.bool b_2 ∧
                                                                                          Keeps [b, b_1] w1_4 w1 ∧
                                                                                            some
                                                                                                  (SV.box b 114
                                                                                                    (SV.struct
                                                                                                      [SV.int IntKind.i64 o_0, SV.slice o_1,
                                                                                                        SV.struct
                                                                                                          [SV.int IntKind.i64 o_2_0, SV.int IntKind.i64 o_2_1, SV.bool o_2_2,
                                                                                                            SV.bool o_2_3, SV.int IntKind.i64 o_2_4, SV.int IntKind.i64 o_2_5,
                                                                                                            SV.int IntKind.i64 o_2_6,
                                                                                                            SV.struct [SV.int IntKind.i64 o_2_7_0, SV.arr IntKind.u8 16 o_2_7_1],
                                                                                                            SV.struct [SV.int IntKind.i64 o_2_8_0, SV.arr IntKind.u8 16 o_2_8_1],
                                                                                                            SV.slice o_2_9, SV.slice o_2_10],
                                                                                                        SV.slice o_3])) =
                                                                                                some
                                                                                                  (SV.box b 114
                                                                                                    (SV.struct
                                                                                                      [SV.int IntKind.i64 o_0, SV.slice o_1,
                                                                                                        SV.struct
                                                                                                          [SV.int IntKind.i64 o_2_0, SV.int IntKind.i64 o_2_1, SV.bool o_2_2,
                                                                                                            SV.bool o_2_3, SV.int IntKind.i64 o_2_4, SV.int IntKind.i64 o_2_5,
                                                                                                            SV.int IntKind.i64 o_2_6,
                                                                                                            SV.struct [SV.int IntKind.i64 o_2_7_0, SV.arr IntKind.u8 16 o_2_7_1],
                                                                                                            SV.struct [SV.int IntKind.i64 o_2_8_0, SV.arr IntKind.u8 16 o_2_8_1],
                                                                                                            SV.slice o_2_9, SV.slice o_2_10],
                                                                                                        SV.slice o_3])) ∧
                                                                                              some
                                                                                                    (SV.box b_1 30
                                                                                                      (SV.struct
                                                                                                        [SV.int IntKind.i64 o_2_0, SV.int IntKind.i64 o_2_1, SV.bool o_2_2,
                                                                                                          SV.bool o_2_3, SV.int IntKind.i64 o_2_4, SV.int IntKind.i64 o_2_5,
                                                                                                          SV.int IntKind.i64 o_2_6,
                                                                                                          SV.struct [SV.int IntKind.i64 o_2_7_0, SV.arr IntKind.u8 16 o_2_7_1],
                                                                                                          SV.struct [SV.int IntKind.i64 o_2_8_0, SV.arr IntKind.u8 16 o_2_8_1],
                                                                                                          SV.slice (Sl.sub s_1 2 0 (Int.toNat (↑o_2_9.2 : Int)) s_1.3),
                                                                                                          SV.slice (Sl.sub s 1 0 (Int.toNat (↑o_2_10.2 : Int)) s.3)])) =
                                                                                                  some
                                                                                                    (SV.box b_1 30
                                                                                                      (SV.struct
                                                                                                        [SV.int IntKind.i64 o_2_0, SV.int IntKind.i64 o_2_1, SV.bool o_2_2,
                                                                                                          SV.bool o_2_3, SV.int IntKind.i64 o_2_4, SV.int IntKind.i64 o_2_5,
                                                                                                          SV.int IntKind.i64 o_2_6,
                                                                                                          SV.struct [SV.int IntKind.i64 o_2_7_0, SV.arr IntKind.u8 16 o_2_7_1],
                                                                                                          SV.struct [SV.int IntKind.i64 o_2_8_0, SV.arr IntKind.u8 16 o_2_8_1],
                                                                                                          SV.slice (Sl.sub s_1 2 0 (Int.toNat (↑o_2_9.2 : Int)) s_1.3),
                                                                                                          SV.slice (Sl.sub s 1 0 (Int.toNat (↑o_2_10.2 : Int)) s.3)])) ∧
                                                                                                J b_2 w1)
                                                                                    (some
                                                                                          (SV.box b 114
                                                                                            (SV.struct
                                                                                              [SV.int IntKind.i64 o_0, SV.slice o_1,
                                                                                                SV.struct
                                                                                                  [SV.int IntKind.i64 o_2_0, SV.int IntKind.i64 o_2_1, SV.bool o_2_2, SV.bool o_2_3,
                                                                                                    SV.int IntKind.i64 o_2_4, SV.int IntKind.i64 o_2_5, SV.int IntKind.i64 o_2_6,
                                                                                                    SV.struct [SV.int IntKind.i64 o_2_7_0, SV.arr IntKind.u8 16 o_2_7_1],
                                                                                                    SV.struct [SV.int IntKind.i64 o_2_8_0, SV.arr IntKind.u8 16 o_2_8_1],
                                                                                                    SV.slice o_2_9, SV.slice o_2_10],
                                                                                                SV.slice o_3])) =
                                                                                        some
                                                                                          (SV.box b 114
                                                                                            (SV.struct
                                                                                              [SV.int IntKind.i64 o_0, SV.slice o_1,
                                                                                                SV.struct
                                                                                                  [SV.int IntKind.i64 o_2_0, SV.int IntKind.i64 o_2_1, SV.bool o_2_2, SV.bool o_2_3,
                                                                                                    SV.int IntKind.i64 o_2_4, SV.int IntKind.i64 o_2_5, SV.int IntKind.i64 o_2_6,
                                                                                                    SV.struct [SV.int IntKind.i64 o_2_7_0, SV.arr IntKind.u8 16 o_2_7_1],
                                                                                                    SV.struct [SV.int IntKind.i64 o_2_8_0, SV.arr IntKind.u8 16 o_2_8_1],
                                                                                                    SV.slice o_2_9, SV.slice o_2_10],
                                                                                                SV.slice o_3])) ∧
                                                                                      some
                                                                                            (SV.box b_1 30
                                                                                              (SV.struct
                                                                                                [SV.int IntKind.i64 o_2_0, SV.int IntKind.i64 o_2_1, SV.bool o_2_2, SV.bool o_2_3,
                                                                                                  SV.int IntKind.i64 o_2_4, SV.int IntKind.i64 o_2_5, SV.int IntKind.i64 o_2_6,
                                                                                                  SV.struct [SV.int IntKind.i64 o_2_7_0, SV.arr IntKind.u8 16 o_2_7_1],
                                                                                                  SV.struct [SV.int IntKind.i64 o_2_8_0, SV.arr IntKind.u8 16 o_2_8_1],
                                                                                                  SV.slice (Sl.sub s_1 2 0 (Int.toNat (↑o_2_9.2 : Int)) s_1.3),
                                                                                                  SV.slice (Sl.sub s 1 0 (Int.toNat (↑o_2_10.2 : Int)) s.3)])) =
                                                                                          some
                                                                                            (SV.box b_1 30
                                                                                              (SV.struct
                                                                                                [SV.int IntKind.i64 o_2_0, SV.int IntKind.i64 o_2_1, SV.bool o_2_2, SV.bool o_2_3,
                                                                                                  SV.int IntKind.i64 o_2_4, SV.int IntKind.i64 o_2_5, SV.int IntKind.i64 o_2_6,
                                                                                                  SV.struct [SV.int IntKind.i64 o_2_7_0, SV.arr IntKind.u8 16 o_2_7_1],
                                                                                                  SV.struct [SV.int IntKind.i64 o_2_8_0, SV.arr IntKind.u8 16 o_2_8_1],
                                                                                                  SV.slice (Sl.sub s_1 2 0 (Int.toNat (↑o_2_9.2 : Int)) s_1.3),
                                                                                                  SV.slice (Sl.sub s 1 0 (Int.toNat (↑o_2_10.2 : Int)) s.3)])) ∧
                                                                                        J false w1_4)))
                                                    (some
                                                          (SV.box b 114
                                                            (SV.struct
                                                              [SV.int IntKind.i64 o_0, SV.slice o_1,
                                                                SV.struct
                                                                  [SV.int IntKind.i64 o_2_0, SV.int IntKind.i64 o_2_1, SV.bool o_2_2, SV.bool o_2_3, SV.int IntKind.i64 o_2_4,
                                                                    SV.int IntKind.i64 o_2_5, SV.int IntKind.i64 o_2_6,
                                                                    SV.struct [SV.int IntKind.i64 o_2_7_0, SV.arr IntKind.u8 16 o_2_7_1],
                                                                    SV.struct [SV.int IntKind.i64 o_2_8_0, SV.arr IntKind.u8 16 o_2_8_1], SV.slice o_2_9, SV.slice o_2_10],
                                                                SV.slice o_3])) =
                                                        some
                                                          (SV.box b 114
                                                            (SV.struct
                                                              [SV.int IntKind.i64 o_0, SV.slice o_1,
                                                                SV.struct
                                                                  [SV.int IntKind.i64 o_2_0, SV.int IntKind.i64 o_2_1, SV.bool o_2_2, SV.bool o_2_3, SV.int IntKind.i64 o_2_4,
                                                                    SV.int IntKind.i64 o_2_5, SV.int IntKind.i64 o_2_6,
                                                                    SV.struct [SV.int IntKind.i64 o_2_7_0, SV.arr IntKind.u8 16 o_2_7_1],
                                                                    SV.struct [SV.int IntKind.i64 o_2_8_0, SV.arr IntKind.u8 16 o_2_8_1], SV.slice o_2_9, SV.slice o_2_10],
                                                                SV.slice o_3])) ∧
                                                      some
                                                            (SV.box b_1 30
                                                              (SV.struct
                                                                [SV.int IntKind.i64 o_2_0, SV.int IntKind.i64 o_2_1, SV.bool o_2_2, SV.bool o_2_3, SV.int IntKind.i64 o_2_4,
                                                                  SV.int IntKind.i64 o_2_5, SV.int IntKind.i64 o_2_6,
                                                                  SV.struct [SV.int IntKind.i64 o_2_7_0, SV.arr IntKind.u8 16 o_2_7_1],
                                                                  SV.struct [SV.int IntKind.i64 o_2_8_0, SV.arr IntKind.u8 16 o_2_8_1],
                                                                  SV.slice (Sl.sub s_1 2 0 (Int.toNat (↑o_2_9.2 : Int)) s_1.3),
                                                                  SV.slice (Sl.sub s 1 0 (Int.toNat (↑o_2_10.2 : Int)) s.3)])) =
                                                          some
                                                            (SV.box b_1 30
                                                              (SV.struct
                                                                [SV.int IntKind.i64 o_2_0, SV.int IntKind.i64 o_2_1, SV.bool o_2_2, SV.bool o_2_3, SV.int IntKind.i64 o_2_4,
                                                                  SV.int IntKind.i64 o_2_5, SV.int IntKind.i64 o_2_6,
                                                                  SV.struct [SV.int IntKind.i64 o_2_7_0, SV.arr IntKind.u8 16 o_2_7_1],
                                                                  SV.struct [SV.int IntKind.i64 o_2_8_0, SV.arr IntKind.u8 16 o_2_8_1],
                                                                  SV.slice (Sl.sub s_1 2 0 (Int.toNat (↑o_2_9.2 : Int)) s_1.3),
                                                                  SV.slice (Sl.sub s 1 0 (Int.toNat (↑o_2_10.2 : Int)) s.3)])) ∧
                                                        J true w1)))))
theorem f79_of (o_0 : Int) (o_1 : Sl) (o_2_0 : Int) (o_2_1 : Int) (o_2_2 : Bool) (o_2_3 : Bool) (o_2_4 : Int) (o_2_5 : Int) (o_2_6 : Int) (o_2_7_0 : Int) (o_2_7_1 : Nat → Int) (o_2_8_0 : Int) (o_2_8_1 : Nat → Int) (o_2_9 : Sl) (o_2_10 : Sl) (o_3 : Sl) (w : World) (R : SV → World → Prop) (h : vc79 o_0 o_1 o_2_0 o_2_1 o_2_2 o_2_3 o_2_4 o_2_5 o_2_6 o_2_7_0 o_2_7_1 o_2_8_0 o_2_8_1 o_2_9 o_2_10 o_3 w R) : Ret Tryd.prog 79 [.struct [.int .i64 o_0, .slice o_1, .struct [.int .i64 o_2_0, .int .i64 o_2_1, .bool o_2_2, .bool o_2_3, .int .i64 o_2_4, .int .i64 o_2_5, .int .i64 o_2_6, .struct [.int .i64 o_2_7_0, .arr .u8 16 o_2_7_1], .struct [.int .i64 o_2_8_0, .arr .u8 16 o_2_8_1], .slice o_2_9, .slice o_2_10], .slice o_3]] w R :=
  have e : vc79 o_0 o_1 o_2_0 o_2_1 o_2_2 o_2_3 o_2_4 o_2_5 o_2_6 o_2_7_0 o_2_7_1 o_2_8_0 o_2_8_1 o_2_9 o_2_10 o_3 w R = fnVC X Tryd.f79 a79 [.struct [.int .i64 o_0, .slice o_1, .struct [.int .i64 o_2_0, .int .i64 o_2_1, .bool o_2_2, .bool o_2_3, .int .i64 o_2_4, .int .i64 o_2_5, .int .i64 o_2_6, .struct [.int .i64 o_2_7_0, .arr .u8 16 o_2_7_1], .struct [.int .i64 o_2_8_0, .arr .u8 16 o_2_8_1], .slice o_2_9, .slice o_2_10], .slice o_3]] w R := by kernel_rfl
  fnVC_sound X_ok (n := a79) (e ▸ h) (by kernel_rfl) (by kernel_rfl) rfl rfl

def vc93 (l : Sl) (w : World) (R : SV → World → Prop) : Prop :=
  ∃ (I : Sl → Sl → Int → World → Prop),
    ∃ (M : Sl → Sl → Int → World → Nat),
      I { ptr := none, len := 0, cap := 0 } { ptr := none, len := 0, cap := 0 } 0 w ∧
        ∀ (s s_1 : Sl) (n : Int) (w1 : World),
          I s s_1 n w1 →
            Br (decide (n < (↑l.2 : Int)))
              (Need (decide (0 ≤ n) && decide (n < (↑l.2 : Int)) && Option.isSome l.1)
                (∃ (s_2 : Sl),
                  World.cell? w1 (Addr.add (Sl.at l 2 (Int.toNat n)) 1) = some (Sl.val s_2) ∧
                    Ret Tryd.prog 19 [SV.slice s_2] w1 fun (r : SV) (w1_1 : World) =>
                      ∃ (s_3 : Sl),
                        r = SV.slice s_3 ∧
                          ∀ (b : Nat) (w1_2 : World),
                            Upd [] [b] w1_1 w1_2 →
                              (World.heap w1_2)[b]? = some (Obj.cells { toList := SV.cells (SV.struct [SV.slice s_3]) } 22) →
                                Vc.Append 22 1 24 s_1 { ptr := some { block := b, off := 0 }, len := 1, cap := 1 } [] w1_2 fun (r : Sl) (w : World) =>
                                  Need (decide (0 ≤ n) && decide (n < (↑l.2 : Int)) && Option.isSome l.1)
                                    (∃ (n_1 : Int),
                                      World.cell? w (Sl.at l 2 (Int.toNat n)) = some (Value.int IntKind.i64 n_1) ∧
                                        Need (decide (0 ≤ n) && decide (n < (↑l.2 : Int)) && Option.isSome l.1)
                                          (∃ (s_4 : Sl),
                                            World.cell? w (Addr.add (Sl.at l 2 (Int.toNat n)) 1) = some (Sl.val s_4) ∧
                                              Need (decide (0 ≤ (↑s_4.2 : Int)) && decide ((↑s_4.2 : Int) ≤ (↑s_3.3 : Int)))
                                                (∀ (b : Nat) (w1_3 : World),
                                                  Upd [] [b] w w1_3 →
                                                    (World.heap w1_3)[b]? =
                                                        some
                                                          (Obj.cells
                                                            {
                                                              toList :=
                                                                SV.cells
                                                                  (SV.struct [SV.struct [SV.int IntKind.i64 n_1, SV.slice (Sl.sub s_3 1 0 (Int.toNat (↑s_4.2 : Int)) s_3.3)]]) }
                                                            37) →
                                                      Vc.Append 37 2 32 s { ptr := some { block := b, off := 0 }, len := 1, cap := 1 } [] w1_3 fun (r_1 : Sl) (w : World) =>
                                                        I r_1 r (wr IntKind.i64 (n + 1)) w ∧ M r_1 r (wr IntKind.i64 (n + 1)) w < M s s_1 n w1)))))
              (∀ (b : Nat) (w1_1 : World),
                Upd [] [b] w1 w1_1 →
                  (World.heap w1_1)[b]? = some (Obj.cells { toList := SV.cells (SV.struct [SV.struct [SV.int IntKind.i64 99, SV.slice { ptr := none, len := 0, cap := 0 }]]) } 37) →
                    Vc.Append 37 2 32 s { ptr := some { block := b, off := 0 }, len := 1, cap := 1 } [] w1_1 fun (r : Sl) (w : World) => R (SV.tuple [SV.slice r, SV.slice s_1]) w)
theorem f93_of (l : Sl) (w : World) (R : SV → World → Prop) (h : vc93 l w R) : Ret Tryd.prog 93 [.slice l] w R :=
  have e : vc93 l w R = fnVC X Tryd.f93 a93 [.slice l] w R := by kernel_rfl
  fnVC_sound X_ok (n := a93) (e ▸ h) (by kernel_rfl) (by kernel_rfl) rfl rfl

def vc94 (m : Sl) (p1 : Sl) (l : Sl) (w : World) (R : SV → World → Prop) : Prop :=
  ∀ (J : World → Prop),
    (∀ (w1 : World),
        (∃ (I : Int → World → Prop),
            ∃ (M : Int → World → Nat),
              I 0 w1 ∧
                ∀ (n : Int) (w1 : World),
                  I n w1 →
                    Br (decide (n < (↑l.2 : Int)))
                      (Need (decide (0 ≤ n) && decide (n < (↑p1.2 : Int)) && Option.isSome p1.1)
                        (∃ (s : Sl),
                          World.cell? w1 (Sl.at p1 1 (Int.toNat n)) = some (Sl.val s) ∧
                            Need (decide (0 ≤ n) && decide (n < (↑l.2 : Int)) && Option.isSome l.1)
                              (∃ (s_1 : Sl),
                                World.cell? w1 (Addr.add (Sl.at l 2 (Int.toNat n)) 1) = some (Sl.val s_1) ∧
                                  ∀ (w1_1 : World),
                                    Upd [] [] w1 w1_1 →
                                      Ret Tryd.prog 22 [SV.slice s, SV.slice s_1] w1_1 fun (r : SV) (w1_2 : World) =>
                                        ∃ (b : Bool), r = SV.bool b ∧ Br (!b) (R (SV.bool false) w1_2) (I (wr IntKind.i64 (n + 1)) w1_2 ∧ M (wr IntKind.i64 (n + 1)) w1_2 < M n w1))))
                      (R (SV.bool true) w1)) →
          J w1) →
      Br ((↑m.2 : Int) != wr IntKind.i64 ((↑l.2 : Int) + 1)) (R (SV.bool false) w)
        (Need (decide (0 ≤ (↑l.2 : Int)) && decide ((↑l.2 : Int) < (↑m.2 : Int)) && Option.isSome m.1)
          (∃ (n : Int),
            World.cell? w (Sl.at m 2 (Int.toNat (↑l.2 : Int))) = some (Value.int IntKind.i64 n) ∧
              Br (n != 99) (R (SV.bool false) w)
                (Need (decide (0 ≤ (↑l.2 : Int)) && decide ((↑l.2 : Int) ≤ (↑m.3 : Int)))
                  (Ret Tryd.prog 51 [SV.slice (Sl.sub m 2 0 (Int.toNat (↑l.2 : Int)) m.3), SV.slice l] w fun (r : SV) (w1 : World) =>
                    ∃ (b : Bool), r = SV.bool b ∧ Br (!b) (R (SV.bool false) w1) (J w1)))))
theorem f94_of (m : Sl) (p1 : Sl) (l : Sl) (w : World) (R : SV → World → Prop) (h : vc94 m p1 l w R) : Ret Tryd.prog 94 [.slice m, .slice p1, .slice l] w R :=
  have e : vc94 m p1 l w R = fnVC X Tryd.f94 a94 [.slice m, .slice p1, .slice l] w R := by kernel_rfl
  fnVC_sound X_ok (n := a94) (e ▸ h) (by kernel_rfl) (by kernel_rfl) rfl rfl

def vc45 (script : Sl) (lo : Int) (hi : Int) (w : World) (R : SV → World → Prop) : Prop :=
  Ret Tryd.prog 18 [] w fun (r : SV) (w1 : World) =>
    ∃ (b : Bool),
      r = SV.bool b ∧
        ∃ (I : Bool → Int → World → Prop),
          ∃ (M : Bool → Int → World → Nat),
            I b 0 w1 ∧
              ∀ (b : Bool) (n : Int) (w1 : World),
                I b n w1 →
                  ∀ (J : World → Prop),
                    (∀ (w1_1 : World),
                        (∀ (J : Bool → World → Prop),
                            (∀ (b_1 : Bool) (w1_2 : World), I b_1 (wr IntKind.i64 (n + 1)) w1_2 ∧ M b_1 (wr IntKind.i64 (n + 1)) w1_2 < M b n w1 → J b_1 w1_2) →
                              Need (decide (0 ≤ n) && decide (n < (↑script.2 : Int)) && Option.isSome script.1)
                                (∃ (n_1 : Int),
                                  World.cell? w1_1 (Sl.at script 46 (Int.toNat n)) = some (Value.int IntKind.i64 n_1) ∧
                                    ∃ (s : Sl),
                                      World.cell? w1_1 (Addr.add (Sl.at script 46 (Int.toNat n)) 1) = some (Sl.val s) ∧
                                        ∃ (n_2 : Int),
                                          World.cell? w1_1 (Addr.add (Sl.at script 46 (Int.toNat n)) 2) = some (Value.int IntKind.i64 n_2) ∧
                                            ∃ (n_3 : Int),
                                              World.cell? w1_1 (Addr.add (Sl.at script 46 (Int.toNat n)) 3) = some (Value.int IntKind.i64 n_3) ∧
                                                ∃ (b_1 : Bool),
                                                  World.cell? w1_1 (Addr.add (Sl.at script 46 (Int.toNat n)) 4) = some (Value.bool b_1) ∧
                                                    ∃ (b_2 : Bool),
                                                      World.cell? w1_1 (Addr.add (Sl.at script 46 (Int.toNat n)) 5) = some (Value.bool b_2) ∧
                                                        ∃ (n_4 : Int),
                                                          World.cell? w1_1 (Addr.add (Sl.at script 46 (Int.toNat n)) 6) = some (Value.int IntKind.i64 n_4) ∧
                                                            ∃ (n_5 : Int),
                                                              World.cell? w1_1 (Addr.add (Sl.at script 46 (Int.toNat n)) 7) = some (Value.int IntKind.i64 n_5) ∧
                                                                ∃ (n_6 : Int),
                                                                  World.cell? w1_1 (Addr.add (Sl.at script 46 (Int.toNat n)) 8) = some (Value.int IntKind.i64 n_6) ∧
                                                                    ∃ (n_7 : Int),
                                                                      World.cell? w1_1 (Addr.add (Sl.at script 46 (Int.toNat n)) 9) = some (Value.int IntKind.i64 n_7) ∧
                                                                        ∃ (f : Nat → Int),
                                                                          (∀ (i : Nat),
                                                                              i < 16 →
                                                                                World.cell? w1_1 (Addr.add (Sl.at script 46 (Int.toNat n)) (10 + i)) =
                                                                                  some (Value.int IntKind.u8 (f i))) ∧
                                                                            ∃ (n_8 : Int),
                                                                              World.cell? w1_1 (Addr.add (Sl.at script 46 (Int.toNat n)) 26) = some (Value.int IntKind.i64 n_8) ∧
                                                                                ∃ (f_1 : Nat → Int),
                                                                                  (∀ (i : Nat),
                                                                                      i < 16 →
                                                                                        World.cell? w1_1 (Addr.add (Sl.at script 46 (Int.toNat n)) (27 + i)) =
                                                                                          some (Value.int IntKind.u8 (f_1 i))) ∧
                                                                                    ∃ (s_1 : Sl),
                                                                                      World.cell? w1_1 (Addr.add (Sl.at script 46 (Int.toNat n)) 43) = some (Sl.val s_1) ∧
                                                                                        ∃ (s_2 : Sl),
                                                                                          World.cell? w1_1 (Addr.add (Sl.at script 46 (Int.toNat n)) 44) = some (Sl.val s_2) ∧
                                                                                            ∃ (s_3 : Sl),
                                                                                              World.cell? w1_1 (Addr.add (Sl.at script 46 (Int.toNat n)) 45) = some (Sl.val s_3) ∧
                                                                                                ∀ (b_3 : Nat) (J_1 : World → Prop),
                                                                                                  (∀ (w1 : World),
                                                                                                      Br (n_1 == 2)
                                                                                                          (Ret Tryd.prog 79
                                                                                                            [SV.struct
                                                                                                                [SV.int IntKind.i64 n_1, SV.slice s,
                                                                                                                  SV.struct
                                                                                                                    [SV.int IntKind.i64 n_2, SV.int IntKind.i64 n_3, SV.bool b_1,
                                                                                                                      SV.bool b_2, SV.int IntKind.i64 n_4, SV.int IntKind.i64 n_5,
                                                                                                                      SV.int IntKind.i64 n_6,
                                                                                                                      SV.struct [SV.int IntKind.i64 n_7, SV.arr IntKind.u8 16 f],
                                                                                                                      SV.struct [SV.int IntKind.i64 n_8, SV.arr IntKind.u8 16 f_1],
                                                                                                                      SV.slice s_1, SV.slice s_2],
                                                                                                                  SV.slice s_3]]
                                                                                                            w1 fun (r : SV) (w1_2 : World) =>
                                                                                                            ∃ (b : Bool), r = SV.bool b ∧ Keeps [b_3] w1 w1_2 ∧ J b w1_2)
                                                                                                          (Br (n_1 == 3)
                                                                                                            (Ret Tryd.prog 79
                                                                                                              [SV.struct
                                                                                                                  [SV.int IntKind.i64 n_1, SV.slice s,
                                                                                                                    SV.struct
                                                                                                                      [SV.int IntKind.i64 n_2, SV.int IntKind.i64 n_3, SV.bool b_1,
                                                                                                                        SV.bool b_2, SV.int IntKind.i64 n_4, SV.int IntKind.i64 n_5,
                                                                                                                        SV.int IntKind.i64 n_6,
                                                                                                                        SV.struct [SV.int IntKind.i64 n_7, SV.arr IntKind.u8 16 f],
                                                                                                                        SV.struct [SV.int IntKind.i64 n_8, SV.arr IntKind.u8 16 f_1],
                                                                                                                        SV.slice s_1, SV.slice s_2],
                                                                                                                    SV.slice s_3]]
                                                                                                              w1 fun (r : SV) (w1_2 : World) =>
                                                                                                              ∃ (b : Bool), r = SV.bool b ∧ Keeps [b_3] w1 w1_2 ∧ J b w1_2)
                                                                                                            (Br (n_1 == 6)
                                                                                                              (Ret Tryd.prog 79
                                                                                                                [SV.struct
                                                                                                                    [SV.int IntKind.i64 n_1, SV.slice s,
                                                                                                                      SV.struct
                                                                                                                        [SV.int IntKind.i64 n_2, SV.int IntKind.i64 n_3, SV.bool b_1,
                                                                                                                          SV.bool b_2, SV.int IntKind.i64 n_4, SV.int IntKind.i64 n_5,
                                                                                                                          SV.int IntKind.i64 n_6,
                                                                                                                          SV.struct [SV.int IntKind.i64 n_7, SV.arr IntKind.u8 16 f],
                                                                                                                          SV.struct
                                                                                                                            [SV.int IntKind.i64 n_8, SV.arr IntKind.u8 16 f_1],
                                                                                                                          SV.slice s_1, SV.slice s_2],
                                                                                                                      SV.slice s_3]]
                                                                                                                w1 fun (r : SV) (w1_2 : World) =>
                                                                                                                ∃ (b : Bool), r = SV.bool b ∧ Keeps [b_3] w1 w1_2 ∧ J b w1_2)
                                                                                                              (Ret Tryd.prog 80
                                                                                                                [SV.struct
                                                                                                                    [SV.int IntKind.i64 n_1, SV.slice s,
                                                                                                                      SV.struct
                                                                                                                        [SV.int IntKind.i64 n_2, SV.int IntKind.i64 n_3, SV.bool b_1,
                                                                                                                          SV.bool b_2, SV.int IntKind.i64 n_4, SV.int IntKind.i64 n_5,
                                                                                                                          SV.int IntKind.i64 n_6,
                                                                                                                          SV.struct [SV.int IntKind.i64 n_7, SV.arr IntKind.u8 16 f],
                                                                                                                          SV.struct
                                                                                                                            [SV.int IntKind.i64 n_8, SV.arr IntKind.u8 16 f_1],
                                                                                                                          SV.slice s_1, SV.slice s_2],
                                                                                                                      SV.slice s_3]]
                                                                                                                w1 fun (r : SV) (w1_2 : World) =>
                                                                                                                ∃ (b : Bool), r = SV.bool b ∧ Keeps [b_3] w1 w1_2 ∧ J b w1_2))) →
                                                                                                        J_1 w1) →
                                                                                                    Br (decide (n_1 < lo)) (∀ (w1 : World), Upd [] [b_3] w1_1 w1 → J b w1)
                                                                                                      (Br (decide (n_1 > hi)) (∀ (w1 : World), Upd [] [b_3] w1_1 w1 → J b w1)
                                                                                                        (∀ (w1 : World),
                                                                                                          Upd [] [b_3] w1_1 w1 →
                                                                                                            some
                                                                                                                  (SV.box b_3 114
                                                                                                                    (SV.struct
                                                                                                                      [SV.int IntKind.i64 n_1, SV.slice s,
                                                                                                                        SV.struct
                                                                                                                          [SV.int IntKind.i64 n_2, SV.int IntKind.i64 n_3,
                                                                                                                            SV.bool b_1, SV.bool b_2, SV.int IntKind.i64 n_4,
                                                                                                                            SV.int IntKind.i64 n_5, SV.int IntKind.i64 n_6,
                                                                                                                            SV.struct
                                                                                                                              [SV.int IntKind.i64 n_7, SV.arr IntKind.u8 16 f],
                                                                                                                            SV.struct
                                                                                                                              [SV.int IntKind.i64 n_8, SV.arr IntKind.u8 16 f_1],
                                                                                                                            SV.slice s_1, SV.slice s_2],
                                                                                                                        SV.slice s_3])) =
                                                                                                                some
                                                                                                                  (SV.box b_3 114
                                                                                                                    (SV.struct
                                                                                                                      [SV.int IntKind.i64 n_1, SV.slice s,
                                                                                                                        SV.struct
                                                                                                                          [SV.int IntKind.i64 n_2, SV.int IntKind.i64 n_3,
                                                                                                                            SV.bool b_1, SV.bool b_2, SV.int IntKind.i64 n_4,
                                                                                                                            SV.int IntKind.i64 n_5, SV.int IntKind.i64 n_6,
                                                                                                                            SV.struct
                                                                                                                              [SV.int IntKind.i64 n_7, SV.arr IntKind.u8 16 f],
                                                                                                                            SV.struct
                                                                                                                              [SV.int IntKind.i64 n_8, SV.arr IntKind.u8 16 f_1],
                                                                                                                            SV.slice s_1, SV.slice s_2],
                                                                                                                        SV.slice s_3])) ∧
                                                                                                              J_1 w1)))) →
                          J w1_1) →
                      Br (decide (n < (↑script.2 : Int))) (Br b (J w1) (R (SV.bool b) w1)) (R (SV.bool b) w1)
theorem f45_of (script : Sl) (lo : Int) (hi : Int) (w : World) (R : SV → World → Prop) (h : vc45 script lo hi w R) : Ret Tryd.prog 45 [.slice script, .int .i64 lo, .int .i64 hi] w R :=
  have e : vc45 script lo hi w R = fnVC X Tryd.f45 a45 [.slice script, .int .i64 lo, .int .i64 hi] w R := by kernel_rfl
  fnVC_sound X_ok (n := a45) (e ▸ h) (by kernel_rfl) (by kernel_rfl) rfl rfl

def vc9 (script : Sl) (w : World) (R : SV → World → Prop) : Prop :=
  Ret Tryd.prog 45 [SV.slice script, SV.int IntKind.i64 1, SV.int IntKind.i64 1] w fun (r : SV) (w1 : World) => ∃ (b : Bool), r = SV.bool b ∧ R (SV.bool b) w1
theorem f9_of (script : Sl) (w : World) (R : SV → World → Prop) (h : vc9 script w R) : Ret Tryd.prog 9 [.slice script] w R :=
  have e : vc9 script w R = fnVC X Tryd.f9 a9 [.slice script] w R := by kernel_rfl
  fnVC_sound X_ok (n := a9) (e ▸ h) (by kernel_rfl) (by kernel_rfl) rfl rfl

def vc10 (script : Sl) (w : World) (R : SV → World → Prop) : Prop :=
  Ret Tryd.prog 45 [SV.slice script, SV.int IntKind.i64 2, SV.int IntKind.i64 3] w fun (r : SV) (w1 : World) => ∃ (b : Bool), r = SV.bool b ∧ R (SV.bool b) w1
theorem f10_of (script : Sl) (w : World) (R : SV → World → Prop) (h : vc10 script w R) : Ret Tryd.prog 10 [.slice script] w R :=
  have e : vc10 script w R = fnVC X Tryd.f10 a10 [.slice script] w R := by kernel_rfl
  fnVC_sound X_ok (n := a10) (e ▸ h) (by kernel_rfl) (by kernel_rfl) rfl rfl

def vc11 (script : Sl) (w : World) (R : SV → World → Prop) : Prop :=
  Ret Tryd.prog 45 [SV.slice script, SV.int IntKind.i64 4, SV.int IntKind.i64 4] w fun (r : SV) (w1 : World) => ∃ (b : Bool), r = SV.bool b ∧ R (SV.bool b) w1
theorem f11_of (script : Sl) (w : World) (R : SV → World → Prop) (h : vc11 script w R) : Ret Tryd.prog 11 [.slice script] w R :=
  have e : vc11 script w R = fnVC X Tryd.f11 a11 [.slice script] w R := by kernel_rfl
  fnVC_sound X_ok (n := a11) (e ▸ h) (by kernel_rfl) (by kernel_rfl) rfl rfl

def vc12 (script : Sl) (w : World) (R : SV → World → Prop) : Prop :=
  Ret Tryd.prog 45 [SV.slice script, SV.int IntKind.i64 5, SV.int IntKind.i64 6] w fun (r : SV) (w1 : World) => ∃ (b : Bool), r = SV.bool b ∧ R (SV.bool b) w1
theorem f12_of (script : Sl) (w : World) (R : SV → World → Prop) (h : vc12 script w R) : Ret Tryd.prog 12 [.slice script] w R :=
  have e : vc12 script w R = fnVC X Tryd.f12 a12 [.slice script] w R := by kernel_rfl
  fnVC_sound X_ok (n := a12) (e ▸ h) (by kernel_rfl) (by kernel_rfl) rfl rfl

def vc13 (script : Sl) (w : World) (R : SV → World → Prop) : Prop :=
  Ret Tryd.prog 45 [SV.slice script, SV.int IntKind.i64 7, SV.int IntKind.i64 7] w fun (r : SV) (w1 : World) => ∃ (b : Bool), r = SV.bool b ∧ R (SV.bool b) w1
theorem f13_of (script : Sl) (w : World) (R : SV → World → Prop) (h : vc13 script w R) : Ret Tryd.prog 13 [.slice script] w R :=
  have e : vc13 script w R = fnVC X Tryd.f13 a13 [.slice script] w R := by kernel_rfl
  fnVC_sound X_ok (n := a13) (e ▸ h) (by kernel_rfl) (by kernel_rfl) rfl rfl

def vc14 (script : Sl) (w : World) (R : SV → World → Prop) : Prop :=
  Ret Tryd.prog 45 [SV.slice script, SV.int IntKind.i64 1, SV.int IntKind.i64 7] w fun (r : SV) (w1 : World) => ∃ (b : Bool), r = SV.bool b ∧ R (SV.bool b) w1
theorem f14_of (script : Sl) (w : World) (R : SV → World → Prop) (h : vc14 script w R) : Ret Tryd.prog 14 [.slice script] w R :=
  have e : vc14 script w R = fnVC X Tryd.f14 a14 [.slice script] w R := by kernel_rfl
  fnVC_sound X_ok (n := a14) (e ▸ h) (by kernel_rfl) (by kernel_rfl) rfl rfl

end Go.Vc.S6
