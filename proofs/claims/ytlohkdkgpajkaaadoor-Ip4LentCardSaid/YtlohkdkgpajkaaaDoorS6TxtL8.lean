import Derived.Test.YtlohkdkgpajkaaaDoorG2
import Derived.Test.YtlohkdkgpajkaaaDoorG3
import Derived.KernelRfl
open Go Go.Vc Go.Vc.S6 Go.Proofs
set_option maxRecDepth 100000
set_option linter.unusedVariables false
namespace Go.Vc.S6
def vc8 (b : Sl) (w : World) (R : SV → World → Prop) : Prop :=
  Ret Tryd.prog 18 [] w fun (r : SV) (w1 : World) =>
    ∃ (b_1 : Bool),
      r = SV.bool b_1 ∧
        Ret Tryd.prog 20 [SV.slice b] w1 fun (r : SV) (w1 : World) =>
          ∃ (n : Int),
            ∃ (n_1 : Int),
              ∃ (b_2 : Bool),
                ∃ (b_3 : Bool),
                  ∃ (n_2 : Int),
                    ∃ (n_3 : Int),
                      ∃ (n_4 : Int),
                        ∃ (n_5 : Int),
                          ∃ (f : Nat → Int),
                            ∃ (n_6 : Int),
                              ∃ (f_1 : Nat → Int),
                                ∃ (s : Sl),
                                  ∃ (s_1 : Sl),
                                    ∃ (n_7 : Int),
                                      r =
                                          SV.tuple
                                            [SV.struct
                                                [SV.int IntKind.i64 n, SV.int IntKind.i64 n_1, SV.bool b_2, SV.bool b_3, SV.int IntKind.i64 n_2, SV.int IntKind.i64 n_3,
                                                  SV.int IntKind.i64 n_4, SV.struct [SV.int IntKind.i64 n_5, SV.arr IntKind.u8 16 f],
                                                  SV.struct [SV.int IntKind.i64 n_6, SV.arr IntKind.u8 16 f_1], SV.slice s, SV.slice s_1],
                                              SV.int IntKind.i64 n_7] ∧
                                        ∀ (b_4 : Nat) (J : World → Prop),
                                          (∀ (w1 : World),
                                              (Ret Tryd.prog 25
                                                  [SV.struct
                                                      [SV.int IntKind.i64 n, SV.int IntKind.i64 n_1, SV.bool b_2, SV.bool b_3, SV.int IntKind.i64 n_2, SV.int IntKind.i64 n_3,
                                                        SV.int IntKind.i64 n_4, SV.struct [SV.int IntKind.i64 n_5, SV.arr IntKind.u8 16 f],
                                                        SV.struct [SV.int IntKind.i64 n_6, SV.arr IntKind.u8 16 f_1], SV.slice s, SV.slice s_1]]
                                                  w1 fun (r : SV) (w1_1 : World) =>
                                                  ∃ (s_2 : Sl),
                                                    ∃ (n_8 : Int),
                                                      r = SV.tuple [SV.slice s_2, SV.int IntKind.i64 n_8] ∧
                                                        Keeps [b_4] w1 w1_1 ∧
                                                          Ret Tryd.prog 20 [SV.slice s_2] w1_1 fun (r : SV) (w1 : World) =>
                                                            ∃ (n_9 : Int),
                                                              ∃ (n_10 : Int),
                                                                ∃ (b_5 : Bool),
                                                                  ∃ (b_6 : Bool),
                                                                    ∃ (n_11 : Int),
                                                                      ∃ (n_12 : Int),
                                                                        ∃ (n_13 : Int),
                                                                          ∃ (n_14 : Int),
                                                                            ∃ (f_2 : Nat → Int),
                                                                              ∃ (n_15 : Int),
                                                                                ∃ (f_3 : Nat → Int),
                                                                                  ∃ (s_3 : Sl),
                                                                                    ∃ (s_4 : Sl),
                                                                                      ∃ (n_16 : Int),
                                                                                        r =
                                                                                            SV.tuple
                                                                                              [SV.struct
                                                                                                  [SV.int IntKind.i64 n_9, SV.int IntKind.i64 n_10, SV.bool b_5, SV.bool b_6,
                                                                                                    SV.int IntKind.i64 n_11, SV.int IntKind.i64 n_12, SV.int IntKind.i64 n_13,
                                                                                                    SV.struct [SV.int IntKind.i64 n_14, SV.arr IntKind.u8 16 f_2],
                                                                                                    SV.struct [SV.int IntKind.i64 n_15, SV.arr IntKind.u8 16 f_3], SV.slice s_3,
                                                                                                    SV.slice s_4],
                                                                                                SV.int IntKind.i64 n_16] ∧
                                                                                          Keeps [b_4] w1_1 w1 ∧
                                                                                            ∀ (b_7 : Nat) (J : World → Prop),
                                                                                              (∀ (w1 : World),
                                                                                                  Br (decide ((↑s_2.2 : Int) ≤ (↑b.2 : Int)))
                                                                                                      (Ret Tryd.prog 43 [SV.slice b] w1 fun (r : SV) (w1_2 : World) =>
                                                                                                        ∃ (b_8 : Bool),
                                                                                                          r = SV.bool b_8 ∧
                                                                                                            Keeps [b_4, b_7] w1 w1_2 ∧
                                                                                                              Ret Tryd.prog 24 [SV.slice b, SV.slice s_2] w1_2
                                                                                                                fun (r : SV) (w1 : World) =>
                                                                                                                ∃ (b : Bool),
                                                                                                                  r = SV.bool b ∧
                                                                                                                    Keeps [b_4, b_7] w1_2 w1 ∧ R (SV.bool (b_8 == b)) w1)
                                                                                                      (R (SV.bool false) w1) →
                                                                                                    J w1) →
                                                                                                ∀ (w1_2 : World),
                                                                                                  Upd [] [b_7] w1 w1_2 →
                                                                                                    Ret Tryd.prog 33
                                                                                                      [SV.struct
                                                                                                          [SV.int IntKind.i64 n, SV.int IntKind.i64 n_1, SV.bool b_2, SV.bool b_3,
                                                                                                            SV.int IntKind.i64 n_2, SV.int IntKind.i64 n_3, SV.int IntKind.i64 n_4,
                                                                                                            SV.struct [SV.int IntKind.i64 n_5, SV.arr IntKind.u8 16 f],
                                                                                                            SV.struct [SV.int IntKind.i64 n_6, SV.arr IntKind.u8 16 f_1], SV.slice s,
                                                                                                            SV.slice s_1]]
                                                                                                      w1_2 fun (r : SV) (w1 : World) =>
                                                                                                      ∃ (n_17 : Int),
                                                                                                        r = SV.int IntKind.i64 n_17 ∧
                                                                                                          Keeps [b_4, b_7] w1_2 w1 ∧
                                                                                                            Ret Tryd.prog 21 [SV.int IntKind.i64 n_17] w1
                                                                                                              fun (r : SV) (w1_3 : World) =>
                                                                                                              ∃ (n_18 : Int),
                                                                                                                r = SV.int IntKind.i64 n_18 ∧
                                                                                                                  Keeps [b_4, b_7] w1 w1_3 ∧
                                                                                                                    Br (n_18 != 0) (R (SV.bool false) w1_3)
                                                                                                                      (Ret Tryd.prog 21 [SV.int IntKind.i64 n_8] w1_3
                                                                                                                        fun (r : SV) (w1 : World) =>
                                                                                                                        ∃ (n_19 : Int),
                                                                                                                          r = SV.int IntKind.i64 n_19 ∧
                                                                                                                            Keeps [b_4, b_7] w1_3 w1 ∧
                                                                                                                              Br (n_19 != 0) (R (SV.bool false) w1)
                                                                                                                                (Ret Tryd.prog 21 [SV.int IntKind.i64 n_16] w1
                                                                                                                                  fun (r : SV) (w1_4 : World) =>
                                                                                                                                  ∃ (n_20 : Int),
                                                                                                                                    r = SV.int IntKind.i64 n_20 ∧
                                                                                                                                      Keeps [b_4, b_7] w1 w1_4 ∧
                                                                                                                                        Br (n_20 != 0) (R (SV.bool false) w1_4)
                                                                                                                                          (Ret Tryd.prog 29
                                                                                                                                            [SV.struct
                                                                                                                                                [SV.int IntKind.i64 n_9,
                                                                                                                                                  SV.int IntKind.i64 n_10,
                                                                                                                                                  SV.bool b_5, SV.bool b_6,
                                                                                                                                                  SV.int IntKind.i64 n_11,
                                                                                                                                                  SV.int IntKind.i64 n_12,
                                                                                                                                                  SV.int IntKind.i64 n_13,
                                                                                                                                                  SV.struct
                                                                                                                                                    [SV.int IntKind.i64 n_14,
                                                                                                                                                      SV.arr IntKind.u8 16 f_2],
                                                                                                                                                  SV.struct
                                                                                                                                                    [SV.int IntKind.i64 n_15,
                                                                                                                                                      SV.arr IntKind.u8 16 f_3],
                                                                                                                                                  SV.slice s_3, SV.slice s_4],
                                                                                                                                              SV.struct
                                                                                                                                                [SV.int IntKind.i64 n,
                                                                                                                                                  SV.int IntKind.i64 n_1, SV.bool b_2,
                                                                                                                                                  SV.bool b_3, SV.int IntKind.i64 n_2,
                                                                                                                                                  SV.int IntKind.i64 n_3,
                                                                                                                                                  SV.int IntKind.i64 n_4,
                                                                                                                                                  SV.struct
                                                                                                                                                    [SV.int IntKind.i64 n_5,
                                                                                                                                                      SV.arr IntKind.u8 16 f],
                                                                                                                                                  SV.struct
                                                                                                                                                    [SV.int IntKind.i64 n_6,
                                                                                                                                                      SV.arr IntKind.u8 16 f_1],
                                                                                                                                                  SV.slice s, SV.slice s_1]]
                                                                                                                                            w1_4 fun (r : SV) (w1 : World) =>
                                                                                                                                            ∃ (b : Bool),
                                                                                                                                              r = SV.bool b ∧
                                                                                                                                                Keeps [b_4, b_7] w1_4 w1 ∧
                                                                                                                                                  Br (!b) (R (SV.bool false) w1)
                                                                                                                                                    (Ret Tryd.prog 43 [SV.slice s_2]
                                                                                                                                                      w1
                                                                                                                                                      fun (r : SV) (w1_5 : World) =>
                                                                                                                                                      ∃ (b : Bool),
                                                                                                                                                        r = SV.bool b ∧
                                                                                                                                                          Keeps [b_4, b_7] w1 w1_5 ∧
                                                                                                                                                            Br (!b)
                                                                                                                                                              (R (SV.bool false) w1_5)
                                                                                                                                                              (some
                                                                                                                                                                    (SV.box b_4 30
                                                                                                                                                                      (SV.struct
                                                                                                                                                                        [SV.int
                                                                                                                                                                            IntKind.i64
                                                                                                                                                                            n,
                                                                                                                                                                          SV.int
                                                                                                                                                                            IntKind.i64
                                                                                                                                                                            n_1,
                                                                                                                                                                          SV.bool b_2,
                                                                                                                                                                          SV.bool b_3,
                                                                                                                                                                          SV.int
                                                                                                                                                                            IntKind.i64
                                                                                                                                                                            n_2,
                                                                                                                                                                          SV.int
                                                                                                                                                                            IntKind.i64
                                                                                                                                                                            n_3,
                                                                                                                                                                          SV.int
                                                                                                                                                                            IntKind.i64
                                                                                                                                                                            n_4,
                                                                                                                                                                          SV.struct
                                                                                                                                                                            [SV.int
                                                                                                                                                                                IntKind.i64
                                                                                                                                                                                n_5,
                                                                                                                                                                              SV.arr
                                                                                                                                                                                IntKind.u8
                                                                                                                                                                                16 f],
                                                                                                                                                                          SV.struct
                                                                                                                                                                            [SV.int
                                                                                                                                                                                IntKind.i64
                                                                                                                                                                                n_6,
                                                                                                                                                                              SV.arr
                                                                                                                                                                                IntKind.u8
                                                                                                                                                                                16
                                                                                                                                                                                f_1],
                                                                                                                                                                          SV.slice s,
                                                                                                                                                                          SV.slice
                                                                                                                                                                            s_1])) =
                                                                                                                                                                  some
                                                                                                                                                                    (SV.box b_4 30
                                                                                                                                                                      (SV.struct
                                                                                                                                                                        [SV.int
                                                                                                                                                                            IntKind.i64
                                                                                                                                                                            n,
                                                                                                                                                                          SV.int
                                                                                                                                                                            IntKind.i64
                                                                                                                                                                            n_1,
                                                                                                                                                                          SV.bool b_2,
                                                                                                                                                                          SV.bool b_3,
                                                                                                                                                                          SV.int
                                                                                                                                                                            IntKind.i64
                                                                                                                                                                            n_2,
                                                                                                                                                                          SV.int
                                                                                                                                                                            IntKind.i64
                                                                                                                                                                            n_3,
                                                                                                                                                                          SV.int
                                                                                                                                                                            IntKind.i64
                                                                                                                                                                            n_4,
                                                                                                                                                                          SV.struct
                                                                                                                                                                            [SV.int
                                                                                                                                                                                IntKind.i64
                                                                                                                                                                                n_5,
                                                                                                                                                                              SV.arr
                                                                                                                                                                                IntKind.u8
                                                                                                                                                                                16 f],
                                                                                                                                                                          SV.struct
                                                                                                                                                                            [SV.int
                                                                                                                                                                                IntKind.i64
                                                                                                                                                                                n_6,
                                                                                                                                                                              SV.arr
                                                                                                                                                                                IntKind.u8
                                                                                                                                                                                16
                                                                                                                                                                                f_1],
                                                                                                                                                                          SV.slice s,
                                                                                                                                                                          SV.slice
                                                                                                                                                                            s_1])) ∧
                                                                                                                                                                some
                                                                                                                                                                      (SV.box b_7 30
                                                                                                                                                                        (SV.struct
                                                                                                                                                                          [SV.int
                                                                                                                                                                              IntKind.i64
                                                                                                                                                                              n_9,
                                                                                                                                                                            SV.int
                                                                                                                                                                              IntKind.i64
                                                                                                                                                                              n_10,
                                                                                                                                                                            SV.bool
                                                                                                                                                                              b_5,
                                                                                                                                                                            SV.bool
                                                                                                                                                                              b_6,
                                                                                                                                                                            SV.int
                                                                                                                                                                              IntKind.i64
                                                                                                                                                                              n_11,
                                                                                                                                                                            SV.int
                                                                                                                                                                              IntKind.i64
                                                                                                                                                                              n_12,
                                                                                                                                                                            SV.int
                                                                                                                                                                              IntKind.i64
                                                                                                                                                                              n_13,
                                                                                                                                                                            SV.struct
                                                                                                                                                                              [SV.int
                                                                                                                                                                                  IntKind.i64
                                                                                                                                                                                  n_14,
                                                                                                                                                                                SV.arr
                                                                                                                                                                                  IntKind.u8
                                                                                                                                                                                  16
                                                                                                                                                                                  f_2],
                                                                                                                                                                            SV.struct
                                                                                                                                                                              [SV.int
                                                                                                                                                                                  IntKind.i64
                                                                                                                                                                                  n_15,
                                                                                                                                                                                SV.arr
                                                                                                                                                                                  IntKind.u8
                                                                                                                                                                                  16
                                                                                                                                                                                  f_3],
                                                                                                                                                                            SV.slice
                                                                                                                                                                              s_3,
                                                                                                                                                                            SV.slice
                                                                                                                                                                              s_4])) =
                                                                                                                                                                    some
                                                                                                                                                                      (SV.box b_7 30
                                                                                                                                                                        (SV.struct
                                                                                                                                                                          [SV.int
                                                                                                                                                                              IntKind.i64
                                                                                                                                                                              n_9,
                                                                                                                                                                            SV.int
                                                                                                                                                                              IntKind.i64
                                                                                                                                                                              n_10,
                                                                                                                                                                            SV.bool
                                                                                                                                                                              b_5,
                                                                                                                                                                            SV.bool
                                                                                                                                                                              b_6,
                                                                                                                                                                            SV.int
                                                                                                                                                                              IntKind.i64
                                                                                                                                                                              n_11,
                                                                                                                                                                            SV.int
                                                                                                                                                                              IntKind.i64
                                                                                                                                                                              n_12,
                                                                                                                                                                            SV.int
                                                                                                                                                                              IntKind.i64
                                                                                                                                                                              n_13,
                                                                                                                                                                            SV.struct
                                                                                                                                                                              [SV.int
                                                                                                                                                                                  IntKind.i64
                                                                                                                                                                                  n_14,
                                                                                                                                                                                SV.arr
                                                                                                                                                                                  IntKind.u8
                                                                                                                                                                                  16
                                                                                                                                                                                  f_2],
                                                                                                                                                                            SV.struct
                                                                                                                                                                              [SV.int
                                                                                                                                                                                  IntKind.i64
                                                                                                                                                                                  n_15,
                                                                                                                                                                                SV.arr
                                                                                                                                                                                  IntKind.u8
                                                                                                                                                                                  16
                                                                                                                                                                                  f_3],
                                                                                                                                                                            SV.slice
                                                                                                                                                                              s_3,
                                                                                                                                                                            SV.slice
                                                                                                                                                                              s_4])) ∧
                                                                                                                                                                  J w1_5)))))) →
                                                J w1) →
                                            Br (!b_1)
                                              (Br b_1
                                                (∀ (w1_1 : World),
                                                  Upd [] [b_4] w1 w1_1 →
                                                    Ret Tryd.prog 29
                                                      [SV.struct
                                                          [SV.int IntKind.i64 n, SV.int IntKind.i64 n_1, SV.bool b_2, SV.bool b_3, SV.int IntKind.i64 n_2, SV.int IntKind.i64 n_3,
                                                            SV.int IntKind.i64 n_4, SV.struct [SV.int IntKind.i64 n_5, SV.arr IntKind.u8 16 f],
                                                            SV.struct [SV.int IntKind.i64 n_6, SV.arr IntKind.u8 16 f_1], SV.slice s, SV.slice s_1],
                                                        SV.struct
                                                          [SV.int IntKind.i64 0, SV.int IntKind.i64 0, SV.bool false, SV.bool false, SV.int IntKind.i64 0, SV.int IntKind.i64 0,
                                                            SV.int IntKind.i64 0, SV.struct [SV.int IntKind.i64 0, SV.arr IntKind.u8 16 fun (x : Nat) => 0],
                                                            SV.struct [SV.int IntKind.i64 0, SV.arr IntKind.u8 16 fun (x : Nat) => 0], SV.slice { ptr := none, len := 0, cap := 0 },
                                                            SV.slice { ptr := none, len := 0, cap := 0 }]]
                                                      w1_1 fun (r : SV) (w1 : World) =>
                                                      ∃ (b_5 : Bool),
                                                        r = SV.bool b_5 ∧
                                                          Keeps [b_4] w1_1 w1 ∧
                                                            Br b_5
                                                              (Ret Tryd.prog 43 [SV.slice b] w1 fun (r : SV) (w1_2 : World) =>
                                                                ∃ (b : Bool), r = SV.bool b ∧ Keeps [b_4] w1 w1_2 ∧ R (SV.bool !b) w1_2)
                                                              (R (SV.bool false) w1))
                                                (∀ (w1_1 : World), Upd [] [b_4] w1 w1_1 → R (SV.bool false) w1_1))
                                              (∀ (w1_1 : World),
                                                Upd [] [b_4] w1 w1_1 →
                                                  Ret Tryd.prog 21 [SV.int IntKind.i64 n_7] w1_1 fun (r : SV) (w1 : World) =>
                                                    ∃ (n_8 : Int),
                                                      r = SV.int IntKind.i64 n_8 ∧
                                                        Keeps [b_4] w1_1 w1 ∧
                                                          Br (n_8 != 0)
                                                            (Br b_1
                                                              (Ret Tryd.prog 29
                                                                [SV.struct
                                                                    [SV.int IntKind.i64 n, SV.int IntKind.i64 n_1, SV.bool b_2, SV.bool b_3, SV.int IntKind.i64 n_2,
                                                                      SV.int IntKind.i64 n_3, SV.int IntKind.i64 n_4, SV.struct [SV.int IntKind.i64 n_5, SV.arr IntKind.u8 16 f],
                                                                      SV.struct [SV.int IntKind.i64 n_6, SV.arr IntKind.u8 16 f_1], SV.slice s, SV.slice s_1],
                                                                  SV.struct
                                                                    [SV.int IntKind.i64 0, SV.int IntKind.i64 0, SV.bool false, SV.bool false, SV.int IntKind.i64 0,
                                                                      SV.int IntKind.i64 0, SV.int IntKind.i64 0,
                                                                      SV.struct [SV.int IntKind.i64 0, SV.arr IntKind.u8 16 fun (x : Nat) => 0],
                                                                      SV.struct [SV.int IntKind.i64 0, SV.arr IntKind.u8 16 fun (x : Nat) => 0],
                                                                      SV.slice { ptr := none, len := 0, cap := 0 }, SV.slice { ptr := none, len := 0, cap := 0 }]]
                                                                w1 fun (r : SV) (w1_2 : World) =>
                                                                ∃ (b_5 : Bool),
                                                                  r = SV.bool b_5 ∧
                                                                    Keeps [b_4] w1 w1_2 ∧
                                                                      Br b_5
                                                                        (Ret Tryd.prog 43 [SV.slice b] w1_2 fun (r : SV) (w1 : World) =>
                                                                          ∃ (b : Bool), r = SV.bool b ∧ Keeps [b_4] w1_2 w1 ∧ R (SV.bool !b) w1)
                                                                        (R (SV.bool false) w1_2))
                                                              (R (SV.bool false) w1))
                                                            (some
                                                                  (SV.box b_4 30
                                                                    (SV.struct
                                                                      [SV.int IntKind.i64 n, SV.int IntKind.i64 n_1, SV.bool b_2, SV.bool b_3, SV.int IntKind.i64 n_2,
                                                                        SV.int IntKind.i64 n_3, SV.int IntKind.i64 n_4, SV.struct [SV.int IntKind.i64 n_5, SV.arr IntKind.u8 16 f],
                                                                        SV.struct [SV.int IntKind.i64 n_6, SV.arr IntKind.u8 16 f_1], SV.slice s, SV.slice s_1])) =
                                                                some
                                                                  (SV.box b_4 30
                                                                    (SV.struct
                                                                      [SV.int IntKind.i64 n, SV.int IntKind.i64 n_1, SV.bool b_2, SV.bool b_3, SV.int IntKind.i64 n_2,
                                                                        SV.int IntKind.i64 n_3, SV.int IntKind.i64 n_4, SV.struct [SV.int IntKind.i64 n_5, SV.arr IntKind.u8 16 f],
                                                                        SV.struct [SV.int IntKind.i64 n_6, SV.arr IntKind.u8 16 f_1], SV.slice s, SV.slice s_1])) ∧
                                                              J w1))
theorem f8_of (b : Sl) (w : World) (R : SV → World → Prop) (h : vc8 b w R) : Ret Tryd.prog 8 [.slice b] w R :=
  have e : vc8 b w R = fnVC X Tryd.f8 a8 [.slice b] w R := by kernel_rfl
  fnVC_sound X_ok (n := a8) (e ▸ h) (by kernel_rfl) (by kernel_rfl) rfl rfl

end Go.Vc.S6
