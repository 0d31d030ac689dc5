import Derived.Test.YtlohkdkgpajkaaaDoorG2
import Derived.Test.YtlohkdkgpajkaaaDoorG3
import Derived.KernelRfl
open Go Go.Vc Go.Vc.S6 Go.Proofs
set_option maxRecDepth 100000
set_option linter.unusedVariables false
namespace Go.Vc.S6
def vc7 (h_0 : Int) (h_1 : Int) (h_2 : Bool) (h_3 : Bool) (h_4 : Int) (h_5 : Int) (h_6 : Int) (h_7_0 : Int) (h_7_1 : Nat → Int) (h_8_0 : Int) (h_8_1 : Nat → Int) (h_9 : Sl) (h_10 : Sl) (w : World) (R : SV → World → Prop) : Prop :=
  ∀ (b : Nat) (w1 : World),
    Upd [] [b] w w1 →
      Ret Tryd.prog 18 [] w1 fun (r : SV) (w1_1 : World) =>
        ∃ (b_1 : Bool),
          r = SV.bool b_1 ∧
            Keeps [b] w1 w1_1 ∧
              Ret Tryd.prog 26
                [SV.struct
                    [SV.int IntKind.i64 h_0, SV.int IntKind.i64 h_1, SV.bool h_2, SV.bool h_3, SV.int IntKind.i64 h_4, SV.int IntKind.i64 h_5, SV.int IntKind.i64 h_6,
                      SV.struct [SV.int IntKind.i64 h_7_0, SV.arr IntKind.u8 16 h_7_1], SV.struct [SV.int IntKind.i64 h_8_0, SV.arr IntKind.u8 16 h_8_1], SV.slice h_9,
                      SV.slice h_10]]
                w1_1 fun (r : SV) (w1 : World) =>
                ∃ (n : Int),
                  ∃ (n_1 : Int),
                    ∃ (b_2 : Bool),
                      ∃ (b_3 : Bool),
                        ∃ (n_2 : Int),
                          ∃ (n_3 : Int),
                            ∃ (n_4 : Int),
                              ∃ (n_5 : Int),
                                ∃ (f : Nat → Int),
                                  ∃ (n_6 : Int),
                                    ∃ (f_1 : Nat → Int),
                                      ∃ (s : Sl),
                                        ∃ (s_1 : Sl),
                                          r =
                                              SV.struct
                                                [SV.int IntKind.i64 n, SV.int IntKind.i64 n_1, SV.bool b_2, SV.bool b_3, SV.int IntKind.i64 n_2, SV.int IntKind.i64 n_3,
                                                  SV.int IntKind.i64 n_4, SV.struct [SV.int IntKind.i64 n_5, SV.arr IntKind.u8 16 f],
                                                  SV.struct [SV.int IntKind.i64 n_6, SV.arr IntKind.u8 16 f_1], SV.slice s, SV.slice s_1] ∧
                                            Keeps [b] w1_1 w1 ∧
                                              ∀ (b_4 : Nat) (w1_2 : World),
                                                Upd [] [b_4] w1 w1_2 →
                                                  Ret Tryd.prog 25
                                                    [SV.struct
                                                        [SV.int IntKind.i64 h_0, SV.int IntKind.i64 h_1, SV.bool h_2, SV.bool h_3, SV.int IntKind.i64 h_4, SV.int IntKind.i64 h_5,
                                                          SV.int IntKind.i64 h_6, SV.struct [SV.int IntKind.i64 h_7_0, SV.arr IntKind.u8 16 h_7_1],
                                                          SV.struct [SV.int IntKind.i64 h_8_0, SV.arr IntKind.u8 16 h_8_1], SV.slice h_9, SV.slice h_10]]
                                                    w1_2 fun (r : SV) (w1 : World) =>
                                                    ∃ (s_2 : Sl),
                                                      ∃ (n_7 : Int),
                                                        r = SV.tuple [SV.slice s_2, SV.int IntKind.i64 n_7] ∧
                                                          Keeps [b, b_4] w1_2 w1 ∧
                                                            ∀ (J : World → Prop),
                                                              (∀ (w1 : World),
                                                                  (Ret Tryd.prog 21 [SV.int IntKind.i64 n_7] w1 fun (r : SV) (w1_3 : World) =>
                                                                      ∃ (n_8 : Int),
                                                                        r = SV.int IntKind.i64 n_8 ∧
                                                                          Keeps [b, b_4] w1 w1_3 ∧
                                                                            Br (n_8 != 0) (R (SV.bool ((↑s_2.2 : Int) == 0)) w1_3)
                                                                              (Br (decide ((↑s_2.2 : Int) < (↑h_10.2 : Int))) (R (SV.bool false) w1_3)
                                                                                (Ret Tryd.prog 20 [SV.slice s_2] w1_3 fun (r : SV) (w1 : World) =>
                                                                                  ∃ (n_9 : Int),
                                                                                    ∃ (n_10 : Int),
                                                                                      ∃ (b_5 : Bool),
                                                                                        ∃ (b_6 : Bool),
                                                                                          ∃ (n_11 : Int),
                                                                                            ∃ (n_12 : Int),
                                                                                              ∃ (n_13 : Int),
                                                                                                ∃ (n_14 : Int),
                                                                                                  ∃ (f_2 : Nat → Int),
                                                                                                    ∃ (n_15 : Int),
                                                                                                      ∃ (f_3 : Nat → Int),
                                                                                                        ∃ (s_3 : Sl),
                                                                                                          ∃ (s_4 : Sl),
                                                                                                            ∃ (n_16 : Int),
                                                                                                              r =
                                                                                                                  SV.tuple
                                                                                                                    [SV.struct
                                                                                                                        [SV.int IntKind.i64 n_9, SV.int IntKind.i64 n_10, SV.bool b_5,
                                                                                                                          SV.bool b_6, SV.int IntKind.i64 n_11,
                                                                                                                          SV.int IntKind.i64 n_12, SV.int IntKind.i64 n_13,
                                                                                                                          SV.struct
                                                                                                                            [SV.int IntKind.i64 n_14, SV.arr IntKind.u8 16 f_2],
                                                                                                                          SV.struct
                                                                                                                            [SV.int IntKind.i64 n_15, SV.arr IntKind.u8 16 f_3],
                                                                                                                          SV.slice s_3, SV.slice s_4],
                                                                                                                      SV.int IntKind.i64 n_16] ∧
                                                                                                                Keeps [b, b_4] w1_3 w1 ∧
                                                                                                                  ∀ (b_7 : Nat) (w1_4 : World),
                                                                                                                    Upd [] [b_7] w1 w1_4 →
                                                                                                                      Ret Tryd.prog 21 [SV.int IntKind.i64 n_16] w1_4
                                                                                                                        fun (r : SV) (w1 : World) =>
                                                                                                                        ∃ (n_17 : Int),
                                                                                                                          r = SV.int IntKind.i64 n_17 ∧
                                                                                                                            Keeps [b, b_4, b_7] w1_4 w1 ∧
                                                                                                                              Br (n_17 == 0)
                                                                                                                                (Ret Tryd.prog 29
                                                                                                                                  [SV.struct
                                                                                                                                      [SV.int IntKind.i64 n_9,
                                                                                                                                        SV.int IntKind.i64 n_10, SV.bool b_5,
                                                                                                                                        SV.bool b_6, SV.int IntKind.i64 n_11,
                                                                                                                                        SV.int IntKind.i64 n_12,
                                                                                                                                        SV.int IntKind.i64 n_13,
                                                                                                                                        SV.struct
                                                                                                                                          [SV.int IntKind.i64 n_14,
                                                                                                                                            SV.arr IntKind.u8 16 f_2],
                                                                                                                                        SV.struct
                                                                                                                                          [SV.int IntKind.i64 n_15,
                                                                                                                                            SV.arr IntKind.u8 16 f_3],
                                                                                                                                        SV.slice s_3, SV.slice s_4],
                                                                                                                                    SV.struct
                                                                                                                                      [SV.int IntKind.i64 n, SV.int IntKind.i64 n_1,
                                                                                                                                        SV.bool b_2, SV.bool b_3,
                                                                                                                                        SV.int IntKind.i64 n_2,
                                                                                                                                        SV.int IntKind.i64 n_3,
                                                                                                                                        SV.int IntKind.i64 n_4,
                                                                                                                                        SV.struct
                                                                                                                                          [SV.int IntKind.i64 n_5,
                                                                                                                                            SV.arr IntKind.u8 16 f],
                                                                                                                                        SV.struct
                                                                                                                                          [SV.int IntKind.i64 n_6,
                                                                                                                                            SV.arr IntKind.u8 16 f_1],
                                                                                                                                        SV.slice s, SV.slice s_1]]
                                                                                                                                  w1 fun (r : SV) (w1_5 : World) =>
                                                                                                                                  ∃ (b_8 : Bool),
                                                                                                                                    r = SV.bool b_8 ∧
                                                                                                                                      Keeps [b, b_4, b_7] w1 w1_5 ∧
                                                                                                                                        Br b_8
                                                                                                                                          (Ret Tryd.prog 43 [SV.slice s_2] w1_5
                                                                                                                                            fun (r : SV) (w1 : World) =>
                                                                                                                                            ∃ (b_9 : Bool),
                                                                                                                                              r = SV.bool b_9 ∧
                                                                                                                                                Keeps [b, b_4, b_7] w1_5 w1 ∧
                                                                                                                                                  Br b_9
                                                                                                                                                    (Need
                                                                                                                                                      (decide
                                                                                                                                                          (0 ≤
                                                                                                                                                            wr IntKind.i64
                                                                                                                                                              ((↑s_2.2 : Int) -
                                                                                                                                                                (↑h_10.2 : Int))) &&
                                                                                                                                                        decide
                                                                                                                                                          (wr IntKind.i64
                                                                                                                                                              ((↑s_2.2 : Int) -
                                                                                                                                                                (↑h_10.2 : Int)) ≤
                                                                                                                                                            (↑s_2.3 : Int)))
                                                                                                                                                      (∀ (b_10 : Nat) (w1_6 : World),
                                                                                                                                                        Upd [] [b_10] w1 w1_6 →
                                                                                                                                                          (World.heap w1_6)[b_10]? =
                                                                                                                                                              some
                                                                                                                                                                (Obj.cells
                                                                                                                                                                  {
                                                                                                                                                                    toList :=
                                                                                                                                                                      SV.cells
                                                                                                                                                                        (SV.struct
                                                                                                                                                                          [SV.slice
                                                                                                                                                                              (Sl.sub
                                                                                                                                                                                s_2 1
                                                                                                                                                                                0
                                                                                                                                                                                (Int.toNat
                                                                                                                                                                                  (wr
                                                                                                                                                                                    IntKind.i64
                                                                                                                                                                                    ((↑s_2.2 :
                                                                                                                                                                                        Int) -
                                                                                                                                                                                      (↑h_10.2 :
                                                                                                                                                                                        Int))))
                                                                                                                                                                                s_2.3)]) }
                                                                                                                                                                  22) →
                                                                                                                                                            Ret Tryd.prog 44
                                                                                                                                                              [SV.slice
                                                                                                                                                                  {
                                                                                                                                                                    ptr :=
                                                                                                                                                                      some
                                                                                                                                                                        {
                                                                                                                                                                          block :=
                                                                                                                                                                            b_10,
                                                                                                                                                                          off := 0 },
                                                                                                                                                                    len := 1,
                                                                                                                                                                    cap := 1 }]
                                                                                                                                                              w1_6
                                                                                                                                                              fun (r : SV)
                                                                                                                                                                (w1 : World) =>
                                                                                                                                                              ∃ (b_11 : Bool),
                                                                                                                                                                r = SV.bool b_11 ∧
                                                                                                                                                                  Keeps [b, b_4, b_7]
                                                                                                                                                                      w1_6 w1 ∧
                                                                                                                                                                    R (SV.bool b_11)
                                                                                                                                                                      w1))
                                                                                                                                                    (R (SV.bool false) w1))
                                                                                                                                          (R (SV.bool false) w1_5))
                                                                                                                                (R (SV.bool false) w1)))) →
                                                                    J w1) →
                                                                Br (!b_1) (∀ (w1_3 : World), Upd [] [] w1 w1_3 → R (SV.bool false) w1_3)
                                                                  (∀ (w1_3 : World),
                                                                    Upd [] [] w1 w1_3 →
                                                                      Ret Tryd.prog 21 [SV.int IntKind.i64 n_7] w1_3 fun (r : SV) (w1_4 : World) =>
                                                                        ∃ (n_8 : Int),
                                                                          r = SV.int IntKind.i64 n_8 ∧
                                                                            Keeps [b, b_4] w1_3 w1_4 ∧
                                                                              Upd [] [] w1 w1_4 ∧
                                                                                Ret Tryd.prog 33
                                                                                  [SV.struct
                                                                                      [SV.int IntKind.i64 h_0, SV.int IntKind.i64 h_1, SV.bool h_2, SV.bool h_3,
                                                                                        SV.int IntKind.i64 h_4, SV.int IntKind.i64 h_5, SV.int IntKind.i64 h_6,
                                                                                        SV.struct [SV.int IntKind.i64 h_7_0, SV.arr IntKind.u8 16 h_7_1],
                                                                                        SV.struct [SV.int IntKind.i64 h_8_0, SV.arr IntKind.u8 16 h_8_1], SV.slice h_9,
                                                                                        SV.slice h_10]]
                                                                                  w1_4 fun (r : SV) (w1 : World) =>
                                                                                  ∃ (n_9 : Int),
                                                                                    r = SV.int IntKind.i64 n_9 ∧
                                                                                      Keeps [b, b_4] w1_4 w1 ∧
                                                                                        Ret Tryd.prog 21 [SV.int IntKind.i64 n_9] w1 fun (r : SV) (w1_5 : World) =>
                                                                                          ∃ (n_10 : Int),
                                                                                            r = SV.int IntKind.i64 n_10 ∧
                                                                                              Keeps [b, b_4] w1 w1_5 ∧
                                                                                                Br (n_8 != n_10) (R (SV.bool false) w1_5)
                                                                                                  (some
                                                                                                        (SV.box b 30
                                                                                                          (SV.struct
                                                                                                            [SV.int IntKind.i64 h_0, SV.int IntKind.i64 h_1, SV.bool h_2, SV.bool h_3,
                                                                                                              SV.int IntKind.i64 h_4, SV.int IntKind.i64 h_5, SV.int IntKind.i64 h_6,
                                                                                                              SV.struct [SV.int IntKind.i64 h_7_0, SV.arr IntKind.u8 16 h_7_1],
                                                                                                              SV.struct [SV.int IntKind.i64 h_8_0, SV.arr IntKind.u8 16 h_8_1],
                                                                                                              SV.slice h_9, SV.slice h_10])) =
                                                                                                      some
                                                                                                        (SV.box b 30
                                                                                                          (SV.struct
                                                                                                            [SV.int IntKind.i64 h_0, SV.int IntKind.i64 h_1, SV.bool h_2, SV.bool h_3,
                                                                                                              SV.int IntKind.i64 h_4, SV.int IntKind.i64 h_5, SV.int IntKind.i64 h_6,
                                                                                                              SV.struct [SV.int IntKind.i64 h_7_0, SV.arr IntKind.u8 16 h_7_1],
                                                                                                              SV.struct [SV.int IntKind.i64 h_8_0, SV.arr IntKind.u8 16 h_8_1],
                                                                                                              SV.slice h_9, SV.slice h_10])) ∧
                                                                                                    some
                                                                                                          (SV.box b_4 30
                                                                                                            (SV.struct
                                                                                                              [SV.int IntKind.i64 n, SV.int IntKind.i64 n_1, SV.bool b_2, SV.bool b_3,
                                                                                                                SV.int IntKind.i64 n_2, SV.int IntKind.i64 n_3,
                                                                                                                SV.int IntKind.i64 n_4,
                                                                                                                SV.struct [SV.int IntKind.i64 n_5, SV.arr IntKind.u8 16 f],
                                                                                                                SV.struct [SV.int IntKind.i64 n_6, SV.arr IntKind.u8 16 f_1],
                                                                                                                SV.slice s, SV.slice s_1])) =
                                                                                                        some
                                                                                                          (SV.box b_4 30
                                                                                                            (SV.struct
                                                                                                              [SV.int IntKind.i64 n, SV.int IntKind.i64 n_1, SV.bool b_2, SV.bool b_3,
                                                                                                                SV.int IntKind.i64 n_2, SV.int IntKind.i64 n_3,
                                                                                                                SV.int IntKind.i64 n_4,
                                                                                                                SV.struct [SV.int IntKind.i64 n_5, SV.arr IntKind.u8 16 f],
                                                                                                                SV.struct [SV.int IntKind.i64 n_6, SV.arr IntKind.u8 16 f_1],
                                                                                                                SV.slice s, SV.slice s_1])) ∧
                                                                                                      J w1_5))
theorem f7_of (h_0 : Int) (h_1 : Int) (h_2 : Bool) (h_3 : Bool) (h_4 : Int) (h_5 : Int) (h_6 : Int) (h_7_0 : Int) (h_7_1 : Nat → Int) (h_8_0 : Int) (h_8_1 : Nat → Int) (h_9 : Sl) (h_10 : Sl) (w : World) (R : SV → World → Prop) (h : vc7 h_0 h_1 h_2 h_3 h_4 h_5 h_6 h_7_0 h_7_1 h_8_0 h_8_1 h_9 h_10 w R) : Ret Tryd.prog 7 [.struct [.int .i64 h_0, .int .i64 h_1, .bool h_2, .bool h_3, .int .i64 h_4, .int .i64 h_5, .int .i64 h_6, .struct [.int .i64 h_7_0, .arr .u8 16 h_7_1], .struct [.int .i64 h_8_0, .arr .u8 16 h_8_1], .slice h_9, .slice h_10]] w R :=
  have e : vc7 h_0 h_1 h_2 h_3 h_4 h_5 h_6 h_7_0 h_7_1 h_8_0 h_8_1 h_9 h_10 w R = fnVC X Tryd.f7 a7 [.struct [.int .i64 h_0, .int .i64 h_1, .bool h_2, .bool h_3, .int .i64 h_4, .int .i64 h_5, .int .i64 h_6, .struct [.int .i64 h_7_0, .arr .u8 16 h_7_1], .struct [.int .i64 h_8_0, .arr .u8 16 h_8_1], .slice h_9, .slice h_10]] w R := by kernel_rfl
  fnVC_sound X_ok (n := a7) (e ▸ h) (by kernel_rfl) (by kernel_rfl) rfl rfl

end Go.Vc.S6
