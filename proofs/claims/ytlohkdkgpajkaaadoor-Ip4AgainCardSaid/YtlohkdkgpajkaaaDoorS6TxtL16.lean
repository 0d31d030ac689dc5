import Derived.Test.YtlohkdkgpajkaaaDoorG2
import Derived.Test.YtlohkdkgpajkaaaDoorG3
import Derived.KernelRfl
open Go Go.Vc Go.Vc.S6 Go.Proofs
set_option maxRecDepth 100000
set_option linter.unusedVariables false
namespace Go.Vc.S6
def vc16 (h_0 : Int) (h_1 : Int) (h_2 : Bool) (h_3 : Bool) (h_4 : Int) (h_5 : Int) (h_6 : Int) (h_7_0 : Int) (h_7_1 : Nat → Int) (h_8_0 : Int) (h_8_1 : Nat → Int) (h_9 : Sl) (h_10 : Sl) (w : World) (R : SV → World → Prop) : Prop :=
  ∀ (b : Nat) (w1 : World),
    Upd [] [b] w w1 →
      Ret Tryd.prog 18 [] w1 fun (r : SV) (w1_1 : World) =>
        ∃ (b_1 : Bool),
          r = SV.bool b_1 ∧
            Keeps [b] w1 w1_1 ∧
              Ret Tryd.prog 25
                [SV.struct
                    [SV.int IntKind.i64 h_0, SV.int IntKind.i64 h_1, SV.bool h_2, SV.bool h_3, SV.int IntKind.i64 h_4, SV.int IntKind.i64 h_5, SV.int IntKind.i64 h_6,
                      SV.struct [SV.int IntKind.i64 h_7_0, SV.arr IntKind.u8 16 h_7_1], SV.struct [SV.int IntKind.i64 h_8_0, SV.arr IntKind.u8 16 h_8_1], SV.slice h_9,
                      SV.slice h_10]]
                w1_1 fun (r : SV) (w1 : World) =>
                ∃ (s : Sl),
                  ∃ (n : Int),
                    r = SV.tuple [SV.slice s, SV.int IntKind.i64 n] ∧
                      Keeps [b] w1_1 w1 ∧
                        ∀ (J : World → Prop),
                          (∀ (w1 : World),
                              (∀ (J : Int → World → Prop),
                                  (∀ (n : Int) (w1 : World),
                                      (∀ (J : Int → World → Prop),
                                          (∀ (n_1 : Int) (w1 : World),
                                              Br (n == n_1)
                                                  (Ret Tryd.prog 46 [SV.slice s] w1 fun (r : SV) (w1_2 : World) =>
                                                    ∃ (n : Int),
                                                      r = SV.int IntKind.i64 n ∧
                                                        Keeps [b] w1 w1_2 ∧
                                                          Ret Tryd.prog 21 [SV.int IntKind.i64 n] w1_2 fun (r : SV) (w1 : World) =>
                                                            ∃ (n : Int),
                                                              r = SV.int IntKind.i64 n ∧
                                                                Keeps [b] w1_2 w1 ∧
                                                                  Br (n == 67)
                                                                    (Ret Tryd.prog 43 [SV.slice s] w1 fun (r : SV) (w1_3 : World) =>
                                                                      ∃ (b_2 : Bool), r = SV.bool b_2 ∧ Keeps [b] w1 w1_3 ∧ R (SV.bool b_2) w1_3)
                                                                    (R (SV.bool false) w1))
                                                  (R (SV.bool false) w1) →
                                                J n_1 w1) →
                                            Br (decide (wr IntKind.i64 (h_5 - 1) < 0))
                                              (some
                                                    (SV.box b 30
                                                      (SV.struct
                                                        [SV.int IntKind.i64 h_0, SV.int IntKind.i64 h_1, SV.bool h_2, SV.bool h_3, SV.int IntKind.i64 h_4, SV.int IntKind.i64 h_5,
                                                          SV.int IntKind.i64 h_6, SV.struct [SV.int IntKind.i64 h_7_0, SV.arr IntKind.u8 16 h_7_1],
                                                          SV.struct [SV.int IntKind.i64 h_8_0, SV.arr IntKind.u8 16 h_8_1], SV.slice h_9, SV.slice h_10])) =
                                                  some
                                                    (SV.box b 30
                                                      (SV.struct
                                                        [SV.int IntKind.i64 h_0, SV.int IntKind.i64 h_1, SV.bool h_2, SV.bool h_3, SV.int IntKind.i64 h_4, SV.int IntKind.i64 h_5,
                                                          SV.int IntKind.i64 h_6, SV.struct [SV.int IntKind.i64 h_7_0, SV.arr IntKind.u8 16 h_7_1],
                                                          SV.struct [SV.int IntKind.i64 h_8_0, SV.arr IntKind.u8 16 h_8_1], SV.slice h_9, SV.slice h_10])) ∧
                                                J 0 w1)
                                              (some
                                                    (SV.box b 30
                                                      (SV.struct
                                                        [SV.int IntKind.i64 h_0, SV.int IntKind.i64 h_1, SV.bool h_2, SV.bool h_3, SV.int IntKind.i64 h_4, SV.int IntKind.i64 h_5,
                                                          SV.int IntKind.i64 h_6, SV.struct [SV.int IntKind.i64 h_7_0, SV.arr IntKind.u8 16 h_7_1],
                                                          SV.struct [SV.int IntKind.i64 h_8_0, SV.arr IntKind.u8 16 h_8_1], SV.slice h_9, SV.slice h_10])) =
                                                  some
                                                    (SV.box b 30
                                                      (SV.struct
                                                        [SV.int IntKind.i64 h_0, SV.int IntKind.i64 h_1, SV.bool h_2, SV.bool h_3, SV.int IntKind.i64 h_4, SV.int IntKind.i64 h_5,
                                                          SV.int IntKind.i64 h_6, SV.struct [SV.int IntKind.i64 h_7_0, SV.arr IntKind.u8 16 h_7_1],
                                                          SV.struct [SV.int IntKind.i64 h_8_0, SV.arr IntKind.u8 16 h_8_1], SV.slice h_9, SV.slice h_10])) ∧
                                                J (wr IntKind.i64 (h_5 - 1)) w1)) →
                                        J n w1) →
                                    ∃ (I : Int → World → Prop),
                                      ∃ (M : Int → World → Nat),
                                        I 0 w1 ∧
                                          ∀ (n : Int) (w1 : World),
                                            I n w1 →
                                              ∀ (J_1 : World → Prop),
                                                (∀ (w1_2 : World),
                                                    some
                                                            (SV.box b 30
                                                              (SV.struct
                                                                [SV.int IntKind.i64 h_0, SV.int IntKind.i64 h_1, SV.bool h_2, SV.bool h_3, SV.int IntKind.i64 h_4,
                                                                  SV.int IntKind.i64 h_5, SV.int IntKind.i64 h_6, SV.struct [SV.int IntKind.i64 h_7_0, SV.arr IntKind.u8 16 h_7_1],
                                                                  SV.struct [SV.int IntKind.i64 h_8_0, SV.arr IntKind.u8 16 h_8_1], SV.slice h_9, SV.slice h_10])) =
                                                          some
                                                            (SV.box b 30
                                                              (SV.struct
                                                                [SV.int IntKind.i64 h_0, SV.int IntKind.i64 h_1, SV.bool h_2, SV.bool h_3, SV.int IntKind.i64 h_4,
                                                                  SV.int IntKind.i64 h_5, SV.int IntKind.i64 h_6, SV.struct [SV.int IntKind.i64 h_7_0, SV.arr IntKind.u8 16 h_7_1],
                                                                  SV.struct [SV.int IntKind.i64 h_8_0, SV.arr IntKind.u8 16 h_8_1], SV.slice h_9, SV.slice h_10])) ∧
                                                        I (wr IntKind.i64 (n + 1)) w1_2 ∧ M (wr IntKind.i64 (n + 1)) w1_2 < M n w1 →
                                                      J_1 w1_2) →
                                                  Br (decide (n < 256))
                                                    (Ret Tryd.prog 46 [SV.slice s] w1 fun (r : SV) (w1_2 : World) =>
                                                      ∃ (n_1 : Int),
                                                        r = SV.int IntKind.i64 n_1 ∧
                                                          Keeps [b] w1 w1_2 ∧
                                                            Ret Tryd.prog 21 [SV.int IntKind.i64 n_1] w1_2 fun (r : SV) (w1 : World) =>
                                                              ∃ (n_2 : Int),
                                                                r = SV.int IntKind.i64 n_2 ∧
                                                                  Keeps [b] w1_2 w1 ∧
                                                                    Br (n_2 == 0)
                                                                      (some
                                                                            (SV.box b 30
                                                                              (SV.struct
                                                                                [SV.int IntKind.i64 h_0, SV.int IntKind.i64 h_1, SV.bool h_2, SV.bool h_3, SV.int IntKind.i64 h_4,
                                                                                  SV.int IntKind.i64 h_5, SV.int IntKind.i64 h_6,
                                                                                  SV.struct [SV.int IntKind.i64 h_7_0, SV.arr IntKind.u8 16 h_7_1],
                                                                                  SV.struct [SV.int IntKind.i64 h_8_0, SV.arr IntKind.u8 16 h_8_1], SV.slice h_9, SV.slice h_10])) =
                                                                          some
                                                                            (SV.box b 30
                                                                              (SV.struct
                                                                                [SV.int IntKind.i64 h_0, SV.int IntKind.i64 h_1, SV.bool h_2, SV.bool h_3, SV.int IntKind.i64 h_4,
                                                                                  SV.int IntKind.i64 h_5, SV.int IntKind.i64 h_6,
                                                                                  SV.struct [SV.int IntKind.i64 h_7_0, SV.arr IntKind.u8 16 h_7_1],
                                                                                  SV.struct [SV.int IntKind.i64 h_8_0, SV.arr IntKind.u8 16 h_8_1], SV.slice h_9, SV.slice h_10])) ∧
                                                                        J_1 w1)
                                                                      (some
                                                                            (SV.box b 30
                                                                              (SV.struct
                                                                                [SV.int IntKind.i64 h_0, SV.int IntKind.i64 h_1, SV.bool h_2, SV.bool h_3, SV.int IntKind.i64 h_4,
                                                                                  SV.int IntKind.i64 h_5, SV.int IntKind.i64 h_6,
                                                                                  SV.struct [SV.int IntKind.i64 h_7_0, SV.arr IntKind.u8 16 h_7_1],
                                                                                  SV.struct [SV.int IntKind.i64 h_8_0, SV.arr IntKind.u8 16 h_8_1], SV.slice h_9, SV.slice h_10])) =
                                                                          some
                                                                            (SV.box b 30
                                                                              (SV.struct
                                                                                [SV.int IntKind.i64 h_0, SV.int IntKind.i64 h_1, SV.bool h_2, SV.bool h_3, SV.int IntKind.i64 h_4,
                                                                                  SV.int IntKind.i64 h_5, SV.int IntKind.i64 h_6,
                                                                                  SV.struct [SV.int IntKind.i64 h_7_0, SV.arr IntKind.u8 16 h_7_1],
                                                                                  SV.struct [SV.int IntKind.i64 h_8_0, SV.arr IntKind.u8 16 h_8_1], SV.slice h_9, SV.slice h_10])) ∧
                                                                        J n w1))
                                                    (some
                                                          (SV.box b 30
                                                            (SV.struct
                                                              [SV.int IntKind.i64 h_0, SV.int IntKind.i64 h_1, SV.bool h_2, SV.bool h_3, SV.int IntKind.i64 h_4,
                                                                SV.int IntKind.i64 h_5, SV.int IntKind.i64 h_6, SV.struct [SV.int IntKind.i64 h_7_0, SV.arr IntKind.u8 16 h_7_1],
                                                                SV.struct [SV.int IntKind.i64 h_8_0, SV.arr IntKind.u8 16 h_8_1], SV.slice h_9, SV.slice h_10])) =
                                                        some
                                                          (SV.box b 30
                                                            (SV.struct
                                                              [SV.int IntKind.i64 h_0, SV.int IntKind.i64 h_1, SV.bool h_2, SV.bool h_3, SV.int IntKind.i64 h_4,
                                                                SV.int IntKind.i64 h_5, SV.int IntKind.i64 h_6, SV.struct [SV.int IntKind.i64 h_7_0, SV.arr IntKind.u8 16 h_7_1],
                                                                SV.struct [SV.int IntKind.i64 h_8_0, SV.arr IntKind.u8 16 h_8_1], SV.slice h_9, SV.slice h_10])) ∧
                                                      J n w1)) →
                                J w1) →
                            Br (!b_1) (R (SV.bool b_1) w1)
                              (Ret Tryd.prog 21 [SV.int IntKind.i64 n] w1 fun (r : SV) (w1_2 : World) =>
                                ∃ (n : Int),
                                  r = SV.int IntKind.i64 n ∧
                                    Keeps [b] w1 w1_2 ∧
                                      Br (n != 0) (R (SV.bool b_1) w1_2)
                                        (some
                                              (SV.box b 30
                                                (SV.struct
                                                  [SV.int IntKind.i64 h_0, SV.int IntKind.i64 h_1, SV.bool h_2, SV.bool h_3, SV.int IntKind.i64 h_4, SV.int IntKind.i64 h_5,
                                                    SV.int IntKind.i64 h_6, SV.struct [SV.int IntKind.i64 h_7_0, SV.arr IntKind.u8 16 h_7_1],
                                                    SV.struct [SV.int IntKind.i64 h_8_0, SV.arr IntKind.u8 16 h_8_1], SV.slice h_9, SV.slice h_10])) =
                                            some
                                              (SV.box b 30
                                                (SV.struct
                                                  [SV.int IntKind.i64 h_0, SV.int IntKind.i64 h_1, SV.bool h_2, SV.bool h_3, SV.int IntKind.i64 h_4, SV.int IntKind.i64 h_5,
                                                    SV.int IntKind.i64 h_6, SV.struct [SV.int IntKind.i64 h_7_0, SV.arr IntKind.u8 16 h_7_1],
                                                    SV.struct [SV.int IntKind.i64 h_8_0, SV.arr IntKind.u8 16 h_8_1], SV.slice h_9, SV.slice h_10])) ∧
                                          J w1_2))
theorem f16_of (h_0 : Int) (h_1 : Int) (h_2 : Bool) (h_3 : Bool) (h_4 : Int) (h_5 : Int) (h_6 : Int) (h_7_0 : Int) (h_7_1 : Nat → Int) (h_8_0 : Int) (h_8_1 : Nat → Int) (h_9 : Sl) (h_10 : Sl) (w : World) (R : SV → World → Prop) (h : vc16 h_0 h_1 h_2 h_3 h_4 h_5 h_6 h_7_0 h_7_1 h_8_0 h_8_1 h_9 h_10 w R) : Ret Tryd.prog 16 [.struct [.int .i64 h_0, .int .i64 h_1, .bool h_2, .bool h_3, .int .i64 h_4, .int .i64 h_5, .int .i64 h_6, .struct [.int .i64 h_7_0, .arr .u8 16 h_7_1], .struct [.int .i64 h_8_0, .arr .u8 16 h_8_1], .slice h_9, .slice h_10]] w R :=
  have e : vc16 h_0 h_1 h_2 h_3 h_4 h_5 h_6 h_7_0 h_7_1 h_8_0 h_8_1 h_9 h_10 w R = fnVC X Tryd.f16 a16 [.struct [.int .i64 h_0, .int .i64 h_1, .bool h_2, .bool h_3, .int .i64 h_4, .int .i64 h_5, .int .i64 h_6, .struct [.int .i64 h_7_0, .arr .u8 16 h_7_1], .struct [.int .i64 h_8_0, .arr .u8 16 h_8_1], .slice h_9, .slice h_10]] w R := by kernel_rfl
  fnVC_sound X_ok (n := a16) (e ▸ h) (by kernel_rfl) (by kernel_rfl) rfl rfl

end Go.Vc.S6
