import Derived.Test.YtlohkdkgpajkaaaDoorG2
import Derived.Test.YtlohkdkgpajkaaaDoorG3
import Derived.KernelRfl
open Go Go.Vc Go.Vc.S6 Go.Proofs
set_option maxRecDepth 100000
set_option linter.unusedVariables false
namespace Go.Vc.S6
def vc4 (h_0 : Int) (h_1 : Int) (h_2 : Bool) (h_3 : Bool) (h_4 : Int) (h_5 : Int) (h_6 : Int) (h_7_0 : Int) (h_7_1 : Nat → Int) (h_8_0 : Int) (h_8_1 : Nat → Int) (h_9 : Sl) (h_10 : Sl) (bit : Int) (w : World) (R : SV → World → Prop) : Prop :=
  ∀ (b : Nat) (w1 : World),
    Upd [] [b] w w1 →
      Ret Tryd.prog 18 [] w1 fun (r : SV) (w1_1 : World) =>
        ∃ (b_1 : Bool),
          r = SV.bool b_1 ∧
            Keeps [b] w1 w1_1 ∧
              Ret Tryd.prog 25
                [SV.struct
                    [SV.int IntKind.i64 h_0, SV.int IntKind.i64 h_1, SV.bool h_2, SV.bool h_3, SV.int IntKind.i64 h_4, SV.int IntKind.i64 h_5, SV.int IntKind.i64 h_6,
                      SV.struct [SV.int IntKind.i64 h_7_0, SV.arr IntKind.u8 16 h_7_1], SV.struct [SV.int IntKind.i64 h_8_0, SV.arr IntKind.u8 16 h_8_1], SV.slice h_9,
                      SV.slice h_10]]
                w1_1 fun (r : SV) (w1 : World) =>
                ∃ (s : Sl),
                  ∃ (n : Int),
                    r = SV.tuple [SV.slice s, SV.int IntKind.i64 n] ∧
                      Keeps [b] w1_1 w1 ∧
                        ∀ (J : World → Prop),
                          (∀ (w1 : World),
                              Need (decide (0 ≤ wr IntKind.i64 (Int.tdiv bit 8)) && decide (wr IntKind.i64 (Int.tdiv bit 8) < (↑s.2 : Int)) && Option.isSome s.1)
                                  (∃ (n : Int),
                                    World.cell? w1 (Sl.at s 1 (Int.toNat (wr IntKind.i64 (Int.tdiv bit 8)))) = some (Value.int IntKind.u8 n) ∧
                                      Need (decide (0 ≤ Int.tmod bit 8))
                                        (Need (decide (0 ≤ wr IntKind.i64 (Int.tdiv bit 8)) && decide (wr IntKind.i64 (Int.tdiv bit 8) < (↑s.2 : Int)) && Option.isSome s.1)
                                          (∀ (w1_2 : World),
                                            Upd [] [] w1 w1_2 →
                                              Store w1_2 (Sl.at s 1 (Int.toNat (wr IntKind.i64 (Int.tdiv bit 8))))
                                                (SV.cells (SV.int IntKind.u8 (ixor IntKind.u8 n (gshr IntKind.u8 128 (Int.tmod bit 8))))) [b] fun (w1 : World) =>
                                                Ret Tryd.prog 20 [SV.slice s] w1 fun (r : SV) (w1_3 : World) =>
                                                  ∃ (n : Int),
                                                    ∃ (n_1 : Int),
                                                      ∃ (b_2 : Bool),
                                                        ∃ (b_3 : Bool),
                                                          ∃ (n_2 : Int),
                                                            ∃ (n_3 : Int),
                                                              ∃ (n_4 : Int),
                                                                ∃ (n_5 : Int),
                                                                  ∃ (f : Nat → Int),
                                                                    ∃ (n_6 : Int),
                                                                      ∃ (f_1 : Nat → Int),
                                                                        ∃ (s : Sl),
                                                                          ∃ (s_1 : Sl),
                                                                            ∃ (n_7 : Int),
                                                                              r =
                                                                                  SV.tuple
                                                                                    [SV.struct
                                                                                        [SV.int IntKind.i64 n, SV.int IntKind.i64 n_1, SV.bool b_2, SV.bool b_3,
                                                                                          SV.int IntKind.i64 n_2, SV.int IntKind.i64 n_3, SV.int IntKind.i64 n_4,
                                                                                          SV.struct [SV.int IntKind.i64 n_5, SV.arr IntKind.u8 16 f],
                                                                                          SV.struct [SV.int IntKind.i64 n_6, SV.arr IntKind.u8 16 f_1], SV.slice s, SV.slice s_1],
                                                                                      SV.int IntKind.i64 n_7] ∧
                                                                                Keeps [b] w1 w1_3 ∧
                                                                                  ∀ (b_4 : Nat) (w1 : World),
                                                                                    Upd [] [b_4] w1_3 w1 →
                                                                                      Ret Tryd.prog 21 [SV.int IntKind.i64 n_7] w1 fun (r : SV) (w1_4 : World) =>
                                                                                        ∃ (n : Int),
                                                                                          r = SV.int IntKind.i64 n ∧ Keeps [b, b_4] w1 w1_4 ∧ R (SV.bool (n != 0)) w1_4))) →
                                J w1) →
                            Br (!b_1) (R (SV.bool b_1) w1)
                              (Ret Tryd.prog 21 [SV.int IntKind.i64 n] w1 fun (r : SV) (w1_2 : World) =>
                                ∃ (n : Int),
                                  r = SV.int IntKind.i64 n ∧
                                    Keeps [b] w1 w1_2 ∧
                                      Br (n != 0) (R (SV.bool b_1) w1_2)
                                        (Br (decide (bit < 0)) (R (SV.bool b_1) w1_2)
                                          (Br (decide (bit ≥ wr IntKind.i64 (8 * wr IntKind.i64 ((↑s.2 : Int) - (↑h_10.2 : Int))))) (R (SV.bool b_1) w1_2)
                                            (Br (decide (bit ≥ 4))
                                              (Br (decide (bit < 8)) (R (SV.bool b_1) w1_2)
                                                (some
                                                      (SV.box b 30
                                                        (SV.struct
                                                          [SV.int IntKind.i64 h_0, SV.int IntKind.i64 h_1, SV.bool h_2, SV.bool h_3, SV.int IntKind.i64 h_4, SV.int IntKind.i64 h_5,
                                                            SV.int IntKind.i64 h_6, SV.struct [SV.int IntKind.i64 h_7_0, SV.arr IntKind.u8 16 h_7_1],
                                                            SV.struct [SV.int IntKind.i64 h_8_0, SV.arr IntKind.u8 16 h_8_1], SV.slice h_9, SV.slice h_10])) =
                                                    some
                                                      (SV.box b 30
                                                        (SV.struct
                                                          [SV.int IntKind.i64 h_0, SV.int IntKind.i64 h_1, SV.bool h_2, SV.bool h_3, SV.int IntKind.i64 h_4, SV.int IntKind.i64 h_5,
                                                            SV.int IntKind.i64 h_6, SV.struct [SV.int IntKind.i64 h_7_0, SV.arr IntKind.u8 16 h_7_1],
                                                            SV.struct [SV.int IntKind.i64 h_8_0, SV.arr IntKind.u8 16 h_8_1], SV.slice h_9, SV.slice h_10])) ∧
                                                  J w1_2))
                                              (some
                                                    (SV.box b 30
                                                      (SV.struct
                                                        [SV.int IntKind.i64 h_0, SV.int IntKind.i64 h_1, SV.bool h_2, SV.bool h_3, SV.int IntKind.i64 h_4, SV.int IntKind.i64 h_5,
                                                          SV.int IntKind.i64 h_6, SV.struct [SV.int IntKind.i64 h_7_0, SV.arr IntKind.u8 16 h_7_1],
                                                          SV.struct [SV.int IntKind.i64 h_8_0, SV.arr IntKind.u8 16 h_8_1], SV.slice h_9, SV.slice h_10])) =
                                                  some
                                                    (SV.box b 30
                                                      (SV.struct
                                                        [SV.int IntKind.i64 h_0, SV.int IntKind.i64 h_1, SV.bool h_2, SV.bool h_3, SV.int IntKind.i64 h_4, SV.int IntKind.i64 h_5,
                                                          SV.int IntKind.i64 h_6, SV.struct [SV.int IntKind.i64 h_7_0, SV.arr IntKind.u8 16 h_7_1],
                                                          SV.struct [SV.int IntKind.i64 h_8_0, SV.arr IntKind.u8 16 h_8_1], SV.slice h_9, SV.slice h_10])) ∧
                                                J w1_2)))))
theorem f4_of (h_0 : Int) (h_1 : Int) (h_2 : Bool) (h_3 : Bool) (h_4 : Int) (h_5 : Int) (h_6 : Int) (h_7_0 : Int) (h_7_1 : Nat → Int) (h_8_0 : Int) (h_8_1 : Nat → Int) (h_9 : Sl) (h_10 : Sl) (bit : Int) (w : World) (R : SV → World → Prop) (h : vc4 h_0 h_1 h_2 h_3 h_4 h_5 h_6 h_7_0 h_7_1 h_8_0 h_8_1 h_9 h_10 bit w R) : Ret Tryd.prog 4 [.struct [.int .i64 h_0, .int .i64 h_1, .bool h_2, .bool h_3, .int .i64 h_4, .int .i64 h_5, .int .i64 h_6, .struct [.int .i64 h_7_0, .arr .u8 16 h_7_1], .struct [.int .i64 h_8_0, .arr .u8 16 h_8_1], .slice h_9, .slice h_10], .int .i64 bit] w R :=
  have e : vc4 h_0 h_1 h_2 h_3 h_4 h_5 h_6 h_7_0 h_7_1 h_8_0 h_8_1 h_9 h_10 bit w R = fnVC X Tryd.f4 a4 [.struct [.int .i64 h_0, .int .i64 h_1, .bool h_2, .bool h_3, .int .i64 h_4, .int .i64 h_5, .int .i64 h_6, .struct [.int .i64 h_7_0, .arr .u8 16 h_7_1], .struct [.int .i64 h_8_0, .arr .u8 16 h_8_1], .slice h_9, .slice h_10], .int .i64 bit] w R := by kernel_rfl
  fnVC_sound X_ok (n := a4) (e ▸ h) (by kernel_rfl) (by kernel_rfl) rfl rfl

end Go.Vc.S6
