import Derived.Test.YtncgcdicadibbaaAnnr2
import Derived.Test.YtncgcdicadibbaaNum
import Derived.KernelRfl
open Go Go.Vc Go.Vc.S2 Go.Proofs
set_option maxRecDepth 100000
set_option linter.unusedVariables false
namespace Go.Vc.S2
def vc7 (src_0 : Int) (src_1 : Nat → Int) (dst_0 : Int) (dst_1 : Nat → Int) (proto : Int) (n : Int) (w : World) (R : SV → World → Prop) : Prop :=
  ∀ (b b_1 b_2 : Nat) (w1 : World),
    Upd [] [b_2, b_1, b] w w1 →
      Ret Try.prog 26
        [SV.struct [SV.int IntKind.i64 4, SV.arr IntKind.u8 16 fun (x : Nat) => 0], SV.struct [SV.int IntKind.i64 4, SV.arr IntKind.u8 16 fun (x : Nat) => 0], SV.int IntKind.i64 17,
          SV.int IntKind.i64 1]
        w1 fun (r : SV) (w1_1 : World) =>
        ∃ (s : Sl),
          ∃ (n_1 : Int),
            r = SV.tuple [SV.slice s, SV.int IntKind.i64 n_1] ∧
              Keeps [b, b_1, b_2] w1 w1_1 ∧
                ∀ (J : World → Prop),
                  (∀ (w1 : World),
                      (Ret Try.prog 26
                          [SV.struct [SV.int IntKind.i64 src_0, SV.arr IntKind.u8 16 src_1], SV.struct [SV.int IntKind.i64 dst_0, SV.arr IntKind.u8 16 dst_1],
                            SV.int IntKind.i64 proto, SV.int IntKind.i64 n]
                          w1 fun (r : SV) (w1_2 : World) =>
                          ∃ (s_1 : Sl),
                            ∃ (n_2 : Int),
                              r = SV.tuple [SV.slice s_1, SV.int IntKind.i64 n_2] ∧
                                Keeps [b, b_1, b_2] w1 w1_2 ∧
                                  Ret Try.prog 27
                                    [SV.struct [SV.int IntKind.i64 src_0, SV.arr IntKind.u8 16 src_1], SV.struct [SV.int IntKind.i64 dst_0, SV.arr IntKind.u8 16 dst_1],
                                      SV.int IntKind.i64 proto, SV.int IntKind.i64 n]
                                    w1_2 fun (r : SV) (w1 : World) =>
                                    ∃ (s_2 : Sl),
                                      ∃ (n_3 : Int),
                                        r = SV.tuple [SV.slice s_2, SV.int IntKind.i64 n_3] ∧
                                          Keeps [b, b_1, b_2] w1_2 w1 ∧
                                            ∀ (J : World → Prop),
                                              (∀ (w1 : World),
                                                  (∃ (I : Int → World → Prop),
                                                      ∃ (M : Int → World → Nat),
                                                        I 0 w1 ∧
                                                          ∀ (n_4 : Int) (w1 : World),
                                                            I n_4 w1 →
                                                              Br (decide (n_4 < (↑s.2 : Int)))
                                                                (Need (decide (0 ≤ n_4) && decide (n_4 < (↑s.2 : Int)) && Option.isSome s.1)
                                                                  (Store w1 (Sl.at s 1 (Int.toNat n_4)) (SV.cells (SV.int IntKind.u8 77)) [b, b_1, b_2] fun (w1_3 : World) =>
                                                                    some (SV.box b 41 (SV.struct [SV.int IntKind.i64 src_0, SV.arr IntKind.u8 16 src_1])) =
                                                                        some (SV.box b 41 (SV.struct [SV.int IntKind.i64 src_0, SV.arr IntKind.u8 16 src_1])) ∧
                                                                      some (SV.box b_1 41 (SV.struct [SV.int IntKind.i64 dst_0, SV.arr IntKind.u8 16 dst_1])) =
                                                                          some (SV.box b_1 41 (SV.struct [SV.int IntKind.i64 dst_0, SV.arr IntKind.u8 16 dst_1])) ∧
                                                                        some (SV.box b_2 41 (SV.struct [SV.int IntKind.i64 4, SV.arr IntKind.u8 16 fun (x : Nat) => 0])) =
                                                                            some (SV.box b_2 41 (SV.struct [SV.int IntKind.i64 4, SV.arr IntKind.u8 16 fun (x : Nat) => 0])) ∧
                                                                          I (wr IntKind.i64 (n_4 + 1)) w1_3 ∧ M (wr IntKind.i64 (n_4 + 1)) w1_3 < M n_4 w1))
                                                                (∃ (I : Int → World → Prop),
                                                                  ∃ (M : Int → World → Nat),
                                                                    I 0 w1 ∧
                                                                      ∀ (n_5 : Int) (w1 : World),
                                                                        I n_5 w1 →
                                                                          Br (decide (n_5 < (↑s_1.2 : Int)))
                                                                            (Need (decide (0 ≤ n_5) && decide (n_5 < (↑s_1.2 : Int)) && Option.isSome s_1.1)
                                                                              (Store w1 (Sl.at s_1 1 (Int.toNat n_5)) (SV.cells (SV.int IntKind.u8 78)) [b, b_1, b_2]
                                                                                fun (w1_3 : World) =>
                                                                                some (SV.box b 41 (SV.struct [SV.int IntKind.i64 src_0, SV.arr IntKind.u8 16 src_1])) =
                                                                                    some (SV.box b 41 (SV.struct [SV.int IntKind.i64 src_0, SV.arr IntKind.u8 16 src_1])) ∧
                                                                                  some (SV.box b_1 41 (SV.struct [SV.int IntKind.i64 dst_0, SV.arr IntKind.u8 16 dst_1])) =
                                                                                      some (SV.box b_1 41 (SV.struct [SV.int IntKind.i64 dst_0, SV.arr IntKind.u8 16 dst_1])) ∧
                                                                                    some (SV.box b_2 41 (SV.struct [SV.int IntKind.i64 4, SV.arr IntKind.u8 16 fun (x : Nat) => 0])) =
                                                                                        some
                                                                                          (SV.box b_2 41
                                                                                            (SV.struct [SV.int IntKind.i64 4, SV.arr IntKind.u8 16 fun (x : Nat) => 0])) ∧
                                                                                      I (wr IntKind.i64 (n_5 + 1)) w1_3 ∧ M (wr IntKind.i64 (n_5 + 1)) w1_3 < M n_5 w1))
                                                                            (∀ (b_3 : Nat) (w1_3 : World),
                                                                              Upd [] [b_3] w1 w1_3 →
                                                                                (World.heap w1_3)[b_3]? =
                                                                                    some
                                                                                      (Obj.cells { toList := SV.cells (SV.struct [SV.int IntKind.u8 77, SV.int IntKind.u8 77]) } 5) →
                                                                                  Vc.Append 5 1 1 s { ptr := some { block := b_3, off := 0 }, len := 2, cap := 2 } [b, b_1, b_2] w1_3
                                                                                    fun (r : Sl) (w : World) =>
                                                                                    ∀ (b_4 : Nat) (w1 : World),
                                                                                      Upd [] [b_4] w w1 →
                                                                                        (World.heap w1)[b_4]? =
                                                                                            some
                                                                                              (Obj.cells
                                                                                                { toList := SV.cells (SV.struct [SV.int IntKind.u8 78, SV.int IntKind.u8 78]) } 5) →
                                                                                          Vc.Append 5 1 1 s_1 { ptr := some { block := b_4, off := 0 }, len := 2, cap := 2 }
                                                                                            [b, b_1, b_2] w1 fun (r_1 : Sl) (w : World) =>
                                                                                            Ret Try.prog 26
                                                                                              [SV.struct [SV.int IntKind.i64 src_0, SV.arr IntKind.u8 16 src_1],
                                                                                                SV.struct [SV.int IntKind.i64 dst_0, SV.arr IntKind.u8 16 dst_1],
                                                                                                SV.int IntKind.i64 proto, SV.int IntKind.i64 n]
                                                                                              w fun (r_2 : SV) (w1 : World) =>
                                                                                              ∃ (s : Sl),
                                                                                                ∃ (n : Int),
                                                                                                  r_2 = SV.tuple [SV.slice s, SV.int IntKind.i64 n] ∧
                                                                                                    Keeps [b, b_1, b_2] w w1 ∧
                                                                                                      ∀ (J : World → Prop),
                                                                                                        (∀ (w1 : World),
                                                                                                            (∃ (I : Int → World → Prop),
                                                                                                                ∃ (M : Int → World → Nat),
                                                                                                                  I 0 w1 ∧
                                                                                                                    ∀ (n : Int) (w1 : World),
                                                                                                                      I n w1 →
                                                                                                                        Br (decide (n < (↑r.2 : Int)))
                                                                                                                          (Need
                                                                                                                            (decide (0 ≤ n) && decide (n < (↑r.2 : Int)) &&
                                                                                                                              Option.isSome r.1)
                                                                                                                            (∃ (n_6 : Int),
                                                                                                                              World.cell? w1 (Sl.at r 1 (Int.toNat n)) =
                                                                                                                                  some (Value.int IntKind.u8 n_6) ∧
                                                                                                                                Br (n_6 != 77) (R (SV.bool false) w1)
                                                                                                                                  (some
                                                                                                                                        (SV.box b 41
                                                                                                                                          (SV.struct
                                                                                                                                            [SV.int IntKind.i64 src_0,
                                                                                                                                              SV.arr IntKind.u8 16 src_1])) =
                                                                                                                                      some
                                                                                                                                        (SV.box b 41
                                                                                                                                          (SV.struct
                                                                                                                                            [SV.int IntKind.i64 src_0,
                                                                                                                                              SV.arr IntKind.u8 16 src_1])) ∧
                                                                                                                                    some
                                                                                                                                          (SV.box b_1 41
                                                                                                                                            (SV.struct
                                                                                                                                              [SV.int IntKind.i64 dst_0,
                                                                                                                                                SV.arr IntKind.u8 16 dst_1])) =
                                                                                                                                        some
                                                                                                                                          (SV.box b_1 41
                                                                                                                                            (SV.struct
                                                                                                                                              [SV.int IntKind.i64 dst_0,
                                                                                                                                                SV.arr IntKind.u8 16 dst_1])) ∧
                                                                                                                                      some
                                                                                                                                            (SV.box b_2 41
                                                                                                                                              (SV.struct
                                                                                                                                                [SV.int IntKind.i64 4,
                                                                                                                                                  SV.arr IntKind.u8 16
                                                                                                                                                    fun (x : Nat) => 0])) =
                                                                                                                                          some
                                                                                                                                            (SV.box b_2 41
                                                                                                                                              (SV.struct
                                                                                                                                                [SV.int IntKind.i64 4,
                                                                                                                                                  SV.arr IntKind.u8 16
                                                                                                                                                    fun (x : Nat) => 0])) ∧
                                                                                                                                        I (wr IntKind.i64 (n + 1)) w1 ∧
                                                                                                                                          M (wr IntKind.i64 (n + 1)) w1 < M n w1)))
                                                                                                                          (∃ (I : Int → World → Prop),
                                                                                                                            ∃ (M : Int → World → Nat),
                                                                                                                              I 0 w1 ∧
                                                                                                                                ∀ (n : Int) (w1 : World),
                                                                                                                                  I n w1 →
                                                                                                                                    Br (decide (n < (↑r_1.2 : Int)))
                                                                                                                                      (Need
                                                                                                                                        (decide (0 ≤ n) &&
                                                                                                                                            decide (n < (↑r_1.2 : Int)) &&
                                                                                                                                          Option.isSome r_1.1)
                                                                                                                                        (∃ (n_6 : Int),
                                                                                                                                          World.cell? w1 (Sl.at r_1 1 (Int.toNat n)) =
                                                                                                                                              some (Value.int IntKind.u8 n_6) ∧
                                                                                                                                            Br (n_6 != 78) (R (SV.bool false) w1)
                                                                                                                                              (some
                                                                                                                                                    (SV.box b 41
                                                                                                                                                      (SV.struct
                                                                                                                                                        [SV.int IntKind.i64 src_0,
                                                                                                                                                          SV.arr IntKind.u8 16
                                                                                                                                                            src_1])) =
                                                                                                                                                  some
                                                                                                                                                    (SV.box b 41
                                                                                                                                                      (SV.struct
                                                                                                                                                        [SV.int IntKind.i64 src_0,
                                                                                                                                                          SV.arr IntKind.u8 16
                                                                                                                                                            src_1])) ∧
                                                                                                                                                some
                                                                                                                                                      (SV.box b_1 41
                                                                                                                                                        (SV.struct
                                                                                                                                                          [SV.int IntKind.i64 dst_0,
                                                                                                                                                            SV.arr IntKind.u8 16
                                                                                                                                                              dst_1])) =
                                                                                                                                                    some
                                                                                                                                                      (SV.box b_1 41
                                                                                                                                                        (SV.struct
                                                                                                                                                          [SV.int IntKind.i64 dst_0,
                                                                                                                                                            SV.arr IntKind.u8 16
                                                                                                                                                              dst_1])) ∧
                                                                                                                                                  some
                                                                                                                                                        (SV.box b_2 41
                                                                                                                                                          (SV.struct
                                                                                                                                                            [SV.int IntKind.i64 4,
                                                                                                                                                              SV.arr IntKind.u8 16
                                                                                                                                                                fun (x : Nat) =>
                                                                                                                                                                0])) =
                                                                                                                                                      some
                                                                                                                                                        (SV.box b_2 41
                                                                                                                                                          (SV.struct
                                                                                                                                                            [SV.int IntKind.i64 4,
                                                                                                                                                              SV.arr IntKind.u8 16
                                                                                                                                                                fun (x : Nat) =>
                                                                                                                                                                0])) ∧
                                                                                                                                                    I (wr IntKind.i64 (n + 1)) w1 ∧
                                                                                                                                                      M (wr IntKind.i64 (n + 1)) w1 <
                                                                                                                                                        M n w1)))
                                                                                                                                      (R (SV.bool true) w1))) →
                                                                                                              J w1) →
                                                                                                          Br (n != n_3) (R (SV.bool false) w1)
                                                                                                            (Ret Try.prog 22 [SV.slice s, SV.slice s_2] w1
                                                                                                              fun (r : SV) (w1_4 : World) =>
                                                                                                              ∃ (b_5 : Bool),
                                                                                                                r = SV.bool b_5 ∧
                                                                                                                  Keeps [b, b_1, b_2] w1 w1_4 ∧
                                                                                                                    Br (!b_5) (R (SV.bool false) w1_4)
                                                                                                                      (some
                                                                                                                            (SV.box b 41
                                                                                                                              (SV.struct
                                                                                                                                [SV.int IntKind.i64 src_0,
                                                                                                                                  SV.arr IntKind.u8 16 src_1])) =
                                                                                                                          some
                                                                                                                            (SV.box b 41
                                                                                                                              (SV.struct
                                                                                                                                [SV.int IntKind.i64 src_0,
                                                                                                                                  SV.arr IntKind.u8 16 src_1])) ∧
                                                                                                                        some
                                                                                                                              (SV.box b_1 41
                                                                                                                                (SV.struct
                                                                                                                                  [SV.int IntKind.i64 dst_0,
                                                                                                                                    SV.arr IntKind.u8 16 dst_1])) =
                                                                                                                            some
                                                                                                                              (SV.box b_1 41
                                                                                                                                (SV.struct
                                                                                                                                  [SV.int IntKind.i64 dst_0,
                                                                                                                                    SV.arr IntKind.u8 16 dst_1])) ∧
                                                                                                                          some
                                                                                                                                (SV.box b_2 41
                                                                                                                                  (SV.struct
                                                                                                                                    [SV.int IntKind.i64 4,
                                                                                                                                      SV.arr IntKind.u8 16 fun (x : Nat) => 0])) =
                                                                                                                              some
                                                                                                                                (SV.box b_2 41
                                                                                                                                  (SV.struct
                                                                                                                                    [SV.int IntKind.i64 4,
                                                                                                                                      SV.arr IntKind.u8 16 fun (x : Nat) => 0])) ∧
                                                                                                                            J w1_4))))) →
                                                    J w1) →
                                                Br (n_2 != n_3) (R (SV.bool false) w1)
                                                  (Ret Try.prog 22 [SV.slice s_1, SV.slice s_2] w1 fun (r : SV) (w1_3 : World) =>
                                                    ∃ (b_3 : Bool),
                                                      r = SV.bool b_3 ∧
                                                        Keeps [b, b_1, b_2] w1 w1_3 ∧
                                                          Br (!b_3) (R (SV.bool false) w1_3)
                                                            (some (SV.box b 41 (SV.struct [SV.int IntKind.i64 src_0, SV.arr IntKind.u8 16 src_1])) =
                                                                some (SV.box b 41 (SV.struct [SV.int IntKind.i64 src_0, SV.arr IntKind.u8 16 src_1])) ∧
                                                              some (SV.box b_1 41 (SV.struct [SV.int IntKind.i64 dst_0, SV.arr IntKind.u8 16 dst_1])) =
                                                                  some (SV.box b_1 41 (SV.struct [SV.int IntKind.i64 dst_0, SV.arr IntKind.u8 16 dst_1])) ∧
                                                                some (SV.box b_2 41 (SV.struct [SV.int IntKind.i64 4, SV.arr IntKind.u8 16 fun (x : Nat) => 0])) =
                                                                    some (SV.box b_2 41 (SV.struct [SV.int IntKind.i64 4, SV.arr IntKind.u8 16 fun (x : Nat) => 0])) ∧
                                                                  J w1_3))) →
                        J w1) →
                    Br (n_1 != 0) (R (SV.bool false) w1_1)
                      (Br ((↑s.2 : Int) != 12) (R (SV.bool false) w1_1)
                        (Need (decide (9 < (↑s.2 : Int)) && Option.isSome s.1)
                          (∃ (n : Int),
                            World.cell? w1_1 (Sl.at s 1 9) = some (Value.int IntKind.u8 n) ∧
                              Br (n != 17) (R (SV.bool false) w1_1)
                                (Need (decide (11 < (↑s.2 : Int)) && Option.isSome s.1)
                                  (∃ (n : Int),
                                    World.cell? w1_1 (Sl.at s 1 11) = some (Value.int IntKind.u8 n) ∧
                                      Br (n != 1) (R (SV.bool false) w1_1)
                                        (some (SV.box b 41 (SV.struct [SV.int IntKind.i64 src_0, SV.arr IntKind.u8 16 src_1])) =
                                            some (SV.box b 41 (SV.struct [SV.int IntKind.i64 src_0, SV.arr IntKind.u8 16 src_1])) ∧
                                          some (SV.box b_1 41 (SV.struct [SV.int IntKind.i64 dst_0, SV.arr IntKind.u8 16 dst_1])) =
                                              some (SV.box b_1 41 (SV.struct [SV.int IntKind.i64 dst_0, SV.arr IntKind.u8 16 dst_1])) ∧
                                            some (SV.box b_2 41 (SV.struct [SV.int IntKind.i64 4, SV.arr IntKind.u8 16 fun (x : Nat) => 0])) =
                                                some (SV.box b_2 41 (SV.struct [SV.int IntKind.i64 4, SV.arr IntKind.u8 16 fun (x : Nat) => 0])) ∧
                                              J w1_1))))))
theorem f7_of (src_0 : Int) (src_1 : Nat → Int) (dst_0 : Int) (dst_1 : Nat → Int) (proto : Int) (n : Int) (w : World) (R : SV → World → Prop) (h : vc7 src_0 src_1 dst_0 dst_1 proto n w R) : Ret Try.prog 7 [.struct [.int .i64 src_0, .arr .u8 16 src_1], .struct [.int .i64 dst_0, .arr .u8 16 dst_1], .int .i64 proto, .int .i64 n] w R :=
  have e : vc7 src_0 src_1 dst_0 dst_1 proto n w R = fnVC X Try.f7 a7 [.struct [.int .i64 src_0, .arr .u8 16 src_1], .struct [.int .i64 dst_0, .arr .u8 16 dst_1], .int .i64 proto, .int .i64 n] w R := by kernel_rfl
  fnVC_sound X_ok (n := a7) (e ▸ h) (by kernel_rfl) (by kernel_rfl) rfl

end Go.Vc.S2
