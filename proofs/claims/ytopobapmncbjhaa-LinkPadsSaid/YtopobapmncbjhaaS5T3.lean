import Derived.Test.YtopobapmncbjhaaAnnr5
import Derived.Test.YtopobapmncbjhaaNum
import Derived.KernelRfl
open Go Go.Vc Go.Vc.S5 Go.Proofs
set_option maxRecDepth 100000
set_option linter.unusedVariables false
namespace Go.Vc.S5
def vc3 (b : Sl) (m : Nat → Int) (w : World) (R : SV → World → Prop) : Prop :=
  ∀ (b_1 b_2 : Nat) (w1 : World),
    Upd [] [b_2, b_1] w w1 →
      (World.heap w1)[b_2]? = some (Obj.cells { toList := SV.cells (SV.struct [SV.int IntKind.u8 1, SV.int IntKind.u8 2]) } 5) →
        Ret Try.prog 13 [SV.slice { ptr := some { block := b_2, off := 0 }, len := 2, cap := 2 }] w1 fun (r : SV) (w1_1 : World) =>
          ∃ (s : Sl),
            r = SV.slice s ∧
              Keeps [b_1] w1 w1_1 ∧
                ∀ (J : World → Prop),
                  (∀ (w1 : World),
                      (Ret Try.prog 16 [SV.slice b] w1 fun (r : SV) (w1_2 : World) =>
                          ∃ (s_1 : Sl),
                            ∃ (s_2 : Sl),
                              r = SV.tuple [SV.slice s_1, SV.slice s_2] ∧
                                Keeps [b_1] w1 w1_2 ∧
                                  Ret Try.prog 17 [SV.slice s_2] w1_2 fun (r : SV) (w1 : World) =>
                                    ∃ (s_3 : Sl),
                                      r = SV.slice s_3 ∧
                                        Keeps [b_1] w1_2 w1 ∧
                                          Ret Try.prog 13 [SV.slice s_1] w1 fun (r : SV) (w1_3 : World) =>
                                            ∃ (s_4 : Sl),
                                              r = SV.slice s_4 ∧
                                                Keeps [b_1] w1 w1_3 ∧
                                                  Ret Try.prog 17 [SV.slice s_1] w1_3 fun (r : SV) (w1 : World) =>
                                                    ∃ (s_5 : Sl),
                                                      r = SV.slice s_5 ∧
                                                        Keeps [b_1] w1_3 w1 ∧
                                                          Ret Try.prog 18 [SV.slice s_5] w1 fun (r : SV) (w1_4 : World) =>
                                                            ∃ (s_6 : Sl),
                                                              r = SV.slice s_6 ∧
                                                                Keeps [b_1] w1 w1_4 ∧
                                                                  Ret Try.prog 19 [SV.slice s_4, SV.slice s_6] w1_4 fun (r : SV) (w1 : World) =>
                                                                    ∃ (b : Bool),
                                                                      r = SV.bool b ∧
                                                                        Keeps [b_1] w1_4 w1 ∧
                                                                          Br (!b) (R (SV.bool false) w1)
                                                                            (∃ (I : Int → World → Prop),
                                                                              ∃ (M : Int → World → Nat),
                                                                                I 0 w1 ∧
                                                                                  ∀ (n : Int) (w1 : World),
                                                                                    I n w1 →
                                                                                      Br (decide (n < (↑s.2 : Int)))
                                                                                        (Need (decide (0 ≤ n) && decide (n < (↑s.2 : Int)) && Option.isSome s.1)
                                                                                          (Store w1 (Sl.at s 1 (Int.toNat n)) (SV.cells (SV.int IntKind.u8 77)) [b_1]
                                                                                            fun (w1_5 : World) =>
                                                                                            some (SV.box b_1 24 (SV.arr IntKind.u8 6 m)) =
                                                                                                some (SV.box b_1 24 (SV.arr IntKind.u8 6 m)) ∧
                                                                                              I (wr IntKind.i64 (n + 1)) w1_5 ∧ M (wr IntKind.i64 (n + 1)) w1_5 < M n w1))
                                                                                        (∃ (I : Int → World → Prop),
                                                                                          ∃ (M : Int → World → Nat),
                                                                                            I 0 w1 ∧
                                                                                              ∀ (n : Int) (w1 : World),
                                                                                                I n w1 →
                                                                                                  Br (decide (n < (↑s_4.2 : Int)))
                                                                                                    (Need (decide (0 ≤ n) && decide (n < (↑s_4.2 : Int)) && Option.isSome s_4.1)
                                                                                                      (Store w1 (Sl.at s_4 1 (Int.toNat n)) (SV.cells (SV.int IntKind.u8 78)) [b_1]
                                                                                                        fun (w1_5 : World) =>
                                                                                                        some (SV.box b_1 24 (SV.arr IntKind.u8 6 m)) =
                                                                                                            some (SV.box b_1 24 (SV.arr IntKind.u8 6 m)) ∧
                                                                                                          I (wr IntKind.i64 (n + 1)) w1_5 ∧ M (wr IntKind.i64 (n + 1)) w1_5 < M n w1))
                                                                                                    (∀ (b : Nat) (w1_5 : World),
                                                                                                      Upd [] [b] w1 w1_5 →
                                                                                                        (World.heap w1_5)[b]? =
                                                                                                            some
                                                                                                              (Obj.cells
                                                                                                                {
                                                                                                                  toList :=
                                                                                                                    SV.cells
                                                                                                                      (SV.struct [SV.int IntKind.u8 77, SV.int IntKind.u8 77]) }
                                                                                                                5) →
                                                                                                          Vc.Append 5 1 1 s
                                                                                                            { ptr := some { block := b, off := 0 }, len := 2, cap := 2 } [b_1] w1_5
                                                                                                            fun (r : Sl) (w : World) =>
                                                                                                            ∀ (b : Nat) (w1 : World),
                                                                                                              Upd [] [b] w w1 →
                                                                                                                (World.heap w1)[b]? =
                                                                                                                    some
                                                                                                                      (Obj.cells
                                                                                                                        {
                                                                                                                          toList :=
                                                                                                                            SV.cells
                                                                                                                              (SV.struct
                                                                                                                                [SV.int IntKind.u8 78, SV.int IntKind.u8 78]) }
                                                                                                                        5) →
                                                                                                                  Vc.Append 5 1 1 s_4
                                                                                                                    { ptr := some { block := b, off := 0 }, len := 2, cap := 2 } [b_1]
                                                                                                                    w1 fun (r_1 : Sl) (w : World) =>
                                                                                                                    Ret Try.prog 13 [SV.slice s_1] w fun (r_2 : SV) (w1 : World) =>
                                                                                                                      ∃ (s : Sl),
                                                                                                                        r_2 = SV.slice s ∧
                                                                                                                          Keeps [b_1] w w1 ∧
                                                                                                                            ∀ (J : World → Prop),
                                                                                                                              (∀ (w1 : World),
                                                                                                                                  (∃ (I : Int → World → Prop),
                                                                                                                                      ∃ (M : Int → World → Nat),
                                                                                                                                        I 0 w1 ∧
                                                                                                                                          ∀ (n : Int) (w1 : World),
                                                                                                                                            I n w1 →
                                                                                                                                              Br (decide (n < (↑r.2 : Int)))
                                                                                                                                                (Need
                                                                                                                                                  (decide (0 ≤ n) &&
                                                                                                                                                      decide (n < (↑r.2 : Int)) &&
                                                                                                                                                    Option.isSome r.1)
                                                                                                                                                  (∃ (n_1 : Int),
                                                                                                                                                    World.cell? w1
                                                                                                                                                          (Sl.at r 1 (Int.toNat n)) =
                                                                                                                                                        some
                                                                                                                                                          (Value.int IntKind.u8 n_1) ∧
                                                                                                                                                      Br (n_1 != 77)
                                                                                                                                                        (R (SV.bool false) w1)
                                                                                                                                                        (some
                                                                                                                                                              (SV.box b_1 24
                                                                                                                                                                (SV.arr IntKind.u8 6
                                                                                                                                                                  m)) =
                                                                                                                                                            some
                                                                                                                                                              (SV.box b_1 24
                                                                                                                                                                (SV.arr IntKind.u8 6
                                                                                                                                                                  m)) ∧
                                                                                                                                                          I (wr IntKind.i64 (n + 1))
                                                                                                                                                              w1 ∧
                                                                                                                                                            M (wr IntKind.i64 (n + 1))
                                                                                                                                                                w1 <
                                                                                                                                                              M n w1)))
                                                                                                                                                (∃ (I : Int → World → Prop),
                                                                                                                                                  ∃ (M : Int → World → Nat),
                                                                                                                                                    I 0 w1 ∧
                                                                                                                                                      ∀ (n : Int) (w1 : World),
                                                                                                                                                        I n w1 →
                                                                                                                                                          Br
                                                                                                                                                            (decide
                                                                                                                                                              (n < (↑r_1.2 : Int)))
                                                                                                                                                            (Need
                                                                                                                                                              (decide (0 ≤ n) &&
                                                                                                                                                                  decide
                                                                                                                                                                    (n <
                                                                                                                                                                      (↑r_1.2 :
                                                                                                                                                                        Int)) &&
                                                                                                                                                                Option.isSome r_1.1)
                                                                                                                                                              (∃ (n_1 : Int),
                                                                                                                                                                World.cell? w1
                                                                                                                                                                      (Sl.at r_1 1
                                                                                                                                                                        (Int.toNat
                                                                                                                                                                          n)) =
                                                                                                                                                                    some
                                                                                                                                                                      (Value.int
                                                                                                                                                                        IntKind.u8
                                                                                                                                                                        n_1) ∧
                                                                                                                                                                  Br (n_1 != 78)
                                                                                                                                                                    (R (SV.bool false)
                                                                                                                                                                      w1)
                                                                                                                                                                    (some
                                                                                                                                                                          (SV.box b_1
                                                                                                                                                                            24
                                                                                                                                                                            (SV.arr
                                                                                                                                                                              IntKind.u8
                                                                                                                                                                              6 m)) =
                                                                                                                                                                        some
                                                                                                                                                                          (SV.box b_1
                                                                                                                                                                            24
                                                                                                                                                                            (SV.arr
                                                                                                                                                                              IntKind.u8
                                                                                                                                                                              6 m)) ∧
                                                                                                                                                                      I
                                                                                                                                                                          (wr
                                                                                                                                                                            IntKind.i64
                                                                                                                                                                            (n + 1))
                                                                                                                                                                          w1 ∧
                                                                                                                                                                        M
                                                                                                                                                                            (wr
                                                                                                                                                                              IntKind.i64
                                                                                                                                                                              (n + 1))
                                                                                                                                                                            w1 <
                                                                                                                                                                          M n w1)))
                                                                                                                                                            (R (SV.bool true) w1))) →
                                                                                                                                    J w1) →
                                                                                                                                Ret Try.prog 19 [SV.slice s, SV.slice s_6] w1
                                                                                                                                  fun (r : SV) (w1_6 : World) =>
                                                                                                                                  ∃ (b : Bool),
                                                                                                                                    r = SV.bool b ∧
                                                                                                                                      Keeps [b_1] w1 w1_6 ∧
                                                                                                                                        Br (!b) (R (SV.bool false) w1_6)
                                                                                                                                          (Ret Try.prog 19
                                                                                                                                            [SV.slice s_2, SV.slice s_3] w1_6
                                                                                                                                            fun (r : SV) (w1 : World) =>
                                                                                                                                            ∃ (b : Bool),
                                                                                                                                              r = SV.bool b ∧
                                                                                                                                                Keeps [b_1] w1_6 w1 ∧
                                                                                                                                                  Br (!b) (R (SV.bool false) w1)
                                                                                                                                                    (some
                                                                                                                                                          (SV.box b_1 24
                                                                                                                                                            (SV.arr IntKind.u8 6 m)) =
                                                                                                                                                        some
                                                                                                                                                          (SV.box b_1 24
                                                                                                                                                            (SV.arr IntKind.u8 6 m)) ∧
                                                                                                                                                      J w1)))))) →
                        J w1) →
                    Br ((↑s.2 : Int) != 60) (∀ (w1 : World), Upd [] [] w1_1 w1 → R (SV.bool false) w1)
                      (Need (decide (0 < (↑s.2 : Int)) && Option.isSome s.1)
                        (∃ (n : Int),
                          World.cell? w1_1 (Sl.at s 1 0) = some (Value.int IntKind.u8 n) ∧
                            Br (n != 1) (∀ (w1 : World), Upd [] [] w1_1 w1 → R (SV.bool false) w1)
                              (Need (decide (2 < (↑s.2 : Int)) && Option.isSome s.1)
                                (∃ (n : Int),
                                  World.cell? w1_1 (Sl.at s 1 2) = some (Value.int IntKind.u8 n) ∧
                                    Br (n != 0) (∀ (w1 : World), Upd [] [] w1_1 w1 → R (SV.bool false) w1)
                                      (∀ (w1 : World),
                                        Upd [] [] w1_1 w1 →
                                          Ret Try.prog 14 [SV.arr IntKind.u8 6 m] w1 fun (r : SV) (w1_2 : World) =>
                                            ∃ (b : Bool),
                                              r = SV.bool b ∧
                                                Keeps [b_1] w1 w1_2 ∧
                                                  Upd [] [] w1_1 w1_2 ∧
                                                    Ret Try.prog 15 [SV.arr IntKind.u8 6 m] w1_2 fun (r : SV) (w1 : World) =>
                                                      ∃ (b_3 : Bool),
                                                        r = SV.bool b_3 ∧
                                                          Keeps [b_1] w1_2 w1 ∧
                                                            Br (!b == b_3) (R (SV.bool false) w1)
                                                              (Ret Try.prog 14 [SV.arr IntKind.u8 6 (fset (fun (x : Nat) => 0) 0 1)] w1 fun (r : SV) (w1_3 : World) =>
                                                                ∃ (b : Bool),
                                                                  r = SV.bool b ∧
                                                                    Keeps [b_1] w1 w1_3 ∧
                                                                      Br (!b) (R (SV.bool false) w1_3)
                                                                        (some (SV.box b_1 24 (SV.arr IntKind.u8 6 m)) = some (SV.box b_1 24 (SV.arr IntKind.u8 6 m)) ∧ J w1_3)))))))
theorem f3_of (b : Sl) (m : Nat → Int) (w : World) (R : SV → World → Prop) (h : vc3 b m w R) : Ret Try.prog 3 [.slice b, .arr .u8 6 m] w R :=
  have e : vc3 b m w R = fnVC X Try.f3 a3 [.slice b, .arr .u8 6 m] w R := by kernel_rfl
  fnVC_sound X_ok (n := a3) (e ▸ h) (by kernel_rfl) (by kernel_rfl) rfl

end Go.Vc.S5
