import Derived.Test.YtopobapmncbjhaaAnnr5
import Derived.Test.YtopobapmncbjhaaNum
import Derived.KernelRfl
open Go Go.Vc Go.Vc.S5 Go.Proofs
set_option maxRecDepth 100000
set_option linter.unusedVariables false
namespace Go.Vc.S5
def vc6 (b : Sl) (w : World) (R : SV → World → Prop) : Prop :=
  Ret Try.prog 25 [] w fun (r : SV) (w1 : World) =>
    ∃ (b_1 : Bool),
      r = SV.bool b_1 ∧
        Br (!b_1) (R (SV.bool false) w1)
          (Ret Try.prog 16 [SV.slice b] w1 fun (r : SV) (w1 : World) =>
            ∃ (s : Sl),
              ∃ (s_1 : Sl),
                r = SV.tuple [SV.slice s, SV.slice s_1] ∧
                  Ret Try.prog 17 [SV.slice s_1] w1 fun (r : SV) (w1 : World) =>
                    ∃ (s_2 : Sl),
                      r = SV.slice s_2 ∧
                        Ret Try.prog 26 [SV.slice s] w1 fun (r : SV) (w1 : World) =>
                          ∃ (f : Nat → Int),
                            ∃ (f_1 : Nat → Int),
                              ∃ (s_3 : Sl),
                                ∃ (n : Int),
                                  ∃ (s_4 : Sl),
                                    ∃ (n_1 : Int),
                                      r =
                                          SV.tuple
                                            [SV.struct [SV.arr IntKind.u8 6 f, SV.arr IntKind.u8 6 f_1, SV.slice s_3, SV.int IntKind.i64 n, SV.slice s_4], SV.int IntKind.i64 n_1] ∧
                                        ∀ (b : Nat) (w1_1 : World),
                                          Upd [] [b] w1 w1_1 →
                                            Ret Try.prog 17 [SV.slice s] w1_1 fun (r : SV) (w1 : World) =>
                                              ∃ (s_5 : Sl),
                                                r = SV.slice s_5 ∧
                                                  Keeps [b] w1_1 w1 ∧
                                                    Ret Try.prog 27 [SV.slice s_5] w1 fun (r : SV) (w1_2 : World) =>
                                                      ∃ (f_2 : Nat → Int),
                                                        ∃ (f_3 : Nat → Int),
                                                          ∃ (s_6 : Sl),
                                                            ∃ (n_2 : Int),
                                                              ∃ (s_7 : Sl),
                                                                ∃ (n_3 : Int),
                                                                  r =
                                                                      SV.tuple
                                                                        [SV.struct
                                                                            [SV.arr IntKind.u8 6 f_2, SV.arr IntKind.u8 6 f_3, SV.slice s_6, SV.int IntKind.i64 n_2, SV.slice s_7],
                                                                          SV.int IntKind.i64 n_3] ∧
                                                                    Keeps [b] w1 w1_2 ∧
                                                                      ∀ (b_2 : Nat) (J : World → Prop),
                                                                        (∀ (w1 : World),
                                                                            (∀ (b_3 : Nat) (w1_3 : World),
                                                                                Upd [] [b_3] w1 w1_3 →
                                                                                  (World.heap w1_3)[b_3]? =
                                                                                      some
                                                                                        (Obj.cells { toList := SV.cells (SV.struct [SV.int IntKind.u8 99, SV.int IntKind.u8 99]) }
                                                                                          5) →
                                                                                    Vc.Append 5 1 1 s_4 { ptr := some { block := b_3, off := 0 }, len := 2, cap := 2 } [b, b_2] w1_3
                                                                                      fun (r : Sl) (w : World) =>
                                                                                      ∀ (J : World → Prop),
                                                                                        (∀ (w1 : World),
                                                                                            (∃ (I : Int → World → Prop),
                                                                                                ∃ (M : Int → World → Nat),
                                                                                                  I 0 w1 ∧
                                                                                                    ∀ (n_4 : Int) (w1 : World),
                                                                                                      I n_4 w1 →
                                                                                                        Br (decide (n_4 < (↑s_4.2 : Int)))
                                                                                                          (Need
                                                                                                            (decide (0 ≤ n_4) && decide (n_4 < (↑s_4.2 : Int)) && Option.isSome s_4.1)
                                                                                                            (∃ (n_5 : Int),
                                                                                                              World.cell? w1 (Sl.at s_4 1 (Int.toNat n_4)) =
                                                                                                                  some (Value.int IntKind.u8 n_5) ∧
                                                                                                                Need
                                                                                                                  (decide (0 ≤ n_4) && decide (n_4 < (↑s_4.2 : Int)) &&
                                                                                                                    Option.isSome s_4.1)
                                                                                                                  (∀ (w1_4 : World),
                                                                                                                    Upd [] [] w1 w1_4 →
                                                                                                                      Store w1_4 (Sl.at s_4 1 (Int.toNat n_4))
                                                                                                                        (SV.cells (SV.int IntKind.u8 (ixor IntKind.u8 n_5 255)))
                                                                                                                        [b, b_2] fun (w1_5 : World) =>
                                                                                                                        Need
                                                                                                                          (decide
                                                                                                                                (0 ≤
                                                                                                                                  wr IntKind.i64
                                                                                                                                    (wr IntKind.i64 ((↑s.2 : Int) - (↑s_4.2 : Int)) +
                                                                                                                                      n_4)) &&
                                                                                                                              decide
                                                                                                                                (wr IntKind.i64
                                                                                                                                    (wr IntKind.i64 ((↑s.2 : Int) - (↑s_4.2 : Int)) +
                                                                                                                                      n_4) <
                                                                                                                                  (↑s_1.2 : Int)) &&
                                                                                                                            Option.isSome s_1.1)
                                                                                                                          (∃ (n_6 : Int),
                                                                                                                            World.cell? w1_5
                                                                                                                                  (Sl.at s_1 1
                                                                                                                                    (Int.toNat
                                                                                                                                      (wr IntKind.i64
                                                                                                                                        (wr IntKind.i64
                                                                                                                                            ((↑s.2 : Int) - (↑s_4.2 : Int)) +
                                                                                                                                          n_4)))) =
                                                                                                                                some (Value.int IntKind.u8 n_6) ∧
                                                                                                                              Need
                                                                                                                                (decide
                                                                                                                                      (0 ≤
                                                                                                                                        wr IntKind.i64
                                                                                                                                          (wr IntKind.i64
                                                                                                                                              ((↑s.2 : Int) - (↑s_4.2 : Int)) +
                                                                                                                                            n_4)) &&
                                                                                                                                    decide
                                                                                                                                      (wr IntKind.i64
                                                                                                                                          (wr IntKind.i64
                                                                                                                                              ((↑s.2 : Int) - (↑s_4.2 : Int)) +
                                                                                                                                            n_4) <
                                                                                                                                        (↑s_2.2 : Int)) &&
                                                                                                                                  Option.isSome s_2.1)
                                                                                                                                (∃ (n_7 : Int),
                                                                                                                                  World.cell? w1_5
                                                                                                                                        (Sl.at s_2 1
                                                                                                                                          (Int.toNat
                                                                                                                                            (wr IntKind.i64
                                                                                                                                              (wr IntKind.i64
                                                                                                                                                  ((↑s.2 : Int) - (↑s_4.2 : Int)) +
                                                                                                                                                n_4)))) =
                                                                                                                                      some (Value.int IntKind.u8 n_7) ∧
                                                                                                                                    Br (n_6 != ixor IntKind.u8 n_7 255)
                                                                                                                                      (∀ (w1 : World),
                                                                                                                                        Upd [] [] w1_5 w1 → R (SV.bool false) w1)
                                                                                                                                      (Need
                                                                                                                                        (decide (0 ≤ n_4) &&
                                                                                                                                            decide (n_4 < (↑s_4.2 : Int)) &&
                                                                                                                                          Option.isSome s_4.1)
                                                                                                                                        (∃ (n_8 : Int),
                                                                                                                                          World.cell? w1_5
                                                                                                                                                (Sl.at s_4 1 (Int.toNat n_4)) =
                                                                                                                                              some (Value.int IntKind.u8 n_8) ∧
                                                                                                                                            Need
                                                                                                                                              (decide (0 ≤ n_4) &&
                                                                                                                                                  decide (n_4 < (↑s_4.2 : Int)) &&
                                                                                                                                                Option.isSome s_4.1)
                                                                                                                                              (∀ (w1_6 : World),
                                                                                                                                                Upd [] [] w1_5 w1_6 →
                                                                                                                                                  Store w1_6
                                                                                                                                                    (Sl.at s_4 1 (Int.toNat n_4))
                                                                                                                                                    (SV.cells
                                                                                                                                                      (SV.int IntKind.u8
                                                                                                                                                        (ixor IntKind.u8 n_8 255)))
                                                                                                                                                    [b, b_2] fun (w1_7 : World) =>
                                                                                                                                                    some
                                                                                                                                                          (SV.box b 50
                                                                                                                                                            (SV.struct
                                                                                                                                                              [SV.arr IntKind.u8 6 f,
                                                                                                                                                                SV.arr IntKind.u8 6
                                                                                                                                                                  f_1,
                                                                                                                                                                SV.slice s_3,
                                                                                                                                                                SV.int IntKind.i64 n,
                                                                                                                                                                SV.slice s_4])) =
                                                                                                                                                        some
                                                                                                                                                          (SV.box b 50
                                                                                                                                                            (SV.struct
                                                                                                                                                              [SV.arr IntKind.u8 6 f,
                                                                                                                                                                SV.arr IntKind.u8 6
                                                                                                                                                                  f_1,
                                                                                                                                                                SV.slice s_3,
                                                                                                                                                                SV.int IntKind.i64 n,
                                                                                                                                                                SV.slice s_4])) ∧
                                                                                                                                                      some
                                                                                                                                                            (SV.box b_2 50
                                                                                                                                                              (SV.struct
                                                                                                                                                                [SV.arr IntKind.u8 6
                                                                                                                                                                    f_2,
                                                                                                                                                                  SV.arr IntKind.u8 6
                                                                                                                                                                    f_3,
                                                                                                                                                                  SV.slice s_6,
                                                                                                                                                                  SV.int IntKind.i64
                                                                                                                                                                    n_2,
                                                                                                                                                                  SV.slice s_7])) =
                                                                                                                                                          some
                                                                                                                                                            (SV.box b_2 50
                                                                                                                                                              (SV.struct
                                                                                                                                                                [SV.arr IntKind.u8 6
                                                                                                                                                                    f_2,
                                                                                                                                                                  SV.arr IntKind.u8 6
                                                                                                                                                                    f_3,
                                                                                                                                                                  SV.slice s_6,
                                                                                                                                                                  SV.int IntKind.i64
                                                                                                                                                                    n_2,
                                                                                                                                                                  SV.slice s_7])) ∧
                                                                                                                                                        I (wr IntKind.i64 (n_4 + 1))
                                                                                                                                                            w1_7 ∧
                                                                                                                                                          M (wr IntKind.i64 (n_4 + 1))
                                                                                                                                                              w1_7 <
                                                                                                                                                            M n_4 w1))))))))
                                                                                                          (∃ (I : Int → World → Prop),
                                                                                                            ∃ (M : Int → World → Nat),
                                                                                                              I 0 w1 ∧
                                                                                                                ∀ (n_5 : Int) (w1 : World),
                                                                                                                  I n_5 w1 →
                                                                                                                    Br (decide (n_5 < (↑s_3.2 : Int)))
                                                                                                                      (Need
                                                                                                                        (decide (0 ≤ n_5) && decide (n_5 < (↑s_3.2 : Int)) &&
                                                                                                                          Option.isSome s_3.1)
                                                                                                                        (Store w1 (Sl.at s_3 4 (Int.toNat n_5))
                                                                                                                          (SV.cells
                                                                                                                            (SV.struct
                                                                                                                              [SV.int IntKind.i64 (-1), SV.int IntKind.i64 0,
                                                                                                                                SV.bool false, SV.int IntKind.i64 0]))
                                                                                                                          [b, b_2] fun (w1_4 : World) =>
                                                                                                                          some
                                                                                                                                (SV.box b 50
                                                                                                                                  (SV.struct
                                                                                                                                    [SV.arr IntKind.u8 6 f, SV.arr IntKind.u8 6 f_1,
                                                                                                                                      SV.slice s_3, SV.int IntKind.i64 n,
                                                                                                                                      SV.slice s_4])) =
                                                                                                                              some
                                                                                                                                (SV.box b 50
                                                                                                                                  (SV.struct
                                                                                                                                    [SV.arr IntKind.u8 6 f, SV.arr IntKind.u8 6 f_1,
                                                                                                                                      SV.slice s_3, SV.int IntKind.i64 n,
                                                                                                                                      SV.slice s_4])) ∧
                                                                                                                            some
                                                                                                                                  (SV.box b_2 50
                                                                                                                                    (SV.struct
                                                                                                                                      [SV.arr IntKind.u8 6 f_2,
                                                                                                                                        SV.arr IntKind.u8 6 f_3, SV.slice s_6,
                                                                                                                                        SV.int IntKind.i64 n_2, SV.slice s_7])) =
                                                                                                                                some
                                                                                                                                  (SV.box b_2 50
                                                                                                                                    (SV.struct
                                                                                                                                      [SV.arr IntKind.u8 6 f_2,
                                                                                                                                        SV.arr IntKind.u8 6 f_3, SV.slice s_6,
                                                                                                                                        SV.int IntKind.i64 n_2, SV.slice s_7])) ∧
                                                                                                                              I (wr IntKind.i64 (n_5 + 1)) w1_4 ∧
                                                                                                                                M (wr IntKind.i64 (n_5 + 1)) w1_4 < M n_5 w1))
                                                                                                                      (∀ (b_4 : Nat) (w1_4 : World),
                                                                                                                        Upd [] [b_4] w1 w1_4 →
                                                                                                                          (World.heap w1_4)[b_4]? =
                                                                                                                              some
                                                                                                                                (Obj.cells
                                                                                                                                  {
                                                                                                                                    toList :=
                                                                                                                                      SV.cells
                                                                                                                                        (SV.struct
                                                                                                                                          [SV.struct
                                                                                                                                              [SV.int IntKind.i64 (-1),
                                                                                                                                                SV.int IntKind.i64 0, SV.bool false,
                                                                                                                                                SV.int IntKind.i64 0]]) }
                                                                                                                                  57) →
                                                                                                                            Vc.Append 57 4 32 s_3
                                                                                                                              { ptr := some { block := b_4, off := 0 }, len := 1,
                                                                                                                                cap := 1 }
                                                                                                                              [b, b_2] w1_4 fun (r : Sl) (w : World) =>
                                                                                                                              Ret Try.prog 26 [SV.slice s] w
                                                                                                                                fun (r_1 : SV) (w1 : World) =>
                                                                                                                                ∃ (f_4 : Nat → Int),
                                                                                                                                  ∃ (f_5 : Nat → Int),
                                                                                                                                    ∃ (s : Sl),
                                                                                                                                      ∃ (n_6 : Int),
                                                                                                                                        ∃ (s_8 : Sl),
                                                                                                                                          ∃ (n_7 : Int),
                                                                                                                                            r_1 =
                                                                                                                                                SV.tuple
                                                                                                                                                  [SV.struct
                                                                                                                                                      [SV.arr IntKind.u8 6 f_4,
                                                                                                                                                        SV.arr IntKind.u8 6 f_5,
                                                                                                                                                        SV.slice s,
                                                                                                                                                        SV.int IntKind.i64 n_6,
                                                                                                                                                        SV.slice s_8],
                                                                                                                                                    SV.int IntKind.i64 n_7] ∧
                                                                                                                                              Keeps [b, b_2] w w1 ∧
                                                                                                                                                ∀ (b_5 : Nat) (J : World → Prop),
                                                                                                                                                  (∀ (w1 : World),
                                                                                                                                                      (∃ (I : Int → World → Prop),
                                                                                                                                                          ∃ (M : Int → World → Nat),
                                                                                                                                                            I 0 w1 ∧
                                                                                                                                                              ∀ (n_8 : Int)
                                                                                                                                                                (w1 : World),
                                                                                                                                                                I n_8 w1 →
                                                                                                                                                                  Br
                                                                                                                                                                    (decide
                                                                                                                                                                      (n_8 <
                                                                                                                                                                        (↑r.2 : Int)))
                                                                                                                                                                    (Need
                                                                                                                                                                      (decide
                                                                                                                                                                            (0 ≤
                                                                                                                                                                              n_8) &&
                                                                                                                                                                          decide
                                                                                                                                                                            (n_8 <
                                                                                                                                                                              (↑r.2 :
                                                                                                                                                                                Int)) &&
                                                                                                                                                                        Option.isSome
                                                                                                                                                                          r.1)
                                                                                                                                                                      (∃ (n_9 : Int),
                                                                                                                                                                        World.cell? w1
                                                                                                                                                                              (Sl.at r
                                                                                                                                                                                4
                                                                                                                                                                                (Int.toNat
                                                                                                                                                                                  n_8)) =
                                                                                                                                                                            some
                                                                                                                                                                              (Value.int
                                                                                                                                                                                IntKind.i64
                                                                                                                                                                                n_9) ∧
                                                                                                                                                                          ∃ (n_10 :
                                                                                                                                                                            Int),
                                                                                                                                                                            World.cell?
                                                                                                                                                                                  w1
                                                                                                                                                                                  (Addr.add
                                                                                                                                                                                    (Sl.at
                                                                                                                                                                                      r
                                                                                                                                                                                      4
                                                                                                                                                                                      (Int.toNat
                                                                                                                                                                                        n_8))
                                                                                                                                                                                    1) =
                                                                                                                                                                                some
                                                                                                                                                                                  (Value.int
                                                                                                                                                                                    IntKind.i64
                                                                                                                                                                                    n_10) ∧
                                                                                                                                                                              ∃ (b_6 :
                                                                                                                                                                                Bool),
                                                                                                                                                                                World.cell?
                                                                                                                                                                                      w1
                                                                                                                                                                                      (Addr.add
                                                                                                                                                                                        (Sl.at
                                                                                                                                                                                          r
                                                                                                                                                                                          4
                                                                                                                                                                                          (Int.toNat
                                                                                                                                                                                            n_8))
                                                                                                                                                                                        2) =
                                                                                                                                                                                    some
                                                                                                                                                                                      (Value.bool
                                                                                                                                                                                        b_6) ∧
                                                                                                                                                                                  ∃
                                                                                                                                                                                    (n_11
                                                                                                                                                                                    :
                                                                                                                                                                                    Int),
                                                                                                                                                                                    World.cell?
                                                                                                                                                                                          w1
                                                                                                                                                                                          (Addr.add
                                                                                                                                                                                            (Sl.at
                                                                                                                                                                                              r
                                                                                                                                                                                              4
                                                                                                                                                                                              (Int.toNat
                                                                                                                                                                                                n_8))
                                                                                                                                                                                            3) =
                                                                                                                                                                                        some
                                                                                                                                                                                          (Value.int
                                                                                                                                                                                            IntKind.i64
                                                                                                                                                                                            n_11) ∧
                                                                                                                                                                                      Br
                                                                                                                                                                                        (!(n_9 ==
                                                                                                                                                                                              -1 &&
                                                                                                                                                                                            (n_10 ==
                                                                                                                                                                                                0 &&
                                                                                                                                                                                              (b_6 ==
                                                                                                                                                                                                  false &&
                                                                                                                                                                                                n_11 ==
                                                                                                                                                                                                  0))))
                                                                                                                                                                                        (R
                                                                                                                                                                                          (SV.bool
                                                                                                                                                                                            false)
                                                                                                                                                                                          w1)
                                                                                                                                                                                        (some
                                                                                                                                                                                              (SV.box
                                                                                                                                                                                                b
                                                                                                                                                                                                50
                                                                                                                                                                                                (SV.struct
                                                                                                                                                                                                  [SV.arr
                                                                                                                                                                                                      IntKind.u8
                                                                                                                                                                                                      6
                                                                                                                                                                                                      f,
                                                                                                                                                                                                    SV.arr
                                                                                                                                                                                                      IntKind.u8
                                                                                                                                                                                                      6
                                                                                                                                                                                                      f_1,
                                                                                                                                                                                                    SV.slice
                                                                                                                                                                                                      s_3,
                                                                                                                                                                                                    SV.int
                                                                                                                                                                                                      IntKind.i64
                                                                                                                                                                                                      n,
                                                                                                                                                                                                    SV.slice
                                                                                                                                                                                                      s_4])) =
                                                                                                                                                                                            some
                                                                                                                                                                                              (SV.box
                                                                                                                                                                                                b
                                                                                                                                                                                                50
                                                                                                                                                                                                (SV.struct
                                                                                                                                                                                                  [SV.arr
                                                                                                                                                                                                      IntKind.u8
                                                                                                                                                                                                      6
                                                                                                                                                                                                      f,
                                                                                                                                                                                                    SV.arr
                                                                                                                                                                                                      IntKind.u8
                                                                                                                                                                                                      6
                                                                                                                                                                                                      f_1,
                                                                                                                                                                                                    SV.slice
                                                                                                                                                                                                      s_3,
                                                                                                                                                                                                    SV.int
                                                                                                                                                                                                      IntKind.i64
                                                                                                                                                                                                      n,
                                                                                                                                                                                                    SV.slice
                                                                                                                                                                                                      s_4])) ∧
                                                                                                                                                                                          some
                                                                                                                                                                                                (SV.box
                                                                                                                                                                                                  b_2
                                                                                                                                                                                                  50
                                                                                                                                                                                                  (SV.struct
                                                                                                                                                                                                    [SV.arr
                                                                                                                                                                                                        IntKind.u8
                                                                                                                                                                                                        6
                                                                                                                                                                                                        f_2,
                                                                                                                                                                                                      SV.arr
                                                                                                                                                                                                        IntKind.u8
                                                                                                                                                                                                        6
                                                                                                                                                                                                        f_3,
                                                                                                                                                                                                      SV.slice
                                                                                                                                                                                                        s_6,
                                                                                                                                                                                                      SV.int
                                                                                                                                                                                                        IntKind.i64
                                                                                                                                                                                                        n_2,
                                                                                                                                                                                                      SV.slice
                                                                                                                                                                                                        s_7])) =
                                                                                                                                                                                              some
                                                                                                                                                                                                (SV.box
                                                                                                                                                                                                  b_2
                                                                                                                                                                                                  50
                                                                                                                                                                                                  (SV.struct
                                                                                                                                                                                                    [SV.arr
                                                                                                                                                                                                        IntKind.u8
                                                                                                                                                                                                        6
                                                                                                                                                                                                        f_2,
                                                                                                                                                                                                      SV.arr
                                                                                                                                                                                                        IntKind.u8
                                                                                                                                                                                                        6
                                                                                                                                                                                                        f_3,
                                                                                                                                                                                                      SV.slice
                                                                                                                                                                                                        s_6,
                                                                                                                                                                                                      SV.int
                                                                                                                                                                                                        IntKind.i64
                                                                                                                                                                                                        n_2,
                                                                                                                                                                                                      SV.slice
                                                                                                                                                                                                        s_7])) ∧
                                                                                                                                                                                            some
                                                                                                                                                                                                  (SV.box
                                                                                                                                                                                                    b_5
                                                                                                                                                                                                    50
                                                                                                                                                                                                    (SV.struct
                                                                                                                                                                                                      [SV.arr
                                                                                                                                                                                                          IntKind.u8
                                                                                                                                                                                                          6
                                                                                                                                                                                                          f_4,
                                                                                                                                                                                                        SV.arr
                                                                                                                                                                                                          IntKind.u8
                                                                                                                                                                                                          6
                                                                                                                                                                                                          f_5,
                                                                                                                                                                                                        SV.slice
                                                                                                                                                                                                          s,
                                                                                                                                                                                                        SV.int
                                                                                                                                                                                                          IntKind.i64
                                                                                                                                                                                                          n_6,
                                                                                                                                                                                                        SV.slice
                                                                                                                                                                                                          s_8])) =
                                                                                                                                                                                                some
                                                                                                                                                                                                  (SV.box
                                                                                                                                                                                                    b_5
                                                                                                                                                                                                    50
                                                                                                                                                                                                    (SV.struct
                                                                                                                                                                                                      [SV.arr
                                                                                                                                                                                                          IntKind.u8
                                                                                                                                                                                                          6
                                                                                                                                                                                                          f_4,
                                                                                                                                                                                                        SV.arr
                                                                                                                                                                                                          IntKind.u8
                                                                                                                                                                                                          6
                                                                                                                                                                                                          f_5,
                                                                                                                                                                                                        SV.slice
                                                                                                                                                                                                          s,
                                                                                                                                                                                                        SV.int
                                                                                                                                                                                                          IntKind.i64
                                                                                                                                                                                                          n_6,
                                                                                                                                                                                                        SV.slice
                                                                                                                                                                                                          s_8])) ∧
                                                                                                                                                                                              I
                                                                                                                                                                                                  (wr
                                                                                                                                                                                                    IntKind.i64
                                                                                                                                                                                                    (n_8 +
                                                                                                                                                                                                      1))
                                                                                                                                                                                                  w1 ∧
                                                                                                                                                                                                M
                                                                                                                                                                                                    (wr
                                                                                                                                                                                                      IntKind.i64
                                                                                                                                                                                                      (n_8 +
                                                                                                                                                                                                        1))
                                                                                                                                                                                                    w1 <
                                                                                                                                                                                                  M
                                                                                                                                                                                                    n_8
                                                                                                                                                                                                    w1)))
                                                                                                                                                                    (R (SV.bool true)
                                                                                                                                                                      w1)) →
                                                                                                                                                        J w1) →
                                                                                                                                                    Br (n_7 != n_3)
                                                                                                                                                      (∀ (w1_5 : World),
                                                                                                                                                        Upd [] [b_5] w1 w1_5 →
                                                                                                                                                          R (SV.bool false) w1_5)
                                                                                                                                                      (∀ (w1_5 : World),
                                                                                                                                                        Upd [] [b_5] w1 w1_5 →
                                                                                                                                                          Ret Try.prog 28
                                                                                                                                                            [SV.struct
                                                                                                                                                                [SV.arr IntKind.u8 6
                                                                                                                                                                    f_4,
                                                                                                                                                                  SV.arr IntKind.u8 6
                                                                                                                                                                    f_5,
                                                                                                                                                                  SV.slice s,
                                                                                                                                                                  SV.int IntKind.i64
                                                                                                                                                                    n_6,
                                                                                                                                                                  SV.slice s_8],
                                                                                                                                                              SV.struct
                                                                                                                                                                [SV.arr IntKind.u8 6
                                                                                                                                                                    f_2,
                                                                                                                                                                  SV.arr IntKind.u8 6
                                                                                                                                                                    f_3,
                                                                                                                                                                  SV.slice s_6,
                                                                                                                                                                  SV.int IntKind.i64
                                                                                                                                                                    n_2,
                                                                                                                                                                  SV.slice s_7]]
                                                                                                                                                            w1_5
                                                                                                                                                            fun (r : SV)
                                                                                                                                                              (w1 : World) =>
                                                                                                                                                            ∃ (b_6 : Bool),
                                                                                                                                                              r = SV.bool b_6 ∧
                                                                                                                                                                Keeps [b, b_2, b_5]
                                                                                                                                                                    w1_5 w1 ∧
                                                                                                                                                                  Br (!b_6)
                                                                                                                                                                    (R (SV.bool false)
                                                                                                                                                                      w1)
                                                                                                                                                                    (Ret Try.prog 19
                                                                                                                                                                      [SV.slice s_1,
                                                                                                                                                                        SV.slice s_2]
                                                                                                                                                                      w1
                                                                                                                                                                      fun (r : SV)
                                                                                                                                                                        (w1_6 :
                                                                                                                                                                          World) =>
                                                                                                                                                                      ∃ (b_7 : Bool),
                                                                                                                                                                        r =
                                                                                                                                                                            SV.bool
                                                                                                                                                                              b_7 ∧
                                                                                                                                                                          Keeps
                                                                                                                                                                              [b, b_2,
                                                                                                                                                                                b_5]
                                                                                                                                                                              w1
                                                                                                                                                                              w1_6 ∧
                                                                                                                                                                            Br (!b_7)
                                                                                                                                                                              (R
                                                                                                                                                                                (SV.bool
                                                                                                                                                                                  false)
                                                                                                                                                                                w1_6)
                                                                                                                                                                              (Ret
                                                                                                                                                                                Try.prog
                                                                                                                                                                                25 []
                                                                                                                                                                                w1_6
                                                                                                                                                                                fun
                                                                                                                                                                                  (r :
                                                                                                                                                                                    SV)
                                                                                                                                                                                  (w1 :
                                                                                                                                                                                    World) =>
                                                                                                                                                                                ∃ (b_8
                                                                                                                                                                                  :
                                                                                                                                                                                  Bool),
                                                                                                                                                                                  r =
                                                                                                                                                                                      SV.bool
                                                                                                                                                                                        b_8 ∧
                                                                                                                                                                                    Keeps
                                                                                                                                                                                        [b,
                                                                                                                                                                                          b_2,
                                                                                                                                                                                          b_5]
                                                                                                                                                                                        w1_6
                                                                                                                                                                                        w1 ∧
                                                                                                                                                                                      Br
                                                                                                                                                                                        (!b_8)
                                                                                                                                                                                        (R
                                                                                                                                                                                          (SV.bool
                                                                                                                                                                                            false)
                                                                                                                                                                                          w1)
                                                                                                                                                                                        (some
                                                                                                                                                                                              (SV.box
                                                                                                                                                                                                b
                                                                                                                                                                                                50
                                                                                                                                                                                                (SV.struct
                                                                                                                                                                                                  [SV.arr
                                                                                                                                                                                                      IntKind.u8
                                                                                                                                                                                                      6
                                                                                                                                                                                                      f,
                                                                                                                                                                                                    SV.arr
                                                                                                                                                                                                      IntKind.u8
                                                                                                                                                                                                      6
                                                                                                                                                                                                      f_1,
                                                                                                                                                                                                    SV.slice
                                                                                                                                                                                                      s_3,
                                                                                                                                                                                                    SV.int
                                                                                                                                                                                                      IntKind.i64
                                                                                                                                                                                                      n,
                                                                                                                                                                                                    SV.slice
                                                                                                                                                                                                      s_4])) =
                                                                                                                                                                                            some
                                                                                                                                                                                              (SV.box
                                                                                                                                                                                                b
                                                                                                                                                                                                50
                                                                                                                                                                                                (SV.struct
                                                                                                                                                                                                  [SV.arr
                                                                                                                                                                                                      IntKind.u8
                                                                                                                                                                                                      6
                                                                                                                                                                                                      f,
                                                                                                                                                                                                    SV.arr
                                                                                                                                                                                                      IntKind.u8
                                                                                                                                                                                                      6
                                                                                                                                                                                                      f_1,
                                                                                                                                                                                                    SV.slice
                                                                                                                                                                                                      s_3,
                                                                                                                                                                                                    SV.int
                                                                                                                                                                                                      IntKind.i64
                                                                                                                                                                                                      n,
                                                                                                                                                                                                    SV.slice
                                                                                                                                                                                                      s_4])) ∧
                                                                                                                                                                                          some
                                                                                                                                                                                                (SV.box
                                                                                                                                                                                                  b_2
                                                                                                                                                                                                  50
                                                                                                                                                                                                  (SV.struct
                                                                                                                                                                                                    [SV.arr
                                                                                                                                                                                                        IntKind.u8
                                                                                                                                                                                                        6
                                                                                                                                                                                                        f_2,
                                                                                                                                                                                                      SV.arr
                                                                                                                                                                                                        IntKind.u8
                                                                                                                                                                                                        6
                                                                                                                                                                                                        f_3,
                                                                                                                                                                                                      SV.slice
                                                                                                                                                                                                        s_6,
                                                                                                                                                                                                      SV.int
                                                                                                                                                                                                        IntKind.i64
                                                                                                                                                                                                        n_2,
                                                                                                                                                                                                      SV.slice
                                                                                                                                                                                                        s_7])) =
                                                                                                                                                                                              some
                                                                                                                                                                                                (SV.box
                                                                                                                                                                                                  b_2
                                                                                                                                                                                                  50
                                                                                                                                                                                                  (SV.struct
                                                                                                                                                                                                    [SV.arr
                                                                                                                                                                                                        IntKind.u8
                                                                                                                                                                                                        6
                                                                                                                                                                                                        f_2,
                                                                                                                                                                                                      SV.arr
                                                                                                                                                                                                        IntKind.u8
                                                                                                                                                                                                        6
                                                                                                                                                                                                        f_3,
                                                                                                                                                                                                      SV.slice
                                                                                                                                                                                                        s_6,
                                                                                                                                                                                                      SV.int
                                                                                                                                                                                                        IntKind.i64
                                                                                                                                                                                                        n_2,
                                                                                                                                                                                                      SV.slice
                                                                                                                                                                                                        s_7])) ∧
                                                                                                                                                                                            some
                                                                                                                                                                                                  (SV.box
                                                                                                                                                                                                    b_5
                                                                                                                                                                                                    50
                                                                                                                                                                                                    (SV.struct
                                                                                                                                                                                                      [SV.arr
                                                                                                                                                                                                          IntKind.u8
                                                                                                                                                                                                          6
                                                                                                                                                                                                          f_4,
                                                                                                                                                                                                        SV.arr
                                                                                                                                                                                                          IntKind.u8
                                                                                                                                                                                                          6
                                                                                                                                                                                                          f_5,
                                                                                                                                                                                                        SV.slice
                                                                                                                                                                                                          s,
                                                                                                                                                                                                        SV.int
                                                                                                                                                                                                          IntKind.i64
                                                                                                                                                                                                          n_6,
                                                                                                                                                                                                        SV.slice
                                                                                                                                                                                                          s_8])) =
                                                                                                                                                                                                some
                                                                                                                                                                                                  (SV.box
                                                                                                                                                                                                    b_5
                                                                                                                                                                                                    50
                                                                                                                                                                                                    (SV.struct
                                                                                                                                                                                                      [SV.arr
                                                                                                                                                                                                          IntKind.u8
                                                                                                                                                                                                          6
                                                                                                                                                                                                          f_4,
                                                                                                                                                                                                        SV.arr
                                                                                                                                                                                                          IntKind.u8
                                                                                                                                                                                                          6
                                                                                                                                                                                                          f_5,
                                                                                                                                                                                                        SV.slice
                                                                                                                                                                                                          s,
                                                                                                                                                                                                        SV.int
                                                                                                                                                                                                          IntKind.i64
                                                                                                                                                                                                          n_6,
                                                                                                                                                                                                        SV.slice
                                                                                                                                                                                                          s_8])) ∧
                                                                                                                                                                                              J
                                                                                                                                                                                                w1))))))) →
                                                                                              J w1) →
                                                                                          Ret Try.prog 19 [SV.slice s_1, SV.slice s_2] w fun (r_1 : SV) (w1 : World) =>
                                                                                            ∃ (b_4 : Bool),
                                                                                              r_1 = SV.bool b_4 ∧
                                                                                                Keeps [b, b_2] w w1 ∧
                                                                                                  Br (!b_4) (R (SV.bool false) w1)
                                                                                                    (Br ((↑r.2 : Int) != wr IntKind.i64 ((↑s_4.2 : Int) + 2)) (R (SV.bool false) w1)
                                                                                                      (some
                                                                                                            (SV.box b 50
                                                                                                              (SV.struct
                                                                                                                [SV.arr IntKind.u8 6 f, SV.arr IntKind.u8 6 f_1, SV.slice s_3,
                                                                                                                  SV.int IntKind.i64 n, SV.slice s_4])) =
                                                                                                          some
                                                                                                            (SV.box b 50
                                                                                                              (SV.struct
                                                                                                                [SV.arr IntKind.u8 6 f, SV.arr IntKind.u8 6 f_1, SV.slice s_3,
                                                                                                                  SV.int IntKind.i64 n, SV.slice s_4])) ∧
                                                                                                        some
                                                                                                              (SV.box b_2 50
                                                                                                                (SV.struct
                                                                                                                  [SV.arr IntKind.u8 6 f_2, SV.arr IntKind.u8 6 f_3, SV.slice s_6,
                                                                                                                    SV.int IntKind.i64 n_2, SV.slice s_7])) =
                                                                                                            some
                                                                                                              (SV.box b_2 50
                                                                                                                (SV.struct
                                                                                                                  [SV.arr IntKind.u8 6 f_2, SV.arr IntKind.u8 6 f_3, SV.slice s_6,
                                                                                                                    SV.int IntKind.i64 n_2, SV.slice s_7])) ∧
                                                                                                          J w1))) →
                                                                              J w1) →
                                                                          Br (n_1 != n_3) (∀ (w1 : World), Upd [] [b_2] w1_2 w1 → R (SV.bool false) w1)
                                                                            (∀ (w1 : World),
                                                                              Upd [] [b_2] w1_2 w1 →
                                                                                Ret Try.prog 28
                                                                                  [SV.struct
                                                                                      [SV.arr IntKind.u8 6 f, SV.arr IntKind.u8 6 f_1, SV.slice s_3, SV.int IntKind.i64 n,
                                                                                        SV.slice s_4],
                                                                                    SV.struct
                                                                                      [SV.arr IntKind.u8 6 f_2, SV.arr IntKind.u8 6 f_3, SV.slice s_6, SV.int IntKind.i64 n_2,
                                                                                        SV.slice s_7]]
                                                                                  w1 fun (r : SV) (w1_3 : World) =>
                                                                                  ∃ (b_3 : Bool),
                                                                                    r = SV.bool b_3 ∧
                                                                                      Keeps [b, b_2] w1 w1_3 ∧
                                                                                        Br (!b_3) (R (SV.bool false) w1_3)
                                                                                          (Ret Try.prog 19 [SV.slice s_1, SV.slice s_2] w1_3 fun (r : SV) (w1 : World) =>
                                                                                            ∃ (b_4 : Bool),
                                                                                              r = SV.bool b_4 ∧
                                                                                                Keeps [b, b_2] w1_3 w1 ∧
                                                                                                  Br (!b_4) (R (SV.bool false) w1)
                                                                                                    (some
                                                                                                          (SV.box b 50
                                                                                                            (SV.struct
                                                                                                              [SV.arr IntKind.u8 6 f, SV.arr IntKind.u8 6 f_1, SV.slice s_3,
                                                                                                                SV.int IntKind.i64 n, SV.slice s_4])) =
                                                                                                        some
                                                                                                          (SV.box b 50
                                                                                                            (SV.struct
                                                                                                              [SV.arr IntKind.u8 6 f, SV.arr IntKind.u8 6 f_1, SV.slice s_3,
                                                                                                                SV.int IntKind.i64 n, SV.slice s_4])) ∧
                                                                                                      some
                                                                                                            (SV.box b_2 50
                                                                                                              (SV.struct
                                                                                                                [SV.arr IntKind.u8 6 f_2, SV.arr IntKind.u8 6 f_3, SV.slice s_6,
                                                                                                                  SV.int IntKind.i64 n_2, SV.slice s_7])) =
                                                                                                          some
                                                                                                            (SV.box b_2 50
                                                                                                              (SV.struct
                                                                                                                [SV.arr IntKind.u8 6 f_2, SV.arr IntKind.u8 6 f_3, SV.slice s_6,
                                                                                                                  SV.int IntKind.i64 n_2, SV.slice s_7])) ∧
                                                                                                        J w1))))
theorem f6_of (b : Sl) (w : World) (R : SV → World → Prop) (h : vc6 b w R) : Ret Try.prog 6 [.slice b] w R :=
  have e : vc6 b w R = fnVC X Try.f6 a6 [.slice b] w R := by kernel_rfl
  fnVC_sound X_ok (n := a6) (e ▸ h) (by kernel_rfl) (by kernel_rfl) rfl rfl

def vc7 (f_0 : Nat → Int) (f_1 : Nat → Int) (f_2 : Sl) (f_3 : Int) (f_4 : Sl) (w : World) (R : SV → World → Prop) : Prop :=
  ∀ (b : Nat) (w1 : World),
    Upd [] [b] w w1 →
      Ret Try.prog 25 [] w1 fun (r : SV) (w1_1 : World) =>
        ∃ (b_1 : Bool),
          r = SV.bool b_1 ∧
            Keeps [b] w1 w1_1 ∧
              Br (!b_1) (R (SV.bool false) w1_1)
                (Ret Try.prog 29 [SV.struct [SV.arr IntKind.u8 6 f_0, SV.arr IntKind.u8 6 f_1, SV.slice f_2, SV.int IntKind.i64 f_3, SV.slice f_4]] w1_1 fun (r : SV) (w1 : World) =>
                  ∃ (f : Nat → Int),
                    ∃ (f_5 : Nat → Int),
                      ∃ (s : Sl),
                        ∃ (n : Int),
                          ∃ (s_1 : Sl),
                            r = SV.struct [SV.arr IntKind.u8 6 f, SV.arr IntKind.u8 6 f_5, SV.slice s, SV.int IntKind.i64 n, SV.slice s_1] ∧
                              Keeps [b] w1_1 w1 ∧
                                ∀ (b_2 : Nat) (w1_2 : World),
                                  Upd [b] [b_2] w1 w1_2 →
                                    Ret Try.prog 16 [SV.slice s_1] w1_2 fun (r : SV) (w1 : World) =>
                                      ∃ (s_2 : Sl),
                                        ∃ (s_3 : Sl),
                                          r = SV.tuple [SV.slice s_2, SV.slice s_3] ∧
                                            Keeps [b, b_2] w1_2 w1 ∧
                                              Vc.Append 57 4 32 { ptr := none, len := 0, cap := 0 } s [b, b_2] w1 fun (r : Sl) (w : World) =>
                                                ∀ (b_3 : Nat) (w1 : World),
                                                  Upd [] [b_3] w w1 →
                                                    (World.heap w1)[b_3]? =
                                                        some
                                                          (Obj.cells
                                                            {
                                                              toList :=
                                                                SV.cells
                                                                  (SV.struct [SV.struct [SV.int IntKind.i64 (-7), SV.int IntKind.i64 0, SV.bool false, SV.int IntKind.i64 0]]) }
                                                            57) →
                                                      Vc.Append 57 4 32 r { ptr := some { block := b_3, off := 0 }, len := 1, cap := 1 } [b, b_2] w1 fun (r : Sl) (w : World) =>
                                                        Need (decide (0 ≤ (↑s.2 : Int)) && decide ((↑s.2 : Int) ≤ (↑r.3 : Int)))
                                                          (∀ (w1 : World),
                                                            Upd [b_2] [] w w1 →
                                                              Ret Try.prog 17 [SV.slice s_3] w1 fun (r_1 : SV) (w1_3 : World) =>
                                                                ∃ (s_4 : Sl),
                                                                  r_1 = SV.slice s_4 ∧
                                                                    Keeps [b, b_2] w1 w1_3 ∧
                                                                      Ret Try.prog 30
                                                                        [SV.struct
                                                                            [SV.arr IntKind.u8 6 f, SV.arr IntKind.u8 6 f_5, SV.slice (Sl.sub r 4 0 (Int.toNat (↑s.2 : Int)) r.3),
                                                                              SV.int IntKind.i64 n, SV.slice s_2]]
                                                                        w1_3 fun (r_2 : SV) (w1 : World) =>
                                                                        ∃ (n_1 : Int),
                                                                          r_2 = SV.int IntKind.i64 n_1 ∧
                                                                            Keeps [b, b_2] w1_3 w1 ∧
                                                                              Ret Try.prog 31
                                                                                [SV.struct
                                                                                    [SV.arr IntKind.u8 6 f, SV.arr IntKind.u8 6 f_5,
                                                                                      SV.slice (Sl.sub r 4 0 (Int.toNat (↑s.2 : Int)) r.3), SV.int IntKind.i64 n, SV.slice s_2]]
                                                                                w1 fun (r_3 : SV) (w1_4 : World) =>
                                                                                ∃ (s_5 : Sl),
                                                                                  ∃ (n_2 : Int),
                                                                                    r_3 = SV.tuple [SV.slice s_5, SV.int IntKind.i64 n_2] ∧
                                                                                      Keeps [b, b_2] w1 w1_4 ∧
                                                                                        Ret Try.prog 32
                                                                                          [SV.struct
                                                                                              [SV.arr IntKind.u8 6 f, SV.arr IntKind.u8 6 f_5, SV.slice s, SV.int IntKind.i64 n,
                                                                                                SV.slice s_1]]
                                                                                          w1_4 fun (r_4 : SV) (w1 : World) =>
                                                                                          ∃ (s_6 : Sl),
                                                                                            ∃ (n_3 : Int),
                                                                                              r_4 = SV.tuple [SV.slice s_6, SV.int IntKind.i64 n_3] ∧
                                                                                                Keeps [b, b_2] w1_4 w1 ∧
                                                                                                  ∀ (J : World → Prop),
                                                                                                    (∀ (w1 : World),
                                                                                                        (∃ (I : Int → World → Prop),
                                                                                                            ∃ (M : Int → World → Nat),
                                                                                                              I 0 w1 ∧
                                                                                                                ∀ (n_4 : Int) (w1 : World),
                                                                                                                  I n_4 w1 →
                                                                                                                    Br (decide (n_4 < (↑s_5.2 : Int)))
                                                                                                                      (Need
                                                                                                                        (decide (0 ≤ n_4) && decide (n_4 < (↑s_5.2 : Int)) &&
                                                                                                                          Option.isSome s_5.1)
                                                                                                                        (Store w1 (Sl.at s_5 1 (Int.toNat n_4))
                                                                                                                          (SV.cells (SV.int IntKind.u8 77)) [b, b_2]
                                                                                                                          fun (w1_5 : World) =>
                                                                                                                          some
                                                                                                                                (SV.box b 50
                                                                                                                                  (SV.struct
                                                                                                                                    [SV.arr IntKind.u8 6 f, SV.arr IntKind.u8 6 f_5,
                                                                                                                                      SV.slice s, SV.int IntKind.i64 n,
                                                                                                                                      SV.slice s_1])) =
                                                                                                                              some
                                                                                                                                (SV.box b 50
                                                                                                                                  (SV.struct
                                                                                                                                    [SV.arr IntKind.u8 6 f, SV.arr IntKind.u8 6 f_5,
                                                                                                                                      SV.slice s, SV.int IntKind.i64 n,
                                                                                                                                      SV.slice s_1])) ∧
                                                                                                                            some
                                                                                                                                  (SV.box b_2 50
                                                                                                                                    (SV.struct
                                                                                                                                      [SV.arr IntKind.u8 6 f, SV.arr IntKind.u8 6 f_5,
                                                                                                                                        SV.slice
                                                                                                                                          (Sl.sub r 4 0 (Int.toNat (↑s.2 : Int)) r.3),
                                                                                                                                        SV.int IntKind.i64 n, SV.slice s_2])) =
                                                                                                                                some
                                                                                                                                  (SV.box b_2 50
                                                                                                                                    (SV.struct
                                                                                                                                      [SV.arr IntKind.u8 6 f, SV.arr IntKind.u8 6 f_5,
                                                                                                                                        SV.slice
                                                                                                                                          (Sl.sub r 4 0 (Int.toNat (↑s.2 : Int)) r.3),
                                                                                                                                        SV.int IntKind.i64 n, SV.slice s_2])) ∧
                                                                                                                              I (wr IntKind.i64 (n_4 + 1)) w1_5 ∧
                                                                                                                                M (wr IntKind.i64 (n_4 + 1)) w1_5 < M n_4 w1))
                                                                                                                      (∀ (b_4 : Nat) (w1_5 : World),
                                                                                                                        Upd [] [b_4] w1 w1_5 →
                                                                                                                          (World.heap w1_5)[b_4]? =
                                                                                                                              some
                                                                                                                                (Obj.cells
                                                                                                                                  {
                                                                                                                                    toList :=
                                                                                                                                      SV.cells
                                                                                                                                        (SV.struct
                                                                                                                                          [SV.int IntKind.u8 77,
                                                                                                                                            SV.int IntKind.u8 77]) }
                                                                                                                                  5) →
                                                                                                                            Vc.Append 5 1 1 s_5
                                                                                                                              { ptr := some { block := b_4, off := 0 }, len := 2,
                                                                                                                                cap := 2 }
                                                                                                                              [b, b_2] w1_5 fun (r_5 : Sl) (w : World) =>
                                                                                                                              Ret Try.prog 31
                                                                                                                                [SV.struct
                                                                                                                                    [SV.arr IntKind.u8 6 f, SV.arr IntKind.u8 6 f_5,
                                                                                                                                      SV.slice
                                                                                                                                        (Sl.sub r 4 0 (Int.toNat (↑s.2 : Int)) r.3),
                                                                                                                                      SV.int IntKind.i64 n, SV.slice s_2]]
                                                                                                                                w fun (r_6 : SV) (w1 : World) =>
                                                                                                                                ∃ (s_7 : Sl),
                                                                                                                                  ∃ (n_5 : Int),
                                                                                                                                    r_6 =
                                                                                                                                        SV.tuple
                                                                                                                                          [SV.slice s_7, SV.int IntKind.i64 n_5] ∧
                                                                                                                                      Keeps [b, b_2] w w1 ∧
                                                                                                                                        ∀ (J : World → Prop),
                                                                                                                                          (∀ (w1 : World),
                                                                                                                                              (∃ (I : Int → World → Prop),
                                                                                                                                                  ∃ (M : Int → World → Nat),
                                                                                                                                                    I 0 w1 ∧
                                                                                                                                                      ∀ (n_6 : Int) (w1 : World),
                                                                                                                                                        I n_6 w1 →
                                                                                                                                                          Br
                                                                                                                                                            (decide
                                                                                                                                                              (n_6 < (↑r_5.2 : Int)))
                                                                                                                                                            (Need
                                                                                                                                                              (decide (0 ≤ n_6) &&
                                                                                                                                                                  decide
                                                                                                                                                                    (n_6 <
                                                                                                                                                                      (↑r_5.2 :
                                                                                                                                                                        Int)) &&
                                                                                                                                                                Option.isSome r_5.1)
                                                                                                                                                              (∃ (n_7 : Int),
                                                                                                                                                                World.cell? w1
                                                                                                                                                                      (Sl.at r_5 1
                                                                                                                                                                        (Int.toNat
                                                                                                                                                                          n_6)) =
                                                                                                                                                                    some
                                                                                                                                                                      (Value.int
                                                                                                                                                                        IntKind.u8
                                                                                                                                                                        n_7) ∧
                                                                                                                                                                  Br (n_7 != 77)
                                                                                                                                                                    (R (SV.bool false)
                                                                                                                                                                      w1)
                                                                                                                                                                    (some
                                                                                                                                                                          (SV.box b 50
                                                                                                                                                                            (SV.struct
                                                                                                                                                                              [SV.arr
                                                                                                                                                                                  IntKind.u8
                                                                                                                                                                                  6 f,
                                                                                                                                                                                SV.arr
                                                                                                                                                                                  IntKind.u8
                                                                                                                                                                                  6
                                                                                                                                                                                  f_5,
                                                                                                                                                                                SV.slice
                                                                                                                                                                                  s,
                                                                                                                                                                                SV.int
                                                                                                                                                                                  IntKind.i64
                                                                                                                                                                                  n,
                                                                                                                                                                                SV.slice
                                                                                                                                                                                  s_1])) =
                                                                                                                                                                        some
                                                                                                                                                                          (SV.box b 50
                                                                                                                                                                            (SV.struct
                                                                                                                                                                              [SV.arr
                                                                                                                                                                                  IntKind.u8
                                                                                                                                                                                  6 f,
                                                                                                                                                                                SV.arr
                                                                                                                                                                                  IntKind.u8
                                                                                                                                                                                  6
                                                                                                                                                                                  f_5,
                                                                                                                                                                                SV.slice
                                                                                                                                                                                  s,
                                                                                                                                                                                SV.int
                                                                                                                                                                                  IntKind.i64
                                                                                                                                                                                  n,
                                                                                                                                                                                SV.slice
                                                                                                                                                                                  s_1])) ∧
                                                                                                                                                                      some
                                                                                                                                                                            (SV.box
                                                                                                                                                                              b_2 50
                                                                                                                                                                              (SV.struct
                                                                                                                                                                                [SV.arr
                                                                                                                                                                                    IntKind.u8
                                                                                                                                                                                    6
                                                                                                                                                                                    f,
                                                                                                                                                                                  SV.arr
                                                                                                                                                                                    IntKind.u8
                                                                                                                                                                                    6
                                                                                                                                                                                    f_5,
                                                                                                                                                                                  SV.slice
                                                                                                                                                                                    (Sl.sub
                                                                                                                                                                                      r
                                                                                                                                                                                      4
                                                                                                                                                                                      0
                                                                                                                                                                                      (Int.toNat
                                                                                                                                                                                        (↑s.2 :
                                                                                                                                                                                          Int))
                                                                                                                                                                                      r.3),
                                                                                                                                                                                  SV.int
                                                                                                                                                                                    IntKind.i64
                                                                                                                                                                                    n,
                                                                                                                                                                                  SV.slice
                                                                                                                                                                                    s_2])) =
                                                                                                                                                                          some
                                                                                                                                                                            (SV.box
                                                                                                                                                                              b_2 50
                                                                                                                                                                              (SV.struct
                                                                                                                                                                                [SV.arr
                                                                                                                                                                                    IntKind.u8
                                                                                                                                                                                    6
                                                                                                                                                                                    f,
                                                                                                                                                                                  SV.arr
                                                                                                                                                                                    IntKind.u8
                                                                                                                                                                                    6
                                                                                                                                                                                    f_5,
                                                                                                                                                                                  SV.slice
                                                                                                                                                                                    (Sl.sub
                                                                                                                                                                                      r
                                                                                                                                                                                      4
                                                                                                                                                                                      0
                                                                                                                                                                                      (Int.toNat
                                                                                                                                                                                        (↑s.2 :
                                                                                                                                                                                          Int))
                                                                                                                                                                                      r.3),
                                                                                                                                                                                  SV.int
                                                                                                                                                                                    IntKind.i64
                                                                                                                                                                                    n,
                                                                                                                                                                                  SV.slice
                                                                                                                                                                                    s_2])) ∧
                                                                                                                                                                        I
                                                                                                                                                                            (wr
                                                                                                                                                                              IntKind.i64
                                                                                                                                                                              (n_6 +
                                                                                                                                                                                1))
                                                                                                                                                                            w1 ∧
                                                                                                                                                                          M
                                                                                                                                                                              (wr
                                                                                                                                                                                IntKind.i64
                                                                                                                                                                                (n_6 +
                                                                                                                                                                                  1))
                                                                                                                                                                              w1 <
                                                                                                                                                                            M n_6
                                                                                                                                                                              w1)))
                                                                                                                                                            (R (SV.bool true) w1)) →
                                                                                                                                                J w1) →
                                                                                                                                            Br (n_5 != n_3) (R (SV.bool false) w1)
                                                                                                                                              (Ret Try.prog 19
                                                                                                                                                [SV.slice s_7, SV.slice s_6] w1
                                                                                                                                                fun (r_7 : SV) (w1_6 : World) =>
                                                                                                                                                ∃ (b_5 : Bool),
                                                                                                                                                  r_7 = SV.bool b_5 ∧
                                                                                                                                                    Keeps [b, b_2] w1 w1_6 ∧
                                                                                                                                                      Br (!b_5)
                                                                                                                                                        (R (SV.bool false) w1_6)
                                                                                                                                                        (Ret Try.prog 19
                                                                                                                                                          [SV.slice s_3, SV.slice s_4]
                                                                                                                                                          w1_6
                                                                                                                                                          fun (r_8 : SV)
                                                                                                                                                            (w1 : World) =>
                                                                                                                                                          ∃ (b_6 : Bool),
                                                                                                                                                            r_8 = SV.bool b_6 ∧
                                                                                                                                                              Keeps [b, b_2] w1_6 w1 ∧
                                                                                                                                                                Br (!b_6)
                                                                                                                                                                  (R (SV.bool false)
                                                                                                                                                                    w1)
                                                                                                                                                                  (Ret Try.prog 25 []
                                                                                                                                                                    w1
                                                                                                                                                                    fun (r_9 : SV)
                                                                                                                                                                      (w1_7 :
                                                                                                                                                                        World) =>
                                                                                                                                                                    ∃ (b_7 : Bool),
                                                                                                                                                                      r_9 =
                                                                                                                                                                          SV.bool
                                                                                                                                                                            b_7 ∧
                                                                                                                                                                        Keeps [b, b_2]
                                                                                                                                                                            w1 w1_7 ∧
                                                                                                                                                                          Br (!b_7)
                                                                                                                                                                            (R
                                                                                                                                                                              (SV.bool
                                                                                                                                                                                false)
                                                                                                                                                                              w1_7)
                                                                                                                                                                            (some
                                                                                                                                                                                  (SV.box
                                                                                                                                                                                    b
                                                                                                                                                                                    50
                                                                                                                                                                                    (SV.struct
                                                                                                                                                                                      [SV.arr
                                                                                                                                                                                          IntKind.u8
                                                                                                                                                                                          6
                                                                                                                                                                                          f,
                                                                                                                                                                                        SV.arr
                                                                                                                                                                                          IntKind.u8
                                                                                                                                                                                          6
                                                                                                                                                                                          f_5,
                                                                                                                                                                                        SV.slice
                                                                                                                                                                                          s,
                                                                                                                                                                                        SV.int
                                                                                                                                                                                          IntKind.i64
                                                                                                                                                                                          n,
                                                                                                                                                                                        SV.slice
                                                                                                                                                                                          s_1])) =
                                                                                                                                                                                some
                                                                                                                                                                                  (SV.box
                                                                                                                                                                                    b
                                                                                                                                                                                    50
                                                                                                                                                                                    (SV.struct
                                                                                                                                                                                      [SV.arr
                                                                                                                                                                                          IntKind.u8
                                                                                                                                                                                          6
                                                                                                                                                                                          f,
                                                                                                                                                                                        SV.arr
                                                                                                                                                                                          IntKind.u8
                                                                                                                                                                                          6
                                                                                                                                                                                          f_5,
                                                                                                                                                                                        SV.slice
                                                                                                                                                                                          s,
                                                                                                                                                                                        SV.int
                                                                                                                                                                                          IntKind.i64
                                                                                                                                                                                          n,
                                                                                                                                                                                        SV.slice
                                                                                                                                                                                          s_1])) ∧
                                                                                                                                                                              some
                                                                                                                                                                                    (SV.box
                                                                                                                                                                                      b_2
                                                                                                                                                                                      50
                                                                                                                                                                                      (SV.struct
                                                                                                                                                                                        [SV.arr
                                                                                                                                                                                            IntKind.u8
                                                                                                                                                                                            6
                                                                                                                                                                                            f,
                                                                                                                                                                                          SV.arr
                                                                                                                                                                                            IntKind.u8
                                                                                                                                                                                            6
                                                                                                                                                                                            f_5,
                                                                                                                                                                                          SV.slice
                                                                                                                                                                                            (Sl.sub
                                                                                                                                                                                              r
                                                                                                                                                                                              4
                                                                                                                                                                                              0
                                                                                                                                                                                              (Int.toNat
                                                                                                                                                                                                (↑s.2 :
                                                                                                                                                                                                  Int))
                                                                                                                                                                                              r.3),
                                                                                                                                                                                          SV.int
                                                                                                                                                                                            IntKind.i64
                                                                                                                                                                                            n,
                                                                                                                                                                                          SV.slice
                                                                                                                                                                                            s_2])) =
                                                                                                                                                                                  some
                                                                                                                                                                                    (SV.box
                                                                                                                                                                                      b_2
                                                                                                                                                                                      50
                                                                                                                                                                                      (SV.struct
                                                                                                                                                                                        [SV.arr
                                                                                                                                                                                            IntKind.u8
                                                                                                                                                                                            6
                                                                                                                                                                                            f,
                                                                                                                                                                                          SV.arr
                                                                                                                                                                                            IntKind.u8
                                                                                                                                                                                            6
                                                                                                                                                                                            f_5,
                                                                                                                                                                                          SV.slice
                                                                                                                                                                                            (Sl.sub
                                                                                                                                                                                              r
                                                                                                                                                                                              4
                                                                                                                                                                                              0
                                                                                                                                                                                              (Int.toNat
                                                                                                                                                                                                (↑s.2 :
                                                                                                                                                                                                  Int))
                                                                                                                                                                                              r.3),
                                                                                                                                                                                          SV.int
                                                                                                                                                                                            IntKind.i64
                                                                                                                                                                                            n,
                                                                                                                                                                                          SV.slice
                                                                                                                                                                                            s_2])) ∧
                                                                                                                                                                                J
                                                                                                                                                                                  w1_7)))))) →
                                                                                                          J w1) →
                                                                                                      Br (n_1 != n_3) (R (SV.bool false) w1)
                                                                                                        (Br (n_2 != n_3) (R (SV.bool false) w1)
                                                                                                          (Ret Try.prog 19 [SV.slice s_5, SV.slice s_6] w1
                                                                                                            fun (r_5 : SV) (w1_5 : World) =>
                                                                                                            ∃ (b_4 : Bool),
                                                                                                              r_5 = SV.bool b_4 ∧
                                                                                                                Keeps [b, b_2] w1 w1_5 ∧
                                                                                                                  Br (!b_4) (R (SV.bool false) w1_5)
                                                                                                                    (Ret Try.prog 19 [SV.slice s_3, SV.slice s_4] w1_5
                                                                                                                      fun (r_6 : SV) (w1 : World) =>
                                                                                                                      ∃ (b_5 : Bool),
                                                                                                                        r_6 = SV.bool b_5 ∧
                                                                                                                          Keeps [b, b_2] w1_5 w1 ∧
                                                                                                                            Br (!b_5) (R (SV.bool false) w1)
                                                                                                                              (Ret Try.prog 28
                                                                                                                                [SV.struct
                                                                                                                                    [SV.arr IntKind.u8 6 f, SV.arr IntKind.u8 6 f_5,
                                                                                                                                      SV.slice
                                                                                                                                        (Sl.sub r 4 0 (Int.toNat (↑s.2 : Int)) r.3),
                                                                                                                                      SV.int IntKind.i64 n, SV.slice s_2],
                                                                                                                                  SV.struct
                                                                                                                                    [SV.arr IntKind.u8 6 f, SV.arr IntKind.u8 6 f_5,
                                                                                                                                      SV.slice s, SV.int IntKind.i64 n, SV.slice s_1]]
                                                                                                                                w1 fun (r_7 : SV) (w1_6 : World) =>
                                                                                                                                ∃ (b_6 : Bool),
                                                                                                                                  r_7 = SV.bool b_6 ∧
                                                                                                                                    Keeps [b, b_2] w1 w1_6 ∧
                                                                                                                                      Br (!b_6) (R (SV.bool false) w1_6)
                                                                                                                                        (Need
                                                                                                                                          (decide (0 ≤ (↑s.2 : Int)) &&
                                                                                                                                              decide ((↑s.2 : Int) < (↑r.2 : Int)) &&
                                                                                                                                            Option.isSome r.1)
                                                                                                                                          (∃ (n_4 : Int),
                                                                                                                                            World.cell? w1_6
                                                                                                                                                  (Sl.at r 4
                                                                                                                                                    (Int.toNat (↑s.2 : Int))) =
                                                                                                                                                some (Value.int IntKind.i64 n_4) ∧
                                                                                                                                              Br (n_4 != -7) (R (SV.bool false) w1_6)
                                                                                                                                                (some
                                                                                                                                                      (SV.box b 50
                                                                                                                                                        (SV.struct
                                                                                                                                                          [SV.arr IntKind.u8 6 f,
                                                                                                                                                            SV.arr IntKind.u8 6 f_5,
                                                                                                                                                            SV.slice s,
                                                                                                                                                            SV.int IntKind.i64 n,
                                                                                                                                                            SV.slice s_1])) =
                                                                                                                                                    some
                                                                                                                                                      (SV.box b 50
                                                                                                                                                        (SV.struct
                                                                                                                                                          [SV.arr IntKind.u8 6 f,
                                                                                                                                                            SV.arr IntKind.u8 6 f_5,
                                                                                                                                                            SV.slice s,
                                                                                                                                                            SV.int IntKind.i64 n,
                                                                                                                                                            SV.slice s_1])) ∧
                                                                                                                                                  some
                                                                                                                                                        (SV.box b_2 50
                                                                                                                                                          (SV.struct
                                                                                                                                                            [SV.arr IntKind.u8 6 f,
                                                                                                                                                              SV.arr IntKind.u8 6 f_5,
                                                                                                                                                              SV.slice
                                                                                                                                                                (Sl.sub r 4 0
                                                                                                                                                                  (Int.toNat
                                                                                                                                                                    (↑s.2 : Int))
                                                                                                                                                                  r.3),
                                                                                                                                                              SV.int IntKind.i64 n,
                                                                                                                                                              SV.slice s_2])) =
                                                                                                                                                      some
                                                                                                                                                        (SV.box b_2 50
                                                                                                                                                          (SV.struct
                                                                                                                                                            [SV.arr IntKind.u8 6 f,
                                                                                                                                                              SV.arr IntKind.u8 6 f_5,
                                                                                                                                                              SV.slice
                                                                                                                                                                (Sl.sub r 4 0
                                                                                                                                                                  (Int.toNat
                                                                                                                                                                    (↑s.2 : Int))
                                                                                                                                                                  r.3),
                                                                                                                                                              SV.int IntKind.i64 n,
                                                                                                                                                              SV.slice s_2])) ∧
                                                                                                                                                    J w1_6)))))))))
theorem f7_of (f_0 : Nat → Int) (f_1 : Nat → Int) (f_2 : Sl) (f_3 : Int) (f_4 : Sl) (w : World) (R : SV → World → Prop) (h : vc7 f_0 f_1 f_2 f_3 f_4 w R) : Ret Try.prog 7 [.struct [.arr .u8 6 f_0, .arr .u8 6 f_1, .slice f_2, .int .i64 f_3, .slice f_4]] w R :=
  have e : vc7 f_0 f_1 f_2 f_3 f_4 w R = fnVC X Try.f7 a7 [.struct [.arr .u8 6 f_0, .arr .u8 6 f_1, .slice f_2, .int .i64 f_3, .slice f_4]] w R := by kernel_rfl
  fnVC_sound X_ok (n := a7) (e ▸ h) (by kernel_rfl) (by kernel_rfl) rfl rfl

def vc8 (b : Sl) (w : World) (R : SV → World → Prop) : Prop :=
  Ret Try.prog 16 [SV.slice b] w fun (r : SV) (w1 : World) =>
    ∃ (s : Sl),
      ∃ (s_1 : Sl),
        r = SV.tuple [SV.slice s, SV.slice s_1] ∧
          Ret Try.prog 26 [SV.slice s] w1 fun (r : SV) (w1 : World) =>
            ∃ (f : Nat → Int),
              ∃ (f_1 : Nat → Int),
                ∃ (s_2 : Sl),
                  ∃ (n : Int),
                    ∃ (s_3 : Sl),
                      ∃ (n_1 : Int),
                        r = SV.tuple [SV.struct [SV.arr IntKind.u8 6 f, SV.arr IntKind.u8 6 f_1, SV.slice s_2, SV.int IntKind.i64 n, SV.slice s_3], SV.int IntKind.i64 n_1] ∧
                          ∀ (b : Nat) (w1_1 : World),
                            Upd [] [b] w1 w1_1 →
                              Ret Try.prog 25 [] w1_1 fun (r : SV) (w1 : World) =>
                                ∃ (b_1 : Bool),
                                  r = SV.bool b_1 ∧
                                    Keeps [b] w1_1 w1 ∧
                                      Br (!b_1) (R (SV.bool false) w1)
                                        (Br (n_1 != 0)
                                          (Ret Try.prog 28
                                            [SV.struct [SV.arr IntKind.u8 6 f, SV.arr IntKind.u8 6 f_1, SV.slice s_2, SV.int IntKind.i64 n, SV.slice s_3],
                                              SV.struct
                                                [SV.arr IntKind.u8 6 fun (x : Nat) => 0, SV.arr IntKind.u8 6 fun (x : Nat) => 0, SV.slice { ptr := none, len := 0, cap := 0 },
                                                  SV.int IntKind.i64 0, SV.slice { ptr := none, len := 0, cap := 0 }]]
                                            w1 fun (r : SV) (w1_2 : World) => ∃ (b_2 : Bool), r = SV.bool b_2 ∧ Keeps [b] w1 w1_2 ∧ R (SV.bool b_2) w1_2)
                                          (Ret Try.prog 31 [SV.struct [SV.arr IntKind.u8 6 f, SV.arr IntKind.u8 6 f_1, SV.slice s_2, SV.int IntKind.i64 n, SV.slice s_3]] w1
                                            fun (r : SV) (w1_2 : World) =>
                                            ∃ (s_4 : Sl),
                                              ∃ (n_2 : Int),
                                                r = SV.tuple [SV.slice s_4, SV.int IntKind.i64 n_2] ∧
                                                  Keeps [b] w1 w1_2 ∧
                                                    Br (n_2 == 0)
                                                      (Ret Try.prog 30 [SV.struct [SV.arr IntKind.u8 6 f, SV.arr IntKind.u8 6 f_1, SV.slice s_2, SV.int IntKind.i64 n, SV.slice s_3]]
                                                        w1_2 fun (r : SV) (w1 : World) =>
                                                        ∃ (n : Int),
                                                          r = SV.int IntKind.i64 n ∧
                                                            Keeps [b] w1_2 w1 ∧
                                                              Br (n == 0)
                                                                (Ret Try.prog 19 [SV.slice s_4, SV.slice s] w1 fun (r : SV) (w1_3 : World) =>
                                                                  ∃ (b_2 : Bool), r = SV.bool b_2 ∧ Keeps [b] w1 w1_3 ∧ R (SV.bool b_2) w1_3)
                                                                (R (SV.bool false) w1))
                                                      (R (SV.bool false) w1_2)))
theorem f8_of (b : Sl) (w : World) (R : SV → World → Prop) (h : vc8 b w R) : Ret Try.prog 8 [.slice b] w R :=
  have e : vc8 b w R = fnVC X Try.f8 a8 [.slice b] w R := by kernel_rfl
  fnVC_sound X_ok (n := a8) (e ▸ h) (by kernel_rfl) (by kernel_rfl) rfl rfl

def vc9 (f_0 : Nat → Int) (f_1 : Nat → Int) (f_2 : Sl) (f_3 : Int) (f_4 : Sl) (w : World) (R : SV → World → Prop) : Prop :=
  ∀ (b : Nat) (w1 : World),
    Upd [] [b] w w1 →
      Ret Try.prog 29 [SV.struct [SV.arr IntKind.u8 6 f_0, SV.arr IntKind.u8 6 f_1, SV.slice f_2, SV.int IntKind.i64 f_3, SV.slice f_4]] w1 fun (r : SV) (w1_1 : World) =>
        ∃ (f : Nat → Int),
          ∃ (f_5 : Nat → Int),
            ∃ (s : Sl),
              ∃ (n : Int),
                ∃ (s_1 : Sl),
                  r = SV.struct [SV.arr IntKind.u8 6 f, SV.arr IntKind.u8 6 f_5, SV.slice s, SV.int IntKind.i64 n, SV.slice s_1] ∧
                    Keeps [b] w1 w1_1 ∧
                      ∀ (w1 : World),
                        Upd [b] [] w1_1 w1 →
                          Ret Try.prog 31 [SV.struct [SV.arr IntKind.u8 6 f, SV.arr IntKind.u8 6 f_5, SV.slice s, SV.int IntKind.i64 n, SV.slice s_1]] w1
                            fun (r : SV) (w1_2 : World) =>
                            ∃ (s_2 : Sl),
                              ∃ (n_1 : Int),
                                r = SV.tuple [SV.slice s_2, SV.int IntKind.i64 n_1] ∧
                                  Keeps [b] w1 w1_2 ∧
                                    ∀ (J : World → Prop),
                                      (∀ (w1 : World),
                                          Br (n_1 != 0) (R (SV.bool ((↑s_2.2 : Int) == 0)) w1)
                                              (Ret Try.prog 26 [SV.slice s_2] w1 fun (r : SV) (w1_3 : World) =>
                                                ∃ (f_6 : Nat → Int),
                                                  ∃ (f_7 : Nat → Int),
                                                    ∃ (s_3 : Sl),
                                                      ∃ (n_2 : Int),
                                                        ∃ (s_4 : Sl),
                                                          ∃ (n_3 : Int),
                                                            r =
                                                                SV.tuple
                                                                  [SV.struct [SV.arr IntKind.u8 6 f_6, SV.arr IntKind.u8 6 f_7, SV.slice s_3, SV.int IntKind.i64 n_2, SV.slice s_4],
                                                                    SV.int IntKind.i64 n_3] ∧
                                                              Keeps [b] w1 w1_3 ∧
                                                                ∀ (b_1 : Nat),
                                                                  Br (n_3 == 0)
                                                                    (∀ (w1 : World),
                                                                      Upd [] [b_1] w1_3 w1 →
                                                                        Ret Try.prog 28
                                                                          [SV.struct [SV.arr IntKind.u8 6 f, SV.arr IntKind.u8 6 f_5, SV.slice s, SV.int IntKind.i64 n, SV.slice s_1],
                                                                            SV.struct
                                                                              [SV.arr IntKind.u8 6 f_6, SV.arr IntKind.u8 6 f_7, SV.slice s_3, SV.int IntKind.i64 n_2, SV.slice s_4]]
                                                                          w1 fun (r : SV) (w1_4 : World) =>
                                                                          ∃ (b_2 : Bool), r = SV.bool b_2 ∧ Keeps [b, b_1] w1 w1_4 ∧ R (SV.bool b_2) w1_4)
                                                                    (∀ (w1 : World), Upd [] [b_1] w1_3 w1 → R (SV.bool false) w1)) →
                                            J w1) →
                                        Ret Try.prog 25 [] w1_2 fun (r : SV) (w1 : World) =>
                                          ∃ (b_1 : Bool),
                                            r = SV.bool b_1 ∧
                                              Keeps [b] w1_2 w1 ∧
                                                Br (!b_1) (R (SV.bool false) w1)
                                                  (Ret Try.prog 30 [SV.struct [SV.arr IntKind.u8 6 f, SV.arr IntKind.u8 6 f_5, SV.slice s, SV.int IntKind.i64 n, SV.slice s_1]] w1
                                                    fun (r : SV) (w1_3 : World) =>
                                                    ∃ (n_2 : Int),
                                                      r = SV.int IntKind.i64 n_2 ∧
                                                        Keeps [b] w1 w1_3 ∧
                                                          Br (n_1 != n_2) (R (SV.bool false) w1_3)
                                                            (some
                                                                  (SV.box b 50
                                                                    (SV.struct [SV.arr IntKind.u8 6 f, SV.arr IntKind.u8 6 f_5, SV.slice s, SV.int IntKind.i64 n, SV.slice s_1])) =
                                                                some
                                                                  (SV.box b 50
                                                                    (SV.struct [SV.arr IntKind.u8 6 f, SV.arr IntKind.u8 6 f_5, SV.slice s, SV.int IntKind.i64 n, SV.slice s_1])) ∧
                                                              J w1_3))
theorem f9_of (f_0 : Nat → Int) (f_1 : Nat → Int) (f_2 : Sl) (f_3 : Int) (f_4 : Sl) (w : World) (R : SV → World → Prop) (h : vc9 f_0 f_1 f_2 f_3 f_4 w R) : Ret Try.prog 9 [.struct [.arr .u8 6 f_0, .arr .u8 6 f_1, .slice f_2, .int .i64 f_3, .slice f_4]] w R :=
  have e : vc9 f_0 f_1 f_2 f_3 f_4 w R = fnVC X Try.f9 a9 [.struct [.arr .u8 6 f_0, .arr .u8 6 f_1, .slice f_2, .int .i64 f_3, .slice f_4]] w R := by kernel_rfl
  fnVC_sound X_ok (n := a9) (e ▸ h) (by kernel_rfl) (by kernel_rfl) rfl rfl

end Go.Vc.S5
