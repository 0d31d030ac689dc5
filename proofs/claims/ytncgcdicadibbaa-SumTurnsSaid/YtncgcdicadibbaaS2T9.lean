import Derived.Test.YtncgcdicadibbaaAnnr2
import Derived.Test.YtncgcdicadibbaaNum
import Derived.KernelRfl
open Go Go.Vc Go.Vc.S2 Go.Proofs
set_option maxRecDepth 100000
set_option linter.unusedVariables false
namespace Go.Vc.S2
def vc9 (b : Sl) (p1 : Int) (now : Sl) (w : World) (R : SV → World → Prop) : Prop :=
  Ret Try.prog 23 [SV.slice b] w fun (r : SV) (w1 : World) =>
    ∃ (s : Sl),
      r = SV.slice s ∧
        ∀ (J : World → Prop),
          (∀ (w1 : World),
              (Ret Try.prog 24 [SV.slice s, SV.int IntKind.i64 p1] w1 fun (r : SV) (w1 : World) =>
                  ∃ (n : Int),
                    r = SV.int IntKind.i64 n ∧
                      ∀ (J : Int → World → Prop),
                        (∀ (n_1 : Int) (w1 : World),
                            (∀ (b : Nat) (w1_1 : World),
                                Upd [] [b] w1 w1_1 →
                                  (World.heap w1_1)[b]? = some (Obj.cells { toList := SV.cells (SV.struct [SV.slice s]) } 24) →
                                    Ret Try.prog 17 [SV.slice { ptr := some { block := b, off := 0 }, len := 1, cap := 1 }] w1_1 fun (r : SV) (w1 : World) =>
                                      ∃ (n_2 : Int),
                                        r = SV.int IntKind.i64 n_2 ∧
                                          Need
                                            (decide (0 ≤ wr IntKind.i64 (n + n_1)) && decide (wr IntKind.i64 (n + n_1) ≤ (↑s.3 : Int)) &&
                                              (decide (0 ≤ n) && decide (n ≤ (↑(Int.toNat (wr IntKind.i64 (n + n_1))) : Int))))
                                            (Vc.Append 5 1 1 { ptr := none, len := 0, cap := 0 } (Sl.sub s 1 (Int.toNat n) (Int.toNat (wr IntKind.i64 (n + n_1))) s.3) [] w1
                                              fun (r : Sl) (w : World) =>
                                              Need (decide (0 ≤ n_1) && decide (n_1 ≤ (↑now.3 : Int)))
                                                (Ret Try.prog 30 [SV.int IntKind.i64 n_2, SV.slice r, SV.slice (Sl.sub now 1 0 (Int.toNat n_1) now.3)] w
                                                  fun (r_1 : SV) (w1 : World) =>
                                                  ∃ (n_3 : Int),
                                                    ∃ (n_4 : Int),
                                                      r_1 = SV.tuple [SV.int IntKind.i64 n_3, SV.int IntKind.i64 n_4] ∧
                                                        ∀ (J : Int → Int → World → Prop),
                                                          (∀ (n_5 n_6 : Int) (w1 : World),
                                                              (∀ (J : World → Prop),
                                                                  (∀ (w1 : World),
                                                                      (∀ (J : World → Prop),
                                                                          (∀ (w1 : World),
                                                                              (∃ (I : Int → World → Prop),
                                                                                  ∃ (M : Int → World → Nat),
                                                                                    I 0 w1 ∧
                                                                                      ∀ (n_7 : Int) (w1 : World),
                                                                                        I n_7 w1 →
                                                                                          Br (decide (n_7 < n_1))
                                                                                            (Need (decide (0 ≤ n_7) && decide (n_7 < (↑now.2 : Int)) && Option.isSome now.1)
                                                                                              (∃ (n_8 : Int),
                                                                                                World.cell? w1 (Sl.at now 1 (Int.toNat n_7)) = some (Value.int IntKind.u8 n_8) ∧
                                                                                                  Need
                                                                                                    (decide (0 ≤ wr IntKind.i64 (n + n_7)) &&
                                                                                                        decide (wr IntKind.i64 (n + n_7) < (↑s.2 : Int)) &&
                                                                                                      Option.isSome s.1)
                                                                                                    (Store w1 (Sl.at s 1 (Int.toNat (wr IntKind.i64 (n + n_7))))
                                                                                                      (SV.cells (SV.int IntKind.u8 n_8)) [] fun (w1_2 : World) =>
                                                                                                      I (wr IntKind.i64 (n_7 + 1)) w1_2 ∧
                                                                                                        M (wr IntKind.i64 (n_7 + 1)) w1_2 < M n_7 w1)))
                                                                                            (Ret Try.prog 32 [SV.slice s] w1 fun (r : SV) (w1 : World) =>
                                                                                              ∃ (b : Bool),
                                                                                                r = SV.bool b ∧
                                                                                                  Br b
                                                                                                    (∀ (b : Nat) (w1_2 : World),
                                                                                                      Upd [] [b] w1 w1_2 →
                                                                                                        (World.heap w1_2)[b]? =
                                                                                                            some (Obj.cells { toList := SV.cells (SV.struct [SV.slice s]) } 24) →
                                                                                                          Ret Try.prog 17
                                                                                                            [SV.slice { ptr := some { block := b, off := 0 }, len := 1, cap := 1 }]
                                                                                                            w1_2 fun (r : SV) (w1 : World) =>
                                                                                                            ∃ (n : Int),
                                                                                                              r = SV.int IntKind.i64 n ∧
                                                                                                                Br (n == 65535)
                                                                                                                  (Br (n_1 == 0) (R (SV.bool true) w1) (R (SV.bool (n_3 == 0)) w1))
                                                                                                                  (R (SV.bool false) w1))
                                                                                                    (∀ (b : Nat) (w1_2 : World),
                                                                                                      Upd [] [b] w1 w1_2 →
                                                                                                        (World.heap w1_2)[b]? =
                                                                                                            some (Obj.cells { toList := SV.cells (SV.struct [SV.slice s]) } 24) →
                                                                                                          Ret Try.prog 17
                                                                                                            [SV.slice { ptr := some { block := b, off := 0 }, len := 1, cap := 1 }]
                                                                                                            w1_2 fun (r : SV) (w1 : World) =>
                                                                                                            ∃ (n : Int), r = SV.int IntKind.i64 n ∧ R (SV.bool (n_3 == n)) w1))) →
                                                                                J w1) →
                                                                            Br (Int.tmod n_1 2 == 1)
                                                                              (Need
                                                                                (decide (0 ≤ wr IntKind.i64 (n + n_1)) && decide (wr IntKind.i64 (n + n_1) < (↑s.2 : Int)) &&
                                                                                  Option.isSome s.1)
                                                                                (∃ (n_7 : Int),
                                                                                  World.cell? w1 (Sl.at s 1 (Int.toNat (wr IntKind.i64 (n + n_1)))) =
                                                                                      some (Value.int IntKind.u8 n_7) ∧
                                                                                    ∀ (b : Nat) (w1_2 : World),
                                                                                      Upd [] [b] w1 w1_2 →
                                                                                        (World.heap w1_2)[b]? =
                                                                                            some (Obj.cells { toList := SV.cells (SV.struct [SV.int IntKind.u8 n_7]) } 5) →
                                                                                          Vc.Append 5 1 1 r { ptr := some { block := b, off := 0 }, len := 1, cap := 1 } [] w1_2
                                                                                            fun (r : Sl) (w : World) =>
                                                                                            Need (decide (0 ≤ n_1) && decide (n_1 ≤ (↑now.3 : Int)))
                                                                                              (Need
                                                                                                (decide (0 ≤ wr IntKind.i64 (n + n_1)) &&
                                                                                                    decide (wr IntKind.i64 (n + n_1) < (↑s.2 : Int)) &&
                                                                                                  Option.isSome s.1)
                                                                                                (∃ (n_8 : Int),
                                                                                                  World.cell? w (Sl.at s 1 (Int.toNat (wr IntKind.i64 (n + n_1)))) =
                                                                                                      some (Value.int IntKind.u8 n_8) ∧
                                                                                                    (∀ (w1 : World),
                                                                                                        Upd [] [] w w1 →
                                                                                                          Vc.Append 5 1 1 { ptr := none, len := 0, cap := 0 }
                                                                                                            (Sl.sub now 1 0 (Int.toNat n_1) now.3) [] w1
                                                                                                            fun (r_2 : Sl) (w_1 : World) =>
                                                                                                            Upd [] [] w w_1 ∧
                                                                                                              ∀ (b : Nat) (w1 : World),
                                                                                                                Upd [] [b] w_1 w1 →
                                                                                                                  (World.heap w1)[b]? =
                                                                                                                      some
                                                                                                                        (Obj.cells
                                                                                                                          { toList := SV.cells (SV.struct [SV.int IntKind.u8 n_8]) }
                                                                                                                          5) →
                                                                                                                    Vc.Append 5 1 1 r_2
                                                                                                                      { ptr := some { block := b, off := 0 }, len := 1, cap := 1 } []
                                                                                                                      w1 fun (r_3 : Sl) (w : World) =>
                                                                                                                      Ret Try.prog 30
                                                                                                                        [SV.int IntKind.i64 n_2, SV.slice r, SV.slice r_3] w
                                                                                                                        fun (r : SV) (w1 : World) =>
                                                                                                                        ∃ (n : Int),
                                                                                                                          ∃ (n_9 : Int),
                                                                                                                            r =
                                                                                                                                SV.tuple
                                                                                                                                  [SV.int IntKind.i64 n, SV.int IntKind.i64 n_9] ∧
                                                                                                                              Br (n_9 != 0) (R (SV.bool false) w1)
                                                                                                                                (Br (n_3 != n) (R (SV.bool false) w1) (J w1))) ∧
                                                                                                      ∀ (b : Nat) (w1 : World),
                                                                                                        Upd [] [b] w w1 →
                                                                                                          (World.heap w1)[b]? =
                                                                                                              some
                                                                                                                (Obj.cells { toList := SV.cells (SV.struct [SV.int IntKind.u8 n_8]) }
                                                                                                                  5) →
                                                                                                            Vc.Append 5 1 1 { ptr := none, len := 0, cap := 0 }
                                                                                                              (Sl.sub now 1 0 (Int.toNat n_1) now.3) [] w1
                                                                                                              fun (r_2 : Sl) (w_1 : World) =>
                                                                                                              Upd [] [] w w_1 ∧
                                                                                                                Vc.Append 5 1 1 r_2
                                                                                                                  { ptr := some { block := b, off := 0 }, len := 1, cap := 1 } [] w_1
                                                                                                                  fun (r_3 : Sl) (w : World) =>
                                                                                                                  Ret Try.prog 30 [SV.int IntKind.i64 n_2, SV.slice r, SV.slice r_3] w
                                                                                                                    fun (r : SV) (w1 : World) =>
                                                                                                                    ∃ (n : Int),
                                                                                                                      ∃ (n_9 : Int),
                                                                                                                        r = SV.tuple [SV.int IntKind.i64 n, SV.int IntKind.i64 n_9] ∧
                                                                                                                          Br (n_9 != 0) (R (SV.bool false) w1)
                                                                                                                            (Br (n_3 != n) (R (SV.bool false) w1) (J w1))))))
                                                                              (J w1)) →
                                                                        J w1) →
                                                                    Br (n_5 != 0) (R (SV.bool false) w1)
                                                                      (Br (Int.tmod n_1 2 == 0) (Br (n_3 != n_6) (R (SV.bool false) w1) (J w1)) (J w1))) →
                                                                J n_5 n_6 w1) →
                                                            ∃ (I : Int → Int → Int → World → Prop),
                                                              ∃ (M : Int → Int → Int → World → Nat),
                                                                I n_4 n_2 0 w1 ∧
                                                                  ∀ (n n_5 n_6 : Int) (w1 : World),
                                                                    I n n_5 n_6 w1 →
                                                                      ∀ (J_1 : World → Prop),
                                                                        (∀ (w1_2 : World),
                                                                            Need (decide (0 ≤ n_6) && decide (n_6 < (↑r.2 : Int)) && Option.isSome r.1)
                                                                                (∃ (n_7 : Int),
                                                                                  World.cell? w1_2 (Sl.at r 1 (Int.toNat n_6)) = some (Value.int IntKind.u8 n_7) ∧
                                                                                    Need
                                                                                      (decide (0 ≤ wr IntKind.i64 (n_6 + 1)) && decide (wr IntKind.i64 (n_6 + 1) < (↑r.2 : Int)) &&
                                                                                        Option.isSome r.1)
                                                                                      (∃ (n_8 : Int),
                                                                                        World.cell? w1_2 (Sl.at r 1 (Int.toNat (wr IntKind.i64 (n_6 + 1)))) =
                                                                                            some (Value.int IntKind.u8 n_8) ∧
                                                                                          Need (decide (0 ≤ n_6) && decide (n_6 < (↑now.2 : Int)) && Option.isSome now.1)
                                                                                            (∃ (n_9 : Int),
                                                                                              World.cell? w1_2 (Sl.at now 1 (Int.toNat n_6)) = some (Value.int IntKind.u8 n_9) ∧
                                                                                                Need
                                                                                                  (decide (0 ≤ wr IntKind.i64 (n_6 + 1)) &&
                                                                                                      decide (wr IntKind.i64 (n_6 + 1) < (↑now.2 : Int)) &&
                                                                                                    Option.isSome now.1)
                                                                                                  (∃ (n_10 : Int),
                                                                                                    World.cell? w1_2 (Sl.at now 1 (Int.toNat (wr IntKind.i64 (n_6 + 1)))) =
                                                                                                        some (Value.int IntKind.u8 n_10) ∧
                                                                                                      ∀ (w1_3 : World),
                                                                                                        Upd [] [] w1_2 w1_3 →
                                                                                                          Ret Try.prog 28
                                                                                                            [SV.int IntKind.i64 n_5,
                                                                                                              SV.int IntKind.i64
                                                                                                                (ior IntKind.i64 (gshl IntKind.i64 (wr IntKind.i64 n_7) 8)
                                                                                                                  (wr IntKind.i64 n_8)),
                                                                                                              SV.int IntKind.i64
                                                                                                                (ior IntKind.i64 (gshl IntKind.i64 (wr IntKind.i64 n_9) 8)
                                                                                                                  (wr IntKind.i64 n_10))]
                                                                                                            w1_3 fun (r : SV) (w1_4 : World) =>
                                                                                                            ∃ (n_11 : Int),
                                                                                                              ∃ (n_12 : Int),
                                                                                                                r = SV.tuple [SV.int IntKind.i64 n_11, SV.int IntKind.i64 n_12] ∧
                                                                                                                  I n_12 n_11 (wr IntKind.i64 (n_6 + 2)) w1_4 ∧
                                                                                                                    M n_12 n_11 (wr IntKind.i64 (n_6 + 2)) w1_4 < M n n_5 n_6 w1)))) →
                                                                              J_1 w1_2) →
                                                                          Br (decide (wr IntKind.i64 (n_6 + 1) < n_1)) (Br (n == 0) (J_1 w1) (J n n_5 w1)) (J n n_5 w1)))) →
                              J n_1 w1) →
                          Br (decide ((↑now.2 : Int) > wr IntKind.i64 ((↑s.2 : Int) - n))) (J (wr IntKind.i64 ((↑s.2 : Int) - n)) w1) (J (↑now.2 : Int) w1)) →
                J w1) →
            Br ((↑s.2 : Int) == 0) (Ret Try.prog 13 [] w1 fun (r : SV) (w1 : World) => ∃ (b : Bool), r = SV.bool b ∧ R (SV.bool b) w1)
              (Ret Try.prog 13 [] w1 fun (r : SV) (w1 : World) =>
                ∃ (b : Bool), r = SV.bool b ∧ Br (!b) (Ret Try.prog 13 [] w1 fun (r : SV) (w1 : World) => ∃ (b : Bool), r = SV.bool b ∧ R (SV.bool b) w1) (J w1))
theorem f9_of (b : Sl) (p1 : Int) (now : Sl) (w : World) (R : SV → World → Prop) (h : vc9 b p1 now w R) : Ret Try.prog 9 [.slice b, .int .i64 p1, .slice now] w R :=
  have e : vc9 b p1 now w R = fnVC X Try.f9 a9 [.slice b, .int .i64 p1, .slice now] w R := by kernel_rfl
  fnVC_sound X_ok (n := a9) (e ▸ h) (by kernel_rfl) (by kernel_rfl) rfl

end Go.Vc.S2
