import Derived.Test.YtncgcdicadibbaaAnnr2
import Derived.Test.YtncgcdicadibbaaNum
import Derived.KernelRfl
open Go Go.Vc Go.Vc.S2 Go.Proofs
set_option maxRecDepth 100000
set_option linter.unusedVariables false
namespace Go.Vc.S2
def vc5 (b : Sl) (cut : Int) (cut2 : Int) (w : World) (R : SV → World → Prop) : Prop :=
  Ret Try.prog 23 [SV.slice b] w fun (r : SV) (w1 : World) =>
    ∃ (s : Sl),
      r = SV.slice s ∧
        ∀ (J : World → Prop),
          (∀ (w1 : World),
              (∀ (b : Nat) (w1_1 : World),
                  Upd [] [b] w1 w1_1 →
                    (World.heap w1_1)[b]? = some (Obj.cells { toList := SV.cells (SV.struct [SV.slice s]) } 24) →
                      Ret Try.prog 16 [SV.slice { ptr := some { block := b, off := 0 }, len := 1, cap := 1 }] w1_1 fun (r : SV) (w1 : World) =>
                        ∃ (n : Int),
                          r = SV.int IntKind.i64 n ∧
                            Ret Try.prog 24 [SV.slice s, SV.int IntKind.i64 cut] w1 fun (r : SV) (w1 : World) =>
                              ∃ (n_1 : Int),
                                r = SV.int IntKind.i64 n_1 ∧
                                  ∀ (J : Int → World → Prop),
                                    (∀ (n_2 : Int) (w1 : World),
                                        Need (wr IntKind.i64 ((↑s.2 : Int) + 1) != 0)
                                            (∀ (J : World → Prop),
                                              (∀ (w1 : World),
                                                  (∃ (I : Int → World → Prop),
                                                      ∃ (M : Int → World → Nat),
                                                        I 0 w1 ∧
                                                          ∀ (n_3 : Int) (w1 : World),
                                                            I n_3 w1 →
                                                              Br (decide (n_3 < (↑s.2 : Int)))
                                                                (Need (decide (0 ≤ n_3) && decide (n_3 < (↑s.2 : Int)) && Option.isSome s.1)
                                                                  (∃ (n : Int),
                                                                    World.cell? w1 (Sl.at s 1 (Int.toNat n_3)) = some (Value.int IntKind.u8 n) ∧
                                                                      Need
                                                                        (decide (0 ≤ wr IntKind.i64 (n_3 + 1)) && decide (wr IntKind.i64 (n_3 + 1) < (↑s.2 : Int)) &&
                                                                          Option.isSome s.1)
                                                                        (∃ (n_4 : Int),
                                                                          World.cell? w1 (Sl.at s 1 (Int.toNat (wr IntKind.i64 (n_3 + 1)))) = some (Value.int IntKind.u8 n_4) ∧
                                                                            Need (decide (0 ≤ n_3) && decide (n_3 < (↑s.2 : Int)) && Option.isSome s.1)
                                                                              (Store w1 (Sl.at s 1 (Int.toNat n_3)) (SV.cells (SV.int IntKind.u8 n_4)) [] fun (w1_2 : World) =>
                                                                                Need
                                                                                  (decide (0 ≤ wr IntKind.i64 (n_3 + 1)) && decide (wr IntKind.i64 (n_3 + 1) < (↑s.2 : Int)) &&
                                                                                    Option.isSome s.1)
                                                                                  (Store w1_2 (Sl.at s 1 (Int.toNat (wr IntKind.i64 (n_3 + 1)))) (SV.cells (SV.int IntKind.u8 n)) []
                                                                                    fun (w1_3 : World) =>
                                                                                    I (wr IntKind.i64 (n_3 + 2)) w1_3 ∧ M (wr IntKind.i64 (n_3 + 2)) w1_3 < M n_3 w1)))))
                                                                (∀ (b : Nat) (w1_2 : World),
                                                                  Upd [] [b] w1 w1_2 →
                                                                    (World.heap w1_2)[b]? = some (Obj.cells { toList := SV.cells (SV.struct [SV.slice s]) } 24) →
                                                                      Ret Try.prog 16 [SV.slice { ptr := some { block := b, off := 0 }, len := 1, cap := 1 }] w1_2
                                                                        fun (r : SV) (w1 : World) =>
                                                                        ∃ (n_4 : Int),
                                                                          r = SV.int IntKind.i64 n_4 ∧
                                                                            R (SV.bool (n_4 == ior IntKind.i64 (gshr IntKind.i64 n 8) (gshl IntKind.i64 (iand IntKind.i64 n 255) 8)))
                                                                              w1)) →
                                                    J w1) →
                                                Need
                                                  (decide (0 ≤ Int.tmod n_2 (wr IntKind.i64 ((↑s.2 : Int) + 1))) &&
                                                    decide (Int.tmod n_2 (wr IntKind.i64 ((↑s.2 : Int) + 1)) ≤ (↑s.3 : Int)))
                                                  (Need
                                                    (decide (0 ≤ Int.tmod n_2 (wr IntKind.i64 ((↑s.2 : Int) + 1))) &&
                                                      decide (Int.tmod n_2 (wr IntKind.i64 ((↑s.2 : Int) + 1)) ≤ (↑s.2 : Int)))
                                                    (∀ (b : Nat) (w1_2 : World),
                                                      Upd [] [b] w1 w1_2 →
                                                        (World.heap w1_2)[b]? =
                                                            some
                                                              (Obj.cells
                                                                {
                                                                  toList :=
                                                                    SV.cells
                                                                      (SV.struct
                                                                        [SV.slice (Sl.sub s 1 0 (Int.toNat (Int.tmod n_2 (wr IntKind.i64 ((↑s.2 : Int) + 1)))) s.3),
                                                                          SV.slice (Sl.sub s 1 (Int.toNat (Int.tmod n_2 (wr IntKind.i64 ((↑s.2 : Int) + 1)))) s.2 s.3)]) }
                                                                24) →
                                                          Ret Try.prog 16 [SV.slice { ptr := some { block := b, off := 0 }, len := 2, cap := 2 }] w1_2 fun (r : SV) (w1 : World) =>
                                                            ∃ (n_3 : Int),
                                                              r = SV.int IntKind.i64 n_3 ∧
                                                                Br (n_3 != n) (R (SV.bool false) w1)
                                                                  (Need
                                                                    (decide (0 ≤ Int.tmod n_2 (wr IntKind.i64 ((↑s.2 : Int) + 1))) &&
                                                                      decide (Int.tmod n_2 (wr IntKind.i64 ((↑s.2 : Int) + 1)) ≤ (↑s.3 : Int)))
                                                                    (Need
                                                                      (decide (0 ≤ Int.tmod n_2 (wr IntKind.i64 ((↑s.2 : Int) + 1))) &&
                                                                        decide (Int.tmod n_2 (wr IntKind.i64 ((↑s.2 : Int) + 1)) ≤ (↑s.2 : Int)))
                                                                      (∀ (b : Nat) (w1_3 : World),
                                                                        Upd [] [b] w1 w1_3 →
                                                                          (World.heap w1_3)[b]? =
                                                                              some
                                                                                (Obj.cells
                                                                                  {
                                                                                    toList :=
                                                                                      SV.cells
                                                                                        (SV.struct
                                                                                          [SV.slice { ptr := none, len := 0, cap := 0 },
                                                                                            SV.slice
                                                                                              (Sl.sub s 1 0 (Int.toNat (Int.tmod n_2 (wr IntKind.i64 ((↑s.2 : Int) + 1)))) s.3),
                                                                                            SV.slice { ptr := none, len := 0, cap := 0 },
                                                                                            SV.slice
                                                                                              (Sl.sub s 1 (Int.toNat (Int.tmod n_2 (wr IntKind.i64 ((↑s.2 : Int) + 1)))) s.2 s.3)]) }
                                                                                  24) →
                                                                            Ret Try.prog 16 [SV.slice { ptr := some { block := b, off := 0 }, len := 4, cap := 4 }] w1_3
                                                                              fun (r : SV) (w1 : World) =>
                                                                              ∃ (n_4 : Int),
                                                                                r = SV.int IntKind.i64 n_4 ∧
                                                                                  Br (n_4 != n) (R (SV.bool false) w1)
                                                                                    (Need (decide (0 ≤ n_1) && decide (n_1 ≤ (↑s.2 : Int)))
                                                                                      (Need (decide (0 ≤ n_1) && decide (n_1 ≤ (↑s.3 : Int)))
                                                                                        (∀ (b : Nat) (w1_4 : World),
                                                                                          Upd [] [b] w1 w1_4 →
                                                                                            (World.heap w1_4)[b]? =
                                                                                                some
                                                                                                  (Obj.cells
                                                                                                    {
                                                                                                      toList :=
                                                                                                        SV.cells
                                                                                                          (SV.struct
                                                                                                            [SV.slice (Sl.sub s 1 (Int.toNat n_1) s.2 s.3),
                                                                                                              SV.slice (Sl.sub s 1 0 (Int.toNat n_1) s.3)]) }
                                                                                                    24) →
                                                                                              Ret Try.prog 16 [SV.slice { ptr := some { block := b, off := 0 }, len := 2, cap := 2 }]
                                                                                                w1_4 fun (r : SV) (w1 : World) =>
                                                                                                ∃ (n_5 : Int),
                                                                                                  r = SV.int IntKind.i64 n_5 ∧ Br (n_5 != n) (R (SV.bool false) w1) (J w1)))))))))) →
                                          J n_2 w1) →
                                      Br (decide (cut2 < 0)) (J (wr IntKind.i64 (0 - wr IntKind.i64 (cut2 + 1))) w1) (J cut2 w1)) →
                J w1) →
            Br ((↑s.2 : Int) == 0) (Ret Try.prog 13 [] w1 fun (r : SV) (w1 : World) => ∃ (b : Bool), r = SV.bool b ∧ R (SV.bool b) w1)
              (Ret Try.prog 13 [] w1 fun (r : SV) (w1 : World) =>
                ∃ (b : Bool), r = SV.bool b ∧ Br (!b) (Ret Try.prog 13 [] w1 fun (r : SV) (w1 : World) => ∃ (b : Bool), r = SV.bool b ∧ R (SV.bool b) w1) (J w1))
theorem f5_of (b : Sl) (cut : Int) (cut2 : Int) (w : World) (R : SV → World → Prop) (h : vc5 b cut cut2 w R) : Ret Try.prog 5 [.slice b, .int .i64 cut, .int .i64 cut2] w R :=
  have e : vc5 b cut cut2 w R = fnVC X Try.f5 a5 [.slice b, .int .i64 cut, .int .i64 cut2] w R := by kernel_rfl
  fnVC_sound X_ok (n := a5) (e ▸ h) (by kernel_rfl) (by kernel_rfl) rfl

end Go.Vc.S2
