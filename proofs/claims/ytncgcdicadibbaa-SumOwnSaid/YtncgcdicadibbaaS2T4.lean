import Derived.Test.YtncgcdicadibbaaAnnr2
import Derived.Test.YtncgcdicadibbaaNum
import Derived.KernelRfl
open Go Go.Vc Go.Vc.S2 Go.Proofs
set_option maxRecDepth 100000
set_option linter.unusedVariables false
namespace Go.Vc.S2
def vc4 (b : Sl) (p1 : Int) (bit : Int) (w : World) (R : SV → World → Prop) : Prop :=
  Ret Try.prog 23 [SV.slice b] w fun (r : SV) (w1 : World) =>
    ∃ (s : Sl),
      r = SV.slice s ∧
        ∀ (J : Sl → World → Prop),
          (∀ (s : Sl) (w1 : World),
              (Ret Try.prog 24 [SV.slice s, SV.int IntKind.i64 p1] w1 fun (r : SV) (w1 : World) =>
                  ∃ (n : Int),
                    r = SV.int IntKind.i64 n ∧
                      Ret Try.prog 25 [SV.slice s, SV.int IntKind.i64 n, SV.int IntKind.i64 0] w1 fun (r : SV) (w1 : World) =>
                        r = SV.tuple [] ∧
                          ∀ (b : Nat) (w1_1 : World),
                            Upd [] [b] w1 w1_1 →
                              (World.heap w1_1)[b]? = some (Obj.cells { toList := SV.cells (SV.struct [SV.slice s]) } 24) →
                                Ret Try.prog 17 [SV.slice { ptr := some { block := b, off := 0 }, len := 1, cap := 1 }] w1_1 fun (r : SV) (w1 : World) =>
                                  ∃ (n_1 : Int),
                                    r = SV.int IntKind.i64 n_1 ∧
                                      ∀ (J : World → Prop),
                                        (∀ (w1 : World),
                                            (Ret Try.prog 25 [SV.slice s, SV.int IntKind.i64 n, SV.int IntKind.i64 n_1] w1 fun (r : SV) (w1 : World) =>
                                                r = SV.tuple [] ∧
                                                  ∀ (J : World → Prop),
                                                    (∀ (w1 : World),
                                                        (∀ (J : Int → World → Prop),
                                                            (∀ (n : Int) (w1 : World),
                                                                Need (wr IntKind.i64 (8 * (↑s.2 : Int)) != 0)
                                                                    (Need
                                                                      (decide (0 ≤ wr IntKind.i64 (Int.tdiv (Int.tmod n (wr IntKind.i64 (8 * (↑s.2 : Int)))) 8)) &&
                                                                          decide (wr IntKind.i64 (Int.tdiv (Int.tmod n (wr IntKind.i64 (8 * (↑s.2 : Int)))) 8) < (↑s.2 : Int)) &&
                                                                        Option.isSome s.1)
                                                                      (∃ (n_2 : Int),
                                                                        World.cell? w1
                                                                              (Sl.at s 1 (Int.toNat (wr IntKind.i64 (Int.tdiv (Int.tmod n (wr IntKind.i64 (8 * (↑s.2 : Int)))) 8)))) =
                                                                            some (Value.int IntKind.u8 n_2) ∧
                                                                          Need (decide (0 ≤ Int.tmod (Int.tmod n (wr IntKind.i64 (8 * (↑s.2 : Int)))) 8))
                                                                            (Need
                                                                              (decide (0 ≤ wr IntKind.i64 (Int.tdiv (Int.tmod n (wr IntKind.i64 (8 * (↑s.2 : Int)))) 8)) &&
                                                                                  decide
                                                                                    (wr IntKind.i64 (Int.tdiv (Int.tmod n (wr IntKind.i64 (8 * (↑s.2 : Int)))) 8) < (↑s.2 : Int)) &&
                                                                                Option.isSome s.1)
                                                                              (∀ (w1_2 : World),
                                                                                Upd [] [] w1 w1_2 →
                                                                                  Store w1_2
                                                                                    (Sl.at s 1
                                                                                      (Int.toNat (wr IntKind.i64 (Int.tdiv (Int.tmod n (wr IntKind.i64 (8 * (↑s.2 : Int)))) 8))))
                                                                                    (SV.cells
                                                                                      (SV.int IntKind.u8
                                                                                        (ixor IntKind.u8 n_2
                                                                                          (gshl IntKind.u8 1 (Int.tmod (Int.tmod n (wr IntKind.i64 (8 * (↑s.2 : Int)))) 8)))))
                                                                                    [] fun (w1 : World) =>
                                                                                    ∀ (b : Nat) (w1_3 : World),
                                                                                      Upd [] [b] w1 w1_3 →
                                                                                        (World.heap w1_3)[b]? = some (Obj.cells { toList := SV.cells (SV.struct [SV.slice s]) } 24) →
                                                                                          Ret Try.prog 18 [SV.slice { ptr := some { block := b, off := 0 }, len := 1, cap := 1 }] w1_3
                                                                                            fun (r : SV) (w1 : World) => ∃ (b : Bool), r = SV.bool b ∧ R (SV.bool !b) w1)))) →
                                                                  J n w1) →
                                                              Br (decide (bit < 0)) (J (wr IntKind.i64 (0 - wr IntKind.i64 (bit + 1))) w1) (J bit w1)) →
                                                          J w1) →
                                                      ∀ (b : Nat) (w1_2 : World),
                                                        Upd [] [b] w1 w1_2 →
                                                          (World.heap w1_2)[b]? = some (Obj.cells { toList := SV.cells (SV.struct [SV.slice s]) } 24) →
                                                            Ret Try.prog 18 [SV.slice { ptr := some { block := b, off := 0 }, len := 1, cap := 1 }] w1_2 fun (r : SV) (w1 : World) =>
                                                              ∃ (b : Bool),
                                                                r = SV.bool b ∧
                                                                  Br (!b) (R (SV.bool false) w1)
                                                                    (Ret Try.prog 13 [] w1 fun (r : SV) (w1 : World) =>
                                                                      ∃ (b : Bool), r = SV.bool b ∧ Br (!b) (R (SV.bool false) w1) (J w1))) →
                                              J w1) →
                                          Br (decide (n_1 < 0)) (R (SV.bool false) w1) (Br (decide (n_1 > 65535)) (R (SV.bool false) w1) (J w1))) →
                J s w1) →
            Br ((↑s.2 : Int) == 0)
              (∀ (b : Nat) (w1_1 : World),
                Upd [] [b] w1 w1_1 →
                  (World.heap w1_1)[b]? = some (Obj.cells { toList := SV.cells (SV.struct [SV.int IntKind.u8 0, SV.int IntKind.u8 0]) } 5) →
                    J { ptr := some { block := b, off := 0 }, len := 2, cap := 2 } w1_1)
              (J s w1)
theorem f4_of (b : Sl) (p1 : Int) (bit : Int) (w : World) (R : SV → World → Prop) (h : vc4 b p1 bit w R) : Ret Try.prog 4 [.slice b, .int .i64 p1, .int .i64 bit] w R :=
  have e : vc4 b p1 bit w R = fnVC X Try.f4 a4 [.slice b, .int .i64 p1, .int .i64 bit] w R := by kernel_rfl
  fnVC_sound X_ok (n := a4) (e ▸ h) (by kernel_rfl) (by kernel_rfl) rfl

end Go.Vc.S2
