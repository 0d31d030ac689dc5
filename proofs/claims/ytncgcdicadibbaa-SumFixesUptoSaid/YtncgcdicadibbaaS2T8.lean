import Derived.Test.YtncgcdicadibbaaAnnr2
import Derived.Test.YtncgcdicadibbaaNum
import Derived.KernelRfl
open Go Go.Vc Go.Vc.S2 Go.Proofs
set_option maxRecDepth 100000
set_option linter.unusedVariables false
namespace Go.Vc.S2
def vc8 (check : Int) (a : Int) (b : Int) (old : Sl) (now : Sl) (w : World) (R : SV → World → Prop) : Prop :=
  Ret Try.prog 28 [SV.int IntKind.i64 56623, SV.int IntKind.i64 21845, SV.int IntKind.i64 12933] w fun (r : SV) (w1 : World) =>
    ∃ (n : Int),
      ∃ (n_1 : Int),
        r = SV.tuple [SV.int IntKind.i64 n, SV.int IntKind.i64 n_1] ∧
          ∀ (J : World → Prop),
            (∀ (w1 : World),
                (Ret Try.prog 28 [SV.int IntKind.i64 check, SV.int IntKind.i64 a, SV.int IntKind.i64 b] w1 fun (r : SV) (w1 : World) =>
                    ∃ (n : Int),
                      ∃ (n_2 : Int),
                        r = SV.tuple [SV.int IntKind.i64 n, SV.int IntKind.i64 n_2] ∧
                          Ret Try.prog 29 [SV.int IntKind.i64 check, SV.int IntKind.i64 a, SV.int IntKind.i64 b] w1 fun (r : SV) (w1 : World) =>
                            ∃ (n_3 : Int),
                              ∃ (n_4 : Int),
                                r = SV.tuple [SV.int IntKind.i64 n_3, SV.int IntKind.i64 n_4] ∧
                                  ∀ (J : World → Prop),
                                    (∀ (w1 : World),
                                        (∀ (b : Nat) (w1_1 : World),
                                            Upd [] [b] w1 w1_1 →
                                              (World.heap w1_1)[b]? = some (Obj.cells { toList := SV.cells (SV.struct [SV.slice old, SV.slice now]) } 24) →
                                                Ret Try.prog 14 [SV.slice { ptr := some { block := b, off := 0 }, len := 2, cap := 2 }] w1_1 fun (r : SV) (w1 : World) =>
                                                  ∃ (s : Sl),
                                                    ∃ (s_1 : Sl),
                                                      ∃ (s_2 : Sl),
                                                        r = SV.tuple [SV.slice s, SV.slice s_1, SV.slice s_2] ∧
                                                          Br (decide ((↑s.2 : Int) < 2)) (R (SV.bool true) w1)
                                                            (Need (decide (1 ≤ (↑s.3 : Int)))
                                                              (Need (decide (2 ≤ (↑s.3 : Int)) && decide (1 ≤ 2))
                                                                ((∀ (w1_2 : World),
                                                                    Upd [] [] w1 w1_2 →
                                                                      Ret Try.prog 15 [SV.slice (Sl.sub s 1 0 1 s.3)] w1_2 fun (r : SV) (w1 : World) =>
                                                                        ∃ (s_3 : Sl),
                                                                          r = SV.slice s_3 ∧
                                                                            (Ret Try.prog 15 [SV.slice (Sl.sub s 1 1 2 s.3)] w1 fun (r : SV) (w1 : World) =>
                                                                                ∃ (s_4 : Sl),
                                                                                  r = SV.slice s_4 ∧
                                                                                    ∀ (b : Nat),
                                                                                      Need (decide (0 < (↑s.2 : Int)) && Option.isSome s.1)
                                                                                        (∃ (s_5 : Sl),
                                                                                          World.cell? w1 (Sl.at s 1 0) = some (Sl.val s_5) ∧
                                                                                            Need (decide (1 < (↑s.2 : Int)) && Option.isSome s.1)
                                                                                              (∃ (s_6 : Sl),
                                                                                                World.cell? w1 (Sl.at s 1 1) = some (Sl.val s_6) ∧
                                                                                                  ∀ (w1_3 : World),
                                                                                                    Upd [] [b] w1 w1_3 →
                                                                                                      Ret Try.prog 30 [SV.int IntKind.i64 check, SV.slice s_5, SV.slice s_6] w1_3
                                                                                                        fun (r : SV) (w1 : World) =>
                                                                                                        ∃ (n : Int),
                                                                                                          ∃ (n_5 : Int),
                                                                                                            r = SV.tuple [SV.int IntKind.i64 n, SV.int IntKind.i64 n_5] ∧
                                                                                                              Keeps [b] w1_3 w1 ∧
                                                                                                                Ret Try.prog 31 [SV.int IntKind.i64 check, SV.slice s_3, SV.slice s_4]
                                                                                                                  w1 fun (r : SV) (w1_4 : World) =>
                                                                                                                  ∃ (n_6 : Int),
                                                                                                                    ∃ (n_7 : Int),
                                                                                                                      r = SV.tuple [SV.int IntKind.i64 n_6, SV.int IntKind.i64 n_7] ∧
                                                                                                                        Keeps [b] w1 w1_4 ∧
                                                                                                                          Br (n_5 == n_7)
                                                                                                                            (Br (n == n_6)
                                                                                                                              (Ret Try.prog 22 [SV.slice s_1, SV.slice s_2] w1_4
                                                                                                                                fun (r : SV) (w1 : World) =>
                                                                                                                                ∃ (b_1 : Bool),
                                                                                                                                  r = SV.bool b_1 ∧
                                                                                                                                    Keeps [b] w1_4 w1 ∧ R (SV.bool b_1) w1)
                                                                                                                              (R (SV.bool false) w1_4))
                                                                                                                            (R (SV.bool false) w1_4)))) ∧
                                                                              ∀ (b : Nat) (w1_3 : World),
                                                                                Upd [] [b] w1 w1_3 →
                                                                                  Ret Try.prog 15 [SV.slice (Sl.sub s 1 1 2 s.3)] w1_3 fun (r : SV) (w1 : World) =>
                                                                                    ∃ (s_4 : Sl),
                                                                                      r = SV.slice s_4 ∧
                                                                                        Keeps [b] w1_3 w1 ∧
                                                                                          ∀ (w1_4 : World),
                                                                                            Upd [b] [] w1 w1_4 →
                                                                                              Need (decide (0 < (↑s.2 : Int)) && Option.isSome s.1)
                                                                                                (∃ (s_5 : Sl),
                                                                                                  World.cell? w1_4 (Sl.at s 1 0) = some (Sl.val s_5) ∧
                                                                                                    Need (decide (1 < (↑s.2 : Int)) && Option.isSome s.1)
                                                                                                      (∃ (s_6 : Sl),
                                                                                                        World.cell? w1_4 (Sl.at s 1 1) = some (Sl.val s_6) ∧
                                                                                                          ∀ (w1 : World),
                                                                                                            Upd [] [] w1_4 w1 →
                                                                                                              Ret Try.prog 30 [SV.int IntKind.i64 check, SV.slice s_5, SV.slice s_6]
                                                                                                                w1 fun (r : SV) (w1_5 : World) =>
                                                                                                                ∃ (n : Int),
                                                                                                                  ∃ (n_5 : Int),
                                                                                                                    r = SV.tuple [SV.int IntKind.i64 n, SV.int IntKind.i64 n_5] ∧
                                                                                                                      Keeps [b] w1 w1_5 ∧
                                                                                                                        Ret Try.prog 31
                                                                                                                          [SV.int IntKind.i64 check, SV.slice s_3, SV.slice s_4] w1_5
                                                                                                                          fun (r : SV) (w1 : World) =>
                                                                                                                          ∃ (n_6 : Int),
                                                                                                                            ∃ (n_7 : Int),
                                                                                                                              r =
                                                                                                                                  SV.tuple
                                                                                                                                    [SV.int IntKind.i64 n_6, SV.int IntKind.i64 n_7] ∧
                                                                                                                                Keeps [b] w1_5 w1 ∧
                                                                                                                                  Br (n_5 == n_7)
                                                                                                                                    (Br (n == n_6)
                                                                                                                                      (Ret Try.prog 22 [SV.slice s_1, SV.slice s_2] w1
                                                                                                                                        fun (r : SV) (w1_6 : World) =>
                                                                                                                                        ∃ (b_1 : Bool),
                                                                                                                                          r = SV.bool b_1 ∧
                                                                                                                                            Keeps [b] w1 w1_6 ∧ R (SV.bool b_1) w1_6)
                                                                                                                                      (R (SV.bool false) w1))
                                                                                                                                    (R (SV.bool false) w1)))) ∧
                                                                  ∀ (b : Nat) (w1_2 : World),
                                                                    Upd [] [b] w1 w1_2 →
                                                                      Ret Try.prog 15 [SV.slice (Sl.sub s 1 0 1 s.3)] w1_2 fun (r : SV) (w1 : World) =>
                                                                        ∃ (s_3 : Sl),
                                                                          r = SV.slice s_3 ∧
                                                                            Keeps [b] w1_2 w1 ∧
                                                                              Ret Try.prog 15 [SV.slice (Sl.sub s 1 1 2 s.3)] w1 fun (r : SV) (w1_3 : World) =>
                                                                                ∃ (s_4 : Sl),
                                                                                  r = SV.slice s_4 ∧
                                                                                    Keeps [b] w1 w1_3 ∧
                                                                                      ∀ (w1 : World),
                                                                                        Upd [b] [] w1_3 w1 →
                                                                                          Need (decide (0 < (↑s.2 : Int)) && Option.isSome s.1)
                                                                                            (∃ (s_5 : Sl),
                                                                                              World.cell? w1 (Sl.at s 1 0) = some (Sl.val s_5) ∧
                                                                                                Need (decide (1 < (↑s.2 : Int)) && Option.isSome s.1)
                                                                                                  (∃ (s_6 : Sl),
                                                                                                    World.cell? w1 (Sl.at s 1 1) = some (Sl.val s_6) ∧
                                                                                                      ∀ (w1_4 : World),
                                                                                                        Upd [] [] w1 w1_4 →
                                                                                                          Ret Try.prog 30 [SV.int IntKind.i64 check, SV.slice s_5, SV.slice s_6] w1_4
                                                                                                            fun (r : SV) (w1 : World) =>
                                                                                                            ∃ (n : Int),
                                                                                                              ∃ (n_5 : Int),
                                                                                                                r = SV.tuple [SV.int IntKind.i64 n, SV.int IntKind.i64 n_5] ∧
                                                                                                                  Keeps [b] w1_4 w1 ∧
                                                                                                                    Ret Try.prog 31
                                                                                                                      [SV.int IntKind.i64 check, SV.slice s_3, SV.slice s_4] w1
                                                                                                                      fun (r : SV) (w1_5 : World) =>
                                                                                                                      ∃ (n_6 : Int),
                                                                                                                        ∃ (n_7 : Int),
                                                                                                                          r =
                                                                                                                              SV.tuple
                                                                                                                                [SV.int IntKind.i64 n_6, SV.int IntKind.i64 n_7] ∧
                                                                                                                            Keeps [b] w1 w1_5 ∧
                                                                                                                              Br (n_5 == n_7)
                                                                                                                                (Br (n == n_6)
                                                                                                                                  (Ret Try.prog 22 [SV.slice s_1, SV.slice s_2] w1_5
                                                                                                                                    fun (r : SV) (w1 : World) =>
                                                                                                                                    ∃ (b_1 : Bool),
                                                                                                                                      r = SV.bool b_1 ∧
                                                                                                                                        Keeps [b] w1_5 w1 ∧ R (SV.bool b_1) w1)
                                                                                                                                  (R (SV.bool false) w1_5))
                                                                                                                                (R (SV.bool false) w1_5))))))) →
                                          J w1) →
                                      Br (n_2 != n_4) (R (SV.bool false) w1) (Br (n != n_3) (R (SV.bool false) w1) (J w1))) →
                  J w1) →
              Br (n_1 != 0) (R (SV.bool false) w1) (Br (n != 0) (R (SV.bool false) w1) (J w1))
theorem f8_of (check : Int) (a : Int) (b : Int) (old : Sl) (now : Sl) (w : World) (R : SV → World → Prop) (h : vc8 check a b old now w R) : Ret Try.prog 8 [.int .i64 check, .int .i64 a, .int .i64 b, .slice old, .slice now] w R :=
  have e : vc8 check a b old now w R = fnVC X Try.f8 a8 [.int .i64 check, .int .i64 a, .int .i64 b, .slice old, .slice now] w R := by kernel_rfl
  fnVC_sound X_ok (n := a8) (e ▸ h) (by kernel_rfl) (by kernel_rfl) rfl

end Go.Vc.S2
