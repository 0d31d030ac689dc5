import Derived.Test.YtncgcdicadibbaaAnnr2
import Derived.Test.YtncgcdicadibbaaNum
import Derived.KernelRfl
open Go Go.Vc Go.Vc.S2 Go.Proofs
set_option maxRecDepth 100000
set_option linter.unusedVariables false
namespace Go.Vc.S2
def vc3 (parts : Sl) (w : World) (R : SV → World → Prop) : Prop :=
  Ret Try.prog 13 [] w fun (r : SV) (w1 : World) =>
    ∃ (b : Bool),
      r = SV.bool b ∧
        Br (!b) (R (SV.bool false) w1)
          (Ret Try.prog 14 [SV.slice parts] w1 fun (r : SV) (w1 : World) =>
            ∃ (s : Sl),
              ∃ (s_1 : Sl),
                ∃ (s_2 : Sl),
                  r = SV.tuple [SV.slice s, SV.slice s_1, SV.slice s_2] ∧
                    Ret Try.prog 15 [SV.slice s] w1 fun (r : SV) (w1 : World) =>
                      ∃ (s_3 : Sl),
                        r = SV.slice s_3 ∧
                          ∀ (b : Nat) (w1_1 : World),
                            Upd [] [b] w1 w1_1 →
                              (World.heap w1_1)[b]? = some (Obj.cells { toList := SV.cells (SV.struct [SV.slice s_3]) } 24) →
                                Ret Try.prog 16 [SV.slice s] w1_1 fun (r : SV) (w1 : World) =>
                                  ∃ (n : Int),
                                    r = SV.int IntKind.i64 n ∧
                                      Ret Try.prog 17 [SV.slice s] w1 fun (r : SV) (w1 : World) =>
                                        ∃ (n_1 : Int),
                                          r = SV.int IntKind.i64 n_1 ∧
                                            Ret Try.prog 18 [SV.slice s] w1 fun (r : SV) (w1 : World) =>
                                              ∃ (b_1 : Bool),
                                                r = SV.bool b_1 ∧
                                                  Ret Try.prog 19 [SV.slice { ptr := some { block := b, off := 0 }, len := 1, cap := 1 }] w1 fun (r : SV) (w1 : World) =>
                                                    ∃ (n_2 : Int),
                                                      r = SV.int IntKind.i64 n_2 ∧
                                                        Br (n == n_2)
                                                          (Ret Try.prog 20 [SV.slice { ptr := some { block := b, off := 0 }, len := 1, cap := 1 }] w1 fun (r : SV) (w1 : World) =>
                                                            ∃ (n : Int),
                                                              r = SV.int IntKind.i64 n ∧
                                                                Br (n_1 == n)
                                                                  (Ret Try.prog 21 [SV.slice { ptr := some { block := b, off := 0 }, len := 1, cap := 1 }] w1
                                                                    fun (r : SV) (w1 : World) =>
                                                                    ∃ (b : Bool),
                                                                      r = SV.bool b ∧
                                                                        Br (b_1 == b)
                                                                          (Ret Try.prog 22 [SV.slice s_1, SV.slice s_2] w1 fun (r : SV) (w1 : World) =>
                                                                            ∃ (b : Bool), r = SV.bool b ∧ R (SV.bool b) w1)
                                                                          (R (SV.bool false) w1))
                                                                  (R (SV.bool false) w1))
                                                          (R (SV.bool false) w1))
theorem f3_of (parts : Sl) (w : World) (R : SV → World → Prop) (h : vc3 parts w R) : Ret Try.prog 3 [.slice parts] w R :=
  have e : vc3 parts w R = fnVC X Try.f3 a3 [.slice parts] w R := by kernel_rfl
  fnVC_sound X_ok (n := a3) (e ▸ h) (by kernel_rfl) (by kernel_rfl) rfl

end Go.Vc.S2
