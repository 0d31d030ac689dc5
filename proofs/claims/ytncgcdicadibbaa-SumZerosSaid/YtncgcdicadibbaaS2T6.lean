import Derived.Test.YtncgcdicadibbaaAnnr2
import Derived.Test.YtncgcdicadibbaaNum
import Derived.KernelRfl
open Go Go.Vc Go.Vc.S2 Go.Proofs
set_option maxRecDepth 100000
set_option linter.unusedVariables false
namespace Go.Vc.S2
def vc6 (b : Sl) (p1 : Int) (w : World) (R : SV → World → Prop) : Prop :=
  Ret Try.prog 23 [SV.slice b] w fun (r : SV) (w1 : World) =>
    ∃ (s : Sl),
      r = SV.slice s ∧
        ∀ (J : World → Prop),
          (∀ (w1 : World),
              (Ret Try.prog 24 [SV.slice s, SV.int IntKind.i64 p1] w1 fun (r : SV) (w1 : World) =>
                  ∃ (n : Int),
                    r = SV.int IntKind.i64 n ∧
                      Ret Try.prog 25 [SV.slice s, SV.int IntKind.i64 n, SV.int IntKind.i64 0] w1 fun (r : SV) (w1 : World) =>
                        r = SV.tuple [] ∧
                          ∀ (b : Nat) (w1_1 : World),
                            Upd [] [b] w1 w1_1 →
                              (World.heap w1_1)[b]? = some (Obj.cells { toList := SV.cells (SV.struct [SV.slice s]) } 24) →
                                Ret Try.prog 17 [SV.slice { ptr := some { block := b, off := 0 }, len := 1, cap := 1 }] w1_1 fun (r : SV) (w1 : World) =>
                                  ∃ (n_1 : Int),
                                    r = SV.int IntKind.i64 n_1 ∧
                                      ∀ (b : Nat) (w1_2 : World),
                                        Upd [] [b] w1 w1_2 →
                                          (World.heap w1_2)[b]? =
                                              some
                                                (Obj.cells
                                                  {
                                                    toList :=
                                                      SV.cells (SV.struct [SV.int IntKind.u8 (wr IntKind.u8 (gshr IntKind.i64 n_1 8)), SV.int IntKind.u8 (wr IntKind.u8 n_1)]) }
                                                  5) →
                                            Vc.Append 5 1 1 s { ptr := some { block := b, off := 0 }, len := 2, cap := 2 } [] w1_2 fun (r : Sl) (w : World) =>
                                              ∀ (b : Nat) (w1 : World),
                                                Upd [] [b] w w1 →
                                                  (World.heap w1)[b]? = some (Obj.cells { toList := SV.cells (SV.struct [SV.slice r]) } 24) →
                                                    Ret Try.prog 18 [SV.slice { ptr := some { block := b, off := 0 }, len := 1, cap := 1 }] w1 fun (r_1 : SV) (w1 : World) =>
                                                      ∃ (b : Bool),
                                                        r_1 = SV.bool b ∧
                                                          Br (!b) (R (SV.bool false) w1)
                                                            (Ret Try.prog 25 [SV.slice r, SV.int IntKind.i64 n, SV.int IntKind.i64 65535] w1 fun (r_2 : SV) (w1 : World) =>
                                                              r_2 = SV.tuple [] ∧
                                                                ∀ (b : Nat) (w1_3 : World),
                                                                  Upd [] [b] w1 w1_3 →
                                                                    (World.heap w1_3)[b]? = some (Obj.cells { toList := SV.cells (SV.struct [SV.slice r]) } 24) →
                                                                      Ret Try.prog 18 [SV.slice { ptr := some { block := b, off := 0 }, len := 1, cap := 1 }] w1_3
                                                                        fun (r : SV) (w1 : World) => ∃ (b : Bool), r = SV.bool b ∧ R (SV.bool b) w1)) →
                J w1) →
            Br ((↑s.2 : Int) == 0) (Ret Try.prog 13 [] w1 fun (r : SV) (w1 : World) => ∃ (b : Bool), r = SV.bool b ∧ R (SV.bool b) w1)
              (Ret Try.prog 13 [] w1 fun (r : SV) (w1 : World) =>
                ∃ (b : Bool), r = SV.bool b ∧ Br (!b) (Ret Try.prog 13 [] w1 fun (r : SV) (w1 : World) => ∃ (b : Bool), r = SV.bool b ∧ R (SV.bool b) w1) (J w1))
theorem f6_of (b : Sl) (p1 : Int) (w : World) (R : SV → World → Prop) (h : vc6 b p1 w R) : Ret Try.prog 6 [.slice b, .int .i64 p1] w R :=
  have e : vc6 b p1 w R = fnVC X Try.f6 a6 [.slice b, .int .i64 p1] w R := by kernel_rfl
  fnVC_sound X_ok (n := a6) (e ▸ h) (by kernel_rfl) (by kernel_rfl) rfl

end Go.Vc.S2
