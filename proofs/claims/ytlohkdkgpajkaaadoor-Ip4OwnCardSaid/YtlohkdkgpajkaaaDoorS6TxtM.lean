import Derived.Test.YtlohkdkgpajkaaaDoorG2
import Derived.Test.YtlohkdkgpajkaaaDoorG3
import Derived.KernelRfl
open Go Go.Vc Go.Vc.S6 Go.Proofs
set_option maxRecDepth 100000
set_option linter.unusedVariables false
namespace Go.Vc.S6
def vc66 (m : Int) (w : World) (R : SV → World → Prop) : Prop :=
  ∃ (I : Sl → Int → World → Prop),
    ∃ (M : Sl → Int → World → Nat),
      I { ptr := none, len := 0, cap := 0 } 0 w ∧
        ∀ (s : Sl) (n : Int) (w1 : World),
          I s n w1 →
            Br (decide (n < 70))
              (∀ (b : Nat) (w1_1 : World),
                Upd [] [b] w1 w1_1 →
                  (World.heap w1_1)[b]? = some (Obj.cells { toList := SV.cells (SV.struct [SV.int IntKind.u8 m]) } 5) →
                    Vc.Append 5 1 1 s { ptr := some { block := b, off := 0 }, len := 1, cap := 1 } [] w1_1 fun (r : Sl) (w : World) =>
                      I r (wr IntKind.i64 (n + 1)) w ∧ M r (wr IntKind.i64 (n + 1)) w < M s n w1)
              (R (SV.slice s) w1)
theorem f66_of (m : Int) (w : World) (R : SV → World → Prop) (h : vc66 m w R) : Ret Tryd.prog 66 [.int .u8 m] w R :=
  have e : vc66 m w R = fnVC X Tryd.f66 a66 [.int .u8 m] w R := by kernel_rfl
  fnVC_sound X_ok (n := a66) (e ▸ h) (by kernel_rfl) (by kernel_rfl) rfl rfl

def vc28 (b : Sl) (m : Int) (w : World) (R : SV → World → Prop) : Prop :=
  ∃ (I : Int → World → Prop),
    ∃ (M : Int → World → Nat),
      I 0 w ∧
        ∀ (n : Int) (w1 : World),
          I n w1 →
            Br (decide (n < (↑b.2 : Int)))
              (Need (decide (0 ≤ n) && decide (n < (↑b.2 : Int)) && Option.isSome b.1)
                (Store w1 (Sl.at b 1 (Int.toNat n)) (SV.cells (SV.int IntKind.u8 m)) [] fun (w1_1 : World) =>
                  I (wr IntKind.i64 (n + 1)) w1_1 ∧ M (wr IntKind.i64 (n + 1)) w1_1 < M n w1))
              (∀ (b_1 : Nat) (w1_1 : World),
                Upd [] [b_1] w1 w1_1 →
                  (World.heap w1_1)[b_1]? = some (Obj.cells { toList := SV.cells (SV.struct [SV.int IntKind.u8 m]) } 5) →
                    Vc.Append 5 1 1 b { ptr := some { block := b_1, off := 0 }, len := 1, cap := 1 } [] w1_1 fun (r : Sl) (w : World) =>
                      ∀ (b_2 : Nat) (w1 : World),
                        Upd [] [b_2] w w1 →
                          (World.heap w1)[b_2]? = some (Obj.cells { toList := SV.cells (SV.struct [SV.int IntKind.u8 m, SV.int IntKind.u8 m]) } 5) →
                            Vc.Append 5 1 1 b { ptr := some { block := b_2, off := 0 }, len := 2, cap := 2 } [] w1 fun (r_1 : Sl) (w : World) =>
                              ∀ (b_3 : Nat) (w1 : World),
                                Upd [] [b_3] w w1 →
                                  (World.heap w1)[b_3]? = some (Obj.cells { toList := SV.cells (SV.struct [SV.int IntKind.u8 m, SV.int IntKind.u8 m, SV.int IntKind.u8 m]) } 5) →
                                    Vc.Append 5 1 1 b { ptr := some { block := b_3, off := 0 }, len := 3, cap := 3 } [] w1 fun (r_2 : Sl) (w : World) =>
                                      Ret Tryd.prog 66 [SV.int IntKind.u8 m] w fun (r_3 : SV) (w1 : World) =>
                                        ∃ (s : Sl),
                                          r_3 = SV.slice s ∧
                                            Vc.Append 5 1 1 b s [] w1 fun (r_4 : Sl) (w : World) =>
                                              ∀ (b_4 : Nat) (w1 : World),
                                                Upd [] [b_4] w w1 →
                                                  (World.heap w1)[b_4]? =
                                                      some (Obj.cells { toList := SV.cells (SV.struct [SV.slice b, SV.slice r, SV.slice r_1, SV.slice r_2, SV.slice r_4]) } 22) →
                                                    R (SV.slice { ptr := some { block := b_4, off := 0 }, len := 5, cap := 5 }) w1)
theorem f28_of (b : Sl) (m : Int) (w : World) (R : SV → World → Prop) (h : vc28 b m w R) : Ret Tryd.prog 28 [.slice b, .int .u8 m] w R :=
  have e : vc28 b m w R = fnVC X Tryd.f28 a28 [.slice b, .int .u8 m] w R := by kernel_rfl
  fnVC_sound X_ok (n := a28) (e ▸ h) (by kernel_rfl) (by kernel_rfl) rfl rfl

def vc30 (l : Sl) (m : Int) (w : World) (R : SV → World → Prop) : Prop :=
  ∃ (I : Int → World → Prop),
    ∃ (M : Int → World → Nat),
      I 0 w ∧
        ∀ (n : Int) (w1 : World),
          I n w1 →
            Br (decide (n < (↑l.2 : Int)))
              (∃ (I_1 : Int → World → Prop),
                ∃ (M_1 : Int → World → Nat),
                  I_1 0 w1 ∧
                    ∀ (n_1 : Int) (w1_1 : World),
                      I_1 n_1 w1_1 →
                        Need (decide (0 ≤ n) && decide (n < (↑l.2 : Int)) && Option.isSome l.1)
                          (∃ (s : Sl),
                            World.cell? w1_1 (Sl.at l 1 (Int.toNat n)) = some (Sl.val s) ∧
                              Br (decide (n_1 < (↑s.2 : Int)))
                                (Need (decide (0 ≤ n) && decide (n < (↑l.2 : Int)) && Option.isSome l.1)
                                  (∃ (s : Sl),
                                    World.cell? w1_1 (Sl.at l 1 (Int.toNat n)) = some (Sl.val s) ∧
                                      Need (decide (0 ≤ n_1) && decide (n_1 < (↑s.2 : Int)) && Option.isSome s.1)
                                        (∃ (n : Int),
                                          World.cell? w1_1 (Sl.at s 1 (Int.toNat n_1)) = some (Value.int IntKind.u8 n) ∧
                                            Br (n != m) (R (SV.bool false) w1_1) (I_1 (wr IntKind.i64 (n_1 + 1)) w1_1 ∧ M_1 (wr IntKind.i64 (n_1 + 1)) w1_1 < M_1 n_1 w1_1))))
                                (I (wr IntKind.i64 (n + 1)) w1_1 ∧ M (wr IntKind.i64 (n + 1)) w1_1 < M n w1)))
              (R (SV.bool true) w1)
theorem f30_of (l : Sl) (m : Int) (w : World) (R : SV → World → Prop) (h : vc30 l m w R) : Ret Tryd.prog 30 [.slice l, .int .u8 m] w R :=
  have e : vc30 l m w R = fnVC X Tryd.f30 a30 [.slice l, .int .u8 m] w R := by kernel_rfl
  fnVC_sound X_ok (n := a30) (e ▸ h) (by kernel_rfl) (by kernel_rfl) rfl rfl

end Go.Vc.S6
