import Derived.Test.YtlohkdkgpajkaaaDoorG2
import Derived.Test.YtlohkdkgpajkaaaDoorG3
import Derived.KernelRfl
open Go Go.Vc Go.Vc.S6 Go.Proofs
set_option maxRecDepth 100000
set_option linter.unusedVariables false
namespace Go.Vc.S6
def vc39 (k : Option Addr) (b : Sl) (w : World) (R : SV → World → Prop) : Prop :=
  Vc.Append 5 1 1 { ptr := none, len := 0, cap := 0 } b [] w fun (r : Sl) (w : World) =>
    deref k fun (a : Addr) =>
      ∃ (s : Sl),
        World.cell? w a = some (Sl.val s) ∧
          ∀ (b_1 : Nat) (w1 : World),
            Upd [] [b_1] w w1 →
              (World.heap w1)[b_1]? = some (Obj.cells { toList := SV.cells (SV.struct [SV.slice b]) } 22) →
                Vc.Append 22 1 24 s { ptr := some { block := b_1, off := 0 }, len := 1, cap := 1 } [] w1 fun (r_1 : Sl) (w : World) =>
                  deref k fun (a : Addr) =>
                    Store w a (SV.cells (SV.slice r_1)) [] fun (w1 : World) =>
                      deref k fun (a : Addr) =>
                        ∃ (s : Sl),
                          World.cell? w1 (Addr.add a 1) = some (Sl.val s) ∧
                            ∀ (b : Nat) (w1_1 : World),
                              Upd [] [b] w1 w1_1 →
                                (World.heap w1_1)[b]? = some (Obj.cells { toList := SV.cells (SV.struct [SV.slice r]) } 22) →
                                  Vc.Append 22 1 24 s { ptr := some { block := b, off := 0 }, len := 1, cap := 1 } [] w1_1 fun (r : Sl) (w : World) =>
                                    deref k fun (a : Addr) => Store w (Addr.add a 1) (SV.cells (SV.slice r)) [] fun (w1 : World) => R (SV.tuple []) w1
theorem f39_of (k : Option Addr) (b : Sl) (w : World) (R : SV → World → Prop) (hV : vc39 k b w R) : Ret Tryd.prog 39 [.ptr k, .slice b] w R :=
  have e : vc39 k b w R = fnVC X Tryd.f39 a39 [.ptr k, .slice b] w R := by kernel_rfl
  fnVC_sound X_ok (n := a39) (e ▸ hV) (by kernel_rfl) (by kernel_rfl) rfl rfl

def vc40 (k : Option Addr) (w : World) (R : SV → World → Prop) : Prop :=
  ∃ (I : Int → World → Prop),
    ∃ (M : Int → World → Nat),
      I 0 w ∧
        ∀ (n : Int) (w1 : World),
          I n w1 →
            deref k fun (a : Addr) =>
              ∃ (s : Sl),
                World.cell? w1 a = some (Sl.val s) ∧
                  Br (decide (n < (↑s.2 : Int)))
                    (deref k fun (a : Addr) =>
                      ∃ (s : Sl),
                        World.cell? w1 a = some (Sl.val s) ∧
                          Need (decide (0 ≤ n) && decide (n < (↑s.2 : Int)) && Option.isSome s.1)
                            (∃ (s_1 : Sl),
                              World.cell? w1 (Sl.at s 1 (Int.toNat n)) = some (Sl.val s_1) ∧
                                deref k fun (a : Addr) =>
                                  ∃ (s : Sl),
                                    World.cell? w1 (Addr.add a 1) = some (Sl.val s) ∧
                                      Need (decide (0 ≤ n) && decide (n < (↑s.2 : Int)) && Option.isSome s.1)
                                        (∃ (s_2 : Sl),
                                          World.cell? w1 (Sl.at s 1 (Int.toNat n)) = some (Sl.val s_2) ∧
                                            ∀ (w1_1 : World),
                                              Upd [] [] w1 w1_1 →
                                                Ret Tryd.prog 75 [SV.slice s_1, SV.slice s_2] w1_1 fun (r : SV) (w1_2 : World) =>
                                                  ∃ (b : Bool),
                                                    r = SV.bool b ∧ Br (!b) (R (SV.bool false) w1_2) (I (wr IntKind.i64 (n + 1)) w1_2 ∧ M (wr IntKind.i64 (n + 1)) w1_2 < M n w1))))
                    (R (SV.bool true) w1)
theorem f40_of (k : Option Addr) (w : World) (R : SV → World → Prop) (hV : vc40 k w R) : Ret Tryd.prog 40 [.ptr k] w R :=
  have e : vc40 k w R = fnVC X Tryd.f40 a40 [.ptr k] w R := by kernel_rfl
  fnVC_sound X_ok (n := a40) (e ▸ hV) (by kernel_rfl) (by kernel_rfl) rfl rfl

def vc42 (k : Option Addr) (w : World) (R : SV → World → Prop) : Prop :=
  Ret Tryd.prog 40 [SV.ptr k] w fun (r : SV) (w1 : World) =>
    ∃ (b : Bool),
      r = SV.bool b ∧
        Br (!b) (R (SV.bool false) w1)
          (∃ (I : Int → World → Prop),
            ∃ (M : Int → World → Nat),
              I 0 w1 ∧
                ∀ (n : Int) (w1 : World),
                  I n w1 →
                    deref k fun (a : Addr) =>
                      ∃ (s : Sl),
                        World.cell? w1 a = some (Sl.val s) ∧
                          Br (decide (n < (↑s.2 : Int)))
                            (∃ (I_1 : Int → World → Prop),
                              ∃ (M_1 : Int → World → Nat),
                                I_1 0 w1 ∧
                                  ∀ (n_1 : Int) (w1_1 : World),
                                    I_1 n_1 w1_1 →
                                      deref k fun (a : Addr) =>
                                        ∃ (s : Sl),
                                          World.cell? w1_1 a = some (Sl.val s) ∧
                                            Need (decide (0 ≤ n) && decide (n < (↑s.2 : Int)) && Option.isSome s.1)
                                              (∃ (s_1 : Sl),
                                                World.cell? w1_1 (Sl.at s 1 (Int.toNat n)) = some (Sl.val s_1) ∧
                                                  Br (decide (n_1 < (↑s_1.2 : Int)))
                                                    (deref k fun (a : Addr) =>
                                                      ∃ (s : Sl),
                                                        World.cell? w1_1 a = some (Sl.val s) ∧
                                                          Need (decide (0 ≤ n) && decide (n < (↑s.2 : Int)) && Option.isSome s.1)
                                                            (∃ (s_2 : Sl),
                                                              World.cell? w1_1 (Sl.at s 1 (Int.toNat n)) = some (Sl.val s_2) ∧
                                                                Need (decide (0 ≤ n_1) && decide (n_1 < (↑s_2.2 : Int)) && Option.isSome s_2.1)
                                                                  (Store w1_1 (Sl.at s_2 1 (Int.toNat n_1))
                                                                    (SV.cells (SV.int IntKind.u8 (wr IntKind.u8 (wr IntKind.i64 (1 + Int.tmod n 251))))) [] fun (w1 : World) =>
                                                                    I_1 (wr IntKind.i64 (n_1 + 1)) w1 ∧ M_1 (wr IntKind.i64 (n_1 + 1)) w1 < M_1 n_1 w1_1)))
                                                    (I (wr IntKind.i64 (n + 1)) w1_1 ∧ M (wr IntKind.i64 (n + 1)) w1_1 < M n w1)))
                            (∃ (I : Sl → Int → World → Prop),
                              ∃ (M : Sl → Int → World → Nat),
                                I { ptr := none, len := 0, cap := 0 } 0 w1 ∧
                                  ∀ (s : Sl) (n : Int) (w1 : World),
                                    I s n w1 →
                                      deref k fun (a : Addr) =>
                                        ∃ (s_1 : Sl),
                                          World.cell? w1 a = some (Sl.val s_1) ∧
                                            Br (decide (n < (↑s_1.2 : Int)))
                                              (deref k fun (a : Addr) =>
                                                ∃ (s_2 : Sl),
                                                  World.cell? w1 a = some (Sl.val s_2) ∧
                                                    Need (decide (0 ≤ n) && decide (n < (↑s_2.2 : Int)) && Option.isSome s_2.1)
                                                      (∃ (s_3 : Sl),
                                                        World.cell? w1 (Sl.at s_2 1 (Int.toNat n)) = some (Sl.val s_3) ∧
                                                          ∃ (I_1 : Sl → World → Prop),
                                                            ∃ (M_1 : Sl → World → Nat),
                                                              I_1 s_3 w1 ∧
                                                                ∀ (s_4 : Sl) (w1_1 : World),
                                                                  I_1 s_4 w1_1 →
                                                                    Br (decide ((↑s_4.2 : Int) < wr IntKind.i64 (wr IntKind.i64 (2 * (↑s_3.2 : Int)) + 70)))
                                                                      (∀ (b : Nat) (w1 : World),
                                                                        Upd [] [b] w1_1 w1 →
                                                                          (World.heap w1)[b]? =
                                                                              some
                                                                                (Obj.cells
                                                                                  {
                                                                                    toList :=
                                                                                      SV.cells (SV.struct [SV.int IntKind.u8 (wr IntKind.u8 (wr IntKind.i64 (1 + Int.tmod n 251)))]) }
                                                                                  5) →
                                                                            Vc.Append 5 1 1 s_4 { ptr := some { block := b, off := 0 }, len := 1, cap := 1 } [] w1
                                                                              fun (r : Sl) (w : World) => I_1 r w ∧ M_1 r w < M_1 s_4 w1_1)
                                                                      (∀ (b : Nat) (w1_2 : World),
                                                                        Upd [] [b] w1_1 w1_2 →
                                                                          (World.heap w1_2)[b]? = some (Obj.cells { toList := SV.cells (SV.struct [SV.slice s_4]) } 22) →
                                                                            Vc.Append 22 1 24 s { ptr := some { block := b, off := 0 }, len := 1, cap := 1 } [] w1_2
                                                                              fun (r : Sl) (w : World) =>
                                                                              I r (wr IntKind.i64 (n + 1)) w ∧ M r (wr IntKind.i64 (n + 1)) w < M s n w1)))
                                              (∃ (I : Int → World → Prop),
                                                ∃ (M : Int → World → Nat),
                                                  I 0 w1 ∧
                                                    ∀ (n : Int) (w1 : World),
                                                      I n w1 →
                                                        deref k fun (a : Addr) =>
                                                          ∃ (s_2 : Sl),
                                                            World.cell? w1 a = some (Sl.val s_2) ∧
                                                              Br (decide (n < (↑s_2.2 : Int)))
                                                                (∀ (J : World → Prop),
                                                                  (∀ (w1_1 : World), I (wr IntKind.i64 (n + 1)) w1_1 ∧ M (wr IntKind.i64 (n + 1)) w1_1 < M n w1 → J w1_1) →
                                                                    deref k fun (a : Addr) =>
                                                                      ∃ (s_3 : Sl),
                                                                        World.cell? w1 a = some (Sl.val s_3) ∧
                                                                          Need (decide (0 ≤ n) && decide (n < (↑s_3.2 : Int)) && Option.isSome s_3.1)
                                                                            (∃ (s_4 : Sl),
                                                                              World.cell? w1 (Sl.at s_3 1 (Int.toNat n)) = some (Sl.val s_4) ∧
                                                                                Ret Tryd.prog 76
                                                                                  [SV.slice s_4, SV.int IntKind.u8 (wr IntKind.u8 (wr IntKind.i64 (1 + Int.tmod n 251)))] w1
                                                                                  fun (r : SV) (w1 : World) =>
                                                                                  ∃ (b : Bool),
                                                                                    r = SV.bool b ∧
                                                                                      Br (!b) (R (SV.bool false) w1)
                                                                                        (Need (decide (0 ≤ n) && decide (n < (↑s.2 : Int)) && Option.isSome s.1)
                                                                                          (∃ (s_5 : Sl),
                                                                                            World.cell? w1 (Sl.at s 1 (Int.toNat n)) = some (Sl.val s_5) ∧
                                                                                              Ret Tryd.prog 76
                                                                                                [SV.slice s_5,
                                                                                                  SV.int IntKind.u8 (wr IntKind.u8 (wr IntKind.i64 (1 + Int.tmod n 251)))]
                                                                                                w1 fun (r : SV) (w1 : World) =>
                                                                                                ∃ (b : Bool), r = SV.bool b ∧ Br (!b) (R (SV.bool false) w1) (J w1)))))
                                                                (R (SV.bool true) w1))))
theorem f42_of (k : Option Addr) (w : World) (R : SV → World → Prop) (hV : vc42 k w R) : Ret Tryd.prog 42 [.ptr k] w R :=
  have e : vc42 k w R = fnVC X Tryd.f42 a42 [.ptr k] w R := by kernel_rfl
  fnVC_sound X_ok (n := a42) (e ▸ hV) (by kernel_rfl) (by kernel_rfl) rfl rfl

def vc76 (b : Sl) (m : Int) (w : World) (R : SV → World → Prop) : Prop :=
  ∃ (I : Int → World → Prop),
    ∃ (M : Int → World → Nat),
      I 0 w ∧
        ∀ (n : Int) (w1 : World),
          I n w1 →
            Br (decide (n < (↑b.2 : Int)))
              (Need (decide (0 ≤ n) && decide (n < (↑b.2 : Int)) && Option.isSome b.1)
                (∃ (n_1 : Int),
                  World.cell? w1 (Sl.at b 1 (Int.toNat n)) = some (Value.int IntKind.u8 n_1) ∧
                    Br (n_1 != m) (R (SV.bool false) w1) (I (wr IntKind.i64 (n + 1)) w1 ∧ M (wr IntKind.i64 (n + 1)) w1 < M n w1)))
              (R (SV.bool true) w1)
theorem f76_of (b : Sl) (m : Int) (w : World) (R : SV → World → Prop) (hV : vc76 b m w R) : Ret Tryd.prog 76 [.slice b, .int .u8 m] w R :=
  have e : vc76 b m w R = fnVC X Tryd.f76 a76 [.slice b, .int .u8 m] w R := by kernel_rfl
  fnVC_sound X_ok (n := a76) (e ▸ hV) (by kernel_rfl) (by kernel_rfl) rfl rfl

end Go.Vc.S6
