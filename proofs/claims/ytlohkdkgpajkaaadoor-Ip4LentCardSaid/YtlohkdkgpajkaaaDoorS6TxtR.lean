import Derived.Test.YtlohkdkgpajkaaaDoorG2
import Derived.Test.YtlohkdkgpajkaaaDoorG3
import Derived.KernelRfl
open Go Go.Vc Go.Vc.S6 Go.Proofs
set_option maxRecDepth 100000
set_option linter.unusedVariables false
namespace Go.Vc.S6
def vc67 (i : Int) (w : World) (R : SV → World → Prop) : Prop :=
  R (SV.int IntKind.u8 (wr IntKind.u8 (wr IntKind.i64 (203 - wr IntKind.i64 (5 * i))))) w
theorem f67_of (i : Int) (w : World) (R : SV → World → Prop) (h : vc67 i w R) : Ret Tryd.prog 67 [.int .i64 i] w R :=
  have e : vc67 i w R = fnVC X Tryd.f67 a67 [.int .i64 i] w R := by kernel_rfl
  fnVC_sound X_ok (n := a67) (e ▸ h) (by kernel_rfl) (by kernel_rfl) rfl rfl

def vc31 (d : Option Addr) (b : Sl) (w : World) (R : SV → World → Prop) : Prop :=
  ∀ (J : World → Prop),
    (∀ (w1 : World),
        (∃ (I : Int → World → Prop),
            ∃ (M : Int → World → Nat),
              I 0 w1 ∧
                ∀ (n : Int) (w1 : World),
                  I n w1 →
                    deref d fun (a : Addr) =>
                      ∃ (s : Sl),
                        World.cell? w1 a = some (Sl.val s) ∧
                          Br (decide (n < (↑s.2 : Int)))
                            (deref d fun (a : Addr) =>
                              ∃ (s : Sl),
                                World.cell? w1 a = some (Sl.val s) ∧
                                  ∀ (w1_1 : World),
                                    Upd [] [] w1 w1_1 →
                                      Ret Tryd.prog 67 [SV.int IntKind.i64 n] w1_1 fun (r : SV) (w1_2 : World) =>
                                        ∃ (n_1 : Int),
                                          r = SV.int IntKind.u8 n_1 ∧
                                            Upd [] [] w1 w1_2 ∧
                                              Need (decide (0 ≤ n) && decide (n < (↑s.2 : Int)) && Option.isSome s.1)
                                                (Store w1_2 (Sl.at s 1 (Int.toNat n)) (SV.cells (SV.int IntKind.u8 n_1)) [] fun (w1_3 : World) =>
                                                  I (wr IntKind.i64 (n + 1)) w1_3 ∧ M (wr IntKind.i64 (n + 1)) w1_3 < M n w1))
                            (deref d fun (a : Addr) =>
                              ∃ (s : Sl),
                                World.cell? w1 a = some (Sl.val s) ∧
                                  Copy 1 s b [] w1 fun (w : World) =>
                                    deref d fun (a : Addr) =>
                                      Store w (Addr.add a 1) (SV.cells (SV.int IntKind.i64 (↑b.2 : Int))) [] fun (w1 : World) =>
                                        deref d fun (a : Addr) =>
                                          ∃ (s : Sl),
                                            World.cell? w1 a = some (Sl.val s) ∧
                                              Need (decide (0 ≤ (↑b.2 : Int)) && decide ((↑b.2 : Int) ≤ (↑s.3 : Int)))
                                                (R (SV.slice (Sl.sub s 1 0 (Int.toNat (↑b.2 : Int)) s.3)) w1))) →
          J w1) →
      deref d fun (a : Addr) =>
        ∃ (s : Sl),
          World.cell? w a = some (Sl.val s) ∧
            Br (decide ((↑s.2 : Int) < wr IntKind.i64 (wr IntKind.i64 (2 * (↑b.2 : Int)) + 70)))
              (Need
                (decide (0 ≤ wr IntKind.i64 (wr IntKind.i64 (2 * (↑b.2 : Int)) + 512)) &&
                      decide (wr IntKind.i64 (wr IntKind.i64 (2 * (↑b.2 : Int)) + 512) ≤ wr IntKind.i64 (wr IntKind.i64 (2 * (↑b.2 : Int)) + 512)) &&
                    decide (wr IntKind.i64 (wr IntKind.i64 (2 * (↑b.2 : Int)) + 512) ≤ 281474976710656) &&
                  decide (1 * wr IntKind.i64 (wr IntKind.i64 (2 * (↑b.2 : Int)) + 512) ≤ 281474976710656))
                (∀ (b_1 : Nat) (w1 : World),
                  Upd [] [b_1] w w1 →
                    (World.heap w1)[b_1]? = some (Obj.cells { toList := zerosOf (Ty.int IntKind.u8) (Int.toNat (wr IntKind.i64 (wr IntKind.i64 (2 * (↑b.2 : Int)) + 512))) } 5) →
                      deref d fun (a : Addr) =>
                        Store w1 a
                          (SV.cells
                            (SV.slice
                              { ptr := some { block := b_1, off := 0 }, len := Int.toNat (wr IntKind.i64 (wr IntKind.i64 (2 * (↑b.2 : Int)) + 512)),
                                cap := Int.toNat (wr IntKind.i64 (wr IntKind.i64 (2 * (↑b.2 : Int)) + 512)) }))
                          [] fun (w1 : World) => J w1))
              (J w)
theorem f31_of (d : Option Addr) (b : Sl) (w : World) (R : SV → World → Prop) (h : vc31 d b w R) : Ret Tryd.prog 31 [.ptr d, .slice b] w R :=
  have e : vc31 d b w R = fnVC X Tryd.f31 a31 [.ptr d, .slice b] w R := by kernel_rfl
  fnVC_sound X_ok (n := a31) (e ▸ h) (by kernel_rfl) (by kernel_rfl) rfl rfl

def vc37 (d : Option Addr) (b : Sl) (w : World) (R : SV → World → Prop) : Prop :=
  ∀ (J : World → Prop),
    (∀ (w1 : World),
        (deref d fun (a : Addr) =>
            ∃ (n : Int),
              World.cell? w1 (Addr.add a 1) = some (Value.int IntKind.i64 n) ∧
                ∃ (I : Int → World → Prop),
                  ∃ (M : Int → World → Nat),
                    I n w1 ∧
                      ∀ (n : Int) (w1 : World),
                        I n w1 →
                          deref d fun (a : Addr) =>
                            ∃ (s : Sl),
                              World.cell? w1 a = some (Sl.val s) ∧
                                Br (decide (n < (↑s.2 : Int)))
                                  (deref d fun (a : Addr) =>
                                    ∃ (s : Sl),
                                      World.cell? w1 a = some (Sl.val s) ∧
                                        Need (decide (0 ≤ n) && decide (n < (↑s.2 : Int)) && Option.isSome s.1)
                                          (∃ (n_1 : Int),
                                            World.cell? w1 (Sl.at s 1 (Int.toNat n)) = some (Value.int IntKind.u8 n_1) ∧
                                              ∀ (w1_1 : World),
                                                Upd [] [] w1 w1_1 →
                                                  Ret Tryd.prog 67 [SV.int IntKind.i64 n] w1_1 fun (r : SV) (w1_2 : World) =>
                                                    ∃ (n_2 : Int),
                                                      r = SV.int IntKind.u8 n_2 ∧
                                                        Upd [] [] w1 w1_2 ∧
                                                          Br (n_1 != n_2) (R (SV.bool false) w1_2) (I (wr IntKind.i64 (n + 1)) w1_2 ∧ M (wr IntKind.i64 (n + 1)) w1_2 < M n w1)))
                                  (R (SV.bool true) w1)) →
          J w1) →
      deref d fun (a : Addr) =>
        ∃ (n : Int),
          World.cell? w (Addr.add a 1) = some (Value.int IntKind.i64 n) ∧
            Br (n != (↑b.2 : Int)) (∀ (w1 : World), Upd [] [] w w1 → R (SV.bool false) w1)
              (deref d fun (a : Addr) =>
                ∃ (s : Sl),
                  World.cell? w a = some (Sl.val s) ∧
                    deref d fun (a : Addr) =>
                      ∃ (n : Int),
                        World.cell? w (Addr.add a 1) = some (Value.int IntKind.i64 n) ∧
                          Need (decide (0 ≤ n) && decide (n ≤ (↑s.3 : Int)))
                            (∀ (w1 : World),
                              Upd [] [] w w1 →
                                Ret Tryd.prog 75 [SV.slice (Sl.sub s 1 0 (Int.toNat n) s.3), SV.slice b] w1 fun (r : SV) (w1 : World) =>
                                  ∃ (b : Bool), r = SV.bool b ∧ Br (!b) (R (SV.bool false) w1) (J w1)))
theorem f37_of (d : Option Addr) (b : Sl) (w : World) (R : SV → World → Prop) (h : vc37 d b w R) : Ret Tryd.prog 37 [.ptr d, .slice b] w R :=
  have e : vc37 d b w R = fnVC X Tryd.f37 a37 [.ptr d, .slice b] w R := by kernel_rfl
  fnVC_sound X_ok (n := a37) (e ▸ h) (by kernel_rfl) (by kernel_rfl) rfl rfl

def vc75 (a : Sl) (b : Sl) (w : World) (R : SV → World → Prop) : Prop :=
  BytesStr w a fun (b_1 : ByteArray) => BytesStr w b fun (b : ByteArray) => R (SV.bool (b_1 == b)) w
theorem f75_of (a : Sl) (b : Sl) (w : World) (R : SV → World → Prop) (h : vc75 a b w R) : Ret Tryd.prog 75 [.slice a, .slice b] w R :=
  have e : vc75 a b w R = fnVC X Tryd.f75 a75 [.slice a, .slice b] w R := by kernel_rfl
  fnVC_sound X_ok (n := a75) (e ▸ h) (by kernel_rfl) (by kernel_rfl) rfl rfl

def vc54 (i : Int) (n : Int) (w : World) (R : SV → World → Prop) : Prop :=
  Need (n != 0) (Br (decide (Int.tmod i n < 0)) (R (SV.int IntKind.i64 (wr IntKind.i64 (Int.tmod i n + n))) w) (R (SV.int IntKind.i64 (Int.tmod i n)) w))
theorem f54_of (i : Int) (n : Int) (w : World) (R : SV → World → Prop) (h : vc54 i n w R) : Ret Tryd.prog 54 [.int .i64 i, .int .i64 n] w R :=
  have e : vc54 i n w R = fnVC X Tryd.f54 a54 [.int .i64 i, .int .i64 n] w R := by kernel_rfl
  fnVC_sound X_ok (n := a54) (e ▸ h) (by kernel_rfl) (by kernel_rfl) rfl rfl

def vc86 (l : Sl) (m : Int) (w : World) (R : SV → World → Prop) : Prop :=
  ∃ (I : Int → World → Prop),
    ∃ (M : Int → World → Nat),
      I 0 w ∧
        ∀ (n : Int) (w1 : World),
          I n w1 →
            Br (decide (n < (↑l.2 : Int)))
              (∀ (J : World → Prop),
                (∀ (w1_1 : World), I (wr IntKind.i64 (n + 1)) w1_1 ∧ M (wr IntKind.i64 (n + 1)) w1_1 < M n w1 → J w1_1) →
                  Need (decide (0 ≤ n) && decide (n < (↑l.2 : Int)) && Option.isSome l.1)
                    (∃ (n_1 : Int),
                      World.cell? w1 (Sl.at l 2 (Int.toNat n)) = some (Value.int IntKind.i64 n_1) ∧
                        Br (n_1 != m) (R (SV.bool false) w1)
                          (Need (decide (0 ≤ n) && decide (n < (↑l.2 : Int)) && Option.isSome l.1)
                            (∃ (s : Sl), World.cell? w1 (Addr.add (Sl.at l 2 (Int.toNat n)) 1) = some (Sl.val s) ∧ Br ((↑s.2 : Int) != 0) (R (SV.bool false) w1) (J w1)))))
              (R (SV.bool true) w1)
theorem f86_of (l : Sl) (m : Int) (w : World) (R : SV → World → Prop) (h : vc86 l m w R) : Ret Tryd.prog 86 [.slice l, .int .i64 m] w R :=
  have e : vc86 l m w R = fnVC X Tryd.f86 a86 [.slice l, .int .i64 m] w R := by kernel_rfl
  fnVC_sound X_ok (n := a86) (e ▸ h) (by kernel_rfl) (by kernel_rfl) rfl rfl

def vc52 (k : Option Addr) (l : Sl) (w : World) (R : SV → World → Prop) : Prop :=
  Vc.Append 37 2 32 { ptr := none, len := 0, cap := 0 } l [] w fun (r : Sl) (w : World) =>
    deref k fun (a : Addr) =>
      ∃ (s : Sl),
        World.cell? w a = some (Sl.val s) ∧
          ∀ (b : Nat) (w1 : World),
            Upd [] [b] w w1 →
              (World.heap w1)[b]? = some (Obj.cells { toList := SV.cells (SV.struct [SV.slice l]) } 28) →
                Vc.Append 28 1 24 s { ptr := some { block := b, off := 0 }, len := 1, cap := 1 } [] w1 fun (r_1 : Sl) (w : World) =>
                  deref k fun (a : Addr) =>
                    Store w a (SV.cells (SV.slice r_1)) [] fun (w1 : World) =>
                      deref k fun (a : Addr) =>
                        ∃ (s : Sl),
                          World.cell? w1 (Addr.add a 1) = some (Sl.val s) ∧
                            ∀ (b : Nat) (w1_1 : World),
                              Upd [] [b] w1 w1_1 →
                                (World.heap w1_1)[b]? = some (Obj.cells { toList := SV.cells (SV.struct [SV.slice r]) } 28) →
                                  Vc.Append 28 1 24 s { ptr := some { block := b, off := 0 }, len := 1, cap := 1 } [] w1_1 fun (r : Sl) (w : World) =>
                                    deref k fun (a : Addr) => Store w (Addr.add a 1) (SV.cells (SV.slice r)) [] fun (w1 : World) => R (SV.tuple []) w1
theorem f52_of (k : Option Addr) (l : Sl) (w : World) (R : SV → World → Prop) (h : vc52 k l w R) : Ret Tryd.prog 52 [.ptr k, .slice l] w R :=
  have e : vc52 k l w R = fnVC X Tryd.f52 a52 [.ptr k, .slice l] w R := by kernel_rfl
  fnVC_sound X_ok (n := a52) (e ▸ h) (by kernel_rfl) (by kernel_rfl) rfl rfl

def vc55 (k : Option Addr) (w : World) (R : SV → World → Prop) : Prop :=
  ∃ (I : Int → World → Prop),
    ∃ (M : Int → World → Nat),
      I 0 w ∧
        ∀ (n : Int) (w1 : World),
          I n w1 →
            deref k fun (a : Addr) =>
              ∃ (s : Sl),
                World.cell? w1 a = some (Sl.val s) ∧
                  Br (decide (n < (↑s.2 : Int)))
                    (∃ (I_1 : Int → World → Prop),
                      ∃ (M_1 : Int → World → Nat),
                        I_1 0 w1 ∧
                          ∀ (n_1 : Int) (w1_1 : World),
                            I_1 n_1 w1_1 →
                              deref k fun (a : Addr) =>
                                ∃ (s : Sl),
                                  World.cell? w1_1 a = some (Sl.val s) ∧
                                    Need (decide (0 ≤ n) && decide (n < (↑s.2 : Int)) && Option.isSome s.1)
                                      (∃ (s_1 : Sl),
                                        World.cell? w1_1 (Sl.at s 1 (Int.toNat n)) = some (Sl.val s_1) ∧
                                          Br (decide (n_1 < (↑s_1.2 : Int)))
                                            (∀ (J : World → Prop),
                                              (∀ (w1 : World), I_1 (wr IntKind.i64 (n_1 + 1)) w1 ∧ M_1 (wr IntKind.i64 (n_1 + 1)) w1 < M_1 n_1 w1_1 → J w1) →
                                                deref k fun (a : Addr) =>
                                                  ∃ (s : Sl),
                                                    World.cell? w1_1 a = some (Sl.val s) ∧
                                                      Need (decide (0 ≤ n) && decide (n < (↑s.2 : Int)) && Option.isSome s.1)
                                                        (∃ (s_2 : Sl),
                                                          World.cell? w1_1 (Sl.at s 1 (Int.toNat n)) = some (Sl.val s_2) ∧
                                                            Need (decide (0 ≤ n_1) && decide (n_1 < (↑s_2.2 : Int)) && Option.isSome s_2.1)
                                                              (∃ (n_2 : Int),
                                                                World.cell? w1_1 (Sl.at s_2 2 (Int.toNat n_1)) = some (Value.int IntKind.i64 n_2) ∧
                                                                  deref k fun (a : Addr) =>
                                                                    ∃ (s : Sl),
                                                                      World.cell? w1_1 (Addr.add a 1) = some (Sl.val s) ∧
                                                                        Need (decide (0 ≤ n) && decide (n < (↑s.2 : Int)) && Option.isSome s.1)
                                                                          (∃ (s_3 : Sl),
                                                                            World.cell? w1_1 (Sl.at s 1 (Int.toNat n)) = some (Sl.val s_3) ∧
                                                                              Need (decide (0 ≤ n_1) && decide (n_1 < (↑s_3.2 : Int)) && Option.isSome s_3.1)
                                                                                (∃ (n_3 : Int),
                                                                                  World.cell? w1_1 (Sl.at s_3 2 (Int.toNat n_1)) = some (Value.int IntKind.i64 n_3) ∧
                                                                                    Br (n_2 != n_3) (∀ (w1 : World), Upd [] [] w1_1 w1 → R (SV.bool false) w1)
                                                                                      (deref k fun (a : Addr) =>
                                                                                        ∃ (s : Sl),
                                                                                          World.cell? w1_1 a = some (Sl.val s) ∧
                                                                                            Need (decide (0 ≤ n) && decide (n < (↑s.2 : Int)) && Option.isSome s.1)
                                                                                              (∃ (s_4 : Sl),
                                                                                                World.cell? w1_1 (Sl.at s 1 (Int.toNat n)) = some (Sl.val s_4) ∧
                                                                                                  Need (decide (0 ≤ n_1) && decide (n_1 < (↑s_4.2 : Int)) && Option.isSome s_4.1)
                                                                                                    (∃ (s : Sl),
                                                                                                      World.cell? w1_1 (Addr.add (Sl.at s_4 2 (Int.toNat n_1)) 1) = some (Sl.val s) ∧
                                                                                                        deref k fun (a : Addr) =>
                                                                                                          ∃ (s_5 : Sl),
                                                                                                            World.cell? w1_1 (Addr.add a 1) = some (Sl.val s_5) ∧
                                                                                                              Need
                                                                                                                (decide (0 ≤ n) && decide (n < (↑s_5.2 : Int)) && Option.isSome s_5.1)
                                                                                                                (∃ (s_6 : Sl),
                                                                                                                  World.cell? w1_1 (Sl.at s_5 1 (Int.toNat n)) = some (Sl.val s_6) ∧
                                                                                                                    Need
                                                                                                                      (decide (0 ≤ n_1) && decide (n_1 < (↑s_6.2 : Int)) &&
                                                                                                                        Option.isSome s_6.1)
                                                                                                                      (∃ (s_7 : Sl),
                                                                                                                        World.cell? w1_1 (Addr.add (Sl.at s_6 2 (Int.toNat n_1)) 1) =
                                                                                                                            some (Sl.val s_7) ∧
                                                                                                                          Br ((↑s.2 : Int) != (↑s_7.2 : Int))
                                                                                                                            (∀ (w1 : World), Upd [] [] w1_1 w1 → R (SV.bool false) w1)
                                                                                                                            (∀ (w1 : World), Upd [] [] w1_1 w1 → J w1)))))))))))
                                            (I (wr IntKind.i64 (n + 1)) w1_1 ∧ M (wr IntKind.i64 (n + 1)) w1_1 < M n w1)))
                    (R (SV.bool true) w1)
theorem f55_of (k : Option Addr) (w : World) (R : SV → World → Prop) (h : vc55 k w R) : Ret Tryd.prog 55 [.ptr k] w R :=
  have e : vc55 k w R = fnVC X Tryd.f55 a55 [.ptr k] w R := by kernel_rfl
  fnVC_sound X_ok (n := a55) (e ▸ h) (by kernel_rfl) (by kernel_rfl) rfl rfl

def vc56 (k : Option Addr) (w : World) (R : SV → World → Prop) : Prop :=
  Ret Tryd.prog 55 [SV.ptr k] w fun (r : SV) (w1 : World) =>
    ∃ (b : Bool),
      r = SV.bool b ∧
        Br (!b) (R (SV.bool false) w1)
          (∃ (I : Int → World → Prop),
            ∃ (M : Int → World → Nat),
              I 0 w1 ∧
                ∀ (n : Int) (w1 : World),
                  I n w1 →
                    deref k fun (a : Addr) =>
                      ∃ (s : Sl),
                        World.cell? w1 a = some (Sl.val s) ∧
                          Br (decide (n < (↑s.2 : Int)))
                            (∃ (I_1 : Int → World → Prop),
                              ∃ (M_1 : Int → World → Nat),
                                I_1 0 w1 ∧
                                  ∀ (n_1 : Int) (w1_1 : World),
                                    I_1 n_1 w1_1 →
                                      deref k fun (a : Addr) =>
                                        ∃ (s : Sl),
                                          World.cell? w1_1 a = some (Sl.val s) ∧
                                            Need (decide (0 ≤ n) && decide (n < (↑s.2 : Int)) && Option.isSome s.1)
                                              (∃ (s_1 : Sl),
                                                World.cell? w1_1 (Sl.at s 1 (Int.toNat n)) = some (Sl.val s_1) ∧
                                                  Br (decide (n_1 < (↑s_1.2 : Int)))
                                                    (deref k fun (a : Addr) =>
                                                      ∃ (s : Sl),
                                                        World.cell? w1_1 a = some (Sl.val s) ∧
                                                          Need (decide (0 ≤ n) && decide (n < (↑s.2 : Int)) && Option.isSome s.1)
                                                            (∃ (s_2 : Sl),
                                                              World.cell? w1_1 (Sl.at s 1 (Int.toNat n)) = some (Sl.val s_2) ∧
                                                                Need (decide (0 ≤ n_1) && decide (n_1 < (↑s_2.2 : Int)) && Option.isSome s_2.1)
                                                                  (Store w1_1 (Sl.at s_2 2 (Int.toNat n_1))
                                                                    (SV.cells
                                                                      (SV.struct [SV.int IntKind.i64 (wr IntKind.i64 (-1000 - n)), SV.slice { ptr := none, len := 0, cap := 0 }]))
                                                                    [] fun (w1 : World) => I_1 (wr IntKind.i64 (n_1 + 1)) w1 ∧ M_1 (wr IntKind.i64 (n_1 + 1)) w1 < M_1 n_1 w1_1)))
                                                    (I (wr IntKind.i64 (n + 1)) w1_1 ∧ M (wr IntKind.i64 (n + 1)) w1_1 < M n w1)))
                            (∃ (I : Sl → Int → World → Prop),
                              ∃ (M : Sl → Int → World → Nat),
                                I { ptr := none, len := 0, cap := 0 } 0 w1 ∧
                                  ∀ (s : Sl) (n : Int) (w1 : World),
                                    I s n w1 →
                                      deref k fun (a : Addr) =>
                                        ∃ (s_1 : Sl),
                                          World.cell? w1 a = some (Sl.val s_1) ∧
                                            Br (decide (n < (↑s_1.2 : Int)))
                                              (deref k fun (a : Addr) =>
                                                ∃ (s_2 : Sl),
                                                  World.cell? w1 a = some (Sl.val s_2) ∧
                                                    Need (decide (0 ≤ n) && decide (n < (↑s_2.2 : Int)) && Option.isSome s_2.1)
                                                      (∃ (s_3 : Sl),
                                                        World.cell? w1 (Sl.at s_2 1 (Int.toNat n)) = some (Sl.val s_3) ∧
                                                          ∃ (I_1 : Sl → World → Prop),
                                                            ∃ (M_1 : Sl → World → Nat),
                                                              I_1 s_3 w1 ∧
                                                                ∀ (s_4 : Sl) (w1_1 : World),
                                                                  I_1 s_4 w1_1 →
                                                                    Br (decide ((↑s_4.2 : Int) < wr IntKind.i64 (wr IntKind.i64 (2 * (↑s_3.2 : Int)) + 9)))
                                                                      (∀ (b : Nat) (w1 : World),
                                                                        Upd [] [b] w1_1 w1 →
                                                                          (World.heap w1)[b]? =
                                                                              some
                                                                                (Obj.cells
                                                                                  {
                                                                                    toList :=
                                                                                      SV.cells
                                                                                        (SV.struct
                                                                                          [SV.struct
                                                                                              [SV.int IntKind.i64 (wr IntKind.i64 (-1000 - n)),
                                                                                                SV.slice { ptr := none, len := 0, cap := 0 }]]) }
                                                                                  37) →
                                                                            Vc.Append 37 2 32 s_4 { ptr := some { block := b, off := 0 }, len := 1, cap := 1 } [] w1
                                                                              fun (r : Sl) (w : World) => I_1 r w ∧ M_1 r w < M_1 s_4 w1_1)
                                                                      (∀ (b : Nat) (w1_2 : World),
                                                                        Upd [] [b] w1_1 w1_2 →
                                                                          (World.heap w1_2)[b]? = some (Obj.cells { toList := SV.cells (SV.struct [SV.slice s_4]) } 28) →
                                                                            Vc.Append 28 1 24 s { ptr := some { block := b, off := 0 }, len := 1, cap := 1 } [] w1_2
                                                                              fun (r : Sl) (w : World) =>
                                                                              I r (wr IntKind.i64 (n + 1)) w ∧ M r (wr IntKind.i64 (n + 1)) w < M s n w1)))
                                              (∃ (I : Int → World → Prop),
                                                ∃ (M : Int → World → Nat),
                                                  I 0 w1 ∧
                                                    ∀ (n : Int) (w1 : World),
                                                      I n w1 →
                                                        deref k fun (a : Addr) =>
                                                          ∃ (s_2 : Sl),
                                                            World.cell? w1 a = some (Sl.val s_2) ∧
                                                              Br (decide (n < (↑s_2.2 : Int)))
                                                                (∀ (J : World → Prop),
                                                                  (∀ (w1_1 : World), I (wr IntKind.i64 (n + 1)) w1_1 ∧ M (wr IntKind.i64 (n + 1)) w1_1 < M n w1 → J w1_1) →
                                                                    deref k fun (a : Addr) =>
                                                                      ∃ (s_3 : Sl),
                                                                        World.cell? w1 a = some (Sl.val s_3) ∧
                                                                          Need (decide (0 ≤ n) && decide (n < (↑s_3.2 : Int)) && Option.isSome s_3.1)
                                                                            (∃ (s_4 : Sl),
                                                                              World.cell? w1 (Sl.at s_3 1 (Int.toNat n)) = some (Sl.val s_4) ∧
                                                                                Ret Tryd.prog 86 [SV.slice s_4, SV.int IntKind.i64 (wr IntKind.i64 (-1000 - n))] w1
                                                                                  fun (r : SV) (w1 : World) =>
                                                                                  ∃ (b : Bool),
                                                                                    r = SV.bool b ∧
                                                                                      Br (!b) (R (SV.bool false) w1)
                                                                                        (Need (decide (0 ≤ n) && decide (n < (↑s.2 : Int)) && Option.isSome s.1)
                                                                                          (∃ (s_5 : Sl),
                                                                                            World.cell? w1 (Sl.at s 1 (Int.toNat n)) = some (Sl.val s_5) ∧
                                                                                              Ret Tryd.prog 86 [SV.slice s_5, SV.int IntKind.i64 (wr IntKind.i64 (-1000 - n))] w1
                                                                                                fun (r : SV) (w1 : World) =>
                                                                                                ∃ (b : Bool), r = SV.bool b ∧ Br (!b) (R (SV.bool false) w1) (J w1)))))
                                                                (R (SV.bool true) w1))))
theorem f56_of (k : Option Addr) (w : World) (R : SV → World → Prop) (h : vc56 k w R) : Ret Tryd.prog 56 [.ptr k] w R :=
  have e : vc56 k w R = fnVC X Tryd.f56 a56 [.ptr k] w R := by kernel_rfl
  fnVC_sound X_ok (n := a56) (e ▸ h) (by kernel_rfl) (by kernel_rfl) rfl rfl

def vc17 (b : Sl) (turns : Sl) (w : World) (R : SV → World → Prop) : Prop := Ret Tryd.prog 18 [] w fun (r : SV) (w1 : World) => ∃ (b_1 : Bool), r = SV.bool
  b_1 ∧ Br (!b_1) (R (SV.bool false) w1) (Ret Tryd.prog 23 [SV.slice b] w1 fun (r : SV) (w1 : World) => ∃ (s : Sl), r = SV.slice s ∧ ∀ (b : Nat) (w1_1 : World),
  Upd [] [b] w1 w1_1 → (World.heap w1_1)[b]? = some (Obj.cells { toList := SV.cells (SV.struct [SV.slice { ptr := none, len := 0, cap := 0 }, SV.int IntKind.i64 0]) }
  52) → Ret Tryd.prog 31 [SV.ptr (some { block := b, off := 0 }), SV.slice s] w1_1 fun (r : SV) (w1 : World) => ∃ (s_1 : Sl), r = SV.slice s_1 ∧ ∀ (b_2 :
  Nat) (w1_2 : World), Upd [] [b_2] w1 w1_2 → (World.heap w1_2)[b_2]? = some (Obj.cells { toList := SV.cells (SV.struct [SV.slice { ptr := none, len := 0, cap := 0 }, SV.slice { ptr := none, len := 0, cap := 0 }]) }
  81) → ∃ (I : Sl → Int → World → Prop), ∃ (M : Sl → Int → World → Nat), I s 0 w1_2 ∧ ∀ (s : Sl) (n : Int) (w1 : World), I s n w1 → ∀ (J : World → Prop),
  (∀ (w1_3 : World), (∀ (J : Sl → World → Prop), (∀ (s_2 : Sl) (w1_4 : World), I s_2 (wr IntKind.i64 (n + 1)) w1_4 ∧ M s_2 (wr IntKind.i64 (n + 1)) w1_4 <
  M s n w1 → J s_2 w1_4) → Ret Tryd.prog 20 [SV.slice s_1] w1_3 fun (r : SV) (w1 : World) => ∃ (n_1 : Int), ∃ (n_2 : Int), ∃ (b_3 : Bool), ∃ (b_4 : Bool),
  ∃ (n_3 : Int), ∃ (n_4 : Int), ∃ (n_5 : Int), ∃ (n_6 : Int), ∃ (f : Nat → Int), ∃ (n_7 : Int), ∃ (f_1 : Nat → Int), ∃ (s_2 : Sl), ∃ (s_3 : Sl), ∃ (n_8 :
  Int), r = SV.tuple [SV.struct [SV.int IntKind.i64 n_1, SV.int IntKind.i64 n_2, SV.bool b_3, SV.bool b_4, SV.int IntKind.i64 n_3, SV.int IntKind.i64 n_4,
  SV.int IntKind.i64 n_5, SV.struct [SV.int IntKind.i64 n_6, SV.arr IntKind.u8 16 f], SV.struct [SV.int IntKind.i64 n_7, SV.arr IntKind.u8 16 f_1], SV.slice
  s_2, SV.slice s_3], SV.int IntKind.i64 n_8] ∧ ∀ (b_5 : Nat) (w1_4 : World), Upd [] [b_5] w1 w1_4 → Ret Tryd.prog 23 [SV.slice s] w1_4 fun (r : SV) (w1 :
  World) => ∃ (s_4 : Sl), r = SV.slice s_4 ∧ Keeps [b_5] w1_4 w1 ∧ Ret Tryd.prog 47 [SV.slice s_4] w1 fun (r : SV) (w1_5 : World) => ∃ (n_9 : Int), ∃ (n_10
  : Int), ∃ (b_6 : Bool), ∃ (b_7 : Bool), ∃ (n_11 : Int), ∃ (n_12 : Int), ∃ (n_13 : Int), ∃ (n_14 : Int), ∃ (f_2 : Nat → Int), ∃ (n_15 : Int), ∃ (f_3 : Nat
  → Int), ∃ (s_5 : Sl), ∃ (s_6 : Sl), ∃ (n_16 : Int), r = SV.tuple [SV.struct [SV.int IntKind.i64 n_9, SV.int IntKind.i64 n_10, SV.bool b_6, SV.bool b_7,
  SV.int IntKind.i64 n_11, SV.int IntKind.i64 n_12, SV.int IntKind.i64 n_13, SV.struct [SV.int IntKind.i64 n_14, SV.arr IntKind.u8 16 f_2], SV.struct [SV.int
  IntKind.i64 n_15, SV.arr IntKind.u8 16 f_3], SV.slice s_5, SV.slice s_6], SV.int IntKind.i64 n_16] ∧ Keeps [b_5] w1 w1_5 ∧ ∀ (b_8 : Nat) (J_1 : World →
  Prop), (∀ (w1 : World), (Ret Tryd.prog 49 [SV.slice s_1] w1 fun (r : SV) (w1_6 : World) => ∃ (s_7 : Sl), ∃ (n_17 : Int), r = SV.tuple [SV.slice s_7, SV.int
  IntKind.i64 n_17] ∧ Keeps [b_5, b_8] w1 w1_6 ∧ Ret Tryd.prog 23 [SV.slice s] w1_6 fun (r : SV) (w1 : World) => ∃ (s_8 : Sl), r = SV.slice s_8 ∧ Keeps [b_5,
  b_8] w1_6 w1 ∧ Ret Tryd.prog 50 [SV.slice s_8] w1 fun (r : SV) (w1_7 : World) => ∃ (s_9 : Sl), ∃ (n_18 : Int), r = SV.tuple [SV.slice s_9, SV.int IntKind.i64
  n_18] ∧ Keeps [b_5, b_8] w1 w1_7 ∧ ∀ (J_2 : World → Prop), (∀ (w1 : World), (Ret Tryd.prog 52 [SV.ptr (some { block := b_2, off := 0 }), SV.slice s_2] w1
  fun (r : SV) (w1_8 : World) => r = SV.tuple [] ∧ Keeps [b_5, b_8] w1 w1_8 ∧ Ret Tryd.prog 52 [SV.ptr (some { block := b_2, off := 0 }), SV.slice s_7] w1_8
  fun (r : SV) (w1 : World) => r = SV.tuple [] ∧ Keeps [b_5, b_8] w1_8 w1 ∧ ∀ (J_3 : Sl → World → Prop), (∀ (s : Sl) (w1 : World), (∀ (J_4 : World → Prop),
  (∀ (w1 : World), (Ret Tryd.prog 55 [SV.ptr (some { block := b_2, off := 0 })] w1 fun (r : SV) (w1_9 : World) => ∃ (b : Bool), r = SV.bool b ∧ Keeps [b_5,
  b_8] w1 w1_9 ∧ Br (!b) (R (SV.bool false) w1_9) (J s w1_9)) → J_4 w1) → Br (decide (n < (↑turns.2 : Int))) (Br (decide ((↑s_1.2 : Int) > 0)) (Need (decide
  (0 ≤ n) && decide (n < (↑turns.2 : Int)) && Option.isSome turns.1) (∃ (n_19 : Int), World.cell? w1 (Addr.add (Sl.at turns 2 (Int.toNat n)) 0) = some (Value.int
  IntKind.i64 n_19) ∧ Ret Tryd.prog 54 [SV.int IntKind.i64 n_19, SV.int IntKind.i64 (↑s_1.2 : Int)] w1 fun (r : SV) (w1_9 : World) => ∃ (n_20 : Int), r =
  SV.int IntKind.i64 n_20 ∧ Keeps [b_5, b_8] w1 w1_9 ∧ Need (decide (0 ≤ n) && decide (n < (↑turns.2 : Int)) && Option.isSome turns.1) (∃ (n_21 : Int), World.cell?
  w1_9 (Addr.add (Sl.at turns 2 (Int.toNat n)) 1) = some (Value.int IntKind.i64 n_21) ∧ Need (decide (0 ≤ n_20) && decide (n_20 < (↑s_1.2 : Int)) && Option.isSome
  s_1.1) (Store w1_9 (Sl.at s_1 1 (Int.toNat n_20)) (SV.cells (SV.int IntKind.u8 (wr IntKind.u8 n_21))) [b_5, b_8] fun (w1 : World) => Need (decide (0 ≤ n)
  && decide (n < (↑turns.2 : Int)) && Option.isSome turns.1) (∃ (n_22 : Int), World.cell? w1 (Addr.add (Sl.at turns 2 (Int.toNat n)) 1) = some (Value.int
  IntKind.i64 n_22) ∧ Need (decide (0 ≤ n_20) && decide (n_20 < (↑s.2 : Int)) && Option.isSome s.1) (Store w1 (Sl.at s 1 (Int.toNat n_20)) (SV.cells (SV.int
  IntKind.u8 (wr IntKind.u8 n_22))) [b_5, b_8] fun (w1 : World) => some (SV.box b_5 30 (SV.struct [SV.int IntKind.i64 n_1, SV.int IntKind.i64 n_2, SV.bool
  b_3, SV.bool b_4, SV.int IntKind.i64 n_3, SV.int IntKind.i64 n_4, SV.int IntKind.i64 n_5, SV.struct [SV.int IntKind.i64 n_6, SV.arr IntKind.u8 16 f], SV.struct
  [SV.int IntKind.i64 n_7, SV.arr IntKind.u8 16 f_1], SV.slice s_2, SV.slice s_3])) = some (SV.box b_5 30 (SV.struct [SV.int IntKind.i64 n_1, SV.int IntKind.i64
  n_2, SV.bool b_3, SV.bool b_4, SV.int IntKind.i64 n_3, SV.int IntKind.i64 n_4, SV.int IntKind.i64 n_5, SV.struct [SV.int IntKind.i64 n_6, SV.arr IntKind.u8
  16 f], SV.struct [SV.int IntKind.i64 n_7, SV.arr IntKind.u8 16 f_1], SV.slice s_2, SV.slice s_3])) ∧ some (SV.box b_8 30 (SV.struct [SV.int IntKind.i64
  n_9, SV.int IntKind.i64 n_10, SV.bool b_6, SV.bool b_7, SV.int IntKind.i64 n_11, SV.int IntKind.i64 n_12, SV.int IntKind.i64 n_13, SV.struct [SV.int IntKind.i64
  n_14, SV.arr IntKind.u8 16 f_2], SV.struct [SV.int IntKind.i64 n_15, SV.arr IntKind.u8 16 f_3], SV.slice s_5, SV.slice s_6])) = some (SV.box b_8 30 (SV.struct
  [SV.int IntKind.i64 n_9, SV.int IntKind.i64 n_10, SV.bool b_6, SV.bool b_7, SV.int IntKind.i64 n_11, SV.int IntKind.i64 n_12, SV.int IntKind.i64 n_13, SV.struct
  [SV.int IntKind.i64 n_14, SV.arr IntKind.u8 16 f_2], SV.struct [SV.int IntKind.i64 n_15, SV.arr IntKind.u8 16 f_3], SV.slice s_5, SV.slice s_6])) ∧ J_4
  w1)))))) (some (SV.box b_5 30 (SV.struct [SV.int IntKind.i64 n_1, SV.int IntKind.i64 n_2, SV.bool b_3, SV.bool b_4, SV.int IntKind.i64 n_3, SV.int IntKind.i64
  n_4, SV.int IntKind.i64 n_5, SV.struct [SV.int IntKind.i64 n_6, SV.arr IntKind.u8 16 f], SV.struct [SV.int IntKind.i64 n_7, SV.arr IntKind.u8 16 f_1], SV.slice
  s_2, SV.slice s_3])) = some (SV.box b_5 30 (SV.struct [SV.int IntKind.i64 n_1, SV.int IntKind.i64 n_2, SV.bool b_3, SV.bool b_4, SV.int IntKind.i64 n_3,
  SV.int IntKind.i64 n_4, SV.int IntKind.i64 n_5, SV.struct [SV.int IntKind.i64 n_6, SV.arr IntKind.u8 16 f], SV.struct [SV.int IntKind.i64 n_7, SV.arr IntKind.u8
  16 f_1], SV.slice s_2, SV.slice s_3])) ∧ some (SV.box b_8 30 (SV.struct [SV.int IntKind.i64 n_9, SV.int IntKind.i64 n_10, SV.bool b_6, SV.bool b_7, SV.int
  IntKind.i64 n_11, SV.int IntKind.i64 n_12, SV.int IntKind.i64 n_13, SV.struct [SV.int IntKind.i64 n_14, SV.arr IntKind.u8 16 f_2], SV.struct [SV.int IntKind.i64
  n_15, SV.arr IntKind.u8 16 f_3], SV.slice s_5, SV.slice s_6])) = some (SV.box b_8 30 (SV.struct [SV.int IntKind.i64 n_9, SV.int IntKind.i64 n_10, SV.bool
  b_6, SV.bool b_7, SV.int IntKind.i64 n_11, SV.int IntKind.i64 n_12, SV.int IntKind.i64 n_13, SV.struct [SV.int IntKind.i64 n_14, SV.arr IntKind.u8 16 f_2],
  SV.struct [SV.int IntKind.i64 n_15, SV.arr IntKind.u8 16 f_3], SV.slice s_5, SV.slice s_6])) ∧ J_4 w1)) (some (SV.box b_5 30 (SV.struct [SV.int IntKind.i64
  n_1, SV.int IntKind.i64 n_2, SV.bool b_3, SV.bool b_4, SV.int IntKind.i64 n_3, SV.int IntKind.i64 n_4, SV.int IntKind.i64 n_5, SV.struct [SV.int IntKind.i64
  n_6, SV.arr IntKind.u8 16 f], SV.struct [SV.int IntKind.i64 n_7, SV.arr IntKind.u8 16 f_1], SV.slice s_2, SV.slice s_3])) = some (SV.box b_5 30 (SV.struct
  [SV.int IntKind.i64 n_1, SV.int IntKind.i64 n_2, SV.bool b_3, SV.bool b_4, SV.int IntKind.i64 n_3, SV.int IntKind.i64 n_4, SV.int IntKind.i64 n_5, SV.struct
  [SV.int IntKind.i64 n_6, SV.arr IntKind.u8 16 f], SV.struct [SV.int IntKind.i64 n_7, SV.arr IntKind.u8 16 f_1], SV.slice s_2, SV.slice s_3])) ∧ some (SV.box
  b_8 30 (SV.struct [SV.int IntKind.i64 n_9, SV.int IntKind.i64 n_10, SV.bool b_6, SV.bool b_7, SV.int IntKind.i64 n_11, SV.int IntKind.i64 n_12, SV.int IntKind.i64
  n_13, SV.struct [SV.int IntKind.i64 n_14, SV.arr IntKind.u8 16 f_2], SV.struct [SV.int IntKind.i64 n_15, SV.arr IntKind.u8 16 f_3], SV.slice s_5, SV.slice
  s_6])) = some (SV.box b_8 30 (SV.struct [SV.int IntKind.i64 n_9, SV.int IntKind.i64 n_10, SV.bool b_6, SV.bool b_7, SV.int IntKind.i64 n_11, SV.int IntKind.i64
  n_12, SV.int IntKind.i64 n_13, SV.struct [SV.int IntKind.i64 n_14, SV.arr IntKind.u8 16 f_2], SV.struct [SV.int IntKind.i64 n_15, SV.arr IntKind.u8 16 f_3],
  SV.slice s_5, SV.slice s_6])) ∧ J_4 w1)) → J_3 s w1) → Br (Int.tmod n 2 == 1) (Ret Tryd.prog 46 [SV.slice s_1] w1 fun (r : SV) (w1_9 : World) => ∃ (n :
  Int), r = SV.int IntKind.i64 n ∧ Keeps [b_5, b_8] w1 w1_9 ∧ Ret Tryd.prog 23 [SV.slice s] w1_9 fun (r : SV) (w1 : World) => ∃ (s : Sl), r = SV.slice s ∧
  Keeps [b_5, b_8] w1_9 w1 ∧ Ret Tryd.prog 53 [SV.slice s] w1 fun (r : SV) (w1_10 : World) => ∃ (s : Sl), ∃ (n_19 : Int), r = SV.tuple [SV.slice s, SV.int
  IntKind.i64 n_19] ∧ Keeps [b_5, b_8] w1 w1_10 ∧ Ret Tryd.prog 23 [SV.slice s] w1_10 fun (r : SV) (w1 : World) => ∃ (s : Sl), r = SV.slice s ∧ Keeps [b_5,
  b_8] w1_10 w1 ∧ Ret Tryd.prog 21 [SV.int IntKind.i64 n] w1 fun (r : SV) (w1_11 : World) => ∃ (n : Int), r = SV.int IntKind.i64 n ∧ Keeps [b_5, b_8] w1 w1_11
  ∧ Br (n != n_19) (R (SV.bool false) w1_11) (Ret Tryd.prog 37 [SV.ptr (some { block := b, off := 0 }), SV.slice s] w1_11 fun (r : SV) (w1 : World) => ∃ (b
  : Bool), r = SV.bool b ∧ Keeps [b_5, b_8] w1_11 w1 ∧ Br (!b) (R (SV.bool false) w1) (some (SV.box b_5 30 (SV.struct [SV.int IntKind.i64 n_1, SV.int IntKind.i64
  n_2, SV.bool b_3, SV.bool b_4, SV.int IntKind.i64 n_3, SV.int IntKind.i64 n_4, SV.int IntKind.i64 n_5, SV.struct [SV.int IntKind.i64 n_6, SV.arr IntKind.u8
  16 f], SV.struct [SV.int IntKind.i64 n_7, SV.arr IntKind.u8 16 f_1], SV.slice s_2, SV.slice s_3])) = some (SV.box b_5 30 (SV.struct [SV.int IntKind.i64
  n_1, SV.int IntKind.i64 n_2, SV.bool b_3, SV.bool b_4, SV.int IntKind.i64 n_3, SV.int IntKind.i64 n_4, SV.int IntKind.i64 n_5, SV.struct [SV.int IntKind.i64
  n_6, SV.arr IntKind.u8 16 f], SV.struct [SV.int IntKind.i64 n_7, SV.arr IntKind.u8 16 f_1], SV.slice s_2, SV.slice s_3])) ∧ some (SV.box b_8 30 (SV.struct
  [SV.int IntKind.i64 n_9, SV.int IntKind.i64 n_10, SV.bool b_6, SV.bool b_7, SV.int IntKind.i64 n_11, SV.int IntKind.i64 n_12, SV.int IntKind.i64 n_13, SV.struct
  [SV.int IntKind.i64 n_14, SV.arr IntKind.u8 16 f_2], SV.struct [SV.int IntKind.i64 n_15, SV.arr IntKind.u8 16 f_3], SV.slice s_5, SV.slice s_6])) = some
  (SV.box b_8 30 (SV.struct [SV.int IntKind.i64 n_9, SV.int IntKind.i64 n_10, SV.bool b_6, SV.bool b_7, SV.int IntKind.i64 n_11, SV.int IntKind.i64 n_12,
  SV.int IntKind.i64 n_13, SV.struct [SV.int IntKind.i64 n_14, SV.arr IntKind.u8 16 f_2], SV.struct [SV.int IntKind.i64 n_15, SV.arr IntKind.u8 16 f_3], SV.slice
  s_5, SV.slice s_6])) ∧ J_3 s w1))) (some (SV.box b_5 30 (SV.struct [SV.int IntKind.i64 n_1, SV.int IntKind.i64 n_2, SV.bool b_3, SV.bool b_4, SV.int IntKind.i64
  n_3, SV.int IntKind.i64 n_4, SV.int IntKind.i64 n_5, SV.struct [SV.int IntKind.i64 n_6, SV.arr IntKind.u8 16 f], SV.struct [SV.int IntKind.i64 n_7, SV.arr
  IntKind.u8 16 f_1], SV.slice s_2, SV.slice s_3])) = some (SV.box b_5 30 (SV.struct [SV.int IntKind.i64 n_1, SV.int IntKind.i64 n_2, SV.bool b_3, SV.bool
  b_4, SV.int IntKind.i64 n_3, SV.int IntKind.i64 n_4, SV.int IntKind.i64 n_5, SV.struct [SV.int IntKind.i64 n_6, SV.arr IntKind.u8 16 f], SV.struct [SV.int
  IntKind.i64 n_7, SV.arr IntKind.u8 16 f_1], SV.slice s_2, SV.slice s_3])) ∧ some (SV.box b_8 30 (SV.struct [SV.int IntKind.i64 n_9, SV.int IntKind.i64 n_10,
  SV.bool b_6, SV.bool b_7, SV.int IntKind.i64 n_11, SV.int IntKind.i64 n_12, SV.int IntKind.i64 n_13, SV.struct [SV.int IntKind.i64 n_14, SV.arr IntKind.u8
  16 f_2], SV.struct [SV.int IntKind.i64 n_15, SV.arr IntKind.u8 16 f_3], SV.slice s_5, SV.slice s_6])) = some (SV.box b_8 30 (SV.struct [SV.int IntKind.i64
  n_9, SV.int IntKind.i64 n_10, SV.bool b_6, SV.bool b_7, SV.int IntKind.i64 n_11, SV.int IntKind.i64 n_12, SV.int IntKind.i64 n_13, SV.struct [SV.int IntKind.i64
  n_14, SV.arr IntKind.u8 16 f_2], SV.struct [SV.int IntKind.i64 n_15, SV.arr IntKind.u8 16 f_3], SV.slice s_5, SV.slice s_6])) ∧ J_3 s w1)) → J_2 w1) → Ret
  Tryd.prog 21 [SV.int IntKind.i64 n_17] w1_7 fun (r : SV) (w1 : World) => ∃ (n : Int), r = SV.int IntKind.i64 n ∧ Keeps [b_5, b_8] w1_7 w1 ∧ Br (n != n_18)
  (R (SV.bool false) w1) (Ret Tryd.prog 51 [SV.slice s_7, SV.slice s_9] w1 fun (r : SV) (w1_8 : World) => ∃ (b_9 : Bool), r = SV.bool b_9 ∧ Keeps [b_5, b_8]
  w1 w1_8 ∧ Br (!b_9) (R (SV.bool false) w1_8) (Ret Tryd.prog 37 [SV.ptr (some { block := b, off := 0 }), SV.slice s] w1_8 fun (r : SV) (w1 : World) => ∃
  (b : Bool), r = SV.bool b ∧ Keeps [b_5, b_8] w1_8 w1 ∧ Br (!b) (R (SV.bool false) w1) (some (SV.box b_5 30 (SV.struct [SV.int IntKind.i64 n_1, SV.int IntKind.i64
  n_2, SV.bool b_3, SV.bool b_4, SV.int IntKind.i64 n_3, SV.int IntKind.i64 n_4, SV.int IntKind.i64 n_5, SV.struct [SV.int IntKind.i64 n_6, SV.arr IntKind.u8
  16 f], SV.struct [SV.int IntKind.i64 n_7, SV.arr IntKind.u8 16 f_1], SV.slice s_2, SV.slice s_3])) = some (SV.box b_5 30 (SV.struct [SV.int IntKind.i64
  n_1, SV.int IntKind.i64 n_2, SV.bool b_3, SV.bool b_4, SV.int IntKind.i64 n_3, SV.int IntKind.i64 n_4, SV.int IntKind.i64 n_5, SV.struct [SV.int IntKind.i64
  n_6, SV.arr IntKind.u8 16 f], SV.struct [SV.int IntKind.i64 n_7, SV.arr IntKind.u8 16 f_1], SV.slice s_2, SV.slice s_3])) ∧ some (SV.box b_8 30 (SV.struct
  [SV.int IntKind.i64 n_9, SV.int IntKind.i64 n_10, SV.bool b_6, SV.bool b_7, SV.int IntKind.i64 n_11, SV.int IntKind.i64 n_12, SV.int IntKind.i64 n_13, SV.struct
  [SV.int IntKind.i64 n_14, SV.arr IntKind.u8 16 f_2], SV.struct [SV.int IntKind.i64 n_15, SV.arr IntKind.u8 16 f_3], SV.slice s_5, SV.slice s_6])) = some
  (SV.box b_8 30 (SV.struct [SV.int IntKind.i64 n_9, SV.int IntKind.i64 n_10, SV.bool b_6, SV.bool b_7, SV.int IntKind.i64 n_11, SV.int IntKind.i64 n_12,
  SV.int IntKind.i64 n_13, SV.struct [SV.int IntKind.i64 n_14, SV.arr IntKind.u8 16 f_2], SV.struct [SV.int IntKind.i64 n_15, SV.arr IntKind.u8 16 f_3], SV.slice
  s_5, SV.slice s_6])) ∧ J_2 w1)))) → J_1 w1) → ∀ (w1 : World), Upd [] [b_8] w1_5 w1 → Ret Tryd.prog 21 [SV.int IntKind.i64 n_8] w1 fun (r : SV) (w1_6 : World)
  => ∃ (n : Int), r = SV.int IntKind.i64 n ∧ Keeps [b_5, b_8] w1 w1_6 ∧ Br (n != n_16) (R (SV.bool false) w1_6) (Ret Tryd.prog 29 [SV.struct [SV.int IntKind.i64
  n_1, SV.int IntKind.i64 n_2, SV.bool b_3, SV.bool b_4, SV.int IntKind.i64 n_3, SV.int IntKind.i64 n_4, SV.int IntKind.i64 n_5, SV.struct [SV.int IntKind.i64
  n_6, SV.arr IntKind.u8 16 f], SV.struct [SV.int IntKind.i64 n_7, SV.arr IntKind.u8 16 f_1], SV.slice s_2, SV.slice s_3], SV.struct [SV.int IntKind.i64 n_9,
  SV.int IntKind.i64 n_10, SV.bool b_6, SV.bool b_7, SV.int IntKind.i64 n_11, SV.int IntKind.i64 n_12, SV.int IntKind.i64 n_13, SV.struct [SV.int IntKind.i64
  n_14, SV.arr IntKind.u8 16 f_2], SV.struct [SV.int IntKind.i64 n_15, SV.arr IntKind.u8 16 f_3], SV.slice s_5, SV.slice s_6]] w1_6 fun (r : SV) (w1 : World)
  => ∃ (b : Bool), r = SV.bool b ∧ Keeps [b_5, b_8] w1_6 w1 ∧ Br (!b) (R (SV.bool false) w1) (Ret Tryd.prog 43 [SV.slice s_1] w1 fun (r : SV) (w1_7 : World)
  => ∃ (b : Bool), r = SV.bool b ∧ Keeps [b_5, b_8] w1 w1_7 ∧ Ret Tryd.prog 48 [SV.slice s] w1_7 fun (r : SV) (w1 : World) => ∃ (b_9 : Bool), r = SV.bool
  b_9 ∧ Keeps [b_5, b_8] w1_7 w1 ∧ Br (!b == b_9) (R (SV.bool false) w1) (some (SV.box b_5 30 (SV.struct [SV.int IntKind.i64 n_1, SV.int IntKind.i64 n_2,
  SV.bool b_3, SV.bool b_4, SV.int IntKind.i64 n_3, SV.int IntKind.i64 n_4, SV.int IntKind.i64 n_5, SV.struct [SV.int IntKind.i64 n_6, SV.arr IntKind.u8 16
  f], SV.struct [SV.int IntKind.i64 n_7, SV.arr IntKind.u8 16 f_1], SV.slice s_2, SV.slice s_3])) = some (SV.box b_5 30 (SV.struct [SV.int IntKind.i64 n_1,
  SV.int IntKind.i64 n_2, SV.bool b_3, SV.bool b_4, SV.int IntKind.i64 n_3, SV.int IntKind.i64 n_4, SV.int IntKind.i64 n_5, SV.struct [SV.int IntKind.i64
  n_6, SV.arr IntKind.u8 16 f], SV.struct [SV.int IntKind.i64 n_7, SV.arr IntKind.u8 16 f_1], SV.slice s_2, SV.slice s_3])) ∧ some (SV.box b_8 30 (SV.struct
  [SV.int IntKind.i64 n_9, SV.int IntKind.i64 n_10, SV.bool b_6, SV.bool b_7, SV.int IntKind.i64 n_11, SV.int IntKind.i64 n_12, SV.int IntKind.i64 n_13, SV.struct
  [SV.int IntKind.i64 n_14, SV.arr IntKind.u8 16 f_2], SV.struct [SV.int IntKind.i64 n_15, SV.arr IntKind.u8 16 f_3], SV.slice s_5, SV.slice s_6])) = some
  (SV.box b_8 30 (SV.struct [SV.int IntKind.i64 n_9, SV.int IntKind.i64 n_10, SV.bool b_6, SV.bool b_7, SV.int IntKind.i64 n_11, SV.int IntKind.i64 n_12,
  SV.int IntKind.i64 n_13, SV.struct [SV.int IntKind.i64 n_14, SV.arr IntKind.u8 16 f_2], SV.struct [SV.int IntKind.i64 n_15, SV.arr IntKind.u8 16 f_3], SV.slice
  s_5, SV.slice s_6])) ∧ J_1 w1)))) → J w1_3) → Br (decide (n ≤ (↑turns.2 : Int))) (Br (decide (n < 40)) (J w1) (Ret Tryd.prog 56 [SV.ptr (some { block := b_2, off := 0 })]
  w1 fun (r : SV) (w1 : World) => ∃ (b : Bool), r = SV.bool b ∧ R (SV.bool b) w1)) (Ret Tryd.prog 56 [SV.ptr (some { block := b_2, off := 0 })] w1 fun (r
  : SV) (w1 : World) => ∃ (b : Bool), r = SV.bool b ∧ R (SV.bool b) w1))
theorem f17_of (b : Sl) (turns : Sl) (w : World) (R : SV → World → Prop) (h : vc17 b turns w R) : Ret Tryd.prog 17 [.slice b, .slice turns] w R :=
  have e : vc17 b turns w R = fnVC X Tryd.f17 a17 [.slice b, .slice turns] w R := by kernel_rfl
  fnVC_sound X_ok (n := a17) (e ▸ h) (by kernel_rfl) (by kernel_rfl) rfl rfl

end Go.Vc.S6
