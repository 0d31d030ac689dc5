import Derived.Test.YtmchllbemgnieaaDoorL4LentK2
import Derived.KernelRfl
section
open Go Go.Vc Go.Vc.S9 Go.Proofs
set_option maxRecDepth 100000
set_option linter.unusedVariables false
namespace Go.Vc.S9
def vc43 (d : Option Addr) (b : Sl) (w : World) (R : SV → World → Prop) : Prop :=
  ∀ (J : World → Prop),
    (∀ (w1 : World),
        (∃ (I : Int → World → Prop),
            ∃ (M : Int → World → Nat),
              I 0 w1 ∧
                ∀ (n : Int) (w1 : World),
                  I n w1 →
                    deref d fun (a : Addr) =>
                      ∃ (s : Sl),
                        World.cell? w1 a = some (Sl.val s) ∧
                          Br (decide (n < (↑s.2 : Int)))
                            (deref d fun (a : Addr) =>
                              ∃ (s : Sl),
                                World.cell? w1 a = some (Sl.val s) ∧
                                  ∀ (w1_1 : World),
                                    Upd [] [] w1 w1_1 →
                                      Ret Tryd.prog 82 [SV.int IntKind.i64 n] w1_1 fun (r : SV) (w1_2 : World) =>
                                        ∃ (n_1 : Int),
                                          r = SV.int IntKind.u8 n_1 ∧
                                            Upd [] [] w1 w1_2 ∧
                                              Need (decide (0 ≤ n) && decide (n < (↑s.2 : Int)) && Option.isSome s.1)
                                                (Store w1_2 (Sl.at s 1 (Int.toNat n)) (SV.cells (SV.int IntKind.u8 n_1)) [] fun (w1_3 : World) =>
                                                  I (wr IntKind.i64 (n + 1)) w1_3 ∧ M (wr IntKind.i64 (n + 1)) w1_3 < M n w1))
                            (deref d fun (a : Addr) =>
                              ∃ (s : Sl),
                                World.cell? w1 a = some (Sl.val s) ∧
                                  Copy 1 s b [] w1 fun (w : World) =>
                                    deref d fun (a : Addr) =>
                                      Store w (Addr.add a 1) (SV.cells (SV.int IntKind.i64 (↑b.2 : Int))) [] fun (w1 : World) =>
                                        deref d fun (a : Addr) =>
                                          ∃ (s : Sl),
                                            World.cell? w1 a = some (Sl.val s) ∧
                                              Need (decide (0 ≤ (↑b.2 : Int)) && decide ((↑b.2 : Int) ≤ (↑s.3 : Int)))
                                                (R (SV.slice (Sl.sub s 1 0 (Int.toNat (↑b.2 : Int)) s.3)) w1))) →
          J w1) →
      deref d fun (a : Addr) =>
        ∃ (s : Sl),
          World.cell? w a = some (Sl.val s) ∧
            Br (decide ((↑s.2 : Int) < wr IntKind.i64 (wr IntKind.i64 (2 * (↑b.2 : Int)) + 70)))
              (Need
                (decide (0 ≤ wr IntKind.i64 (wr IntKind.i64 (2 * (↑b.2 : Int)) + 512)) &&
                      decide (wr IntKind.i64 (wr IntKind.i64 (2 * (↑b.2 : Int)) + 512) ≤ wr IntKind.i64 (wr IntKind.i64 (2 * (↑b.2 : Int)) + 512)) &&
                    decide (wr IntKind.i64 (wr IntKind.i64 (2 * (↑b.2 : Int)) + 512) ≤ 281474976710656) &&
                  decide (1 * wr IntKind.i64 (wr IntKind.i64 (2 * (↑b.2 : Int)) + 512) ≤ 281474976710656))
                (∀ (b_1 : Nat) (w1 : World),
                  Upd [] [b_1] w w1 →
                    (World.heap w1)[b_1]? = some (Obj.cells { toList := zerosOf (Ty.int IntKind.u8) (Int.toNat (wr IntKind.i64 (wr IntKind.i64 (2 * (↑b.2 : Int)) + 512))) } 5) →
                      deref d fun (a : Addr) =>
                        Store w1 a
                          (SV.cells
                            (SV.slice
                              { ptr := some { block := b_1, off := 0 }, len := Int.toNat (wr IntKind.i64 (wr IntKind.i64 (2 * (↑b.2 : Int)) + 512)),
                                cap := Int.toNat (wr IntKind.i64 (wr IntKind.i64 (2 * (↑b.2 : Int)) + 512)) }))
                          [] fun (w1 : World) => J w1))
              (J w)
theorem f43_of (d : Option Addr) (b : Sl) (w : World) (R : SV → World → Prop) (h : vc43 d b w R) : Ret Tryd.prog 43 [.ptr d, .slice b] w R :=
  have e : vc43 d b w R = fnVC X Tryd.f43 a43 [.ptr d, .slice b] w R := by kernel_rfl
  fnVC_sound X_ok (n := a43) (e ▸ h) (by kernel_rfl) (by kernel_rfl) rfl rfl

def vc48 (d : Option Addr) (b : Sl) (w : World) (R : SV → World → Prop) : Prop :=
  ∀ (J : World → Prop),
    (∀ (w1 : World),
        (deref d fun (a : Addr) =>
            ∃ (n : Int),
              World.cell? w1 (Addr.add a 1) = some (Value.int IntKind.i64 n) ∧
                ∃ (I : Int → World → Prop),
                  ∃ (M : Int → World → Nat),
                    I n w1 ∧
                      ∀ (n : Int) (w1 : World),
                        I n w1 →
                          deref d fun (a : Addr) =>
                            ∃ (s : Sl),
                              World.cell? w1 a = some (Sl.val s) ∧
                                Br (decide (n < (↑s.2 : Int)))
                                  (deref d fun (a : Addr) =>
                                    ∃ (s : Sl),
                                      World.cell? w1 a = some (Sl.val s) ∧
                                        Need (decide (0 ≤ n) && decide (n < (↑s.2 : Int)) && Option.isSome s.1)
                                          (∃ (n_1 : Int),
                                            World.cell? w1 (Sl.at s 1 (Int.toNat n)) = some (Value.int IntKind.u8 n_1) ∧
                                              ∀ (w1_1 : World),
                                                Upd [] [] w1 w1_1 →
                                                  Ret Tryd.prog 82 [SV.int IntKind.i64 n] w1_1 fun (r : SV) (w1_2 : World) =>
                                                    ∃ (n_2 : Int),
                                                      r = SV.int IntKind.u8 n_2 ∧
                                                        Upd [] [] w1 w1_2 ∧
                                                          Br (n_1 != n_2) (R (SV.bool false) w1_2) (I (wr IntKind.i64 (n + 1)) w1_2 ∧ M (wr IntKind.i64 (n + 1)) w1_2 < M n w1)))
                                  (R (SV.bool true) w1)) →
          J w1) →
      deref d fun (a : Addr) =>
        ∃ (n : Int),
          World.cell? w (Addr.add a 1) = some (Value.int IntKind.i64 n) ∧
            Br (n != (↑b.2 : Int)) (∀ (w1 : World), Upd [] [] w w1 → R (SV.bool false) w1)
              (deref d fun (a : Addr) =>
                ∃ (s : Sl),
                  World.cell? w a = some (Sl.val s) ∧
                    deref d fun (a : Addr) =>
                      ∃ (n : Int),
                        World.cell? w (Addr.add a 1) = some (Value.int IntKind.i64 n) ∧
                          Need (decide (0 ≤ n) && decide (n ≤ (↑s.3 : Int)))
                            (∀ (w1 : World),
                              Upd [] [] w w1 →
                                Ret Tryd.prog 87 [SV.slice (Sl.sub s 1 0 (Int.toNat n) s.3), SV.slice b] w1 fun (r : SV) (w1 : World) =>
                                  ∃ (b : Bool), r = SV.bool b ∧ Br (!b) (R (SV.bool false) w1) (J w1)))
theorem f48_of (d : Option Addr) (b : Sl) (w : World) (R : SV → World → Prop) (h : vc48 d b w R) : Ret Tryd.prog 48 [.ptr d, .slice b] w R :=
  have e : vc48 d b w R = fnVC X Tryd.f48 a48 [.ptr d, .slice b] w R := by kernel_rfl
  fnVC_sound X_ok (n := a48) (e ▸ h) (by kernel_rfl) (by kernel_rfl) rfl rfl

def vc49 (k : Option Addr) (l : Sl) (w : World) (R : SV → World → Prop) : Prop :=
  Vc.Append 60 2 32 { ptr := none, len := 0, cap := 0 } l [] w fun (r : Sl) (w : World) =>
    deref k fun (a : Addr) =>
      ∃ (s : Sl),
        World.cell? w a = some (Sl.val s) ∧
          ∀ (b : Nat) (w1 : World),
            Upd [] [b] w w1 →
              (World.heap w1)[b]? = some (Obj.cells { toList := SV.cells (SV.struct [SV.slice l]) } 43) →
                Vc.Append 43 1 24 s { ptr := some { block := b, off := 0 }, len := 1, cap := 1 } [] w1 fun (r_1 : Sl) (w : World) =>
                  deref k fun (a : Addr) =>
                    Store w a (SV.cells (SV.slice r_1)) [] fun (w1 : World) =>
                      deref k fun (a : Addr) =>
                        ∃ (s : Sl),
                          World.cell? w1 (Addr.add a 1) = some (Sl.val s) ∧
                            ∀ (b : Nat) (w1_1 : World),
                              Upd [] [b] w1 w1_1 →
                                (World.heap w1_1)[b]? = some (Obj.cells { toList := SV.cells (SV.struct [SV.slice r]) } 43) →
                                  Vc.Append 43 1 24 s { ptr := some { block := b, off := 0 }, len := 1, cap := 1 } [] w1_1 fun (r : Sl) (w : World) =>
                                    deref k fun (a : Addr) => Store w (Addr.add a 1) (SV.cells (SV.slice r)) [] fun (w1 : World) => R (SV.tuple []) w1
theorem f49_of (k : Option Addr) (l : Sl) (w : World) (R : SV → World → Prop) (h : vc49 k l w R) : Ret Tryd.prog 49 [.ptr k, .slice l] w R :=
  have e : vc49 k l w R = fnVC X Tryd.f49 a49 [.ptr k, .slice l] w R := by kernel_rfl
  fnVC_sound X_ok (n := a49) (e ▸ h) (by kernel_rfl) (by kernel_rfl) rfl rfl

def vc50 (i : Int) (n : Int) (w : World) (R : SV → World → Prop) : Prop :=
  Need (n != 0) (Br (decide (Int.tmod i n < 0)) (R (SV.int IntKind.i64 (wr IntKind.i64 (Int.tmod i n + n))) w) (R (SV.int IntKind.i64 (Int.tmod i n)) w))
theorem f50_of (i : Int) (n : Int) (w : World) (R : SV → World → Prop) (h : vc50 i n w R) : Ret Tryd.prog 50 [.int .i64 i, .int .i64 n] w R :=
  have e : vc50 i n w R = fnVC X Tryd.f50 a50 [.int .i64 i, .int .i64 n] w R := by kernel_rfl
  fnVC_sound X_ok (n := a50) (e ▸ h) (by kernel_rfl) (by kernel_rfl) rfl rfl

def vc51 (k : Option Addr) (w : World) (R : SV → World → Prop) : Prop :=
  ∃ (I : Int → World → Prop),
    ∃ (M : Int → World → Nat),
      I 0 w ∧
        ∀ (n : Int) (w1 : World),
          I n w1 →
            deref k fun (a : Addr) =>
              ∃ (s : Sl),
                World.cell? w1 a = some (Sl.val s) ∧
                  Br (decide (n < (↑s.2 : Int)))
                    (∃ (I_1 : Int → World → Prop),
                      ∃ (M_1 : Int → World → Nat),
                        I_1 0 w1 ∧
                          ∀ (n_1 : Int) (w1_1 : World),
                            I_1 n_1 w1_1 →
                              deref k fun (a : Addr) =>
                                ∃ (s : Sl),
                                  World.cell? w1_1 a = some (Sl.val s) ∧
                                    Need (decide (0 ≤ n) && decide (n < (↑s.2 : Int)) && Option.isSome s.1)
                                      (∃ (s_1 : Sl),
                                        World.cell? w1_1 (Sl.at s 1 (Int.toNat n)) = some (Sl.val s_1) ∧
                                          Br (decide (n_1 < (↑s_1.2 : Int)))
                                            (∀ (J : World → Prop),
                                              (∀ (w1 : World), I_1 (wr IntKind.i64 (n_1 + 1)) w1 ∧ M_1 (wr IntKind.i64 (n_1 + 1)) w1 < M_1 n_1 w1_1 → J w1) →
                                                deref k fun (a : Addr) =>
                                                  ∃ (s : Sl),
                                                    World.cell? w1_1 a = some (Sl.val s) ∧
                                                      Need (decide (0 ≤ n) && decide (n < (↑s.2 : Int)) && Option.isSome s.1)
                                                        (∃ (s_2 : Sl),
                                                          World.cell? w1_1 (Sl.at s 1 (Int.toNat n)) = some (Sl.val s_2) ∧
                                                            Need (decide (0 ≤ n_1) && decide (n_1 < (↑s_2.2 : Int)) && Option.isSome s_2.1)
                                                              (∃ (n_2 : Int),
                                                                World.cell? w1_1 (Sl.at s_2 2 (Int.toNat n_1)) = some (Value.int IntKind.i64 n_2) ∧
                                                                  deref k fun (a : Addr) =>
                                                                    ∃ (s : Sl),
                                                                      World.cell? w1_1 (Addr.add a 1) = some (Sl.val s) ∧
                                                                        Need (decide (0 ≤ n) && decide (n < (↑s.2 : Int)) && Option.isSome s.1)
                                                                          (∃ (s_3 : Sl),
                                                                            World.cell? w1_1 (Sl.at s 1 (Int.toNat n)) = some (Sl.val s_3) ∧
                                                                              Need (decide (0 ≤ n_1) && decide (n_1 < (↑s_3.2 : Int)) && Option.isSome s_3.1)
                                                                                (∃ (n_3 : Int),
                                                                                  World.cell? w1_1 (Sl.at s_3 2 (Int.toNat n_1)) = some (Value.int IntKind.i64 n_3) ∧
                                                                                    Br (n_2 != n_3) (∀ (w1 : World), Upd [] [] w1_1 w1 → R (SV.bool false) w1)
                                                                                      (deref k fun (a : Addr) =>
                                                                                        ∃ (s : Sl),
                                                                                          World.cell? w1_1 a = some (Sl.val s) ∧
                                                                                            Need (decide (0 ≤ n) && decide (n < (↑s.2 : Int)) && Option.isSome s.1)
                                                                                              (∃ (s_4 : Sl),
                                                                                                World.cell? w1_1 (Sl.at s 1 (Int.toNat n)) = some (Sl.val s_4) ∧
                                                                                                  Need (decide (0 ≤ n_1) && decide (n_1 < (↑s_4.2 : Int)) && Option.isSome s_4.1)
                                                                                                    (∃ (s : Sl),
                                                                                                      World.cell? w1_1 (Addr.add (Sl.at s_4 2 (Int.toNat n_1)) 1) = some (Sl.val s) ∧
                                                                                                        deref k fun (a : Addr) =>
                                                                                                          ∃ (s_5 : Sl),
                                                                                                            World.cell? w1_1 (Addr.add a 1) = some (Sl.val s_5) ∧
                                                                                                              Need
                                                                                                                (decide (0 ≤ n) && decide (n < (↑s_5.2 : Int)) && Option.isSome s_5.1)
                                                                                                                (∃ (s_6 : Sl),
                                                                                                                  World.cell? w1_1 (Sl.at s_5 1 (Int.toNat n)) = some (Sl.val s_6) ∧
                                                                                                                    Need
                                                                                                                      (decide (0 ≤ n_1) && decide (n_1 < (↑s_6.2 : Int)) &&
                                                                                                                        Option.isSome s_6.1)
                                                                                                                      (∃ (s_7 : Sl),
                                                                                                                        World.cell? w1_1 (Addr.add (Sl.at s_6 2 (Int.toNat n_1)) 1) =
                                                                                                                            some (Sl.val s_7) ∧
                                                                                                                          Br ((↑s.2 : Int) != (↑s_7.2 : Int))
                                                                                                                            (∀ (w1 : World), Upd [] [] w1_1 w1 → R (SV.bool false) w1)
                                                                                                                            (∀ (w1 : World), Upd [] [] w1_1 w1 → J w1)))))))))))
                                            (I (wr IntKind.i64 (n + 1)) w1_1 ∧ M (wr IntKind.i64 (n + 1)) w1_1 < M n w1)))
                    (R (SV.bool true) w1)
theorem f51_of (k : Option Addr) (w : World) (R : SV → World → Prop) (h : vc51 k w R) : Ret Tryd.prog 51 [.ptr k] w R :=
  have e : vc51 k w R = fnVC X Tryd.f51 a51 [.ptr k] w R := by kernel_rfl
  fnVC_sound X_ok (n := a51) (e ▸ h) (by kernel_rfl) (by kernel_rfl) rfl rfl

def vc52 (k : Option Addr) (w : World) (R : SV → World → Prop) : Prop :=
  Ret Tryd.prog 51 [SV.ptr k] w fun (r : SV) (w1 : World) =>
    ∃ (b : Bool),
      r = SV.bool b ∧
        Br (!b) (R (SV.bool false) w1)
          (∃ (I : Int → World → Prop),
            ∃ (M : Int → World → Nat),
              I 0 w1 ∧
                ∀ (n : Int) (w1 : World),
                  I n w1 →
                    deref k fun (a : Addr) =>
                      ∃ (s : Sl),
                        World.cell? w1 a = some (Sl.val s) ∧
                          Br (decide (n < (↑s.2 : Int)))
                            (∃ (I_1 : Int → World → Prop),
                              ∃ (M_1 : Int → World → Nat),
                                I_1 0 w1 ∧
                                  ∀ (n_1 : Int) (w1_1 : World),
                                    I_1 n_1 w1_1 →
                                      deref k fun (a : Addr) =>
                                        ∃ (s : Sl),
                                          World.cell? w1_1 a = some (Sl.val s) ∧
                                            Need (decide (0 ≤ n) && decide (n < (↑s.2 : Int)) && Option.isSome s.1)
                                              (∃ (s_1 : Sl),
                                                World.cell? w1_1 (Sl.at s 1 (Int.toNat n)) = some (Sl.val s_1) ∧
                                                  Br (decide (n_1 < (↑s_1.2 : Int)))
                                                    (deref k fun (a : Addr) =>
                                                      ∃ (s : Sl),
                                                        World.cell? w1_1 a = some (Sl.val s) ∧
                                                          Need (decide (0 ≤ n) && decide (n < (↑s.2 : Int)) && Option.isSome s.1)
                                                            (∃ (s_2 : Sl),
                                                              World.cell? w1_1 (Sl.at s 1 (Int.toNat n)) = some (Sl.val s_2) ∧
                                                                Need (decide (0 ≤ n_1) && decide (n_1 < (↑s_2.2 : Int)) && Option.isSome s_2.1)
                                                                  (Store w1_1 (Sl.at s_2 2 (Int.toNat n_1))
                                                                    (SV.cells
                                                                      (SV.struct [SV.int IntKind.i64 (wr IntKind.i64 (-1000 - n)), SV.slice { ptr := none, len := 0, cap := 0 }]))
                                                                    [] fun (w1 : World) => I_1 (wr IntKind.i64 (n_1 + 1)) w1 ∧ M_1 (wr IntKind.i64 (n_1 + 1)) w1 < M_1 n_1 w1_1)))
                                                    (I (wr IntKind.i64 (n + 1)) w1_1 ∧ M (wr IntKind.i64 (n + 1)) w1_1 < M n w1)))
                            (∃ (I : Sl → Int → World → Prop),
                              ∃ (M : Sl → Int → World → Nat),
                                I { ptr := none, len := 0, cap := 0 } 0 w1 ∧
                                  ∀ (s : Sl) (n : Int) (w1 : World),
                                    I s n w1 →
                                      deref k fun (a : Addr) =>
                                        ∃ (s_1 : Sl),
                                          World.cell? w1 a = some (Sl.val s_1) ∧
                                            Br (decide (n < (↑s_1.2 : Int)))
                                              (deref k fun (a : Addr) =>
                                                ∃ (s_2 : Sl),
                                                  World.cell? w1 a = some (Sl.val s_2) ∧
                                                    Need (decide (0 ≤ n) && decide (n < (↑s_2.2 : Int)) && Option.isSome s_2.1)
                                                      (∃ (s_3 : Sl),
                                                        World.cell? w1 (Sl.at s_2 1 (Int.toNat n)) = some (Sl.val s_3) ∧
                                                          ∃ (I_1 : Sl → World → Prop),
                                                            ∃ (M_1 : Sl → World → Nat),
                                                              I_1 s_3 w1 ∧
                                                                ∀ (s_4 : Sl) (w1_1 : World),
                                                                  I_1 s_4 w1_1 →
                                                                    Br (decide ((↑s_4.2 : Int) < wr IntKind.i64 (wr IntKind.i64 (2 * (↑s_3.2 : Int)) + 9)))
                                                                      (∀ (b : Nat) (w1 : World),
                                                                        Upd [] [b] w1_1 w1 →
                                                                          (World.heap w1)[b]? =
                                                                              some
                                                                                (Obj.cells
                                                                                  {
                                                                                    toList :=
                                                                                      SV.cells
                                                                                        (SV.struct
                                                                                          [SV.struct
                                                                                              [SV.int IntKind.i64 (wr IntKind.i64 (-1000 - n)),
                                                                                                SV.slice { ptr := none, len := 0, cap := 0 }]]) }
                                                                                  60) →
                                                                            Vc.Append 60 2 32 s_4 { ptr := some { block := b, off := 0 }, len := 1, cap := 1 } [] w1
                                                                              fun (r : Sl) (w : World) => I_1 r w ∧ M_1 r w < M_1 s_4 w1_1)
                                                                      (∀ (b : Nat) (w1_2 : World),
                                                                        Upd [] [b] w1_1 w1_2 →
                                                                          (World.heap w1_2)[b]? = some (Obj.cells { toList := SV.cells (SV.struct [SV.slice s_4]) } 43) →
                                                                            Vc.Append 43 1 24 s { ptr := some { block := b, off := 0 }, len := 1, cap := 1 } [] w1_2
                                                                              fun (r : Sl) (w : World) =>
                                                                              I r (wr IntKind.i64 (n + 1)) w ∧ M r (wr IntKind.i64 (n + 1)) w < M s n w1)))
                                              (∃ (I : Int → World → Prop),
                                                ∃ (M : Int → World → Nat),
                                                  I 0 w1 ∧
                                                    ∀ (n : Int) (w1 : World),
                                                      I n w1 →
                                                        deref k fun (a : Addr) =>
                                                          ∃ (s_2 : Sl),
                                                            World.cell? w1 a = some (Sl.val s_2) ∧
                                                              Br (decide (n < (↑s_2.2 : Int)))
                                                                (∀ (J : World → Prop),
                                                                  (∀ (w1_1 : World), I (wr IntKind.i64 (n + 1)) w1_1 ∧ M (wr IntKind.i64 (n + 1)) w1_1 < M n w1 → J w1_1) →
                                                                    deref k fun (a : Addr) =>
                                                                      ∃ (s_3 : Sl),
                                                                        World.cell? w1 a = some (Sl.val s_3) ∧
                                                                          Need (decide (0 ≤ n) && decide (n < (↑s_3.2 : Int)) && Option.isSome s_3.1)
                                                                            (∃ (s_4 : Sl),
                                                                              World.cell? w1 (Sl.at s_3 1 (Int.toNat n)) = some (Sl.val s_4) ∧
                                                                                Ret Tryd.prog 88 [SV.slice s_4, SV.int IntKind.i64 (wr IntKind.i64 (-1000 - n))] w1
                                                                                  fun (r : SV) (w1 : World) =>
                                                                                  ∃ (b : Bool),
                                                                                    r = SV.bool b ∧
                                                                                      Br (!b) (R (SV.bool false) w1)
                                                                                        (Need (decide (0 ≤ n) && decide (n < (↑s.2 : Int)) && Option.isSome s.1)
                                                                                          (∃ (s_5 : Sl),
                                                                                            World.cell? w1 (Sl.at s 1 (Int.toNat n)) = some (Sl.val s_5) ∧
                                                                                              Ret Tryd.prog 88 [SV.slice s_5, SV.int IntKind.i64 (wr IntKind.i64 (-1000 - n))] w1
                                                                                                fun (r : SV) (w1 : World) =>
                                                                                                ∃ (b : Bool), r = SV.bool b ∧ Br (!b) (R (SV.bool false) w1) (J w1)))))
                                                                (R (SV.bool true) w1))))
theorem f52_of (k : Option Addr) (w : World) (R : SV → World → Prop) (h : vc52 k w R) : Ret Tryd.prog 52 [.ptr k] w R :=
  have e : vc52 k w R = fnVC X Tryd.f52 a52 [.ptr k] w R := by kernel_rfl
  fnVC_sound X_ok (n := a52) (e ▸ h) (by kernel_rfl) (by kernel_rfl) rfl rfl

def vc82 (i : Int) (w : World) (R : SV → World → Prop) : Prop :=
  R (SV.int IntKind.u8 (wr IntKind.u8 (wr IntKind.i64 (203 - wr IntKind.i64 (5 * i))))) w
theorem f82_of (i : Int) (w : World) (R : SV → World → Prop) (h : vc82 i w R) : Ret Tryd.prog 82 [.int .i64 i] w R :=
  have e : vc82 i w R = fnVC X Tryd.f82 a82 [.int .i64 i] w R := by kernel_rfl
  fnVC_sound X_ok (n := a82) (e ▸ h) (by kernel_rfl) (by kernel_rfl) rfl rfl

def vc87 (a : Sl) (b : Sl) (w : World) (R : SV → World → Prop) : Prop :=
  BytesStr w a fun (b_1 : ByteArray) => BytesStr w b fun (b : ByteArray) => R (SV.bool (b_1 == b)) w
theorem f87_of (a : Sl) (b : Sl) (w : World) (R : SV → World → Prop) (h : vc87 a b w R) : Ret Tryd.prog 87 [.slice a, .slice b] w R :=
  have e : vc87 a b w R = fnVC X Tryd.f87 a87 [.slice a, .slice b] w R := by kernel_rfl
  fnVC_sound X_ok (n := a87) (e ▸ h) (by kernel_rfl) (by kernel_rfl) rfl rfl

def vc88 (l : Sl) (m : Int) (w : World) (R : SV → World → Prop) : Prop :=
  ∃ (I : Int → World → Prop),
    ∃ (M : Int → World → Nat),
      I 0 w ∧
        ∀ (n : Int) (w1 : World),
          I n w1 →
            Br (decide (n < (↑l.2 : Int)))
              (∀ (J : World → Prop),
                (∀ (w1_1 : World), I (wr IntKind.i64 (n + 1)) w1_1 ∧ M (wr IntKind.i64 (n + 1)) w1_1 < M n w1 → J w1_1) →
                  Need (decide (0 ≤ n) && decide (n < (↑l.2 : Int)) && Option.isSome l.1)
                    (∃ (n_1 : Int),
                      World.cell? w1 (Sl.at l 2 (Int.toNat n)) = some (Value.int IntKind.i64 n_1) ∧
                        Br (n_1 != m) (R (SV.bool false) w1)
                          (Need (decide (0 ≤ n) && decide (n < (↑l.2 : Int)) && Option.isSome l.1)
                            (∃ (s : Sl), World.cell? w1 (Addr.add (Sl.at l 2 (Int.toNat n)) 1) = some (Sl.val s) ∧ Br ((↑s.2 : Int) != 0) (R (SV.bool false) w1) (J w1)))))
              (R (SV.bool true) w1)
theorem f88_of (l : Sl) (m : Int) (w : World) (R : SV → World → Prop) (h : vc88 l m w R) : Ret Tryd.prog 88 [.slice l, .int .i64 m] w R :=
  have e : vc88 l m w R = fnVC X Tryd.f88 a88 [.slice l, .int .i64 m] w R := by kernel_rfl
  fnVC_sound X_ok (n := a88) (e ▸ h) (by kernel_rfl) (by kernel_rfl) rfl rfl

end Go.Vc.S9
end

section
open Go Go.Vc Go.Vc.S9 Go.Proofs
set_option maxRecDepth 100000
set_option linter.unusedVariables false
namespace Go.Vc.S9
end Go.Vc.S9
end

section
open Go Go.Vc Go.Vc.S9 Go.Proofs
set_option maxRecDepth 100000
set_option linter.unusedVariables false
namespace Go.Vc.S9
def vc69 (w : World) (R : SV → World → Prop) : Prop :=
  ∀ (b b_1 : Nat) (w1 : World),
    Upd [] [b_1, b] w w1 →
      R
        (SV.tuple
          [SV.struct [SV.int IntKind.i64 4, SV.arr IntKind.u8 16 (fset (fset (fset (fset (fun (x : Nat) => 0) 0 10) 1 0) 2 0) 3 1)],
            SV.struct [SV.int IntKind.i64 4, SV.arr IntKind.u8 16 (fset (fset (fset (fset (fun (x : Nat) => 0) 0 10) 1 0) 2 0) 3 2)]])
        w1
theorem f69_of (w : World) (R : SV → World → Prop) (h : vc69 w R) : Ret Tryd.prog 69 [] w R :=
  have e : vc69 w R = fnVC X Tryd.f69 a69 [] w R := by kernel_rfl
  fnVC_sound X_ok (n := a69) (e ▸ h) (by kernel_rfl) (by kernel_rfl) rfl rfl

def vc18 (w : World) (R : SV → World → Prop) : Prop := Ret Tryd.prog 69 [] w fun (r : SV) (w1 : World) => ∃ (n : Int), ∃ (f : Nat → Int), ∃ (n_1 : Int),
  ∃ (f_1 : Nat → Int), r = SV.tuple [SV.struct [SV.int IntKind.i64 n, SV.arr IntKind.u8 16 f], SV.struct [SV.int IntKind.i64 n_1, SV.arr IntKind.u8 16 f_1]]
  ∧ ∀ (b b_1 : Nat) (w1_1 : World), Upd [] [b_1, b] w1 w1_1 → ∀ (b_2 : Nat) (w1 : World), Upd [] [b_2] w1_1 w1 → (World.heap w1)[b_2]? = some (Obj.cells { toList := SV.cells (SV.struct [SV.int IntKind.u8 104, SV.int IntKind.u8 105]) }
  5) → MarkStr w1 { ptr := some { block := b_2, off := 0 }, len := 2, cap := 2 } [b, b_1] fun (w : World) => ∀ (b_3 : Nat) (w1 : World), Upd [] [b_3] w w1
  → Ret Tryd.prog 19 [SV.struct [SV.int IntKind.i64 n, SV.arr IntKind.u8 16 f], SV.struct [SV.int IntKind.i64 n_1, SV.arr IntKind.u8 16 f_1], SV.struct [SV.int
  IntKind.i64 1, SV.int IntKind.i64 2, SV.bool false, SV.slice { ptr := some { block := b_2, off := 0 }, len := 2, cap := 2 }]] w1 fun (r : SV) (w1_2 : World)
  => ∃ (s : Sl), ∃ (n_2 : Int), r = SV.tuple [SV.slice s, SV.int IntKind.i64 n_2] ∧ Keeps [b, b_1, b_3] w1 w1_2 ∧ ∀ (b_4 : Nat) (w1 : World), Upd [] [b_4]
  w1_2 w1 → (World.heap w1)[b_4]? = some (Obj.cells { toList := SV.cells (SV.struct [SV.int IntKind.u8 0, SV.int IntKind.u8 1, SV.int IntKind.u8 0, SV.int IntKind.u8 2, SV.int IntKind.u8 0, SV.int IntKind.u8 10, SV.int IntKind.u8 131, SV.int IntKind.u8 107, SV.int IntKind.u8 104, SV.int IntKind.u8 105]) }
  5) → Ret Tryd.prog 21 [SV.struct [SV.int IntKind.i64 n, SV.arr IntKind.u8 16 f], SV.struct [SV.int IntKind.i64 n_1, SV.arr IntKind.u8 16 f_1], SV.slice
  { ptr := some { block := b_4, off := 0 }, len := 10, cap := 10 }] w1 fun (r : SV) (w1_3 : World) => ∃ (n_3 : Int), ∃ (n_4 : Int), ∃ (b_5 : Bool), ∃ (s_1
  : Sl), ∃ (n_5 : Int), r = SV.tuple [SV.struct [SV.int IntKind.i64 n_3, SV.int IntKind.i64 n_4, SV.bool b_5, SV.slice s_1], SV.int IntKind.i64 n_5] ∧ Keeps
  [b, b_1, b_3] w1 w1_3 ∧ ∀ (b_6 : Nat) (w1 : World), Upd [] [b_6] w1_3 w1 → ∀ (b_7 : Nat) (w1_4 : World), Upd [] [b_7] w1 w1_4 → (World.heap w1_4)[b_7]?
  = some (Obj.cells { toList := SV.cells (SV.struct [SV.int IntKind.u8 7]) } 5) → ∀ (b_8 : Nat) (w1 : World), Upd [] [b_8] w1_4 w1 → (World.heap w1)[b_8]?
  = some (Obj.cells { toList := SV.cells (SV.struct [SV.struct [SV.int IntKind.i64 3, SV.slice { ptr := some { block := b_7, off := 0 }, len := 1, cap := 1 }]]) }
  60) → ∀ (b_9 : Nat) (w1_5 : World), Upd [] [b_9] w1 w1_5 → Ret Tryd.prog 26 [SV.struct [SV.int IntKind.i64 n, SV.arr IntKind.u8 16 f], SV.struct [SV.int
  IntKind.i64 n_1, SV.arr IntKind.u8 16 f_1], SV.struct [SV.int IntKind.i64 1, SV.int IntKind.i64 2, SV.int IntKind.i64 0, SV.int IntKind.i64 0, SV.int IntKind.i64
  0, SV.int IntKind.i64 0, SV.int IntKind.i64 0, SV.slice { ptr := some { block := b_8, off := 0 }, len := 1, cap := 1 }, SV.slice { ptr := none, len := 0, cap := 0 }]]
  w1_5 fun (r : SV) (w1 : World) => ∃ (s_2 : Sl), ∃ (n_6 : Int), r = SV.tuple [SV.slice s_2, SV.int IntKind.i64 n_6] ∧ Keeps [b, b_1, b_3, b_6, b_9] w1_5
  w1 ∧ Ret Tryd.prog 27 [SV.struct [SV.int IntKind.i64 n, SV.arr IntKind.u8 16 f], SV.struct [SV.int IntKind.i64 n_1, SV.arr IntKind.u8 16 f_1], SV.slice
  s_2] w1 fun (r : SV) (w1_6 : World) => ∃ (n_7 : Int), ∃ (n_8 : Int), ∃ (n_9 : Int), ∃ (n_10 : Int), ∃ (n_11 : Int), ∃ (n_12 : Int), ∃ (n_13 : Int), ∃ (s_3
  : Sl), ∃ (s_4 : Sl), ∃ (n_14 : Int), r = SV.tuple [SV.struct [SV.int IntKind.i64 n_7, SV.int IntKind.i64 n_8, SV.int IntKind.i64 n_9, SV.int IntKind.i64
  n_10, SV.int IntKind.i64 n_11, SV.int IntKind.i64 n_12, SV.int IntKind.i64 n_13, SV.slice s_3, SV.slice s_4], SV.int IntKind.i64 n_14] ∧ Keeps [b, b_1,
  b_3, b_6, b_9] w1 w1_6 ∧ ∀ (b_10 : Nat) (w1 : World), Upd [] [b_10] w1_6 w1 → Ret Tryd.prog 27 [SV.struct [SV.int IntKind.i64 n, SV.arr IntKind.u8 16 f],
  SV.struct [SV.int IntKind.i64 n_1, SV.arr IntKind.u8 16 f_1], SV.slice { ptr := none, len := 0, cap := 0 }] w1 fun (r : SV) (w1_7 : World) => ∃ (n_15 :
  Int), ∃ (n_16 : Int), ∃ (n_17 : Int), ∃ (n_18 : Int), ∃ (n_19 : Int), ∃ (n_20 : Int), ∃ (n_21 : Int), ∃ (s_5 : Sl), ∃ (s_6 : Sl), ∃ (n_22 : Int), r = SV.tuple
  [SV.struct [SV.int IntKind.i64 n_15, SV.int IntKind.i64 n_16, SV.int IntKind.i64 n_17, SV.int IntKind.i64 n_18, SV.int IntKind.i64 n_19, SV.int IntKind.i64
  n_20, SV.int IntKind.i64 n_21, SV.slice s_5, SV.slice s_6], SV.int IntKind.i64 n_22] ∧ Keeps [b, b_1, b_3, b_6, b_9, b_10] w1 w1_7 ∧ ∀ (b_11 : Nat) (w1
  : World), Upd [] [b_11] w1_7 w1 → ∀ (b_12 : Nat) (w1_8 : World), Upd [] [b_12] w1 w1_8 → (World.heap w1_8)[b_12]? = some (Obj.cells { toList := SV.cells (SV.struct [SV.int IntKind.u8 5, SV.int IntKind.u8 180]) }
  5) → ∀ (b_13 : Nat) (w1 : World), Upd [] [b_13] w1_8 w1 → (World.heap w1)[b_13]? = some (Obj.cells { toList := SV.cells (SV.struct [SV.struct [SV.int IntKind.i64 2, SV.slice { ptr := some { block := b_12, off := 0 }, len := 2, cap := 2 }]]) }
  60) → Ret Tryd.prog 36 [SV.struct [SV.int IntKind.i64 0, SV.int IntKind.i64 0, SV.int IntKind.i64 0, SV.int IntKind.i64 0, SV.int IntKind.i64 0, SV.int
  IntKind.i64 0, SV.int IntKind.i64 0, SV.slice { ptr := some { block := b_13, off := 0 }, len := 1, cap := 1 }, SV.slice { ptr := none, len := 0, cap := 0 }]]
  w1 fun (r : SV) (w1_9 : World) => ∃ (n_23 : Int), ∃ (b_14 : Bool), r = SV.tuple [SV.int IntKind.i64 n_23, SV.bool b_14] ∧ Keeps [b, b_1, b_3, b_6, b_9,
  b_10, b_11] w1 w1_9 ∧ Ret Tryd.prog 35 [SV.struct [SV.int IntKind.i64 1, SV.int IntKind.i64 2, SV.int IntKind.i64 0, SV.int IntKind.i64 0, SV.int IntKind.i64
  0, SV.int IntKind.i64 0, SV.int IntKind.i64 0, SV.slice { ptr := some { block := b_8, off := 0 }, len := 1, cap := 1 }, SV.slice { ptr := none, len := 0, cap := 0 }],
  SV.int IntKind.i64 9] w1_9 fun (r : SV) (w1 : World) => ∃ (n_24 : Int), ∃ (n_25 : Int), ∃ (n_26 : Int), ∃ (n_27 : Int), ∃ (n_28 : Int), ∃ (n_29 : Int),
  ∃ (n_30 : Int), ∃ (s_7 : Sl), ∃ (s_8 : Sl), r = SV.struct [SV.int IntKind.i64 n_24, SV.int IntKind.i64 n_25, SV.int IntKind.i64 n_26, SV.int IntKind.i64
  n_27, SV.int IntKind.i64 n_28, SV.int IntKind.i64 n_29, SV.int IntKind.i64 n_30, SV.slice s_7, SV.slice s_8] ∧ Keeps [b, b_1, b_3, b_6, b_9, b_10, b_11]
  w1_9 w1 ∧ ∀ (b_15 : Nat) (w1_10 : World), Upd [] [b_15] w1 w1_10 → ∀ (b_16 : Nat) (w1 : World), Upd [] [b_16] w1_10 w1 → (World.heap w1)[b_16]? = some (Obj.cells
  { toList := zerosOf (Ty.int IntKind.u8) 65528 } 5) → Ret Tryd.prog 25 [SV.int IntKind.i64 4, SV.struct [SV.int IntKind.i64 (-1), SV.int IntKind.i64 0, SV.bool
  false, SV.slice { ptr := some { block := b_16, off := 0 }, len := 65528, cap := 65528 }]] w1 fun (r : SV) (w1_11 : World) => ∃ (n_31 : Int), r = SV.int
  IntKind.i64 n_31 ∧ Keeps [b, b_1, b_3, b_6, b_9, b_10, b_11, b_15] w1 w1_11 ∧ ∀ (J : Bool → World → Prop), (∀ (b_17 : Bool) (w1 : World), Br b_17 (∀ (b_18
  : Nat) (w1_12 : World), Upd [] [b_18] w1 w1_12 → (World.heap w1_12)[b_18]? = some (Obj.cells { toList := SV.cells (SV.struct [SV.int IntKind.u8 0, SV.int IntKind.u8 1, SV.int IntKind.u8 0, SV.int IntKind.u8 2, SV.int IntKind.u8 0, SV.int IntKind.u8 10, SV.int IntKind.u8 131, SV.int IntKind.u8 107, SV.int IntKind.u8 104, SV.int IntKind.u8 105]) }
  5) → Ret Tryd.prog 30 [SV.slice s, SV.slice { ptr := some { block := b_18, off := 0 }, len := 10, cap := 10 }] w1_12 fun (r : SV) (w1 : World) => ∃ (b_19
  : Bool), r = SV.bool b_19 ∧ Keeps [b, b_1, b_3, b_6, b_9, b_10, b_11, b_15] w1_12 w1 ∧ Br b_19 (Ret Tryd.prog 23 [SV.struct [SV.int IntKind.i64 1, SV.int
  IntKind.i64 2, SV.bool false, SV.slice { ptr := some { block := b_2, off := 0 }, len := 2, cap := 2 }], SV.struct [SV.int IntKind.i64 n_3, SV.int IntKind.i64
  n_4, SV.bool b_5, SV.slice s_1]] w1 fun (r : SV) (w1_13 : World) => ∃ (b_20 : Bool), r = SV.bool b_20 ∧ Keeps [b, b_1, b_3, b_6, b_9, b_10, b_11, b_15]
  w1 w1_13 ∧ Br b_20 (Ret Tryd.prog 28 [SV.struct [SV.int IntKind.i64 n_7, SV.int IntKind.i64 n_8, SV.int IntKind.i64 n_9, SV.int IntKind.i64 n_10, SV.int
  IntKind.i64 n_11, SV.int IntKind.i64 n_12, SV.int IntKind.i64 n_13, SV.slice s_3, SV.slice s_4], SV.struct [SV.int IntKind.i64 1, SV.int IntKind.i64 2,
  SV.int IntKind.i64 0, SV.int IntKind.i64 0, SV.int IntKind.i64 0, SV.int IntKind.i64 0, SV.int IntKind.i64 0, SV.slice { ptr := some { block := b_8, off := 0 }, len := 1, cap := 1 },
  SV.slice { ptr := none, len := 0, cap := 0 }]] w1_13 fun (r : SV) (w1 : World) => ∃ (b_21 : Bool), r = SV.bool b_21 ∧ Keeps [b, b_1, b_3, b_6, b_9, b_10,
  b_11, b_15] w1_13 w1 ∧ Br b_21 (Ret Tryd.prog 28 [SV.struct [SV.int IntKind.i64 n_24, SV.int IntKind.i64 n_25, SV.int IntKind.i64 n_26, SV.int IntKind.i64
  n_27, SV.int IntKind.i64 n_28, SV.int IntKind.i64 n_29, SV.int IntKind.i64 n_30, SV.slice s_7, SV.slice s_8], SV.struct [SV.int IntKind.i64 1, SV.int IntKind.i64
  2, SV.int IntKind.i64 0, SV.int IntKind.i64 0, SV.int IntKind.i64 0, SV.int IntKind.i64 0, SV.int IntKind.i64 0, SV.slice { ptr := some { block := b_8, off := 0 }, len := 1, cap := 1 },
  SV.slice { ptr := none, len := 0, cap := 0 }]] w1 fun (r : SV) (w1_14 : World) => ∃ (b_22 : Bool), r = SV.bool b_22 ∧ Keeps [b, b_1, b_3, b_6, b_9, b_10,
  b_11, b_15] w1 w1_14 ∧ R (SV.bool b_22) w1_14) (R (SV.bool false) w1)) (R (SV.bool false) w1_13)) (R (SV.bool false) w1)) (R (SV.bool false) w1) → J b_17
  w1) → Ret Tryd.prog 20 [SV.int IntKind.i64 n_31] w1_11 fun (r : SV) (w1 : World) => ∃ (n_32 : Int), r = SV.int IntKind.i64 n_32 ∧ Keeps [b, b_1, b_3, b_6,
  b_9, b_10, b_11, b_15] w1_11 w1 ∧ Br (n_32 == 98) (Ret Tryd.prog 20 [SV.int IntKind.i64 n_2] w1 fun (r : SV) (w1_12 : World) => ∃ (n_33 : Int), r = SV.int
  IntKind.i64 n_33 ∧ Keeps [b, b_1, b_3, b_6, b_9, b_10, b_11, b_15] w1 w1_12 ∧ Br (n_33 == 0) (Ret Tryd.prog 20 [SV.int IntKind.i64 n_5] w1_12 fun (r : SV)
  (w1 : World) => ∃ (n_34 : Int), r = SV.int IntKind.i64 n_34 ∧ Keeps [b, b_1, b_3, b_6, b_9, b_10, b_11, b_15] w1_12 w1 ∧ Br (n_34 == 0) (Ret Tryd.prog 20
  [SV.int IntKind.i64 n_6] w1 fun (r : SV) (w1_13 : World) => ∃ (n_35 : Int), r = SV.int IntKind.i64 n_35 ∧ Keeps [b, b_1, b_3, b_6, b_9, b_10, b_11, b_15]
  w1 w1_13 ∧ Br (n_35 == 0) (Ret Tryd.prog 20 [SV.int IntKind.i64 n_14] w1_13 fun (r : SV) (w1 : World) => ∃ (n_36 : Int), r = SV.int IntKind.i64 n_36 ∧ Keeps
  [b, b_1, b_3, b_6, b_9, b_10, b_11, b_15] w1_13 w1 ∧ Br (n_36 == 0) (Ret Tryd.prog 20 [SV.int IntKind.i64 n_22] w1 fun (r : SV) (w1_14 : World) => ∃ (n_37
  : Int), r = SV.int IntKind.i64 n_37 ∧ Keeps [b, b_1, b_3, b_6, b_9, b_10, b_11, b_15] w1 w1_14 ∧ Br (n_37 == 94) (Br b_14 (Br (n_23 == 1460) (some (SV.box
  b 27 (SV.struct [SV.int IntKind.i64 n, SV.arr IntKind.u8 16 f])) = some (SV.box b 27 (SV.struct [SV.int IntKind.i64 n, SV.arr IntKind.u8 16 f])) ∧ some
  (SV.box b_1 27 (SV.struct [SV.int IntKind.i64 n_1, SV.arr IntKind.u8 16 f_1])) = some (SV.box b_1 27 (SV.struct [SV.int IntKind.i64 n_1, SV.arr IntKind.u8
  16 f_1])) ∧ some (SV.box b_3 30 (SV.struct [SV.int IntKind.i64 1, SV.int IntKind.i64 2, SV.bool false, SV.slice { ptr := some { block := b_2, off := 0 }, len := 2, cap := 2 }]))
  = some (SV.box b_3 30 (SV.struct [SV.int IntKind.i64 1, SV.int IntKind.i64 2, SV.bool false, SV.slice { ptr := some { block := b_2, off := 0 }, len := 2, cap := 2 }]))
  ∧ some (SV.box b_6 30 (SV.struct [SV.int IntKind.i64 n_3, SV.int IntKind.i64 n_4, SV.bool b_5, SV.slice s_1])) = some (SV.box b_6 30 (SV.struct [SV.int
  IntKind.i64 n_3, SV.int IntKind.i64 n_4, SV.bool b_5, SV.slice s_1])) ∧ some (SV.box b_9 45 (SV.struct [SV.int IntKind.i64 1, SV.int IntKind.i64 2, SV.int
  IntKind.i64 0, SV.int IntKind.i64 0, SV.int IntKind.i64 0, SV.int IntKind.i64 0, SV.int IntKind.i64 0, SV.slice { ptr := some { block := b_8, off := 0 }, len := 1, cap := 1 },
  SV.slice { ptr := none, len := 0, cap := 0 }])) = some (SV.box b_9 45 (SV.struct [SV.int IntKind.i64 1, SV.int IntKind.i64 2, SV.int IntKind.i64 0, SV.int
  IntKind.i64 0, SV.int IntKind.i64 0, SV.int IntKind.i64 0, SV.int IntKind.i64 0, SV.slice { ptr := some { block := b_8, off := 0 }, len := 1, cap := 1 },
  SV.slice { ptr := none, len := 0, cap := 0 }])) ∧ some (SV.box b_10 45 (SV.struct [SV.int IntKind.i64 n_7, SV.int IntKind.i64 n_8, SV.int IntKind.i64 n_9,
  SV.int IntKind.i64 n_10, SV.int IntKind.i64 n_11, SV.int IntKind.i64 n_12, SV.int IntKind.i64 n_13, SV.slice s_3, SV.slice s_4])) = some (SV.box b_10 45
  (SV.struct [SV.int IntKind.i64 n_7, SV.int IntKind.i64 n_8, SV.int IntKind.i64 n_9, SV.int IntKind.i64 n_10, SV.int IntKind.i64 n_11, SV.int IntKind.i64
  n_12, SV.int IntKind.i64 n_13, SV.slice s_3, SV.slice s_4])) ∧ some (SV.box b_11 45 (SV.struct [SV.int IntKind.i64 n_15, SV.int IntKind.i64 n_16, SV.int
  IntKind.i64 n_17, SV.int IntKind.i64 n_18, SV.int IntKind.i64 n_19, SV.int IntKind.i64 n_20, SV.int IntKind.i64 n_21, SV.slice s_5, SV.slice s_6])) = some
  (SV.box b_11 45 (SV.struct [SV.int IntKind.i64 n_15, SV.int IntKind.i64 n_16, SV.int IntKind.i64 n_17, SV.int IntKind.i64 n_18, SV.int IntKind.i64 n_19,
  SV.int IntKind.i64 n_20, SV.int IntKind.i64 n_21, SV.slice s_5, SV.slice s_6])) ∧ some (SV.box b_15 45 (SV.struct [SV.int IntKind.i64 n_24, SV.int IntKind.i64
  n_25, SV.int IntKind.i64 n_26, SV.int IntKind.i64 n_27, SV.int IntKind.i64 n_28, SV.int IntKind.i64 n_29, SV.int IntKind.i64 n_30, SV.slice s_7, SV.slice
  s_8])) = some (SV.box b_15 45 (SV.struct [SV.int IntKind.i64 n_24, SV.int IntKind.i64 n_25, SV.int IntKind.i64 n_26, SV.int IntKind.i64 n_27, SV.int IntKind.i64
  n_28, SV.int IntKind.i64 n_29, SV.int IntKind.i64 n_30, SV.slice s_7, SV.slice s_8])) ∧ J ((↑s_2.2 : Int) == 24) w1_14) (some (SV.box b 27 (SV.struct [SV.int
  IntKind.i64 n, SV.arr IntKind.u8 16 f])) = some (SV.box b 27 (SV.struct [SV.int IntKind.i64 n, SV.arr IntKind.u8 16 f])) ∧ some (SV.box b_1 27 (SV.struct
  [SV.int IntKind.i64 n_1, SV.arr IntKind.u8 16 f_1])) = some (SV.box b_1 27 (SV.struct [SV.int IntKind.i64 n_1, SV.arr IntKind.u8 16 f_1])) ∧ some (SV.box
  b_3 30 (SV.struct [SV.int IntKind.i64 1, SV.int IntKind.i64 2, SV.bool false, SV.slice { ptr := some { block := b_2, off := 0 }, len := 2, cap := 2 }]))
  = some (SV.box b_3 30 (SV.struct [SV.int IntKind.i64 1, SV.int IntKind.i64 2, SV.bool false, SV.slice { ptr := some { block := b_2, off := 0 }, len := 2, cap := 2 }]))
  ∧ some (SV.box b_6 30 (SV.struct [SV.int IntKind.i64 n_3, SV.int IntKind.i64 n_4, SV.bool b_5, SV.slice s_1])) = some (SV.box b_6 30 (SV.struct [SV.int
  IntKind.i64 n_3, SV.int IntKind.i64 n_4, SV.bool b_5, SV.slice s_1])) ∧ some (SV.box b_9 45 (SV.struct [SV.int IntKind.i64 1, SV.int IntKind.i64 2, SV.int
  IntKind.i64 0, SV.int IntKind.i64 0, SV.int IntKind.i64 0, SV.int IntKind.i64 0, SV.int IntKind.i64 0, SV.slice { ptr := some { block := b_8, off := 0 }, len := 1, cap := 1 },
  SV.slice { ptr := none, len := 0, cap := 0 }])) = some (SV.box b_9 45 (SV.struct [SV.int IntKind.i64 1, SV.int IntKind.i64 2, SV.int IntKind.i64 0, SV.int
  IntKind.i64 0, SV.int IntKind.i64 0, SV.int IntKind.i64 0, SV.int IntKind.i64 0, SV.slice { ptr := some { block := b_8, off := 0 }, len := 1, cap := 1 },
  SV.slice { ptr := none, len := 0, cap := 0 }])) ∧ some (SV.box b_10 45 (SV.struct [SV.int IntKind.i64 n_7, SV.int IntKind.i64 n_8, SV.int IntKind.i64 n_9,
  SV.int IntKind.i64 n_10, SV.int IntKind.i64 n_11, SV.int IntKind.i64 n_12, SV.int IntKind.i64 n_13, SV.slice s_3, SV.slice s_4])) = some (SV.box b_10 45
  (SV.struct [SV.int IntKind.i64 n_7, SV.int IntKind.i64 n_8, SV.int IntKind.i64 n_9, SV.int IntKind.i64 n_10, SV.int IntKind.i64 n_11, SV.int IntKind.i64
  n_12, SV.int IntKind.i64 n_13, SV.slice s_3, SV.slice s_4])) ∧ some (SV.box b_11 45 (SV.struct [SV.int IntKind.i64 n_15, SV.int IntKind.i64 n_16, SV.int
  IntKind.i64 n_17, SV.int IntKind.i64 n_18, SV.int IntKind.i64 n_19, SV.int IntKind.i64 n_20, SV.int IntKind.i64 n_21, SV.slice s_5, SV.slice s_6])) = some
  (SV.box b_11 45 (SV.struct [SV.int IntKind.i64 n_15, SV.int IntKind.i64 n_16, SV.int IntKind.i64 n_17, SV.int IntKind.i64 n_18, SV.int IntKind.i64 n_19,
  SV.int IntKind.i64 n_20, SV.int IntKind.i64 n_21, SV.slice s_5, SV.slice s_6])) ∧ some (SV.box b_15 45 (SV.struct [SV.int IntKind.i64 n_24, SV.int IntKind.i64
  n_25, SV.int IntKind.i64 n_26, SV.int IntKind.i64 n_27, SV.int IntKind.i64 n_28, SV.int IntKind.i64 n_29, SV.int IntKind.i64 n_30, SV.slice s_7, SV.slice
  s_8])) = some (SV.box b_15 45 (SV.struct [SV.int IntKind.i64 n_24, SV.int IntKind.i64 n_25, SV.int IntKind.i64 n_26, SV.int IntKind.i64 n_27, SV.int IntKind.i64
  n_28, SV.int IntKind.i64 n_29, SV.int IntKind.i64 n_30, SV.slice s_7, SV.slice s_8])) ∧ J false w1_14)) (some (SV.box b 27 (SV.struct [SV.int IntKind.i64
  n, SV.arr IntKind.u8 16 f])) = some (SV.box b 27 (SV.struct [SV.int IntKind.i64 n, SV.arr IntKind.u8 16 f])) ∧ some (SV.box b_1 27 (SV.struct [SV.int IntKind.i64
  n_1, SV.arr IntKind.u8 16 f_1])) = some (SV.box b_1 27 (SV.struct [SV.int IntKind.i64 n_1, SV.arr IntKind.u8 16 f_1])) ∧ some (SV.box b_3 30 (SV.struct
  [SV.int IntKind.i64 1, SV.int IntKind.i64 2, SV.bool false, SV.slice { ptr := some { block := b_2, off := 0 }, len := 2, cap := 2 }])) = some (SV.box b_3
  30 (SV.struct [SV.int IntKind.i64 1, SV.int IntKind.i64 2, SV.bool false, SV.slice { ptr := some { block := b_2, off := 0 }, len := 2, cap := 2 }])) ∧ some
  (SV.box b_6 30 (SV.struct [SV.int IntKind.i64 n_3, SV.int IntKind.i64 n_4, SV.bool b_5, SV.slice s_1])) = some (SV.box b_6 30 (SV.struct [SV.int IntKind.i64
  n_3, SV.int IntKind.i64 n_4, SV.bool b_5, SV.slice s_1])) ∧ some (SV.box b_9 45 (SV.struct [SV.int IntKind.i64 1, SV.int IntKind.i64 2, SV.int IntKind.i64
  0, SV.int IntKind.i64 0, SV.int IntKind.i64 0, SV.int IntKind.i64 0, SV.int IntKind.i64 0, SV.slice { ptr := some { block := b_8, off := 0 }, len := 1, cap := 1 },
  SV.slice { ptr := none, len := 0, cap := 0 }])) = some (SV.box b_9 45 (SV.struct [SV.int IntKind.i64 1, SV.int IntKind.i64 2, SV.int IntKind.i64 0, SV.int
  IntKind.i64 0, SV.int IntKind.i64 0, SV.int IntKind.i64 0, SV.int IntKind.i64 0, SV.slice { ptr := some { block := b_8, off := 0 }, len := 1, cap := 1 },
  SV.slice { ptr := none, len := 0, cap := 0 }])) ∧ some (SV.box b_10 45 (SV.struct [SV.int IntKind.i64 n_7, SV.int IntKind.i64 n_8, SV.int IntKind.i64 n_9,
  SV.int IntKind.i64 n_10, SV.int IntKind.i64 n_11, SV.int IntKind.i64 n_12, SV.int IntKind.i64 n_13, SV.slice s_3, SV.slice s_4])) = some (SV.box b_10 45
  (SV.struct [SV.int IntKind.i64 n_7, SV.int IntKind.i64 n_8, SV.int IntKind.i64 n_9, SV.int IntKind.i64 n_10, SV.int IntKind.i64 n_11, SV.int IntKind.i64
  n_12, SV.int IntKind.i64 n_13, SV.slice s_3, SV.slice s_4])) ∧ some (SV.box b_11 45 (SV.struct [SV.int IntKind.i64 n_15, SV.int IntKind.i64 n_16, SV.int
  IntKind.i64 n_17, SV.int IntKind.i64 n_18, SV.int IntKind.i64 n_19, SV.int IntKind.i64 n_20, SV.int IntKind.i64 n_21, SV.slice s_5, SV.slice s_6])) = some
  (SV.box b_11 45 (SV.struct [SV.int IntKind.i64 n_15, SV.int IntKind.i64 n_16, SV.int IntKind.i64 n_17, SV.int IntKind.i64 n_18, SV.int IntKind.i64 n_19,
  SV.int IntKind.i64 n_20, SV.int IntKind.i64 n_21, SV.slice s_5, SV.slice s_6])) ∧ some (SV.box b_15 45 (SV.struct [SV.int IntKind.i64 n_24, SV.int IntKind.i64
  n_25, SV.int IntKind.i64 n_26, SV.int IntKind.i64 n_27, SV.int IntKind.i64 n_28, SV.int IntKind.i64 n_29, SV.int IntKind.i64 n_30, SV.slice s_7, SV.slice
  s_8])) = some (SV.box b_15 45 (SV.struct [SV.int IntKind.i64 n_24, SV.int IntKind.i64 n_25, SV.int IntKind.i64 n_26, SV.int IntKind.i64 n_27, SV.int IntKind.i64
  n_28, SV.int IntKind.i64 n_29, SV.int IntKind.i64 n_30, SV.slice s_7, SV.slice s_8])) ∧ J false w1_14)) (some (SV.box b 27 (SV.struct [SV.int IntKind.i64
  n, SV.arr IntKind.u8 16 f])) = some (SV.box b 27 (SV.struct [SV.int IntKind.i64 n, SV.arr IntKind.u8 16 f])) ∧ some (SV.box b_1 27 (SV.struct [SV.int IntKind.i64
  n_1, SV.arr IntKind.u8 16 f_1])) = some (SV.box b_1 27 (SV.struct [SV.int IntKind.i64 n_1, SV.arr IntKind.u8 16 f_1])) ∧ some (SV.box b_3 30 (SV.struct
  [SV.int IntKind.i64 1, SV.int IntKind.i64 2, SV.bool false, SV.slice { ptr := some { block := b_2, off := 0 }, len := 2, cap := 2 }])) = some (SV.box b_3
  30 (SV.struct [SV.int IntKind.i64 1, SV.int IntKind.i64 2, SV.bool false, SV.slice { ptr := some { block := b_2, off := 0 }, len := 2, cap := 2 }])) ∧ some
  (SV.box b_6 30 (SV.struct [SV.int IntKind.i64 n_3, SV.int IntKind.i64 n_4, SV.bool b_5, SV.slice s_1])) = some (SV.box b_6 30 (SV.struct [SV.int IntKind.i64
  n_3, SV.int IntKind.i64 n_4, SV.bool b_5, SV.slice s_1])) ∧ some (SV.box b_9 45 (SV.struct [SV.int IntKind.i64 1, SV.int IntKind.i64 2, SV.int IntKind.i64
  0, SV.int IntKind.i64 0, SV.int IntKind.i64 0, SV.int IntKind.i64 0, SV.int IntKind.i64 0, SV.slice { ptr := some { block := b_8, off := 0 }, len := 1, cap := 1 },
  SV.slice { ptr := none, len := 0, cap := 0 }])) = some (SV.box b_9 45 (SV.struct [SV.int IntKind.i64 1, SV.int IntKind.i64 2, SV.int IntKind.i64 0, SV.int
  IntKind.i64 0, SV.int IntKind.i64 0, SV.int IntKind.i64 0, SV.int IntKind.i64 0, SV.slice { ptr := some { block := b_8, off := 0 }, len := 1, cap := 1 },
  SV.slice { ptr := none, len := 0, cap := 0 }])) ∧ some (SV.box b_10 45 (SV.struct [SV.int IntKind.i64 n_7, SV.int IntKind.i64 n_8, SV.int IntKind.i64 n_9,
  SV.int IntKind.i64 n_10, SV.int IntKind.i64 n_11, SV.int IntKind.i64 n_12, SV.int IntKind.i64 n_13, SV.slice s_3, SV.slice s_4])) = some (SV.box b_10 45
  (SV.struct [SV.int IntKind.i64 n_7, SV.int IntKind.i64 n_8, SV.int IntKind.i64 n_9, SV.int IntKind.i64 n_10, SV.int IntKind.i64 n_11, SV.int IntKind.i64
  n_12, SV.int IntKind.i64 n_13, SV.slice s_3, SV.slice s_4])) ∧ some (SV.box b_11 45 (SV.struct [SV.int IntKind.i64 n_15, SV.int IntKind.i64 n_16, SV.int
  IntKind.i64 n_17, SV.int IntKind.i64 n_18, SV.int IntKind.i64 n_19, SV.int IntKind.i64 n_20, SV.int IntKind.i64 n_21, SV.slice s_5, SV.slice s_6])) = some
  (SV.box b_11 45 (SV.struct [SV.int IntKind.i64 n_15, SV.int IntKind.i64 n_16, SV.int IntKind.i64 n_17, SV.int IntKind.i64 n_18, SV.int IntKind.i64 n_19,
  SV.int IntKind.i64 n_20, SV.int IntKind.i64 n_21, SV.slice s_5, SV.slice s_6])) ∧ some (SV.box b_15 45 (SV.struct [SV.int IntKind.i64 n_24, SV.int IntKind.i64
  n_25, SV.int IntKind.i64 n_26, SV.int IntKind.i64 n_27, SV.int IntKind.i64 n_28, SV.int IntKind.i64 n_29, SV.int IntKind.i64 n_30, SV.slice s_7, SV.slice
  s_8])) = some (SV.box b_15 45 (SV.struct [SV.int IntKind.i64 n_24, SV.int IntKind.i64 n_25, SV.int IntKind.i64 n_26, SV.int IntKind.i64 n_27, SV.int IntKind.i64
  n_28, SV.int IntKind.i64 n_29, SV.int IntKind.i64 n_30, SV.slice s_7, SV.slice s_8])) ∧ J false w1_14)) (some (SV.box b 27 (SV.struct [SV.int IntKind.i64
  n, SV.arr IntKind.u8 16 f])) = some (SV.box b 27 (SV.struct [SV.int IntKind.i64 n, SV.arr IntKind.u8 16 f])) ∧ some (SV.box b_1 27 (SV.struct [SV.int IntKind.i64
  n_1, SV.arr IntKind.u8 16 f_1])) = some (SV.box b_1 27 (SV.struct [SV.int IntKind.i64 n_1, SV.arr IntKind.u8 16 f_1])) ∧ some (SV.box b_3 30 (SV.struct
  [SV.int IntKind.i64 1, SV.int IntKind.i64 2, SV.bool false, SV.slice { ptr := some { block := b_2, off := 0 }, len := 2, cap := 2 }])) = some (SV.box b_3
  30 (SV.struct [SV.int IntKind.i64 1, SV.int IntKind.i64 2, SV.bool false, SV.slice { ptr := some { block := b_2, off := 0 }, len := 2, cap := 2 }])) ∧ some
  (SV.box b_6 30 (SV.struct [SV.int IntKind.i64 n_3, SV.int IntKind.i64 n_4, SV.bool b_5, SV.slice s_1])) = some (SV.box b_6 30 (SV.struct [SV.int IntKind.i64
  n_3, SV.int IntKind.i64 n_4, SV.bool b_5, SV.slice s_1])) ∧ some (SV.box b_9 45 (SV.struct [SV.int IntKind.i64 1, SV.int IntKind.i64 2, SV.int IntKind.i64
  0, SV.int IntKind.i64 0, SV.int IntKind.i64 0, SV.int IntKind.i64 0, SV.int IntKind.i64 0, SV.slice { ptr := some { block := b_8, off := 0 }, len := 1, cap := 1 },
  SV.slice { ptr := none, len := 0, cap := 0 }])) = some (SV.box b_9 45 (SV.struct [SV.int IntKind.i64 1, SV.int IntKind.i64 2, SV.int IntKind.i64 0, SV.int
  IntKind.i64 0, SV.int IntKind.i64 0, SV.int IntKind.i64 0, SV.int IntKind.i64 0, SV.slice { ptr := some { block := b_8, off := 0 }, len := 1, cap := 1 },
  SV.slice { ptr := none, len := 0, cap := 0 }])) ∧ some (SV.box b_10 45 (SV.struct [SV.int IntKind.i64 n_7, SV.int IntKind.i64 n_8, SV.int IntKind.i64 n_9,
  SV.int IntKind.i64 n_10, SV.int IntKind.i64 n_11, SV.int IntKind.i64 n_12, SV.int IntKind.i64 n_13, SV.slice s_3, SV.slice s_4])) = some (SV.box b_10 45
  (SV.struct [SV.int IntKind.i64 n_7, SV.int IntKind.i64 n_8, SV.int IntKind.i64 n_9, SV.int IntKind.i64 n_10, SV.int IntKind.i64 n_11, SV.int IntKind.i64
  n_12, SV.int IntKind.i64 n_13, SV.slice s_3, SV.slice s_4])) ∧ some (SV.box b_11 45 (SV.struct [SV.int IntKind.i64 n_15, SV.int IntKind.i64 n_16, SV.int
  IntKind.i64 n_17, SV.int IntKind.i64 n_18, SV.int IntKind.i64 n_19, SV.int IntKind.i64 n_20, SV.int IntKind.i64 n_21, SV.slice s_5, SV.slice s_6])) = some
  (SV.box b_11 45 (SV.struct [SV.int IntKind.i64 n_15, SV.int IntKind.i64 n_16, SV.int IntKind.i64 n_17, SV.int IntKind.i64 n_18, SV.int IntKind.i64 n_19,
  SV.int IntKind.i64 n_20, SV.int IntKind.i64 n_21, SV.slice s_5, SV.slice s_6])) ∧ some (SV.box b_15 45 (SV.struct [SV.int IntKind.i64 n_24, SV.int IntKind.i64
  n_25, SV.int IntKind.i64 n_26, SV.int IntKind.i64 n_27, SV.int IntKind.i64 n_28, SV.int IntKind.i64 n_29, SV.int IntKind.i64 n_30, SV.slice s_7, SV.slice
  s_8])) = some (SV.box b_15 45 (SV.struct [SV.int IntKind.i64 n_24, SV.int IntKind.i64 n_25, SV.int IntKind.i64 n_26, SV.int IntKind.i64 n_27, SV.int IntKind.i64
  n_28, SV.int IntKind.i64 n_29, SV.int IntKind.i64 n_30, SV.slice s_7, SV.slice s_8])) ∧ J false w1)) (some (SV.box b 27 (SV.struct [SV.int IntKind.i64 n,
  SV.arr IntKind.u8 16 f])) = some (SV.box b 27 (SV.struct [SV.int IntKind.i64 n, SV.arr IntKind.u8 16 f])) ∧ some (SV.box b_1 27 (SV.struct [SV.int IntKind.i64
  n_1, SV.arr IntKind.u8 16 f_1])) = some (SV.box b_1 27 (SV.struct [SV.int IntKind.i64 n_1, SV.arr IntKind.u8 16 f_1])) ∧ some (SV.box b_3 30 (SV.struct
  [SV.int IntKind.i64 1, SV.int IntKind.i64 2, SV.bool false, SV.slice { ptr := some { block := b_2, off := 0 }, len := 2, cap := 2 }])) = some (SV.box b_3
  30 (SV.struct [SV.int IntKind.i64 1, SV.int IntKind.i64 2, SV.bool false, SV.slice { ptr := some { block := b_2, off := 0 }, len := 2, cap := 2 }])) ∧ some
  (SV.box b_6 30 (SV.struct [SV.int IntKind.i64 n_3, SV.int IntKind.i64 n_4, SV.bool b_5, SV.slice s_1])) = some (SV.box b_6 30 (SV.struct [SV.int IntKind.i64
  n_3, SV.int IntKind.i64 n_4, SV.bool b_5, SV.slice s_1])) ∧ some (SV.box b_9 45 (SV.struct [SV.int IntKind.i64 1, SV.int IntKind.i64 2, SV.int IntKind.i64
  0, SV.int IntKind.i64 0, SV.int IntKind.i64 0, SV.int IntKind.i64 0, SV.int IntKind.i64 0, SV.slice { ptr := some { block := b_8, off := 0 }, len := 1, cap := 1 },
  SV.slice { ptr := none, len := 0, cap := 0 }])) = some (SV.box b_9 45 (SV.struct [SV.int IntKind.i64 1, SV.int IntKind.i64 2, SV.int IntKind.i64 0, SV.int
  IntKind.i64 0, SV.int IntKind.i64 0, SV.int IntKind.i64 0, SV.int IntKind.i64 0, SV.slice { ptr := some { block := b_8, off := 0 }, len := 1, cap := 1 },
  SV.slice { ptr := none, len := 0, cap := 0 }])) ∧ some (SV.box b_10 45 (SV.struct [SV.int IntKind.i64 n_7, SV.int IntKind.i64 n_8, SV.int IntKind.i64 n_9,
  SV.int IntKind.i64 n_10, SV.int IntKind.i64 n_11, SV.int IntKind.i64 n_12, SV.int IntKind.i64 n_13, SV.slice s_3, SV.slice s_4])) = some (SV.box b_10 45
  (SV.struct [SV.int IntKind.i64 n_7, SV.int IntKind.i64 n_8, SV.int IntKind.i64 n_9, SV.int IntKind.i64 n_10, SV.int IntKind.i64 n_11, SV.int IntKind.i64
  n_12, SV.int IntKind.i64 n_13, SV.slice s_3, SV.slice s_4])) ∧ some (SV.box b_11 45 (SV.struct [SV.int IntKind.i64 n_15, SV.int IntKind.i64 n_16, SV.int
  IntKind.i64 n_17, SV.int IntKind.i64 n_18, SV.int IntKind.i64 n_19, SV.int IntKind.i64 n_20, SV.int IntKind.i64 n_21, SV.slice s_5, SV.slice s_6])) = some
  (SV.box b_11 45 (SV.struct [SV.int IntKind.i64 n_15, SV.int IntKind.i64 n_16, SV.int IntKind.i64 n_17, SV.int IntKind.i64 n_18, SV.int IntKind.i64 n_19,
  SV.int IntKind.i64 n_20, SV.int IntKind.i64 n_21, SV.slice s_5, SV.slice s_6])) ∧ some (SV.box b_15 45 (SV.struct [SV.int IntKind.i64 n_24, SV.int IntKind.i64
  n_25, SV.int IntKind.i64 n_26, SV.int IntKind.i64 n_27, SV.int IntKind.i64 n_28, SV.int IntKind.i64 n_29, SV.int IntKind.i64 n_30, SV.slice s_7, SV.slice
  s_8])) = some (SV.box b_15 45 (SV.struct [SV.int IntKind.i64 n_24, SV.int IntKind.i64 n_25, SV.int IntKind.i64 n_26, SV.int IntKind.i64 n_27, SV.int IntKind.i64
  n_28, SV.int IntKind.i64 n_29, SV.int IntKind.i64 n_30, SV.slice s_7, SV.slice s_8])) ∧ J false w1_13)) (some (SV.box b 27 (SV.struct [SV.int IntKind.i64
  n, SV.arr IntKind.u8 16 f])) = some (SV.box b 27 (SV.struct [SV.int IntKind.i64 n, SV.arr IntKind.u8 16 f])) ∧ some (SV.box b_1 27 (SV.struct [SV.int IntKind.i64
  n_1, SV.arr IntKind.u8 16 f_1])) = some (SV.box b_1 27 (SV.struct [SV.int IntKind.i64 n_1, SV.arr IntKind.u8 16 f_1])) ∧ some (SV.box b_3 30 (SV.struct
  [SV.int IntKind.i64 1, SV.int IntKind.i64 2, SV.bool false, SV.slice { ptr := some { block := b_2, off := 0 }, len := 2, cap := 2 }])) = some (SV.box b_3
  30 (SV.struct [SV.int IntKind.i64 1, SV.int IntKind.i64 2, SV.bool false, SV.slice { ptr := some { block := b_2, off := 0 }, len := 2, cap := 2 }])) ∧ some
  (SV.box b_6 30 (SV.struct [SV.int IntKind.i64 n_3, SV.int IntKind.i64 n_4, SV.bool b_5, SV.slice s_1])) = some (SV.box b_6 30 (SV.struct [SV.int IntKind.i64
  n_3, SV.int IntKind.i64 n_4, SV.bool b_5, SV.slice s_1])) ∧ some (SV.box b_9 45 (SV.struct [SV.int IntKind.i64 1, SV.int IntKind.i64 2, SV.int IntKind.i64
  0, SV.int IntKind.i64 0, SV.int IntKind.i64 0, SV.int IntKind.i64 0, SV.int IntKind.i64 0, SV.slice { ptr := some { block := b_8, off := 0 }, len := 1, cap := 1 },
  SV.slice { ptr := none, len := 0, cap := 0 }])) = some (SV.box b_9 45 (SV.struct [SV.int IntKind.i64 1, SV.int IntKind.i64 2, SV.int IntKind.i64 0, SV.int
  IntKind.i64 0, SV.int IntKind.i64 0, SV.int IntKind.i64 0, SV.int IntKind.i64 0, SV.slice { ptr := some { block := b_8, off := 0 }, len := 1, cap := 1 },
  SV.slice { ptr := none, len := 0, cap := 0 }])) ∧ some (SV.box b_10 45 (SV.struct [SV.int IntKind.i64 n_7, SV.int IntKind.i64 n_8, SV.int IntKind.i64 n_9,
  SV.int IntKind.i64 n_10, SV.int IntKind.i64 n_11, SV.int IntKind.i64 n_12, SV.int IntKind.i64 n_13, SV.slice s_3, SV.slice s_4])) = some (SV.box b_10 45
  (SV.struct [SV.int IntKind.i64 n_7, SV.int IntKind.i64 n_8, SV.int IntKind.i64 n_9, SV.int IntKind.i64 n_10, SV.int IntKind.i64 n_11, SV.int IntKind.i64
  n_12, SV.int IntKind.i64 n_13, SV.slice s_3, SV.slice s_4])) ∧ some (SV.box b_11 45 (SV.struct [SV.int IntKind.i64 n_15, SV.int IntKind.i64 n_16, SV.int
  IntKind.i64 n_17, SV.int IntKind.i64 n_18, SV.int IntKind.i64 n_19, SV.int IntKind.i64 n_20, SV.int IntKind.i64 n_21, SV.slice s_5, SV.slice s_6])) = some
  (SV.box b_11 45 (SV.struct [SV.int IntKind.i64 n_15, SV.int IntKind.i64 n_16, SV.int IntKind.i64 n_17, SV.int IntKind.i64 n_18, SV.int IntKind.i64 n_19,
  SV.int IntKind.i64 n_20, SV.int IntKind.i64 n_21, SV.slice s_5, SV.slice s_6])) ∧ some (SV.box b_15 45 (SV.struct [SV.int IntKind.i64 n_24, SV.int IntKind.i64
  n_25, SV.int IntKind.i64 n_26, SV.int IntKind.i64 n_27, SV.int IntKind.i64 n_28, SV.int IntKind.i64 n_29, SV.int IntKind.i64 n_30, SV.slice s_7, SV.slice
  s_8])) = some (SV.box b_15 45 (SV.struct [SV.int IntKind.i64 n_24, SV.int IntKind.i64 n_25, SV.int IntKind.i64 n_26, SV.int IntKind.i64 n_27, SV.int IntKind.i64
  n_28, SV.int IntKind.i64 n_29, SV.int IntKind.i64 n_30, SV.slice s_7, SV.slice s_8])) ∧ J false w1)) (some (SV.box b 27 (SV.struct [SV.int IntKind.i64 n,
  SV.arr IntKind.u8 16 f])) = some (SV.box b 27 (SV.struct [SV.int IntKind.i64 n, SV.arr IntKind.u8 16 f])) ∧ some (SV.box b_1 27 (SV.struct [SV.int IntKind.i64
  n_1, SV.arr IntKind.u8 16 f_1])) = some (SV.box b_1 27 (SV.struct [SV.int IntKind.i64 n_1, SV.arr IntKind.u8 16 f_1])) ∧ some (SV.box b_3 30 (SV.struct
  [SV.int IntKind.i64 1, SV.int IntKind.i64 2, SV.bool false, SV.slice { ptr := some { block := b_2, off := 0 }, len := 2, cap := 2 }])) = some (SV.box b_3
  30 (SV.struct [SV.int IntKind.i64 1, SV.int IntKind.i64 2, SV.bool false, SV.slice { ptr := some { block := b_2, off := 0 }, len := 2, cap := 2 }])) ∧ some
  (SV.box b_6 30 (SV.struct [SV.int IntKind.i64 n_3, SV.int IntKind.i64 n_4, SV.bool b_5, SV.slice s_1])) = some (SV.box b_6 30 (SV.struct [SV.int IntKind.i64
  n_3, SV.int IntKind.i64 n_4, SV.bool b_5, SV.slice s_1])) ∧ some (SV.box b_9 45 (SV.struct [SV.int IntKind.i64 1, SV.int IntKind.i64 2, SV.int IntKind.i64
  0, SV.int IntKind.i64 0, SV.int IntKind.i64 0, SV.int IntKind.i64 0, SV.int IntKind.i64 0, SV.slice { ptr := some { block := b_8, off := 0 }, len := 1, cap := 1 },
  SV.slice { ptr := none, len := 0, cap := 0 }])) = some (SV.box b_9 45 (SV.struct [SV.int IntKind.i64 1, SV.int IntKind.i64 2, SV.int IntKind.i64 0, SV.int
  IntKind.i64 0, SV.int IntKind.i64 0, SV.int IntKind.i64 0, SV.int IntKind.i64 0, SV.slice { ptr := some { block := b_8, off := 0 }, len := 1, cap := 1 },
  SV.slice { ptr := none, len := 0, cap := 0 }])) ∧ some (SV.box b_10 45 (SV.struct [SV.int IntKind.i64 n_7, SV.int IntKind.i64 n_8, SV.int IntKind.i64 n_9,
  SV.int IntKind.i64 n_10, SV.int IntKind.i64 n_11, SV.int IntKind.i64 n_12, SV.int IntKind.i64 n_13, SV.slice s_3, SV.slice s_4])) = some (SV.box b_10 45
  (SV.struct [SV.int IntKind.i64 n_7, SV.int IntKind.i64 n_8, SV.int IntKind.i64 n_9, SV.int IntKind.i64 n_10, SV.int IntKind.i64 n_11, SV.int IntKind.i64
  n_12, SV.int IntKind.i64 n_13, SV.slice s_3, SV.slice s_4])) ∧ some (SV.box b_11 45 (SV.struct [SV.int IntKind.i64 n_15, SV.int IntKind.i64 n_16, SV.int
  IntKind.i64 n_17, SV.int IntKind.i64 n_18, SV.int IntKind.i64 n_19, SV.int IntKind.i64 n_20, SV.int IntKind.i64 n_21, SV.slice s_5, SV.slice s_6])) = some
  (SV.box b_11 45 (SV.struct [SV.int IntKind.i64 n_15, SV.int IntKind.i64 n_16, SV.int IntKind.i64 n_17, SV.int IntKind.i64 n_18, SV.int IntKind.i64 n_19,
  SV.int IntKind.i64 n_20, SV.int IntKind.i64 n_21, SV.slice s_5, SV.slice s_6])) ∧ some (SV.box b_15 45 (SV.struct [SV.int IntKind.i64 n_24, SV.int IntKind.i64
  n_25, SV.int IntKind.i64 n_26, SV.int IntKind.i64 n_27, SV.int IntKind.i64 n_28, SV.int IntKind.i64 n_29, SV.int IntKind.i64 n_30, SV.slice s_7, SV.slice
  s_8])) = some (SV.box b_15 45 (SV.struct [SV.int IntKind.i64 n_24, SV.int IntKind.i64 n_25, SV.int IntKind.i64 n_26, SV.int IntKind.i64 n_27, SV.int IntKind.i64
  n_28, SV.int IntKind.i64 n_29, SV.int IntKind.i64 n_30, SV.slice s_7, SV.slice s_8])) ∧ J false w1_12)) (some (SV.box b 27 (SV.struct [SV.int IntKind.i64
  n, SV.arr IntKind.u8 16 f])) = some (SV.box b 27 (SV.struct [SV.int IntKind.i64 n, SV.arr IntKind.u8 16 f])) ∧ some (SV.box b_1 27 (SV.struct [SV.int IntKind.i64
  n_1, SV.arr IntKind.u8 16 f_1])) = some (SV.box b_1 27 (SV.struct [SV.int IntKind.i64 n_1, SV.arr IntKind.u8 16 f_1])) ∧ some (SV.box b_3 30 (SV.struct
  [SV.int IntKind.i64 1, SV.int IntKind.i64 2, SV.bool false, SV.slice { ptr := some { block := b_2, off := 0 }, len := 2, cap := 2 }])) = some (SV.box b_3
  30 (SV.struct [SV.int IntKind.i64 1, SV.int IntKind.i64 2, SV.bool false, SV.slice { ptr := some { block := b_2, off := 0 }, len := 2, cap := 2 }])) ∧ some
  (SV.box b_6 30 (SV.struct [SV.int IntKind.i64 n_3, SV.int IntKind.i64 n_4, SV.bool b_5, SV.slice s_1])) = some (SV.box b_6 30 (SV.struct [SV.int IntKind.i64
  n_3, SV.int IntKind.i64 n_4, SV.bool b_5, SV.slice s_1])) ∧ some (SV.box b_9 45 (SV.struct [SV.int IntKind.i64 1, SV.int IntKind.i64 2, SV.int IntKind.i64
  0, SV.int IntKind.i64 0, SV.int IntKind.i64 0, SV.int IntKind.i64 0, SV.int IntKind.i64 0, SV.slice { ptr := some { block := b_8, off := 0 }, len := 1, cap := 1 },
  SV.slice { ptr := none, len := 0, cap := 0 }])) = some (SV.box b_9 45 (SV.struct [SV.int IntKind.i64 1, SV.int IntKind.i64 2, SV.int IntKind.i64 0, SV.int
  IntKind.i64 0, SV.int IntKind.i64 0, SV.int IntKind.i64 0, SV.int IntKind.i64 0, SV.slice { ptr := some { block := b_8, off := 0 }, len := 1, cap := 1 },
  SV.slice { ptr := none, len := 0, cap := 0 }])) ∧ some (SV.box b_10 45 (SV.struct [SV.int IntKind.i64 n_7, SV.int IntKind.i64 n_8, SV.int IntKind.i64 n_9,
  SV.int IntKind.i64 n_10, SV.int IntKind.i64 n_11, SV.int IntKind.i64 n_12, SV.int IntKind.i64 n_13, SV.slice s_3, SV.slice s_4])) = some (SV.box b_10 45
  (SV.struct [SV.int IntKind.i64 n_7, SV.int IntKind.i64 n_8, SV.int IntKind.i64 n_9, SV.int IntKind.i64 n_10, SV.int IntKind.i64 n_11, SV.int IntKind.i64
  n_12, SV.int IntKind.i64 n_13, SV.slice s_3, SV.slice s_4])) ∧ some (SV.box b_11 45 (SV.struct [SV.int IntKind.i64 n_15, SV.int IntKind.i64 n_16, SV.int
  IntKind.i64 n_17, SV.int IntKind.i64 n_18, SV.int IntKind.i64 n_19, SV.int IntKind.i64 n_20, SV.int IntKind.i64 n_21, SV.slice s_5, SV.slice s_6])) = some
  (SV.box b_11 45 (SV.struct [SV.int IntKind.i64 n_15, SV.int IntKind.i64 n_16, SV.int IntKind.i64 n_17, SV.int IntKind.i64 n_18, SV.int IntKind.i64 n_19,
  SV.int IntKind.i64 n_20, SV.int IntKind.i64 n_21, SV.slice s_5, SV.slice s_6])) ∧ some (SV.box b_15 45 (SV.struct [SV.int IntKind.i64 n_24, SV.int IntKind.i64
  n_25, SV.int IntKind.i64 n_26, SV.int IntKind.i64 n_27, SV.int IntKind.i64 n_28, SV.int IntKind.i64 n_29, SV.int IntKind.i64 n_30, SV.slice s_7, SV.slice
  s_8])) = some (SV.box b_15 45 (SV.struct [SV.int IntKind.i64 n_24, SV.int IntKind.i64 n_25, SV.int IntKind.i64 n_26, SV.int IntKind.i64 n_27, SV.int IntKind.i64
  n_28, SV.int IntKind.i64 n_29, SV.int IntKind.i64 n_30, SV.slice s_7, SV.slice s_8])) ∧ J false w1)
theorem f18_of (w : World) (R : SV → World → Prop) (h : vc18 w R) : Ret Tryd.prog 18 [] w R :=
  have e : vc18 w R = fnVC X Tryd.f18 a18 [] w R := by kernel_rfl
  fnVC_sound X_ok (n := a18) (e ▸ h) (by kernel_rfl) (by kernel_rfl) rfl rfl

end Go.Vc.S9
end
