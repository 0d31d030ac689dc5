import Derived.Test.YtopobapmncbjhaaAnnr5
import Derived.Test.YtopobapmncbjhaaNum
import Derived.KernelRfl
open Go Go.Vc Go.Vc.S5 Go.Proofs
set_option maxRecDepth 100000
set_option linter.unusedVariables false
namespace Go.Vc.S5
def vc34 (l : Sl) (w : World) (R : SV → World → Prop) : Prop :=
  ∃ (I : Int → Int → World → Prop),
    ∃ (M : Int → Int → World → Nat),
      I 70 0 w ∧
        ∀ (n n_1 : Int) (w1 : World),
          I n n_1 w1 →
            Br (decide (n_1 < (↑l.2 : Int)))
              (Need (decide (0 ≤ n_1) && decide (n_1 < (↑l.2 : Int)) && Option.isSome l.1)
                (∃ (s : Sl),
                  World.cell? w1 (Sl.at l 1 (Int.toNat n_1)) = some (Sl.val s) ∧
                    ∃ (I_1 : Int → World → Prop),
                      ∃ (M_1 : Int → World → Nat),
                        I_1 0 w1 ∧
                          ∀ (n_2 : Int) (w1_1 : World),
                            I_1 n_2 w1_1 →
                              Need (decide (0 ≤ n_1) && decide (n_1 < (↑l.2 : Int)) && Option.isSome l.1)
                                (∃ (s_1 : Sl),
                                  World.cell? w1_1 (Sl.at l 1 (Int.toNat n_1)) = some (Sl.val s_1) ∧
                                    Br (decide (n_2 < (↑s_1.2 : Int)))
                                      (Need (decide (0 ≤ n_1) && decide (n_1 < (↑l.2 : Int)) && Option.isSome l.1)
                                        (∃ (s : Sl),
                                          World.cell? w1_1 (Sl.at l 1 (Int.toNat n_1)) = some (Sl.val s) ∧
                                            Need (decide (0 ≤ n_2) && decide (n_2 < (↑s.2 : Int)) && Option.isSome s.1)
                                              (Store w1_1 (Sl.at s 1 (Int.toNat n_2)) (SV.cells (SV.int IntKind.u8 (wr IntKind.u8 (wr IntKind.i64 (Int.tmod n_1 200 + 40))))) []
                                                fun (w1 : World) => I_1 (wr IntKind.i64 (n_2 + 1)) w1 ∧ M_1 (wr IntKind.i64 (n_2 + 1)) w1 < M_1 n_2 w1_1)))
                                      (I (wr IntKind.i64 (n + (↑s.2 : Int))) (wr IntKind.i64 (n_1 + 1)) w1_1 ∧
                                        M (wr IntKind.i64 (n + (↑s.2 : Int))) (wr IntKind.i64 (n_1 + 1)) w1_1 < M n n_1 w1))))
              (∃ (I : Sl → Int → World → Prop),
                ∃ (M : Sl → Int → World → Nat),
                  I { ptr := none, len := 0, cap := 0 } 0 w1 ∧
                    ∀ (s : Sl) (n_2 : Int) (w1 : World),
                      I s n_2 w1 →
                        Br (decide (n_2 < (↑l.2 : Int)))
                          (Need (decide (0 ≤ n_2) && decide (n_2 < (↑l.2 : Int)) && Option.isSome l.1)
                            (∃ (s_1 : Sl),
                              World.cell? w1 (Sl.at l 1 (Int.toNat n_2)) = some (Sl.val s_1) ∧
                                ∃ (I_1 : Sl → Int → World → Prop),
                                  ∃ (M_1 : Sl → Int → World → Nat),
                                    I_1 s_1 0 w1 ∧
                                      ∀ (s_2 : Sl) (n_3 : Int) (w1_1 : World),
                                        I_1 s_2 n_3 w1_1 →
                                          Br (decide (n_3 < n))
                                            (∀ (b : Nat) (w1 : World),
                                              Upd [] [b] w1_1 w1 →
                                                (World.heap w1)[b]? =
                                                    some
                                                      (Obj.cells { toList := SV.cells (SV.struct [SV.int IntKind.u8 (wr IntKind.u8 (wr IntKind.i64 (Int.tmod n_2 200 + 40)))]) } 5) →
                                                  Vc.Append 5 1 1 s_2 { ptr := some { block := b, off := 0 }, len := 1, cap := 1 } [] w1 fun (r : Sl) (w : World) =>
                                                    I_1 r (wr IntKind.i64 (n_3 + 1)) w ∧ M_1 r (wr IntKind.i64 (n_3 + 1)) w < M_1 s_2 n_3 w1_1)
                                            (∀ (b : Nat) (w1_2 : World),
                                              Upd [] [b] w1_1 w1_2 →
                                                (World.heap w1_2)[b]? = some (Obj.cells { toList := SV.cells (SV.struct [SV.slice s_2]) } 22) →
                                                  Vc.Append 22 1 24 s { ptr := some { block := b, off := 0 }, len := 1, cap := 1 } [] w1_2 fun (r : Sl) (w : World) =>
                                                    I r (wr IntKind.i64 (n_2 + 1)) w ∧ M r (wr IntKind.i64 (n_2 + 1)) w < M s n_2 w1)))
                          (∃ (I : Int → World → Prop),
                            ∃ (M : Int → World → Nat),
                              I 0 w1 ∧
                                ∀ (n_3 : Int) (w1 : World),
                                  I n_3 w1 →
                                    Br (decide (n_3 < (↑l.2 : Int)))
                                      (∀ (J : World → Prop),
                                        (∀ (w1_1 : World), I (wr IntKind.i64 (n_3 + 1)) w1_1 ∧ M (wr IntKind.i64 (n_3 + 1)) w1_1 < M n_3 w1 → J w1_1) →
                                          Need (decide (0 ≤ n_3) && decide (n_3 < (↑l.2 : Int)) && Option.isSome l.1)
                                            (∃ (s_1 : Sl),
                                              World.cell? w1 (Sl.at l 1 (Int.toNat n_3)) = some (Sl.val s_1) ∧
                                                ∀ (w1_1 : World),
                                                  Upd [] [] w1 w1_1 →
                                                    Ret Try.prog 54 [SV.slice s_1, SV.int IntKind.u8 (wr IntKind.u8 (wr IntKind.i64 (Int.tmod n_3 200 + 40)))] w1_1
                                                      fun (r : SV) (w1_2 : World) =>
                                                      ∃ (b : Bool),
                                                        r = SV.bool b ∧
                                                          Upd [] [] w1 w1_2 ∧
                                                            Br (!b) (R (SV.bool false) w1_2)
                                                              (Need (decide (0 ≤ n_3) && decide (n_3 < (↑s.2 : Int)) && Option.isSome s.1)
                                                                (∃ (s_2 : Sl),
                                                                  World.cell? w1 (Sl.at s 1 (Int.toNat n_3)) = some (Sl.val s_2) ∧
                                                                    Ret Try.prog 54 [SV.slice s_2, SV.int IntKind.u8 (wr IntKind.u8 (wr IntKind.i64 (Int.tmod n_3 200 + 40)))] w1_2
                                                                      fun (r : SV) (w1_3 : World) =>
                                                                      ∃ (b : Bool),
                                                                        r = SV.bool b ∧
                                                                          Upd [] [] w1 w1_3 ∧
                                                                            Br (!b) (R (SV.bool false) w1_3)
                                                                              (Need (decide (0 ≤ n_3) && decide (n_3 < (↑s.2 : Int)) && Option.isSome s.1)
                                                                                (∃ (s_3 : Sl),
                                                                                  World.cell? w1 (Sl.at s 1 (Int.toNat n_3)) = some (Sl.val s_3) ∧
                                                                                    Need (decide (0 ≤ n_3) && decide (n_3 < (↑l.2 : Int)) && Option.isSome l.1)
                                                                                      (∃ (s : Sl),
                                                                                        World.cell? w1 (Sl.at l 1 (Int.toNat n_3)) = some (Sl.val s) ∧
                                                                                          Br ((↑s_3.2 : Int) != wr IntKind.i64 ((↑s.2 : Int) + n)) (R (SV.bool false) w1_3)
                                                                                            (J w1_3))))))))
                                      (R (SV.bool true) w1)))
theorem f34_of (l : Sl) (w : World) (R : SV → World → Prop) (h : vc34 l w R) : Ret Try.prog 34 [.slice l] w R :=
  have e : vc34 l w R = fnVC X Try.f34 a34 [.slice l] w R := by kernel_rfl
  fnVC_sound X_ok (n := a34) (e ▸ h) (by kernel_rfl) (by kernel_rfl) rfl rfl

def vc54 (l : Sl) (m : Int) (w : World) (R : SV → World → Prop) : Prop :=
  ∃ (I : Int → World → Prop),
    ∃ (M : Int → World → Nat),
      I 0 w ∧
        ∀ (n : Int) (w1 : World),
          I n w1 →
            Br (decide (n < (↑l.2 : Int)))
              (Need (decide (0 ≤ n) && decide (n < (↑l.2 : Int)) && Option.isSome l.1)
                (∃ (n_1 : Int),
                  World.cell? w1 (Sl.at l 1 (Int.toNat n)) = some (Value.int IntKind.u8 n_1) ∧
                    Br (n_1 != m) (R (SV.bool false) w1) (I (wr IntKind.i64 (n + 1)) w1 ∧ M (wr IntKind.i64 (n + 1)) w1 < M n w1)))
              (R (SV.bool true) w1)
theorem f54_of (l : Sl) (m : Int) (w : World) (R : SV → World → Prop) (h : vc54 l m w R) : Ret Try.prog 54 [.slice l, .int .u8 m] w R :=
  have e : vc54 l m w R = fnVC X Try.f54 a54 [.slice l, .int .u8 m] w R := by kernel_rfl
  fnVC_sound X_ok (n := a54) (e ▸ h) (by kernel_rfl) (by kernel_rfl) rfl rfl

def vc10 (b : Sl) (f_0 : Nat → Int) (f_1 : Nat → Int) (f_2 : Sl) (f_3 : Int) (f_4 : Sl) (a_0 : Int) (a_1 : Nat → Int) (a_2_0 : Int) (a_2_1 : Nat → Int)
  (a_3 : Nat → Int) (a_4_0 : Int) (a_4_1 : Nat → Int) (w : World) (R : SV → World → Prop) : Prop := ∀ (b_1 b_2 : Nat) (w1 : World), Upd [] [b_2, b_1] w w1
  → Ret Try.prog 25 [] w1 fun (r : SV) (w1_1 : World) => ∃ (b_3 : Bool), r = SV.bool b_3 ∧ Keeps [b_1, b_2] w1 w1_1 ∧ Br (!b_3) (R (SV.bool false) w1_1) (Ret
  Try.prog 29 [SV.struct [SV.arr IntKind.u8 6 f_0, SV.arr IntKind.u8 6 f_1, SV.slice f_2, SV.int IntKind.i64 f_3, SV.slice f_4]] w1_1 fun (r : SV) (w1 : World)
  => ∃ (f : Nat → Int), ∃ (f_5 : Nat → Int), ∃ (s : Sl), ∃ (n : Int), ∃ (s_1 : Sl), r = SV.struct [SV.arr IntKind.u8 6 f, SV.arr IntKind.u8 6 f_5, SV.slice
  s, SV.int IntKind.i64 n, SV.slice s_1] ∧ Keeps [b_1, b_2] w1_1 w1 ∧ ∀ (w1_2 : World), Upd [b_1] [] w1 w1_2 → Ret Try.prog 16 [SV.slice b] w1_2 fun (r :
  SV) (w1 : World) => ∃ (s_2 : Sl), ∃ (s_3 : Sl), r = SV.tuple [SV.slice s_2, SV.slice s_3] ∧ Keeps [b_1, b_2] w1_2 w1 ∧ Ret Try.prog 17 [SV.slice s_2] w1
  fun (r : SV) (w1_3 : World) => ∃ (s_4 : Sl), r = SV.slice s_4 ∧ Keeps [b_1, b_2] w1 w1_3 ∧ ∃ (I : Sl → Sl → Int → World → Prop), ∃ (M : Sl → Sl → Int →
  World → Nat), I { ptr := none, len := 0, cap := 0 } { ptr := none, len := 0, cap := 0 } 0 w1_3 ∧ ∀ (s_5 s_6 : Sl) (n_1 : Int) (w1 : World), I s_5 s_6 n_1
  w1 → Br (decide (n_1 < 2)) (∀ (J : Sl → Sl → World → Prop), (∀ (s_7 s_8 : Sl) (w1_4 : World), some (SV.box b_1 50 (SV.struct [SV.arr IntKind.u8 6 f, SV.arr
  IntKind.u8 6 f_5, SV.slice s, SV.int IntKind.i64 n, SV.slice s_1])) = some (SV.box b_1 50 (SV.struct [SV.arr IntKind.u8 6 f, SV.arr IntKind.u8 6 f_5, SV.slice
  s, SV.int IntKind.i64 n, SV.slice s_1])) ∧ some (SV.box b_2 35 (SV.struct [SV.int IntKind.i64 a_0, SV.arr IntKind.u8 6 a_1, SV.struct [SV.int IntKind.i64
  a_2_0, SV.arr IntKind.u8 16 a_2_1], SV.arr IntKind.u8 6 a_3, SV.struct [SV.int IntKind.i64 a_4_0, SV.arr IntKind.u8 16 a_4_1]])) = some (SV.box b_2 35 (SV.struct
  [SV.int IntKind.i64 a_0, SV.arr IntKind.u8 6 a_1, SV.struct [SV.int IntKind.i64 a_2_0, SV.arr IntKind.u8 16 a_2_1], SV.arr IntKind.u8 6 a_3, SV.struct [SV.int
  IntKind.i64 a_4_0, SV.arr IntKind.u8 16 a_4_1]])) ∧ I s_7 s_8 (wr IntKind.i64 (n_1 + 1)) w1_4 ∧ M s_7 s_8 (wr IntKind.i64 (n_1 + 1)) w1_4 < M s_5 s_6 n_1
  w1 → J s_7 s_8 w1_4) → Ret Try.prog 26 [SV.slice s_2] w1 fun (r : SV) (w1_4 : World) => ∃ (f_6 : Nat → Int), ∃ (f_7 : Nat → Int), ∃ (s_7 : Sl), ∃ (n_2 :
  Int), ∃ (s_8 : Sl), ∃ (n_3 : Int), r = SV.tuple [SV.struct [SV.arr IntKind.u8 6 f_6, SV.arr IntKind.u8 6 f_7, SV.slice s_7, SV.int IntKind.i64 n_2, SV.slice
  s_8], SV.int IntKind.i64 n_3] ∧ Keeps [b_1, b_2] w1 w1_4 ∧ ∀ (b : Nat) (w1 : World), Upd [] [b] w1_4 w1 → Ret Try.prog 27 [SV.slice s_4] w1 fun (r : SV)
  (w1_5 : World) => ∃ (f_8 : Nat → Int), ∃ (f_9 : Nat → Int), ∃ (s_9 : Sl), ∃ (n_4 : Int), ∃ (s_10 : Sl), ∃ (n_5 : Int), r = SV.tuple [SV.struct [SV.arr IntKind.u8
  6 f_8, SV.arr IntKind.u8 6 f_9, SV.slice s_9, SV.int IntKind.i64 n_4, SV.slice s_10], SV.int IntKind.i64 n_5] ∧ Keeps [b_1, b_2, b] w1 w1_5 ∧ ∀ (b_4 : Nat)
  (w1 : World), Upd [] [b_4] w1_5 w1 → Ret Try.prog 31 [SV.struct [SV.arr IntKind.u8 6 f, SV.arr IntKind.u8 6 f_5, SV.slice s, SV.int IntKind.i64 n, SV.slice
  s_1]] w1 fun (r : SV) (w1_6 : World) => ∃ (s_11 : Sl), ∃ (n_6 : Int), r = SV.tuple [SV.slice s_11, SV.int IntKind.i64 n_6] ∧ Keeps [b_1, b_2, b, b_4] w1
  w1_6 ∧ Ret Try.prog 32 [SV.struct [SV.arr IntKind.u8 6 f, SV.arr IntKind.u8 6 f_5, SV.slice s, SV.int IntKind.i64 n, SV.slice s_1]] w1_6 fun (r : SV) (w1
  : World) => ∃ (s_12 : Sl), ∃ (n_7 : Int), r = SV.tuple [SV.slice s_12, SV.int IntKind.i64 n_7] ∧ Keeps [b_1, b_2, b, b_4] w1_6 w1 ∧ Ret Try.prog 20 [SV.struct
  [SV.int IntKind.i64 a_0, SV.arr IntKind.u8 6 a_1, SV.struct [SV.int IntKind.i64 a_2_0, SV.arr IntKind.u8 16 a_2_1], SV.arr IntKind.u8 6 a_3, SV.struct [SV.int
  IntKind.i64 a_4_0, SV.arr IntKind.u8 16 a_4_1]]] w1 fun (r : SV) (w1_7 : World) => ∃ (s_13 : Sl), ∃ (n_8 : Int), r = SV.tuple [SV.slice s_13, SV.int IntKind.i64
  n_8] ∧ Keeps [b_1, b_2, b, b_4] w1 w1_7 ∧ Ret Try.prog 20 [SV.struct [SV.int IntKind.i64 a_0, SV.arr IntKind.u8 6 a_1, SV.struct [SV.int IntKind.i64 a_2_0,
  SV.arr IntKind.u8 16 a_2_1], SV.arr IntKind.u8 6 a_3, SV.struct [SV.int IntKind.i64 a_4_0, SV.arr IntKind.u8 16 a_4_1]]] w1_7 fun (r : SV) (w1 : World)
  => ∃ (s_14 : Sl), ∃ (n_9 : Int), r = SV.tuple [SV.slice s_14, SV.int IntKind.i64 n_9] ∧ Keeps [b_1, b_2, b, b_4] w1_7 w1 ∧ Ret Try.prog 24 [SV.struct [SV.int
  IntKind.i64 a_0, SV.arr IntKind.u8 6 a_1, SV.struct [SV.int IntKind.i64 a_2_0, SV.arr IntKind.u8 16 a_2_1], SV.arr IntKind.u8 6 a_3, SV.struct [SV.int IntKind.i64
  a_4_0, SV.arr IntKind.u8 16 a_4_1]]] w1 fun (r : SV) (w1_8 : World) => ∃ (s_15 : Sl), ∃ (n_10 : Int), r = SV.tuple [SV.slice s_15, SV.int IntKind.i64 n_10]
  ∧ Keeps [b_1, b_2, b, b_4] w1 w1_8 ∧ Ret Try.prog 21 [] w1_8 fun (r : SV) (w1 : World) => ∃ (n_11 : Int), ∃ (f_10 : Nat → Int), ∃ (n_12 : Int), ∃ (f_11
  : Nat → Int), ∃ (f_12 : Nat → Int), ∃ (n_13 : Int), ∃ (f_13 : Nat → Int), r = SV.struct [SV.int IntKind.i64 n_11, SV.arr IntKind.u8 6 f_10, SV.struct [SV.int
  IntKind.i64 n_12, SV.arr IntKind.u8 16 f_11], SV.arr IntKind.u8 6 f_12, SV.struct [SV.int IntKind.i64 n_13, SV.arr IntKind.u8 16 f_13]] ∧ Keeps [b_1, b_2,
  b, b_4] w1_8 w1 ∧ Ret Try.prog 20 [SV.struct [SV.int IntKind.i64 n_11, SV.arr IntKind.u8 6 f_10, SV.struct [SV.int IntKind.i64 n_12, SV.arr IntKind.u8 16
  f_11], SV.arr IntKind.u8 6 f_12, SV.struct [SV.int IntKind.i64 n_13, SV.arr IntKind.u8 16 f_13]]] w1 fun (r : SV) (w1_9 : World) => ∃ (s_16 : Sl), ∃ (n_14
  : Int), r = SV.tuple [SV.slice s_16, SV.int IntKind.i64 n_14] ∧ Keeps [b_1, b_2, b, b_4] w1 w1_9 ∧ Ret Try.prog 13 [SV.slice s_2] w1_9 fun (r : SV) (w1
  : World) => ∃ (s_17 : Sl), r = SV.slice s_17 ∧ Keeps [b_1, b_2, b, b_4] w1_9 w1 ∧ Ret Try.prog 13 [SV.slice s_2] w1 fun (r : SV) (w1_10 : World) => ∃ (s_18
  : Sl), r = SV.slice s_18 ∧ Keeps [b_1, b_2, b, b_4] w1 w1_10 ∧ Ret Try.prog 33 [] w1_10 fun (r : SV) (w1 : World) => ∃ (s_19 : Sl), r = SV.slice s_19 ∧
  Keeps [b_1, b_2, b, b_4] w1_10 w1 ∧ Ret Try.prog 13 [SV.slice s_19] w1 fun (r : SV) (w1_11 : World) => ∃ (s_20 : Sl), r = SV.slice s_20 ∧ Keeps [b_1, b_2,
  b, b_4] w1 w1_11 ∧ ∀ (J_1 : World → Prop), (∀ (w1 : World), (∀ (b_5 : Nat) (w1_12 : World), Upd [] [b_5] w1 w1_12 → (World.heap w1_12)[b_5]? = some (Obj.cells
  { toList := SV.cells (SV.struct [SV.slice s_11, SV.slice s_13, SV.slice s_14, SV.slice s_16, SV.slice s_17, SV.slice s_18, SV.slice s_20]) } 22) → Vc.Append
  22 1 24 s_5 { ptr := some { block := b_5, off := 0 }, len := 7, cap := 7 } [b_1, b_2, b, b_4] w1_12 fun (r : Sl) (w : World) => ∀ (b_6 : Nat) (w1 : World),
  Upd [] [b_6] w w1 → (World.heap w1)[b_6]? = some (Obj.cells { toList := SV.cells (SV.struct [SV.slice s_7]) } 48) → Vc.Append 48 1 24 s_6 { ptr := some { block := b_6, off := 0 }, len := 1, cap := 1 }
  [b_1, b_2, b, b_4] w1 fun (r_1 : Sl) (w : World) => some (SV.box b_1 50 (SV.struct [SV.arr IntKind.u8 6 f, SV.arr IntKind.u8 6 f_5, SV.slice s, SV.int IntKind.i64
  n, SV.slice s_1])) = some (SV.box b_1 50 (SV.struct [SV.arr IntKind.u8 6 f, SV.arr IntKind.u8 6 f_5, SV.slice s, SV.int IntKind.i64 n, SV.slice s_1])) ∧
  some (SV.box b_2 35 (SV.struct [SV.int IntKind.i64 a_0, SV.arr IntKind.u8 6 a_1, SV.struct [SV.int IntKind.i64 a_2_0, SV.arr IntKind.u8 16 a_2_1], SV.arr
  IntKind.u8 6 a_3, SV.struct [SV.int IntKind.i64 a_4_0, SV.arr IntKind.u8 16 a_4_1]])) = some (SV.box b_2 35 (SV.struct [SV.int IntKind.i64 a_0, SV.arr IntKind.u8
  6 a_1, SV.struct [SV.int IntKind.i64 a_2_0, SV.arr IntKind.u8 16 a_2_1], SV.arr IntKind.u8 6 a_3, SV.struct [SV.int IntKind.i64 a_4_0, SV.arr IntKind.u8
  16 a_4_1]])) ∧ J r r_1 w) → J_1 w1) → Br (n_3 != n_5) (R (SV.bool false) w1_11) (Ret Try.prog 28 [SV.struct [SV.arr IntKind.u8 6 f_6, SV.arr IntKind.u8
  6 f_7, SV.slice s_7, SV.int IntKind.i64 n_2, SV.slice s_8], SV.struct [SV.arr IntKind.u8 6 f_8, SV.arr IntKind.u8 6 f_9, SV.slice s_9, SV.int IntKind.i64
  n_4, SV.slice s_10]] w1_11 fun (r : SV) (w1 : World) => ∃ (b_5 : Bool), r = SV.bool b_5 ∧ Keeps [b_1, b_2, b, b_4] w1_11 w1 ∧ Br (!b_5) (R (SV.bool false)
  w1) (Br (n_6 != n_7) (R (SV.bool false) w1) (Ret Try.prog 19 [SV.slice s_11, SV.slice s_12] w1 fun (r : SV) (w1_12 : World) => ∃ (b_6 : Bool), r = SV.bool
  b_6 ∧ Keeps [b_1, b_2, b, b_4] w1 w1_12 ∧ Br (!b_6) (R (SV.bool false) w1_12) (Br (n_8 != n_10) (R (SV.bool false) w1_12) (Ret Try.prog 19 [SV.slice s_13,
  SV.slice s_15] w1_12 fun (r : SV) (w1 : World) => ∃ (b_7 : Bool), r = SV.bool b_7 ∧ Keeps [b_1, b_2, b, b_4] w1_12 w1 ∧ Br (!b_7) (R (SV.bool false) w1)
  (Ret Try.prog 19 [SV.slice s_14, SV.slice s_15] w1 fun (r : SV) (w1_13 : World) => ∃ (b_8 : Bool), r = SV.bool b_8 ∧ Keeps [b_1, b_2, b, b_4] w1 w1_13 ∧
  Br (!b_8) (R (SV.bool false) w1_13) (Br (n_14 != 0) (R (SV.bool false) w1_13) (Br ((↑s_16.2 : Int) != 28) (R (SV.bool false) w1_13) (Ret Try.prog 18 [SV.slice
  s_4] w1_13 fun (r : SV) (w1 : World) => ∃ (s_21 : Sl), r = SV.slice s_21 ∧ Keeps [b_1, b_2, b, b_4] w1_13 w1 ∧ Ret Try.prog 19 [SV.slice s_17, SV.slice
  s_21] w1 fun (r : SV) (w1_14 : World) => ∃ (b_9 : Bool), r = SV.bool b_9 ∧ Keeps [b_1, b_2, b, b_4] w1 w1_14 ∧ Br (!b_9) (R (SV.bool false) w1_14) (Ret
  Try.prog 19 [SV.slice s_18, SV.slice s_17] w1_14 fun (r : SV) (w1 : World) => ∃ (b_10 : Bool), r = SV.bool b_10 ∧ Keeps [b_1, b_2, b, b_4] w1_14 w1 ∧ Br
  (!b_10) (R (SV.bool false) w1) (Br ((↑s_20.2 : Int) != 60) (R (SV.bool false) w1) (some (SV.box b_1 50 (SV.struct [SV.arr IntKind.u8 6 f, SV.arr IntKind.u8
  6 f_5, SV.slice s, SV.int IntKind.i64 n, SV.slice s_1])) = some (SV.box b_1 50 (SV.struct [SV.arr IntKind.u8 6 f, SV.arr IntKind.u8 6 f_5, SV.slice s, SV.int
  IntKind.i64 n, SV.slice s_1])) ∧ some (SV.box b_2 35 (SV.struct [SV.int IntKind.i64 a_0, SV.arr IntKind.u8 6 a_1, SV.struct [SV.int IntKind.i64 a_2_0, SV.arr
  IntKind.u8 16 a_2_1], SV.arr IntKind.u8 6 a_3, SV.struct [SV.int IntKind.i64 a_4_0, SV.arr IntKind.u8 16 a_4_1]])) = some (SV.box b_2 35 (SV.struct [SV.int
  IntKind.i64 a_0, SV.arr IntKind.u8 6 a_1, SV.struct [SV.int IntKind.i64 a_2_0, SV.arr IntKind.u8 16 a_2_1], SV.arr IntKind.u8 6 a_3, SV.struct [SV.int IntKind.i64
  a_4_0, SV.arr IntKind.u8 16 a_4_1]])) ∧ some (SV.box b 50 (SV.struct [SV.arr IntKind.u8 6 f_6, SV.arr IntKind.u8 6 f_7, SV.slice s_7, SV.int IntKind.i64
  n_2, SV.slice s_8])) = some (SV.box b 50 (SV.struct [SV.arr IntKind.u8 6 f_6, SV.arr IntKind.u8 6 f_7, SV.slice s_7, SV.int IntKind.i64 n_2, SV.slice s_8]))
  ∧ some (SV.box b_4 50 (SV.struct [SV.arr IntKind.u8 6 f_8, SV.arr IntKind.u8 6 f_9, SV.slice s_9, SV.int IntKind.i64 n_4, SV.slice s_10])) = some (SV.box
  b_4 50 (SV.struct [SV.arr IntKind.u8 6 f_8, SV.arr IntKind.u8 6 f_9, SV.slice s_9, SV.int IntKind.i64 n_4, SV.slice s_10])) ∧ J_1 w1))))))))))))) (∀ (J
  : World → Prop), (∀ (w1 : World), (∃ (I : Int → World → Prop), ∃ (M : Int → World → Nat), I 0 w1 ∧ ∀ (n_2 : Int) (w1 : World), I n_2 w1 → Br (decide (n_2
  < 2)) (∃ (I_1 : Int → World → Prop), ∃ (M_1 : Int → World → Nat), I_1 0 w1 ∧ ∀ (n_3 : Int) (w1_4 : World), I_1 n_3 w1_4 → Need (decide (0 ≤ n_2) && decide
  (n_2 < (↑s_6.2 : Int)) && Option.isSome s_6.1) (∃ (s_7 : Sl), World.cell? w1_4 (Sl.at s_6 1 (Int.toNat n_2)) = some (Sl.val s_7) ∧ Br (decide (n_3 < (↑s_7.2
  : Int))) (Need (decide (0 ≤ n_2) && decide (n_2 < (↑s_6.2 : Int)) && Option.isSome s_6.1) (∃ (s_8 : Sl), World.cell? w1_4 (Sl.at s_6 1 (Int.toNat n_2))
  = some (Sl.val s_8) ∧ Need (decide (0 ≤ n_3) && decide (n_3 < (↑s_8.2 : Int)) && Option.isSome s_8.1) (Store w1_4 (Sl.at s_8 4 (Int.toNat n_3)) (SV.cells
  (SV.struct [SV.int IntKind.i64 (wr IntKind.i64 (-1 - n_2)), SV.int IntKind.i64 0, SV.bool false, SV.int IntKind.i64 0])) [b_1, b_2] fun (w1 : World) =>
  some (SV.box b_1 50 (SV.struct [SV.arr IntKind.u8 6 f, SV.arr IntKind.u8 6 f_5, SV.slice s, SV.int IntKind.i64 n, SV.slice s_1])) = some (SV.box b_1 50
  (SV.struct [SV.arr IntKind.u8 6 f, SV.arr IntKind.u8 6 f_5, SV.slice s, SV.int IntKind.i64 n, SV.slice s_1])) ∧ some (SV.box b_2 35 (SV.struct [SV.int IntKind.i64
  a_0, SV.arr IntKind.u8 6 a_1, SV.struct [SV.int IntKind.i64 a_2_0, SV.arr IntKind.u8 16 a_2_1], SV.arr IntKind.u8 6 a_3, SV.struct [SV.int IntKind.i64 a_4_0,
  SV.arr IntKind.u8 16 a_4_1]])) = some (SV.box b_2 35 (SV.struct [SV.int IntKind.i64 a_0, SV.arr IntKind.u8 6 a_1, SV.struct [SV.int IntKind.i64 a_2_0, SV.arr
  IntKind.u8 16 a_2_1], SV.arr IntKind.u8 6 a_3, SV.struct [SV.int IntKind.i64 a_4_0, SV.arr IntKind.u8 16 a_4_1]])) ∧ I_1 (wr IntKind.i64 (n_3 + 1)) w1 ∧
  M_1 (wr IntKind.i64 (n_3 + 1)) w1 < M_1 n_3 w1_4))) (some (SV.box b_1 50 (SV.struct [SV.arr IntKind.u8 6 f, SV.arr IntKind.u8 6 f_5, SV.slice s, SV.int
  IntKind.i64 n, SV.slice s_1])) = some (SV.box b_1 50 (SV.struct [SV.arr IntKind.u8 6 f, SV.arr IntKind.u8 6 f_5, SV.slice s, SV.int IntKind.i64 n, SV.slice
  s_1])) ∧ some (SV.box b_2 35 (SV.struct [SV.int IntKind.i64 a_0, SV.arr IntKind.u8 6 a_1, SV.struct [SV.int IntKind.i64 a_2_0, SV.arr IntKind.u8 16 a_2_1],
  SV.arr IntKind.u8 6 a_3, SV.struct [SV.int IntKind.i64 a_4_0, SV.arr IntKind.u8 16 a_4_1]])) = some (SV.box b_2 35 (SV.struct [SV.int IntKind.i64 a_0, SV.arr
  IntKind.u8 6 a_1, SV.struct [SV.int IntKind.i64 a_2_0, SV.arr IntKind.u8 16 a_2_1], SV.arr IntKind.u8 6 a_3, SV.struct [SV.int IntKind.i64 a_4_0, SV.arr
  IntKind.u8 16 a_4_1]])) ∧ I (wr IntKind.i64 (n_2 + 1)) w1_4 ∧ M (wr IntKind.i64 (n_2 + 1)) w1_4 < M n_2 w1))) (∃ (I : Sl → Int → World → Prop), ∃ (M : Sl
  → Int → World → Nat), I { ptr := none, len := 0, cap := 0 } 0 w1 ∧ ∀ (s_7 : Sl) (n_3 : Int) (w1 : World), I s_7 n_3 w1 → Br (decide (n_3 < 2)) (Need (decide
  (0 ≤ n_3) && decide (n_3 < (↑s_6.2 : Int)) && Option.isSome s_6.1) (∃ (s_8 : Sl), World.cell? w1 (Sl.at s_6 1 (Int.toNat n_3)) = some (Sl.val s_8) ∧ ∃ (I_1
  : Sl → Int → World → Prop), ∃ (M_1 : Sl → Int → World → Nat), I_1 s_8 0 w1 ∧ ∀ (s_9 : Sl) (n_4 : Int) (w1_4 : World), I_1 s_9 n_4 w1_4 → Br (decide (n_4
  < 20)) (∀ (b : Nat) (w1 : World), Upd [] [b] w1_4 w1 → (World.heap w1)[b]? = some (Obj.cells { toList := SV.cells (SV.struct [SV.struct [SV.int IntKind.i64 (wr IntKind.i64 (-1 - n_3)), SV.int IntKind.i64 0, SV.bool false, SV.int IntKind.i64 0]]) }
  57) → Vc.Append 57 4 32 s_9 { ptr := some { block := b, off := 0 }, len := 1, cap := 1 } [b_1, b_2] w1 fun (r : Sl) (w : World) => some (SV.box b_1 50 (SV.struct
  [SV.arr IntKind.u8 6 f, SV.arr IntKind.u8 6 f_5, SV.slice s, SV.int IntKind.i64 n, SV.slice s_1])) = some (SV.box b_1 50 (SV.struct [SV.arr IntKind.u8 6
  f, SV.arr IntKind.u8 6 f_5, SV.slice s, SV.int IntKind.i64 n, SV.slice s_1])) ∧ some (SV.box b_2 35 (SV.struct [SV.int IntKind.i64 a_0, SV.arr IntKind.u8
  6 a_1, SV.struct [SV.int IntKind.i64 a_2_0, SV.arr IntKind.u8 16 a_2_1], SV.arr IntKind.u8 6 a_3, SV.struct [SV.int IntKind.i64 a_4_0, SV.arr IntKind.u8
  16 a_4_1]])) = some (SV.box b_2 35 (SV.struct [SV.int IntKind.i64 a_0, SV.arr IntKind.u8 6 a_1, SV.struct [SV.int IntKind.i64 a_2_0, SV.arr IntKind.u8 16
  a_2_1], SV.arr IntKind.u8 6 a_3, SV.struct [SV.int IntKind.i64 a_4_0, SV.arr IntKind.u8 16 a_4_1]])) ∧ I_1 r (wr IntKind.i64 (n_4 + 1)) w ∧ M_1 r (wr IntKind.i64
  (n_4 + 1)) w < M_1 s_9 n_4 w1_4) (∀ (b : Nat) (w1_5 : World), Upd [] [b] w1_4 w1_5 → (World.heap w1_5)[b]? = some (Obj.cells { toList := SV.cells (SV.struct [SV.slice s_9]) }
  48) → Vc.Append 48 1 24 s_7 { ptr := some { block := b, off := 0 }, len := 1, cap := 1 } [b_1, b_2] w1_5 fun (r : Sl) (w : World) => some (SV.box b_1 50
  (SV.struct [SV.arr IntKind.u8 6 f, SV.arr IntKind.u8 6 f_5, SV.slice s, SV.int IntKind.i64 n, SV.slice s_1])) = some (SV.box b_1 50 (SV.struct [SV.arr IntKind.u8
  6 f, SV.arr IntKind.u8 6 f_5, SV.slice s, SV.int IntKind.i64 n, SV.slice s_1])) ∧ some (SV.box b_2 35 (SV.struct [SV.int IntKind.i64 a_0, SV.arr IntKind.u8
  6 a_1, SV.struct [SV.int IntKind.i64 a_2_0, SV.arr IntKind.u8 16 a_2_1], SV.arr IntKind.u8 6 a_3, SV.struct [SV.int IntKind.i64 a_4_0, SV.arr IntKind.u8
  16 a_4_1]])) = some (SV.box b_2 35 (SV.struct [SV.int IntKind.i64 a_0, SV.arr IntKind.u8 6 a_1, SV.struct [SV.int IntKind.i64 a_2_0, SV.arr IntKind.u8 16
  a_2_1], SV.arr IntKind.u8 6 a_3, SV.struct [SV.int IntKind.i64 a_4_0, SV.arr IntKind.u8 16 a_4_1]])) ∧ I r (wr IntKind.i64 (n_3 + 1)) w ∧ M r (wr IntKind.i64
  (n_3 + 1)) w < M s_7 n_3 w1))) (∃ (I : Int → World → Prop), ∃ (M : Int → World → Nat), I 0 w1 ∧ ∀ (n_4 : Int) (w1 : World), I n_4 w1 → Br (decide (n_4 <
  2)) (∃ (I_1 : Int → World → Prop), ∃ (M_1 : Int → World → Nat), I_1 0 w1 ∧ ∀ (n_5 : Int) (w1_4 : World), I_1 n_5 w1_4 → Need (decide (0 ≤ n_4) && decide
  (n_4 < (↑s_7.2 : Int)) && Option.isSome s_7.1) (∃ (s_8 : Sl), World.cell? w1_4 (Sl.at s_7 1 (Int.toNat n_4)) = some (Sl.val s_8) ∧ Br (decide (n_5 < (↑s_8.2
  : Int))) (∀ (J : World → Prop), (∀ (w1 : World), some (SV.box b_1 50 (SV.struct [SV.arr IntKind.u8 6 f, SV.arr IntKind.u8 6 f_5, SV.slice s, SV.int IntKind.i64
  n, SV.slice s_1])) = some (SV.box b_1 50 (SV.struct [SV.arr IntKind.u8 6 f, SV.arr IntKind.u8 6 f_5, SV.slice s, SV.int IntKind.i64 n, SV.slice s_1])) ∧
  some (SV.box b_2 35 (SV.struct [SV.int IntKind.i64 a_0, SV.arr IntKind.u8 6 a_1, SV.struct [SV.int IntKind.i64 a_2_0, SV.arr IntKind.u8 16 a_2_1], SV.arr
  IntKind.u8 6 a_3, SV.struct [SV.int IntKind.i64 a_4_0, SV.arr IntKind.u8 16 a_4_1]])) = some (SV.box b_2 35 (SV.struct [SV.int IntKind.i64 a_0, SV.arr IntKind.u8
  6 a_1, SV.struct [SV.int IntKind.i64 a_2_0, SV.arr IntKind.u8 16 a_2_1], SV.arr IntKind.u8 6 a_3, SV.struct [SV.int IntKind.i64 a_4_0, SV.arr IntKind.u8
  16 a_4_1]])) ∧ I_1 (wr IntKind.i64 (n_5 + 1)) w1 ∧ M_1 (wr IntKind.i64 (n_5 + 1)) w1 < M_1 n_5 w1_4 → J w1) → Need (decide (0 ≤ n_4) && decide (n_4 < (↑s_7.2
  : Int)) && Option.isSome s_7.1) (∃ (s_9 : Sl), World.cell? w1_4 (Sl.at s_7 1 (Int.toNat n_4)) = some (Sl.val s_9) ∧ Need (decide (0 ≤ n_5) && decide (n_5
  < (↑s_9.2 : Int)) && Option.isSome s_9.1) (∃ (n_6 : Int), World.cell? w1_4 (Sl.at s_9 4 (Int.toNat n_5)) = some (Value.int IntKind.i64 n_6) ∧ ∃ (n_7 : Int),
  World.cell? w1_4 (Addr.add (Sl.at s_9 4 (Int.toNat n_5)) 1) = some (Value.int IntKind.i64 n_7) ∧ ∃ (b : Bool), World.cell? w1_4 (Addr.add (Sl.at s_9 4 (Int.toNat
  n_5)) 2) = some (Value.bool b) ∧ ∃ (n_8 : Int), World.cell? w1_4 (Addr.add (Sl.at s_9 4 (Int.toNat n_5)) 3) = some (Value.int IntKind.i64 n_8) ∧ Br (!(n_6
  == wr IntKind.i64 (-1 - n_4) && (n_7 == 0 && (b == false && n_8 == 0)))) (R (SV.bool false) w1_4) (Need (decide (0 ≤ n_4) && decide (n_4 < (↑s_6.2 : Int))
  && Option.isSome s_6.1) (∃ (s_10 : Sl), World.cell? w1_4 (Sl.at s_6 1 (Int.toNat n_4)) = some (Sl.val s_10) ∧ Br (decide (n_5 < (↑s_10.2 : Int))) (Need
  (decide (0 ≤ n_4) && decide (n_4 < (↑s_6.2 : Int)) && Option.isSome s_6.1) (∃ (s_11 : Sl), World.cell? w1_4 (Sl.at s_6 1 (Int.toNat n_4)) = some (Sl.val
  s_11) ∧ Need (decide (0 ≤ n_5) && decide (n_5 < (↑s_11.2 : Int)) && Option.isSome s_11.1) (∃ (n_9 : Int), World.cell? w1_4 (Sl.at s_11 4 (Int.toNat n_5))
  = some (Value.int IntKind.i64 n_9) ∧ ∃ (n_10 : Int), World.cell? w1_4 (Addr.add (Sl.at s_11 4 (Int.toNat n_5)) 1) = some (Value.int IntKind.i64 n_10) ∧
  ∃ (b : Bool), World.cell? w1_4 (Addr.add (Sl.at s_11 4 (Int.toNat n_5)) 2) = some (Value.bool b) ∧ ∃ (n_11 : Int), World.cell? w1_4 (Addr.add (Sl.at s_11
  4 (Int.toNat n_5)) 3) = some (Value.int IntKind.i64 n_11) ∧ Br (!(n_9 == wr IntKind.i64 (-1 - n_4) && (n_10 == 0 && (b == false && n_11 == 0)))) (R (SV.bool
  false) w1_4) (some (SV.box b_1 50 (SV.struct [SV.arr IntKind.u8 6 f, SV.arr IntKind.u8 6 f_5, SV.slice s, SV.int IntKind.i64 n, SV.slice s_1])) = some (SV.box
  b_1 50 (SV.struct [SV.arr IntKind.u8 6 f, SV.arr IntKind.u8 6 f_5, SV.slice s, SV.int IntKind.i64 n, SV.slice s_1])) ∧ some (SV.box b_2 35 (SV.struct [SV.int
  IntKind.i64 a_0, SV.arr IntKind.u8 6 a_1, SV.struct [SV.int IntKind.i64 a_2_0, SV.arr IntKind.u8 16 a_2_1], SV.arr IntKind.u8 6 a_3, SV.struct [SV.int IntKind.i64
  a_4_0, SV.arr IntKind.u8 16 a_4_1]])) = some (SV.box b_2 35 (SV.struct [SV.int IntKind.i64 a_0, SV.arr IntKind.u8 6 a_1, SV.struct [SV.int IntKind.i64 a_2_0,
  SV.arr IntKind.u8 16 a_2_1], SV.arr IntKind.u8 6 a_3, SV.struct [SV.int IntKind.i64 a_4_0, SV.arr IntKind.u8 16 a_4_1]])) ∧ J w1_4)))) (some (SV.box b_1
  50 (SV.struct [SV.arr IntKind.u8 6 f, SV.arr IntKind.u8 6 f_5, SV.slice s, SV.int IntKind.i64 n, SV.slice s_1])) = some (SV.box b_1 50 (SV.struct [SV.arr
  IntKind.u8 6 f, SV.arr IntKind.u8 6 f_5, SV.slice s, SV.int IntKind.i64 n, SV.slice s_1])) ∧ some (SV.box b_2 35 (SV.struct [SV.int IntKind.i64 a_0, SV.arr
  IntKind.u8 6 a_1, SV.struct [SV.int IntKind.i64 a_2_0, SV.arr IntKind.u8 16 a_2_1], SV.arr IntKind.u8 6 a_3, SV.struct [SV.int IntKind.i64 a_4_0, SV.arr
  IntKind.u8 16 a_4_1]])) = some (SV.box b_2 35 (SV.struct [SV.int IntKind.i64 a_0, SV.arr IntKind.u8 6 a_1, SV.struct [SV.int IntKind.i64 a_2_0, SV.arr IntKind.u8
  16 a_2_1], SV.arr IntKind.u8 6 a_3, SV.struct [SV.int IntKind.i64 a_4_0, SV.arr IntKind.u8 16 a_4_1]])) ∧ J w1_4)))))) (some (SV.box b_1 50 (SV.struct [SV.arr
  IntKind.u8 6 f, SV.arr IntKind.u8 6 f_5, SV.slice s, SV.int IntKind.i64 n, SV.slice s_1])) = some (SV.box b_1 50 (SV.struct [SV.arr IntKind.u8 6 f, SV.arr
  IntKind.u8 6 f_5, SV.slice s, SV.int IntKind.i64 n, SV.slice s_1])) ∧ some (SV.box b_2 35 (SV.struct [SV.int IntKind.i64 a_0, SV.arr IntKind.u8 6 a_1, SV.struct
  [SV.int IntKind.i64 a_2_0, SV.arr IntKind.u8 16 a_2_1], SV.arr IntKind.u8 6 a_3, SV.struct [SV.int IntKind.i64 a_4_0, SV.arr IntKind.u8 16 a_4_1]])) = some
  (SV.box b_2 35 (SV.struct [SV.int IntKind.i64 a_0, SV.arr IntKind.u8 6 a_1, SV.struct [SV.int IntKind.i64 a_2_0, SV.arr IntKind.u8 16 a_2_1], SV.arr IntKind.u8
  6 a_3, SV.struct [SV.int IntKind.i64 a_4_0, SV.arr IntKind.u8 16 a_4_1]])) ∧ I (wr IntKind.i64 (n_4 + 1)) w1_4 ∧ M (wr IntKind.i64 (n_4 + 1)) w1_4 < M n_4
  w1))) (Ret Try.prog 26 [SV.slice s_2] w1 fun (r : SV) (w1_4 : World) => ∃ (f : Nat → Int), ∃ (f_6 : Nat → Int), ∃ (s : Sl), ∃ (n : Int), ∃ (s_8 : Sl), ∃
  (n_5 : Int), r = SV.tuple [SV.struct [SV.arr IntKind.u8 6 f, SV.arr IntKind.u8 6 f_6, SV.slice s, SV.int IntKind.i64 n, SV.slice s_8], SV.int IntKind.i64
  n_5] ∧ Keeps [b_1, b_2] w1 w1_4 ∧ ∀ (b : Nat) (w1 : World), Upd [] [b] w1_4 w1 → Ret Try.prog 27 [SV.slice s_4] w1 fun (r : SV) (w1_5 : World) => ∃ (f_7
  : Nat → Int), ∃ (f_8 : Nat → Int), ∃ (s_9 : Sl), ∃ (n_6 : Int), ∃ (s_10 : Sl), ∃ (n_7 : Int), r = SV.tuple [SV.struct [SV.arr IntKind.u8 6 f_7, SV.arr IntKind.u8
  6 f_8, SV.slice s_9, SV.int IntKind.i64 n_6, SV.slice s_10], SV.int IntKind.i64 n_7] ∧ Keeps [b_1, b_2, b] w1 w1_5 ∧ ∀ (b_4 : Nat), Br (n_5 == n_7) (∀ (w1
  : World), Upd [] [b_4] w1_5 w1 → Ret Try.prog 28 [SV.struct [SV.arr IntKind.u8 6 f, SV.arr IntKind.u8 6 f_6, SV.slice s, SV.int IntKind.i64 n, SV.slice
  s_8], SV.struct [SV.arr IntKind.u8 6 f_7, SV.arr IntKind.u8 6 f_8, SV.slice s_9, SV.int IntKind.i64 n_6, SV.slice s_10]] w1 fun (r : SV) (w1_6 : World)
  => ∃ (b_5 : Bool), r = SV.bool b_5 ∧ Keeps [b_1, b_2, b, b_4] w1 w1_6 ∧ Br b_5 (Ret Try.prog 25 [] w1_6 fun (r : SV) (w1 : World) => ∃ (b_6 : Bool), r =
  SV.bool b_6 ∧ Keeps [b_1, b_2, b, b_4] w1_6 w1 ∧ R (SV.bool b_6) w1) (R (SV.bool false) w1_6)) (∀ (w1 : World), Upd [] [b_4] w1_5 w1 → R (SV.bool false)
  w1))))) → J w1) → Ret Try.prog 34 [SV.slice s_5] w1 fun (r : SV) (w1_4 : World) => ∃ (b : Bool), r = SV.bool b ∧ Keeps [b_1, b_2] w1 w1_4 ∧ Br (!b) (R (SV.bool
  false) w1_4) (Ret Try.prog 19 [SV.slice s_2, SV.slice s_4] w1_4 fun (r : SV) (w1 : World) => ∃ (b : Bool), r = SV.bool b ∧ Keeps [b_1, b_2] w1_4 w1 ∧ Br
  (!b) (R (SV.bool false) w1) (some (SV.box b_1 50 (SV.struct [SV.arr IntKind.u8 6 f, SV.arr IntKind.u8 6 f_5, SV.slice s, SV.int IntKind.i64 n, SV.slice
  s_1])) = some (SV.box b_1 50 (SV.struct [SV.arr IntKind.u8 6 f, SV.arr IntKind.u8 6 f_5, SV.slice s, SV.int IntKind.i64 n, SV.slice s_1])) ∧ some (SV.box
  b_2 35 (SV.struct [SV.int IntKind.i64 a_0, SV.arr IntKind.u8 6 a_1, SV.struct [SV.int IntKind.i64 a_2_0, SV.arr IntKind.u8 16 a_2_1], SV.arr IntKind.u8
  6 a_3, SV.struct [SV.int IntKind.i64 a_4_0, SV.arr IntKind.u8 16 a_4_1]])) = some (SV.box b_2 35 (SV.struct [SV.int IntKind.i64 a_0, SV.arr IntKind.u8 6
  a_1, SV.struct [SV.int IntKind.i64 a_2_0, SV.arr IntKind.u8 16 a_2_1], SV.arr IntKind.u8 6 a_3, SV.struct [SV.int IntKind.i64 a_4_0, SV.arr IntKind.u8 16
  a_4_1]])) ∧ J w1))))
theorem f10_of (b : Sl) (f_0 : Nat → Int) (f_1 : Nat → Int) (f_2 : Sl) (f_3 : Int) (f_4 : Sl) (a_0 : Int) (a_1 : Nat → Int) (a_2_0 : Int) (a_2_1 : Nat → Int) (a_3 : Nat → Int) (a_4_0 : Int) (a_4_1 : Nat → Int) (w : World) (R : SV → World → Prop) (h : vc10 b f_0 f_1 f_2 f_3 f_4 a_0 a_1 a_2_0 a_2_1 a_3 a_4_0 a_4_1 w R) : Ret Try.prog 10 [.slice b, .struct [.arr .u8 6 f_0, .arr .u8 6 f_1, .slice f_2, .int .i64 f_3, .slice f_4], .struct [.int .i64 a_0, .arr .u8 6 a_1, .struct [.int .i64 a_2_0, .arr .u8 16 a_2_1], .arr .u8 6 a_3, .struct [.int .i64 a_4_0, .arr .u8 16 a_4_1]]] w R :=
  have e : vc10 b f_0 f_1 f_2 f_3 f_4 a_0 a_1 a_2_0 a_2_1 a_3 a_4_0 a_4_1 w R = fnVC X Try.f10 a10 [.slice b, .struct [.arr .u8 6 f_0, .arr .u8 6 f_1, .slice f_2, .int .i64 f_3, .slice f_4], .struct [.int .i64 a_0, .arr .u8 6 a_1, .struct [.int .i64 a_2_0, .arr .u8 16 a_2_1], .arr .u8 6 a_3, .struct [.int .i64 a_4_0, .arr .u8 16 a_4_1]]] w R := by kernel_rfl
  fnVC_sound X_ok (n := a10) (e ▸ h) (by kernel_rfl) (by kernel_rfl) rfl rfl

end Go.Vc.S5
