import Derived.Test.YtncgcdicadibbaaAnnr2
import Derived.Test.YtncgcdicadibbaaNum
import Derived.KernelRfl
open Go Go.Vc Go.Vc.S2 Go.Proofs
set_option maxRecDepth 100000
set_option linter.unusedVariables false
namespace Go.Vc.S2
def vc13 (w : World) (R : SV → World → Prop) : Prop :=
  ∀ (b : Nat) (w1 : World),
    Upd [] [b] w w1 →
      (World.heap w1)[b]? =
          some
            (Obj.cells
              {
                toList :=
                  SV.cells
                    (SV.struct
                      [SV.int IntKind.u8 0, SV.int IntKind.u8 1, SV.int IntKind.u8 242, SV.int IntKind.u8 3, SV.int IntKind.u8 244, SV.int IntKind.u8 245, SV.int IntKind.u8 246,
                        SV.int IntKind.u8 247]) }
              5) →
        ∀ (b_1 : Nat) (w1_1 : World),
          Upd [] [b_1] w1 w1_1 →
            (World.heap w1_1)[b_1]? = some (Obj.cells { toList := SV.cells (SV.struct [SV.slice { ptr := some { block := b, off := 0 }, len := 8, cap := 8 }]) } 24) →
              Ret Try.prog 16 [SV.slice { ptr := some { block := b_1, off := 0 }, len := 1, cap := 1 }] w1_1 fun (r : SV) (w1 : World) =>
                ∃ (n : Int),
                  r = SV.int IntKind.i64 n ∧
                    Br (n == 56818)
                      (∀ (b_2 : Nat) (w1_2 : World),
                        Upd [] [b_2] w1 w1_2 →
                          (World.heap w1_2)[b_2]? = some (Obj.cells { toList := SV.cells (SV.struct [SV.slice { ptr := some { block := b, off := 0 }, len := 8, cap := 8 }]) } 24) →
                            Ret Try.prog 17 [SV.slice { ptr := some { block := b_2, off := 0 }, len := 1, cap := 1 }] w1_2 fun (r : SV) (w1 : World) =>
                              ∃ (n : Int),
                                r = SV.int IntKind.i64 n ∧
                                  Br (n == 8717)
                                    (∀ (b_3 : Nat) (w1_3 : World),
                                      Upd [] [b_3] w1 w1_3 →
                                        (World.heap w1_3)[b_3]? = some (Obj.cells { toList := SV.cells (SV.struct [SV.int IntKind.u8 34, SV.int IntKind.u8 13]) } 5) →
                                          ∀ (b_4 : Nat) (w1 : World),
                                            Upd [] [b_4] w1_3 w1 →
                                              (World.heap w1)[b_4]? =
                                                  some
                                                    (Obj.cells
                                                      {
                                                        toList :=
                                                          SV.cells
                                                            (SV.struct
                                                              [SV.slice { ptr := some { block := b, off := 0 }, len := 8, cap := 8 },
                                                                SV.slice { ptr := some { block := b_3, off := 0 }, len := 2, cap := 2 }]) }
                                                      24) →
                                                Ret Try.prog 18 [SV.slice { ptr := some { block := b_4, off := 0 }, len := 2, cap := 2 }] w1 fun (r : SV) (w1 : World) =>
                                                  ∃ (b : Bool),
                                                    r = SV.bool b ∧
                                                      Br b
                                                        (Ret Try.prog 18 [SV.slice { ptr := none, len := 0, cap := 0 }] w1 fun (r : SV) (w1 : World) =>
                                                          ∃ (b : Bool), r = SV.bool b ∧ R (SV.bool !b) w1)
                                                        (R (SV.bool false) w1))
                                    (R (SV.bool false) w1))
                      (R (SV.bool false) w1)
theorem f13_of (w : World) (R : SV → World → Prop) (h : vc13 w R) : Ret Try.prog 13 [] w R :=
  have e : vc13 w R = fnVC X Try.f13 a13 [] w R := by kernel_rfl
  fnVC_sound X_ok (n := a13) (e ▸ h) (by kernel_rfl) (by kernel_rfl) rfl

def vc14 (parts : Sl) (w : World) (R : SV → World → Prop) : Prop :=
  ∀ (J : Sl → Sl → World → Prop),
    (∀ (s s_1 : Sl) (w1 : World),
        (∀ (b : Nat) (w1_1 : World),
            Upd [] [b] w1 w1_1 →
              (World.heap w1_1)[b]? = some (Obj.cells { toList := SV.cells (SV.struct [SV.int IntKind.u8 91, SV.int IntKind.u8 92, SV.int IntKind.u8 93]) } 5) →
                Vc.Append 5 1 1 s { ptr := some { block := b, off := 0 }, len := 3, cap := 3 } [] w1_1 fun (r : Sl) (w : World) =>
                  ∃ (I : Sl → Int → Int → World → Prop),
                    ∃ (M : Sl → Int → Int → World → Nat),
                      I { ptr := none, len := 0, cap := 0 } 0 0 w ∧
                        ∀ (s : Sl) (n n_1 : Int) (w1 : World),
                          I s n n_1 w1 →
                            Br (decide (n_1 < (↑s_1.2 : Int)))
                              (Need (decide (0 ≤ n_1) && decide (n_1 < (↑s_1.2 : Int)) && Option.isSome s_1.1)
                                (∃ (n_2 : Int),
                                  World.cell? w1 (Sl.at s_1 1 (Int.toNat n_1)) = some (Value.int IntKind.i64 n_2) ∧
                                    Need (decide (0 ≤ n_2) && decide (n_2 ≤ (↑r.3 : Int)) && (decide (0 ≤ n) && decide (n ≤ (↑(Int.toNat n_2) : Int))))
                                      (∀ (b : Nat) (w1_2 : World),
                                        Upd [] [b] w1 w1_2 →
                                          (World.heap w1_2)[b]? = some (Obj.cells { toList := SV.cells (SV.struct [SV.slice (Sl.sub r 1 (Int.toNat n) (Int.toNat n_2) r.3)]) } 24) →
                                            Vc.Append 24 1 24 s { ptr := some { block := b, off := 0 }, len := 1, cap := 1 } [] w1_2 fun (r : Sl) (w : World) =>
                                              Need (decide (0 ≤ n_1) && decide (n_1 < (↑s_1.2 : Int)) && Option.isSome s_1.1)
                                                (∃ (n_3 : Int),
                                                  World.cell? w (Sl.at s_1 1 (Int.toNat n_1)) = some (Value.int IntKind.i64 n_3) ∧
                                                    I r (wr IntKind.i64 (n_3 + 1)) (wr IntKind.i64 (n_1 + 1)) w ∧
                                                      M r (wr IntKind.i64 (n_3 + 1)) (wr IntKind.i64 (n_1 + 1)) w < M s n n_1 w1))))
                              (Vc.Append 5 1 1 { ptr := none, len := 0, cap := 0 } r [] w1 fun (r_1 : Sl) (w : World) => R (SV.tuple [SV.slice s, SV.slice r, SV.slice r_1]) w)) →
          J s s_1 w1) →
      ∃ (I : Sl → Sl → Int → World → Prop),
        ∃ (M : Sl → Sl → Int → World → Nat),
          I { ptr := none, len := 0, cap := 0 } { ptr := none, len := 0, cap := 0 } 0 w ∧
            ∀ (s s_1 : Sl) (n : Int) (w1 : World),
              I s s_1 n w1 →
                ∀ (J_1 : World → Prop),
                  (∀ (w1_1 : World),
                      Need (decide (0 ≤ n) && decide (n < (↑parts.2 : Int)) && Option.isSome parts.1)
                          (∃ (s_2 : Sl),
                            World.cell? w1_1 (Sl.at parts 1 (Int.toNat n)) = some (Sl.val s_2) ∧
                              Br (decide ((↑s_2.2 : Int) > wr IntKind.i64 (131072 - (↑s.2 : Int)))) (J s s_1 w1_1)
                                (Vc.Append 5 1 1 s s_2 [] w1_1 fun (r : Sl) (w : World) =>
                                  ∀ (b : Nat) (w1_2 : World),
                                    Upd [] [b] w w1_2 →
                                      (World.heap w1_2)[b]? = some (Obj.cells { toList := SV.cells (SV.struct [SV.int IntKind.i64 (↑r.2 : Int)]) } 3) →
                                        Vc.Append 3 1 8 s_1 { ptr := some { block := b, off := 0 }, len := 1, cap := 1 } [] w1_2 fun (r_1 : Sl) (w : World) =>
                                          ∀ (b : Nat) (w1_3 : World),
                                            Upd [] [b] w w1_3 →
                                              (World.heap w1_3)[b]? =
                                                  some (Obj.cells { toList := SV.cells (SV.struct [SV.int IntKind.u8 (wr IntKind.u8 (wr IntKind.i64 (201 + Int.tmod n 50)))]) } 5) →
                                                Vc.Append 5 1 1 r { ptr := some { block := b, off := 0 }, len := 1, cap := 1 } [] w1_3 fun (r : Sl) (w : World) =>
                                                  I r r_1 (wr IntKind.i64 (n + 1)) w ∧ M r r_1 (wr IntKind.i64 (n + 1)) w < M s s_1 n w1)) →
                        J_1 w1_1) →
                    Br (decide (n < (↑parts.2 : Int))) (Br (decide (n < 300)) (J_1 w1) (J s s_1 w1)) (J s s_1 w1)
theorem f14_of (parts : Sl) (w : World) (R : SV → World → Prop) (h : vc14 parts w R) : Ret Try.prog 14 [.slice parts] w R :=
  have e : vc14 parts w R = fnVC X Try.f14 a14 [.slice parts] w R := by kernel_rfl
  fnVC_sound X_ok (n := a14) (e ▸ h) (by kernel_rfl) (by kernel_rfl) rfl

def vc15 (parts : Sl) (w : World) (R : SV → World → Prop) : Prop :=
  ∃ (I : Sl → Int → World → Prop),
    ∃ (M : Sl → Int → World → Nat),
      I { ptr := none, len := 0, cap := 0 } 0 w ∧
        ∀ (s : Sl) (n : Int) (w1 : World),
          I s n w1 →
            Br (decide (n < (↑parts.2 : Int)))
              (Need (decide (0 ≤ n) && decide (n < (↑parts.2 : Int)) && Option.isSome parts.1)
                (∃ (s_1 : Sl),
                  World.cell? w1 (Sl.at parts 1 (Int.toNat n)) = some (Sl.val s_1) ∧
                    Vc.Append 5 1 1 s s_1 [] w1 fun (r : Sl) (w : World) => I r (wr IntKind.i64 (n + 1)) w ∧ M r (wr IntKind.i64 (n + 1)) w < M s n w1))
              (R (SV.slice s) w1)
theorem f15_of (parts : Sl) (w : World) (R : SV → World → Prop) (h : vc15 parts w R) : Ret Try.prog 15 [.slice parts] w R :=
  have e : vc15 parts w R = fnVC X Try.f15 a15 [.slice parts] w R := by kernel_rfl
  fnVC_sound X_ok (n := a15) (e ▸ h) (by kernel_rfl) (by kernel_rfl) rfl

def vc16 (parts : Sl) (w : World) (R : SV → World → Prop) : Prop :=
  ∃ (I : Int → Bool → Int → World → Prop),
    ∃ (M : Int → Bool → Int → World → Nat),
      I 0 true 0 w ∧
        ∀ (n : Int) (b : Bool) (n_1 : Int) (w1 : World),
          I n b n_1 w1 →
            Br (decide (n_1 < (↑parts.2 : Int)))
              (Need (decide (0 ≤ n_1) && decide (n_1 < (↑parts.2 : Int)) && Option.isSome parts.1)
                (∃ (s : Sl),
                  World.cell? w1 (Sl.at parts 1 (Int.toNat n_1)) = some (Sl.val s) ∧
                    ∃ (I_1 : Int → Bool → Int → World → Prop),
                      ∃ (M_1 : Int → Bool → Int → World → Nat),
                        I_1 n b 0 w1 ∧
                          ∀ (n_2 : Int) (b_1 : Bool) (n_3 : Int) (w1_1 : World),
                            I_1 n_2 b_1 n_3 w1_1 →
                              Br (decide (n_3 < (↑s.2 : Int)))
                                (Need (decide (0 ≤ n_3) && decide (n_3 < (↑s.2 : Int)) && Option.isSome s.1)
                                  (∃ (n : Int),
                                    World.cell? w1_1 (Sl.at s 1 (Int.toNat n_3)) = some (Value.int IntKind.u8 n) ∧
                                      ∀ (J : Int → World → Prop),
                                        (∀ (n : Int) (w1 : World),
                                            I_1 n (!b_1) (wr IntKind.i64 (n_3 + 1)) w1 ∧ M_1 n (!b_1) (wr IntKind.i64 (n_3 + 1)) w1 < M_1 n_2 b_1 n_3 w1_1 → J n w1) →
                                          Br b_1 (J (wr IntKind.i64 (n_2 + gshl IntKind.i64 (wr IntKind.i64 n) 8)) w1_1) (J (wr IntKind.i64 (n_2 + wr IntKind.i64 n)) w1_1)))
                                (Ret Try.prog 39 [SV.int IntKind.i64 n_2] w1_1 fun (r : SV) (w1_2 : World) =>
                                  ∃ (n_4 : Int), r = SV.int IntKind.i64 n_4 ∧ I n_4 b_1 (wr IntKind.i64 (n_1 + 1)) w1_2 ∧ M n_4 b_1 (wr IntKind.i64 (n_1 + 1)) w1_2 < M n b n_1 w1)))
              (R (SV.int IntKind.i64 n) w1)
theorem f16_of (parts : Sl) (w : World) (R : SV → World → Prop) (h : vc16 parts w R) : Ret Try.prog 16 [.slice parts] w R :=
  have e : vc16 parts w R = fnVC X Try.f16 a16 [.slice parts] w R := by kernel_rfl
  fnVC_sound X_ok (n := a16) (e ▸ h) (by kernel_rfl) (by kernel_rfl) rfl

def vc17 (parts : Sl) (w : World) (R : SV → World → Prop) : Prop :=
  Ret Try.prog 16 [SV.slice parts] w fun (r : SV) (w1 : World) => ∃ (n : Int), r = SV.int IntKind.i64 n ∧ R (SV.int IntKind.i64 (wr IntKind.i64 (65535 - n))) w1
theorem f17_of (parts : Sl) (w : World) (R : SV → World → Prop) (h : vc17 parts w R) : Ret Try.prog 17 [.slice parts] w R :=
  have e : vc17 parts w R = fnVC X Try.f17 a17 [.slice parts] w R := by kernel_rfl
  fnVC_sound X_ok (n := a17) (e ▸ h) (by kernel_rfl) (by kernel_rfl) rfl

def vc18 (parts : Sl) (w : World) (R : SV → World → Prop) : Prop :=
  Ret Try.prog 16 [SV.slice parts] w fun (r : SV) (w1 : World) => ∃ (n : Int), r = SV.int IntKind.i64 n ∧ R (SV.bool (n == 65535)) w1
theorem f18_of (parts : Sl) (w : World) (R : SV → World → Prop) (h : vc18 parts w R) : Ret Try.prog 18 [.slice parts] w R :=
  have e : vc18 parts w R = fnVC X Try.f18 a18 [.slice parts] w R := by kernel_rfl
  fnVC_sound X_ok (n := a18) (e ▸ h) (by kernel_rfl) (by kernel_rfl) rfl

def vc19 (parts : Sl) (w : World) (R : SV → World → Prop) : Prop :=
  ∃ (I : Int → Int → Int → World → Prop),
    ∃ (M : Int → Int → Int → World → Nat),
      I 0 0 0 w ∧
        ∀ (n n_1 n_2 : Int) (w1 : World),
          I n n_1 n_2 w1 →
            Br (decide (n_2 < (↑parts.2 : Int)))
              (∃ (I_1 : Int → Int → Int → World → Prop),
                ∃ (M_1 : Int → Int → Int → World → Nat),
                  I_1 n n_1 0 w1 ∧
                    ∀ (n_3 n_4 n_5 : Int) (w1_1 : World),
                      I_1 n_3 n_4 n_5 w1_1 →
                        Need (decide (0 ≤ n_2) && decide (n_2 < (↑parts.2 : Int)) && Option.isSome parts.1)
                          (∃ (s : Sl),
                            World.cell? w1_1 (Sl.at parts 1 (Int.toNat n_2)) = some (Sl.val s) ∧
                              Br (decide (n_5 < (↑s.2 : Int)))
                                (∀ (J : Int → Int → World → Prop),
                                  (∀ (n n_6 : Int) (w1 : World),
                                      I_1 n n_6 (wr IntKind.i64 (n_5 + 1)) w1 ∧ M_1 n n_6 (wr IntKind.i64 (n_5 + 1)) w1 < M_1 n_3 n_4 n_5 w1_1 → J n n_6 w1) →
                                    Need (decide (0 ≤ n_2) && decide (n_2 < (↑parts.2 : Int)) && Option.isSome parts.1)
                                      (∃ (s : Sl),
                                        World.cell? w1_1 (Sl.at parts 1 (Int.toNat n_2)) = some (Sl.val s) ∧
                                          Need (decide (0 ≤ n_5) && decide (n_5 < (↑s.2 : Int)) && Option.isSome s.1)
                                            (∃ (n : Int),
                                              World.cell? w1_1 (Sl.at s 1 (Int.toNat n_5)) = some (Value.int IntKind.u8 n) ∧
                                                ∀ (J_1 : Int → World → Prop),
                                                  (∀ (n : Int) (w1 : World), J (wr IntKind.i64 (n_3 + 1)) (wr IntKind.i64 (n_4 + n)) w1 → J_1 n w1) →
                                                    Br (Int.tmod n_3 2 == 0) (J_1 (wr IntKind.i64 (wr IntKind.i64 n * 256)) w1_1) (J_1 (wr IntKind.i64 n) w1_1))))
                                (I n_3 n_4 (wr IntKind.i64 (n_2 + 1)) w1_1 ∧ M n_3 n_4 (wr IntKind.i64 (n_2 + 1)) w1_1 < M n n_1 n_2 w1)))
              (Ret Try.prog 40 [SV.int IntKind.i64 n_1] w1 fun (r : SV) (w1 : World) => ∃ (n : Int), r = SV.int IntKind.i64 n ∧ R (SV.int IntKind.i64 n) w1)
theorem f19_of (parts : Sl) (w : World) (R : SV → World → Prop) (h : vc19 parts w R) : Ret Try.prog 19 [.slice parts] w R :=
  have e : vc19 parts w R = fnVC X Try.f19 a19 [.slice parts] w R := by kernel_rfl
  fnVC_sound X_ok (n := a19) (e ▸ h) (by kernel_rfl) (by kernel_rfl) rfl

def vc20 (parts : Sl) (w : World) (R : SV → World → Prop) : Prop :=
  Ret Try.prog 19 [SV.slice parts] w fun (r : SV) (w1 : World) => ∃ (n : Int), r = SV.int IntKind.i64 n ∧ R (SV.int IntKind.i64 (wr IntKind.i64 (65535 - n))) w1
theorem f20_of (parts : Sl) (w : World) (R : SV → World → Prop) (h : vc20 parts w R) : Ret Try.prog 20 [.slice parts] w R :=
  have e : vc20 parts w R = fnVC X Try.f20 a20 [.slice parts] w R := by kernel_rfl
  fnVC_sound X_ok (n := a20) (e ▸ h) (by kernel_rfl) (by kernel_rfl) rfl

def vc21 (parts : Sl) (w : World) (R : SV → World → Prop) : Prop :=
  Ret Try.prog 19 [SV.slice parts] w fun (r : SV) (w1 : World) => ∃ (n : Int), r = SV.int IntKind.i64 n ∧ R (SV.bool (n == 65535)) w1
theorem f21_of (parts : Sl) (w : World) (R : SV → World → Prop) (h : vc21 parts w R) : Ret Try.prog 21 [.slice parts] w R :=
  have e : vc21 parts w R = fnVC X Try.f21 a21 [.slice parts] w R := by kernel_rfl
  fnVC_sound X_ok (n := a21) (e ▸ h) (by kernel_rfl) (by kernel_rfl) rfl

def vc22 (a : Sl) (b : Sl) (w : World) (R : SV → World → Prop) : Prop :=
  Br ((↑a.2 : Int) != (↑b.2 : Int)) (R (SV.bool false) w)
    (∃ (I : Int → World → Prop),
      ∃ (M : Int → World → Nat),
        I 0 w ∧
          ∀ (n : Int) (w1 : World),
            I n w1 →
              Br (decide (n < (↑a.2 : Int)))
                (Need (decide (0 ≤ n) && decide (n < (↑a.2 : Int)) && Option.isSome a.1)
                  (∃ (n_1 : Int),
                    World.cell? w1 (Sl.at a 1 (Int.toNat n)) = some (Value.int IntKind.u8 n_1) ∧
                      Need (decide (0 ≤ n) && decide (n < (↑b.2 : Int)) && Option.isSome b.1)
                        (∃ (n_2 : Int),
                          World.cell? w1 (Sl.at b 1 (Int.toNat n)) = some (Value.int IntKind.u8 n_2) ∧
                            Br (n_1 != n_2) (∀ (w1_1 : World), Upd [] [] w1 w1_1 → R (SV.bool false) w1_1)
                              (∀ (w1_1 : World), Upd [] [] w1 w1_1 → I (wr IntKind.i64 (n + 1)) w1_1 ∧ M (wr IntKind.i64 (n + 1)) w1_1 < M n w1))))
                (R (SV.bool true) w1))
theorem f22_of (a : Sl) (b : Sl) (w : World) (R : SV → World → Prop) (h : vc22 a b w R) : Ret Try.prog 22 [.slice a, .slice b] w R :=
  have e : vc22 a b w R = fnVC X Try.f22 a22 [.slice a, .slice b] w R := by kernel_rfl
  fnVC_sound X_ok (n := a22) (e ▸ h) (by kernel_rfl) (by kernel_rfl) rfl

def vc23 (b : Sl) (w : World) (R : SV → World → Prop) : Prop :=
  ∀ (J : Sl → World → Prop),
    (∀ (s : Sl) (w1 : World),
        (Vc.Append 5 1 1 { ptr := none, len := 0, cap := 0 } s [] w1 fun (r : Sl) (w : World) =>
            Br (Int.tmod (↑r.2 : Int) 2 == 1)
              (∀ (b : Nat) (w1 : World),
                Upd [] [b] w w1 →
                  (World.heap w1)[b]? = some (Obj.cells { toList := SV.cells (SV.struct [SV.int IntKind.u8 0]) } 5) →
                    Vc.Append 5 1 1 r { ptr := some { block := b, off := 0 }, len := 1, cap := 1 } [] w1 fun (r : Sl) (w : World) => R (SV.slice r) w)
              (R (SV.slice r) w)) →
          J s w1) →
      Br (decide ((↑b.2 : Int) > 131072)) (Need (decide (131072 ≤ (↑b.3 : Int))) (J (Sl.sub b 1 0 131072 b.3) w)) (J b w)
theorem f23_of (b : Sl) (w : World) (R : SV → World → Prop) (h : vc23 b w R) : Ret Try.prog 23 [.slice b] w R :=
  have e : vc23 b w R = fnVC X Try.f23 a23 [.slice b] w R := by kernel_rfl
  fnVC_sound X_ok (n := a23) (e ▸ h) (by kernel_rfl) (by kernel_rfl) rfl

def vc24 (b : Sl) (p1 : Int) (w : World) (R : SV → World → Prop) : Prop :=
  ∀ (J : Int → World → Prop),
    (∀ (n : Int) (w1 : World),
        Need (wr IntKind.i64 (Int.tdiv (↑b.2 : Int) 2) != 0) (R (SV.int IntKind.i64 (wr IntKind.i64 (Int.tmod n (wr IntKind.i64 (Int.tdiv (↑b.2 : Int) 2)) * 2))) w1) → J n w1) →
      Br (decide (p1 < 0)) (J (wr IntKind.i64 (0 - wr IntKind.i64 (p1 + 1))) w) (J p1 w)
theorem f24_of (b : Sl) (p1 : Int) (w : World) (R : SV → World → Prop) (h : vc24 b p1 w R) : Ret Try.prog 24 [.slice b, .int .i64 p1] w R :=
  have e : vc24 b p1 w R = fnVC X Try.f24 a24 [.slice b, .int .i64 p1] w R := by kernel_rfl
  fnVC_sound X_ok (n := a24) (e ▸ h) (by kernel_rfl) (by kernel_rfl) rfl

def vc25 (b : Sl) (p1 : Int) (n : Int) (w : World) (R : SV → World → Prop) : Prop :=
  Need (decide (0 ≤ p1) && decide (p1 < (↑b.2 : Int)) && Option.isSome b.1)
    (Store w (Sl.at b 1 (Int.toNat p1)) (SV.cells (SV.int IntKind.u8 (wr IntKind.u8 (gshr IntKind.i64 n 8)))) [] fun (w1 : World) =>
      Need (decide (0 ≤ wr IntKind.i64 (p1 + 1)) && decide (wr IntKind.i64 (p1 + 1) < (↑b.2 : Int)) && Option.isSome b.1)
        (Store w1 (Sl.at b 1 (Int.toNat (wr IntKind.i64 (p1 + 1)))) (SV.cells (SV.int IntKind.u8 (wr IntKind.u8 n))) [] fun (w1 : World) => R (SV.tuple []) w1))
theorem f25_of (b : Sl) (p1 : Int) (n : Int) (w : World) (R : SV → World → Prop) (h : vc25 b p1 n w R) : Ret Try.prog 25 [.slice b, .int .i64 p1, .int .i64 n] w R :=
  have e : vc25 b p1 n w R = fnVC X Try.f25 a25 [.slice b, .int .i64 p1, .int .i64 n] w R := by kernel_rfl
  fnVC_sound X_ok (n := a25) (e ▸ h) (by kernel_rfl) (by kernel_rfl) rfl

def vc26 (src_0 : Int) (src_1 : Nat → Int) (dst_0 : Int) (dst_1 : Nat → Int) (proto : Int) (n : Int) (w : World) (R : SV → World → Prop) : Prop :=
  ∀ (b b_1 : Nat) (w1 : World),
    Upd [] [b_1, b] w w1 →
      Ret Try.prog 41 [SV.struct [SV.int IntKind.i64 src_0, SV.arr IntKind.u8 16 src_1]] w1 fun (r : SV) (w1_1 : World) =>
        ∃ (n_1 : Int),
          r = SV.int IntKind.i64 n_1 ∧
            Keeps [b, b_1] w1 w1_1 ∧
              ∀ (J : World → Prop),
                (∀ (w1 : World),
                    Br (n_1 == 4)
                        ((World.heap w1)[b]? = some (Obj.cells { toList := SV.cells (SV.struct [SV.int IntKind.i64 src_0, SV.arr IntKind.u8 16 src_1]) } 41) →
                          Vc.Append 5 1 1 { ptr := none, len := 0, cap := 0 } (Sl.sub { ptr := some { block := b, off := 1 }, len := 16, cap := 16 } 1 0 4 16) [b_1] w1
                            fun (r : Sl) (w : World) =>
                            (World.heap w)[b_1]? = some (Obj.cells { toList := SV.cells (SV.struct [SV.int IntKind.i64 dst_0, SV.arr IntKind.u8 16 dst_1]) } 41) →
                              Vc.Append 5 1 1 r (Sl.sub { ptr := some { block := b_1, off := 1 }, len := 16, cap := 16 } 1 0 4 16) [] w fun (r : Sl) (w : World) =>
                                ∀ (b : Nat) (w1 : World),
                                  Upd [] [b] w w1 →
                                    (World.heap w1)[b]? =
                                        some
                                          (Obj.cells
                                            {
                                              toList :=
                                                SV.cells
                                                  (SV.struct
                                                    [SV.int IntKind.u8 0, SV.int IntKind.u8 (wr IntKind.u8 proto), SV.int IntKind.u8 (wr IntKind.u8 (gshr IntKind.i64 n 8)),
                                                      SV.int IntKind.u8 (wr IntKind.u8 n)]) }
                                            5) →
                                      Vc.Append 5 1 1 r { ptr := some { block := b, off := 0 }, len := 4, cap := 4 } [] w1 fun (r : Sl) (w : World) =>
                                        R (SV.tuple [SV.slice r, SV.int IntKind.i64 0]) w)
                        ((World.heap w1)[b]? = some (Obj.cells { toList := SV.cells (SV.struct [SV.int IntKind.i64 src_0, SV.arr IntKind.u8 16 src_1]) } 41) →
                          Vc.Append 5 1 1 { ptr := none, len := 0, cap := 0 } (Sl.sub { ptr := some { block := b, off := 1 }, len := 16, cap := 16 } 1 0 16 16) [b_1] w1
                            fun (r : Sl) (w : World) =>
                            (World.heap w)[b_1]? = some (Obj.cells { toList := SV.cells (SV.struct [SV.int IntKind.i64 dst_0, SV.arr IntKind.u8 16 dst_1]) } 41) →
                              Vc.Append 5 1 1 r (Sl.sub { ptr := some { block := b_1, off := 1 }, len := 16, cap := 16 } 1 0 16 16) [] w fun (r : Sl) (w : World) =>
                                ∀ (b : Nat) (w1 : World),
                                  Upd [] [b] w w1 →
                                    (World.heap w1)[b]? =
                                        some
                                          (Obj.cells
                                            {
                                              toList :=
                                                SV.cells
                                                  (SV.struct
                                                    [SV.int IntKind.u8 0, SV.int IntKind.u8 0, SV.int IntKind.u8 (wr IntKind.u8 (gshr IntKind.i64 n 8)),
                                                      SV.int IntKind.u8 (wr IntKind.u8 n), SV.int IntKind.u8 0, SV.int IntKind.u8 0, SV.int IntKind.u8 0,
                                                      SV.int IntKind.u8 (wr IntKind.u8 proto)]) }
                                            5) →
                                      Vc.Append 5 1 1 r { ptr := some { block := b, off := 0 }, len := 8, cap := 8 } [] w1 fun (r : Sl) (w : World) =>
                                        R (SV.tuple [SV.slice r, SV.int IntKind.i64 0]) w) →
                      J w1) →
                  Br (n_1 == 0) (R (SV.tuple [SV.slice { ptr := none, len := 0, cap := 0 }, SV.int IntKind.i64 20]) w1_1)
                    (Ret Try.prog 41 [SV.struct [SV.int IntKind.i64 dst_0, SV.arr IntKind.u8 16 dst_1]] w1_1 fun (r : SV) (w1 : World) =>
                      ∃ (n_2 : Int),
                        r = SV.int IntKind.i64 n_2 ∧
                          Keeps [b, b_1] w1_1 w1 ∧
                            Br (n_2 != n_1) (R (SV.tuple [SV.slice { ptr := none, len := 0, cap := 0 }, SV.int IntKind.i64 20]) w1)
                              (Br (decide (proto < 0)) (R (SV.tuple [SV.slice { ptr := none, len := 0, cap := 0 }, SV.int IntKind.i64 1]) w1)
                                (Br (decide (proto > 255)) (R (SV.tuple [SV.slice { ptr := none, len := 0, cap := 0 }, SV.int IntKind.i64 1]) w1)
                                  (Br (decide (n < 0)) (R (SV.tuple [SV.slice { ptr := none, len := 0, cap := 0 }, SV.int IntKind.i64 1]) w1)
                                    (Br (decide (n > 65535)) (R (SV.tuple [SV.slice { ptr := none, len := 0, cap := 0 }, SV.int IntKind.i64 1]) w1)
                                      (some (SV.box b 41 (SV.struct [SV.int IntKind.i64 src_0, SV.arr IntKind.u8 16 src_1])) =
                                          some (SV.box b 41 (SV.struct [SV.int IntKind.i64 src_0, SV.arr IntKind.u8 16 src_1])) ∧
                                        some (SV.box b_1 41 (SV.struct [SV.int IntKind.i64 dst_0, SV.arr IntKind.u8 16 dst_1])) =
                                            some (SV.box b_1 41 (SV.struct [SV.int IntKind.i64 dst_0, SV.arr IntKind.u8 16 dst_1])) ∧
                                          J w1))))))
theorem f26_of (src_0 : Int) (src_1 : Nat → Int) (dst_0 : Int) (dst_1 : Nat → Int) (proto : Int) (n : Int) (w : World) (R : SV → World → Prop) (h : vc26 src_0 src_1 dst_0 dst_1 proto n w R) : Ret Try.prog 26 [.struct [.int .i64 src_0, .arr .u8 16 src_1], .struct [.int .i64 dst_0, .arr .u8 16 dst_1], .int .i64 proto, .int .i64 n] w R :=
  have e : vc26 src_0 src_1 dst_0 dst_1 proto n w R = fnVC X Try.f26 a26 [.struct [.int .i64 src_0, .arr .u8 16 src_1], .struct [.int .i64 dst_0, .arr .u8 16 dst_1], .int .i64 proto, .int .i64 n] w R := by kernel_rfl
  fnVC_sound X_ok (n := a26) (e ▸ h) (by kernel_rfl) (by kernel_rfl) rfl

def vc28 (check : Int) (old : Int) (now : Int) (w : World) (R : SV → World → Prop) : Prop :=
  ∃ (I : Int → World → Prop),
    ∃ (M : Int → World → Nat),
      I 0 w ∧
        ∀ (n : Int) (w1 : World),
          I n w1 →
            Br (decide (n < 3))
              (Need (decide (0 ≤ n) && decide (n < 3))
                (Br (decide (fset (fset (fset (fun (x : Nat) => 0) 0 check) 1 old) 2 now (Int.toNat n) < 0)) (R (SV.tuple [SV.int IntKind.i64 0, SV.int IntKind.i64 21]) w1)
                  (Br (decide (fset (fset (fset (fun (x : Nat) => 0) 0 check) 1 old) 2 now (Int.toNat n) > 65535)) (R (SV.tuple [SV.int IntKind.i64 0, SV.int IntKind.i64 21]) w1)
                    (I (wr IntKind.i64 (n + 1)) w1 ∧ M (wr IntKind.i64 (n + 1)) w1 < M n w1))))
              (Ret Try.prog 39 [SV.int IntKind.i64 (wr IntKind.i64 (wr IntKind.i64 (wr IntKind.i64 (wr IntKind.i64 (65535 - check) + 65535) - old) + now))] w1
                fun (r : SV) (w1 : World) => ∃ (n : Int), r = SV.int IntKind.i64 n ∧ R (SV.tuple [SV.int IntKind.i64 (wr IntKind.i64 (65535 - n)), SV.int IntKind.i64 0]) w1)
theorem f28_of (check : Int) (old : Int) (now : Int) (w : World) (R : SV → World → Prop) (h : vc28 check old now w R) : Ret Try.prog 28 [.int .i64 check, .int .i64 old, .int .i64 now] w R :=
  have e : vc28 check old now w R = fnVC X Try.f28 a28 [.int .i64 check, .int .i64 old, .int .i64 now] w R := by kernel_rfl
  fnVC_sound X_ok (n := a28) (e ▸ h) (by kernel_rfl) (by kernel_rfl) rfl

def vc29 (check : Int) (old : Int) (now : Int) (w : World) (R : SV → World → Prop) : Prop :=
  ∀ (J : World → Prop),
    (∀ (w1 : World),
        (Ret Try.prog 40 [SV.int IntKind.i64 (wr IntKind.i64 (wr IntKind.i64 (wr IntKind.i64 (wr IntKind.i64 (65535 - check) + 65535) - old) + now))] w1 fun (r : SV) (w1 : World) =>
            ∃ (n : Int), r = SV.int IntKind.i64 n ∧ R (SV.tuple [SV.int IntKind.i64 (wr IntKind.i64 (65535 - n)), SV.int IntKind.i64 0]) w1) →
          J w1) →
      Ret Try.prog 43 [SV.int IntKind.i64 check] w fun (r : SV) (w1 : World) =>
        ∃ (b : Bool),
          r = SV.bool b ∧
            Br (!b) (R (SV.tuple [SV.int IntKind.i64 0, SV.int IntKind.i64 21]) w1)
              (Ret Try.prog 43 [SV.int IntKind.i64 old] w1 fun (r : SV) (w1 : World) =>
                ∃ (b : Bool),
                  r = SV.bool b ∧
                    Br (!b) (R (SV.tuple [SV.int IntKind.i64 0, SV.int IntKind.i64 21]) w1)
                      (Ret Try.prog 43 [SV.int IntKind.i64 now] w1 fun (r : SV) (w1 : World) =>
                        ∃ (b : Bool), r = SV.bool b ∧ Br (!b) (R (SV.tuple [SV.int IntKind.i64 0, SV.int IntKind.i64 21]) w1) (J w1)))
theorem f29_of (check : Int) (old : Int) (now : Int) (w : World) (R : SV → World → Prop) (h : vc29 check old now w R) : Ret Try.prog 29 [.int .i64 check, .int .i64 old, .int .i64 now] w R :=
  have e : vc29 check old now w R = fnVC X Try.f29 a29 [.int .i64 check, .int .i64 old, .int .i64 now] w R := by kernel_rfl
  fnVC_sound X_ok (n := a29) (e ▸ h) (by kernel_rfl) (by kernel_rfl) rfl

def vc30 (check : Int) (old : Sl) (now : Sl) (w : World) (R : SV → World → Prop) : Prop :=
  ∀ (J : World → Prop),
    (∀ (w1 : World),
        (∃ (I : Int → Int → World → Prop),
            ∃ (M : Int → Int → World → Nat),
              I check 0 w1 ∧
                ∀ (n n_1 : Int) (w1 : World),
                  I n n_1 w1 →
                    Br (decide (n_1 < (↑old.2 : Int)))
                      (Ret Try.prog 44 [SV.slice old, SV.int IntKind.i64 n_1] w1 fun (r : SV) (w1_1 : World) =>
                        ∃ (n_2 : Int),
                          r = SV.int IntKind.i64 n_2 ∧
                            Ret Try.prog 44 [SV.slice now, SV.int IntKind.i64 n_1] w1_1 fun (r : SV) (w1_2 : World) =>
                              ∃ (n_3 : Int),
                                r = SV.int IntKind.i64 n_3 ∧
                                  Ret Try.prog 28 [SV.int IntKind.i64 n, SV.int IntKind.i64 n_2, SV.int IntKind.i64 n_3] w1_2 fun (r : SV) (w1_3 : World) =>
                                    ∃ (n_4 : Int),
                                      ∃ (n_5 : Int),
                                        r = SV.tuple [SV.int IntKind.i64 n_4, SV.int IntKind.i64 n_5] ∧
                                          I n_4 (wr IntKind.i64 (n_1 + 2)) w1_3 ∧ M n_4 (wr IntKind.i64 (n_1 + 2)) w1_3 < M n n_1 w1)
                      (R (SV.tuple [SV.int IntKind.i64 n, SV.int IntKind.i64 0]) w1)) →
          J w1) →
      Br (decide (check < 0)) (R (SV.tuple [SV.int IntKind.i64 0, SV.int IntKind.i64 21]) w)
        (Br (decide (check > 65535)) (R (SV.tuple [SV.int IntKind.i64 0, SV.int IntKind.i64 21]) w)
          (Br ((↑old.2 : Int) != (↑now.2 : Int)) (R (SV.tuple [SV.int IntKind.i64 0, SV.int IntKind.i64 22]) w) (J w)))
theorem f30_of (check : Int) (old : Sl) (now : Sl) (w : World) (R : SV → World → Prop) (h : vc30 check old now w R) : Ret Try.prog 30 [.int .i64 check, .slice old, .slice now] w R :=
  have e : vc30 check old now w R = fnVC X Try.f30 a30 [.int .i64 check, .slice old, .slice now] w R := by kernel_rfl
  fnVC_sound X_ok (n := a30) (e ▸ h) (by kernel_rfl) (by kernel_rfl) rfl

def vc31 (check : Int) (old : Sl) (now : Sl) (w : World) (R : SV → World → Prop) : Prop :=
  Ret Try.prog 43 [SV.int IntKind.i64 check] w fun (r : SV) (w1 : World) =>
    ∃ (b : Bool),
      r = SV.bool b ∧
        Br (!b) (R (SV.tuple [SV.int IntKind.i64 0, SV.int IntKind.i64 21]) w1)
          (Br ((↑old.2 : Int) != (↑now.2 : Int)) (R (SV.tuple [SV.int IntKind.i64 0, SV.int IntKind.i64 22]) w1)
            (∃ (I : Int → Int → World → Prop),
              ∃ (M : Int → Int → World → Nat),
                I check 0 w1 ∧
                  ∀ (n n_1 : Int) (w1 : World),
                    I n n_1 w1 →
                      Br (decide (n_1 < (↑old.2 : Int)))
                        (Ret Try.prog 45 [SV.slice old, SV.int IntKind.i64 n_1] w1 fun (r : SV) (w1_1 : World) =>
                          ∃ (n_2 : Int),
                            r = SV.int IntKind.i64 n_2 ∧
                              Ret Try.prog 45 [SV.slice now, SV.int IntKind.i64 n_1] w1_1 fun (r : SV) (w1_2 : World) =>
                                ∃ (n_3 : Int),
                                  r = SV.int IntKind.i64 n_3 ∧
                                    Ret Try.prog 29 [SV.int IntKind.i64 n, SV.int IntKind.i64 n_2, SV.int IntKind.i64 n_3] w1_2 fun (r : SV) (w1_3 : World) =>
                                      ∃ (n_4 : Int),
                                        ∃ (n_5 : Int),
                                          r = SV.tuple [SV.int IntKind.i64 n_4, SV.int IntKind.i64 n_5] ∧
                                            I n_4 (wr IntKind.i64 (n_1 + 2)) w1_3 ∧ M n_4 (wr IntKind.i64 (n_1 + 2)) w1_3 < M n n_1 w1)
                        (R (SV.tuple [SV.int IntKind.i64 n, SV.int IntKind.i64 0]) w1)))
theorem f31_of (check : Int) (old : Sl) (now : Sl) (w : World) (R : SV → World → Prop) (h : vc31 check old now w R) : Ret Try.prog 31 [.int .i64 check, .slice old, .slice now] w R :=
  have e : vc31 check old now w R = fnVC X Try.f31 a31 [.int .i64 check, .slice old, .slice now] w R := by kernel_rfl
  fnVC_sound X_ok (n := a31) (e ▸ h) (by kernel_rfl) (by kernel_rfl) rfl

def vc32 (b : Sl) (w : World) (R : SV → World → Prop) : Prop :=
  ∃ (I : Int → World → Prop),
    ∃ (M : Int → World → Nat),
      I 0 w ∧
        ∀ (n : Int) (w1 : World),
          I n w1 →
            Br (decide (n < (↑b.2 : Int)))
              (Need (decide (0 ≤ n) && decide (n < (↑b.2 : Int)) && Option.isSome b.1)
                (∃ (n_1 : Int),
                  World.cell? w1 (Sl.at b 1 (Int.toNat n)) = some (Value.int IntKind.u8 n_1) ∧
                    Br (n_1 != 0) (R (SV.bool false) w1) (I (wr IntKind.i64 (n + 1)) w1 ∧ M (wr IntKind.i64 (n + 1)) w1 < M n w1)))
              (R (SV.bool true) w1)
theorem f32_of (b : Sl) (w : World) (R : SV → World → Prop) (h : vc32 b w R) : Ret Try.prog 32 [.slice b] w R :=
  have e : vc32 b w R = fnVC X Try.f32 a32 [.slice b] w R := by kernel_rfl
  fnVC_sound X_ok (n := a32) (e ▸ h) (by kernel_rfl) (by kernel_rfl) rfl

def vc39 (n : Int) (w : World) (R : SV → World → Prop) : Prop :=
  ∃ (I : Int → World → Prop),
    ∃ (M : Int → World → Nat),
      I n w ∧
        ∀ (n : Int) (w1 : World),
          I n w1 →
            Br (decide (n > 65535))
              (I (wr IntKind.i64 (iand IntKind.i64 n 65535 + gshr IntKind.i64 n 16)) w1 ∧ M (wr IntKind.i64 (iand IntKind.i64 n 65535 + gshr IntKind.i64 n 16)) w1 < M n w1)
              (R (SV.int IntKind.i64 n) w1)
theorem f39_of (n : Int) (w : World) (R : SV → World → Prop) (h : vc39 n w R) : Ret Try.prog 39 [.int .i64 n] w R :=
  have e : vc39 n w R = fnVC X Try.f39 a39 [.int .i64 n] w R := by kernel_rfl
  fnVC_sound X_ok (n := a39) (e ▸ h) (by kernel_rfl) (by kernel_rfl) rfl

def vc40 (n : Int) (w : World) (R : SV → World → Prop) : Prop :=
  Br (n == 0) (R (SV.int IntKind.i64 0) w) (R (SV.int IntKind.i64 (wr IntKind.i64 (Int.tmod (wr IntKind.i64 (n - 1)) 65535 + 1))) w)
theorem f40_of (n : Int) (w : World) (R : SV → World → Prop) (h : vc40 n w R) : Ret Try.prog 40 [.int .i64 n] w R :=
  have e : vc40 n w R = fnVC X Try.f40 a40 [.int .i64 n] w R := by kernel_rfl
  fnVC_sound X_ok (n := a40) (e ▸ h) (by kernel_rfl) (by kernel_rfl) rfl

def vc41 (ip_0 : Int) (ip_1 : Nat → Int) (w : World) (R : SV → World → Prop) : Prop :=
  ∀ (b : Nat),
    Br (ip_0 == 6) (∀ (w1 : World), Upd [] [b] w w1 → R (SV.int IntKind.i64 6) w1)
      (Br (ip_0 != 4) (∀ (w1 : World), Upd [] [b] w w1 → R (SV.int IntKind.i64 0) w1)
        (∀ (b_1 : Nat),
          Br (!eqArr 16 ip_1 (fset (fset (fset (fset (fun (x : Nat) => 0) 0 (ip_1 0)) 1 (ip_1 1)) 2 (ip_1 2)) 3 (ip_1 3)))
            (∀ (w1 : World), Upd [] [b_1, b] w w1 → R (SV.int IntKind.i64 0) w1) (∀ (w1 : World), Upd [] [b_1, b] w w1 → R (SV.int IntKind.i64 4) w1)))
theorem f41_of (ip_0 : Int) (ip_1 : Nat → Int) (w : World) (R : SV → World → Prop) (h : vc41 ip_0 ip_1 w R) : Ret Try.prog 41 [.struct [.int .i64 ip_0, .arr .u8 16 ip_1]] w R :=
  have e : vc41 ip_0 ip_1 w R = fnVC X Try.f41 a41 [.struct [.int .i64 ip_0, .arr .u8 16 ip_1]] w R := by kernel_rfl
  fnVC_sound X_ok (n := a41) (e ▸ h) (by kernel_rfl) (by kernel_rfl) rfl

def vc43 (n : Int) (w : World) (R : SV → World → Prop) : Prop :=
  Br (decide (n ≥ 0)) (R (SV.bool (decide (n ≤ 65535))) w) (R (SV.bool false) w)
theorem f43_of (n : Int) (w : World) (R : SV → World → Prop) (h : vc43 n w R) : Ret Try.prog 43 [.int .i64 n] w R :=
  have e : vc43 n w R = fnVC X Try.f43 a43 [.int .i64 n] w R := by kernel_rfl
  fnVC_sound X_ok (n := a43) (e ▸ h) (by kernel_rfl) (by kernel_rfl) rfl

end Go.Vc.S2
