import Derived.Test.YtopobapmncbjhaaAnnr5
import Derived.Test.YtopobapmncbjhaaNum
import Derived.KernelRfl
open Go Go.Vc Go.Vc.S5 Go.Proofs
set_option maxRecDepth 100000
set_option linter.unusedVariables false
namespace Go.Vc.S5
def vc13 (b : Sl) (w : World) (R : SV → World → Prop) : Prop :=
  Ret Try.prog 40 [SV.slice b] w fun (r : SV) (w1 : World) =>
    ∃ (s : Sl),
      r = SV.slice s ∧
        Need
          (decide (0 ≤ imax 0 (wr IntKind.i64 (60 - (↑b.2 : Int)))) && decide (imax 0 (wr IntKind.i64 (60 - (↑b.2 : Int))) ≤ 281474976710656) &&
            decide (imax 0 (wr IntKind.i64 (60 - (↑b.2 : Int))) * 1 ≤ 281474976710656))
          (AppendN 5 1 1 s (Int.toNat (imax 0 (wr IntKind.i64 (60 - (↑b.2 : Int))))) (zerosOf (Ty.int IntKind.u8) (Int.toNat (imax 0 (wr IntKind.i64 (60 - (↑b.2 : Int)))))) [] w1
            fun (r : Sl) (w : World) => R (SV.slice r) w)
theorem f13_of (b : Sl) (w : World) (R : SV → World → Prop) (h : vc13 b w R) : Ret Try.prog 13 [.slice b] w R :=
  have e : vc13 b w R = fnVC X Try.f13 a13 [.slice b] w R := by kernel_rfl
  fnVC_sound X_ok (n := a13) (e ▸ h) (by kernel_rfl) (by kernel_rfl) rfl rfl

def vc14 (m : Nat → Int) (w : World) (R : SV → World → Prop) : Prop :=
  ∀ (b : Nat) (w1 : World), Upd [] [b] w w1 → R (SV.bool (iand IntKind.u8 (m 0) 1 == 1)) w1
theorem f14_of (m : Nat → Int) (w : World) (R : SV → World → Prop) (h : vc14 m w R) : Ret Try.prog 14 [.arr .u8 6 m] w R :=
  have e : vc14 m w R = fnVC X Try.f14 a14 [.arr .u8 6 m] w R := by kernel_rfl
  fnVC_sound X_ok (n := a14) (e ▸ h) (by kernel_rfl) (by kernel_rfl) rfl rfl

def vc15 (m : Nat → Int) (w : World) (R : SV → World → Prop) : Prop :=
  ∀ (b : Nat) (w1 : World), Upd [] [b] w w1 → R (SV.bool (Int.tmod (m 0) 2 == 1)) w1
theorem f15_of (m : Nat → Int) (w : World) (R : SV → World → Prop) (h : vc15 m w R) : Ret Try.prog 15 [.arr .u8 6 m] w R :=
  have e : vc15 m w R = fnVC X Try.f15 a15 [.arr .u8 6 m] w R := by kernel_rfl
  fnVC_sound X_ok (n := a15) (e ▸ h) (by kernel_rfl) (by kernel_rfl) rfl rfl

def vc16 (b : Sl) (w : World) (R : SV → World → Prop) : Prop :=
  ∀ (J : Sl → World → Prop),
    (∀ (s : Sl) (w1 : World),
        (Vc.Append 5 1 1 { ptr := none, len := 0, cap := 0 } s [] w1 fun (r : Sl) (w : World) =>
            ∀ (b : Nat) (w1 : World),
              Upd [] [b] w w1 →
                (World.heap w1)[b]? =
                    some
                      (Obj.cells
                        { toList := SV.cells (SV.struct [SV.int IntKind.u8 201, SV.int IntKind.u8 202, SV.int IntKind.u8 203, SV.int IntKind.u8 204, SV.int IntKind.u8 205]) } 5) →
                  Vc.Append 5 1 1 r { ptr := some { block := b, off := 0 }, len := 5, cap := 5 } [] w1 fun (r : Sl) (w : World) =>
                    Need (decide (0 ≤ (↑s.2 : Int)) && decide ((↑s.2 : Int) ≤ (↑r.3 : Int))) (R (SV.tuple [SV.slice (Sl.sub r 1 0 (Int.toNat (↑s.2 : Int)) r.3), SV.slice r]) w)) →
          J s w1) →
      Br (decide ((↑b.2 : Int) > 70000)) (Need (decide (70000 ≤ (↑b.3 : Int))) (J (Sl.sub b 1 0 70000 b.3) w)) (J b w)
theorem f16_of (b : Sl) (w : World) (R : SV → World → Prop) (h : vc16 b w R) : Ret Try.prog 16 [.slice b] w R :=
  have e : vc16 b w R = fnVC X Try.f16 a16 [.slice b] w R := by kernel_rfl
  fnVC_sound X_ok (n := a16) (e ▸ h) (by kernel_rfl) (by kernel_rfl) rfl rfl

def vc17 (b : Sl) (w : World) (R : SV → World → Prop) : Prop :=
  Vc.Append 5 1 1 { ptr := none, len := 0, cap := 0 } b [] w fun (r : Sl) (w : World) => R (SV.slice r) w
theorem f17_of (b : Sl) (w : World) (R : SV → World → Prop) (h : vc17 b w R) : Ret Try.prog 17 [.slice b] w R :=
  have e : vc17 b w R = fnVC X Try.f17 a17 [.slice b] w R := by kernel_rfl
  fnVC_sound X_ok (n := a17) (e ▸ h) (by kernel_rfl) (by kernel_rfl) rfl rfl

def vc18 (b : Sl) (w : World) (R : SV → World → Prop) : Prop :=
  Ret Try.prog 41 [SV.slice b, SV.int IntKind.i64 0, SV.int IntKind.i64 (↑b.2 : Int)] w fun (r : SV) (w1 : World) =>
    ∃ (s : Sl),
      r = SV.slice s ∧
        ∃ (I : Sl → World → Prop),
          ∃ (M : Sl → World → Nat),
            I s w1 ∧
              ∀ (s : Sl) (w1 : World),
                I s w1 →
                  Br (decide ((↑s.2 : Int) < 60))
                    (∀ (b : Nat) (w1_1 : World),
                      Upd [] [b] w1 w1_1 →
                        (World.heap w1_1)[b]? = some (Obj.cells { toList := SV.cells (SV.struct [SV.int IntKind.u8 0]) } 5) →
                          Vc.Append 5 1 1 s { ptr := some { block := b, off := 0 }, len := 1, cap := 1 } [] w1_1 fun (r : Sl) (w : World) => I r w ∧ M r w < M s w1)
                    (R (SV.slice s) w1)
theorem f18_of (b : Sl) (w : World) (R : SV → World → Prop) (h : vc18 b w R) : Ret Try.prog 18 [.slice b] w R :=
  have e : vc18 b w R = fnVC X Try.f18 a18 [.slice b] w R := by kernel_rfl
  fnVC_sound X_ok (n := a18) (e ▸ h) (by kernel_rfl) (by kernel_rfl) rfl rfl

def vc19 (a : Sl) (b : Sl) (w : World) (R : SV → World → Prop) : Prop :=
  Br ((↑a.2 : Int) != (↑b.2 : Int)) (R (SV.bool false) w)
    (∃ (I : Int → World → Prop),
      ∃ (M : Int → World → Nat),
        I 0 w ∧
          ∀ (n : Int) (w1 : World),
            I n w1 →
              Br (decide (n < (↑a.2 : Int)))
                (Need (decide (0 ≤ n) && decide (n < (↑a.2 : Int)) && Option.isSome a.1)
                  (∃ (n_1 : Int),
                    World.cell? w1 (Sl.at a 1 (Int.toNat n)) = some (Value.int IntKind.u8 n_1) ∧
                      Need (decide (0 ≤ n) && decide (n < (↑b.2 : Int)) && Option.isSome b.1)
                        (∃ (n_2 : Int),
                          World.cell? w1 (Sl.at b 1 (Int.toNat n)) = some (Value.int IntKind.u8 n_2) ∧
                            Br (n_1 != n_2) (∀ (w1_1 : World), Upd [] [] w1 w1_1 → R (SV.bool false) w1_1)
                              (∀ (w1_1 : World), Upd [] [] w1 w1_1 → I (wr IntKind.i64 (n + 1)) w1_1 ∧ M (wr IntKind.i64 (n + 1)) w1_1 < M n w1))))
                (R (SV.bool true) w1))
theorem f19_of (a : Sl) (b : Sl) (w : World) (R : SV → World → Prop) (h : vc19 a b w R) : Ret Try.prog 19 [.slice a, .slice b] w R :=
  have e : vc19 a b w R = fnVC X Try.f19 a19 [.slice a, .slice b] w R := by kernel_rfl
  fnVC_sound X_ok (n := a19) (e ▸ h) (by kernel_rfl) (by kernel_rfl) rfl rfl

def vc40 (s : Sl) (w : World) (R : SV → World → Prop) : Prop :=
  Br (Option.isNone s.1) (R (SV.slice { ptr := none, len := 0, cap := 0 }) w)
    (∀ (b : Nat) (w1 : World),
      Upd [] [b] w w1 →
        (World.heap w1)[b]? = some (Obj.cells { toList := SV.cells (SV.struct []) } 5) →
          Vc.Append 5 1 1 { ptr := some { block := b, off := 0 }, len := 0, cap := 0 } s [] w1 fun (r : Sl) (w : World) => R (SV.slice r) w)
theorem f40_of (s : Sl) (w : World) (R : SV → World → Prop) (h : vc40 s w R) : Ret Try.prog 40 [.slice s] w R :=
  have e : vc40 s w R = fnVC X Try.f40 a40 [.slice s] w R := by kernel_rfl
  fnVC_sound X_ok (n := a40) (e ▸ h) (by kernel_rfl) (by kernel_rfl) rfl rfl

def vc41 (b : Sl) (lo : Int) (hi : Int) (w : World) (R : SV → World → Prop) : Prop :=
  ∃ (I : Sl → Int → World → Prop),
    ∃ (M : Sl → Int → World → Nat),
      I { ptr := none, len := 0, cap := 0 } lo w ∧
        ∀ (s : Sl) (n : Int) (w1 : World),
          I s n w1 →
            Br (decide (n < hi))
              (Need (decide (0 ≤ n) && decide (n < (↑b.2 : Int)) && Option.isSome b.1)
                (∃ (n_1 : Int),
                  World.cell? w1 (Sl.at b 1 (Int.toNat n)) = some (Value.int IntKind.u8 n_1) ∧
                    ∀ (b : Nat) (w1_1 : World),
                      Upd [] [b] w1 w1_1 →
                        (World.heap w1_1)[b]? = some (Obj.cells { toList := SV.cells (SV.struct [SV.int IntKind.u8 n_1]) } 5) →
                          Vc.Append 5 1 1 s { ptr := some { block := b, off := 0 }, len := 1, cap := 1 } [] w1_1 fun (r : Sl) (w : World) =>
                            I r (wr IntKind.i64 (n + 1)) w ∧ M r (wr IntKind.i64 (n + 1)) w < M s n w1))
              (R (SV.slice s) w1)
theorem f41_of (b : Sl) (lo : Int) (hi : Int) (w : World) (R : SV → World → Prop) (h : vc41 b lo hi w R) : Ret Try.prog 41 [.slice b, .int .i64 lo, .int .i64 hi] w R :=
  have e : vc41 b lo hi w R = fnVC X Try.f41 a41 [.slice b, .int .i64 lo, .int .i64 hi] w R := by kernel_rfl
  fnVC_sound X_ok (n := a41) (e ▸ h) (by kernel_rfl) (by kernel_rfl) rfl rfl

end Go.Vc.S5
