import Derived.Test.YtncgcdicadibbaaAnnr2
import Derived.Test.YtncgcdicadibbaaNum
import Derived.KernelRfl
open Go Go.Vc Go.Vc.S2 Go.Proofs
set_option maxRecDepth 100000
set_option linter.unusedVariables false
namespace Go.Vc.S2
def vc27 (src_0 : Int) (src_1 : Nat → Int) (dst_0 : Int) (dst_1 : Nat → Int) (proto : Int) (n : Int) (w : World) (R : SV → World → Prop) : Prop :=
  ∀ (b b_1 : Nat) (w1 : World),
    Upd [] [b_1, b] w w1 →
      Ret Try.prog 42 [SV.struct [SV.int IntKind.i64 src_0, SV.arr IntKind.u8 16 src_1]] w1 fun (r : SV) (w1_1 : World) =>
        ∃ (n_1 : Int),
          r = SV.int IntKind.i64 n_1 ∧
            Keeps [b, b_1] w1 w1_1 ∧
              ∀ (J : World → Prop),
                (∀ (w1 : World),
                    (∀ (J : World → Prop),
                        (∀ (w1 : World),
                            Br (n_1 == 4)
                                (∀ (b_2 : Nat) (w1_2 : World),
                                  Upd [] [b_2] w1 w1_2 →
                                    (World.heap w1_2)[b_2]? =
                                        some
                                          (Obj.cells
                                            {
                                              toList :=
                                                SV.cells
                                                  (SV.struct
                                                    [SV.int IntKind.u8 (src_1 0), SV.int IntKind.u8 (src_1 1), SV.int IntKind.u8 (src_1 2), SV.int IntKind.u8 (src_1 3),
                                                      SV.int IntKind.u8 (dst_1 0), SV.int IntKind.u8 (dst_1 1), SV.int IntKind.u8 (dst_1 2), SV.int IntKind.u8 (dst_1 3)]) }
                                            5) →
                                      Vc.Append 5 1 1 { ptr := none, len := 0, cap := 0 } { ptr := some { block := b_2, off := 0 }, len := 8, cap := 8 } [b, b_1] w1_2
                                        fun (r : Sl) (w : World) =>
                                        ∀ (b_3 : Nat) (w1 : World),
                                          Upd [] [b_3] w w1 →
                                            (World.heap w1)[b_3]? =
                                                some
                                                  (Obj.cells
                                                    {
                                                      toList :=
                                                        SV.cells
                                                          (SV.struct
                                                            [SV.int IntKind.u8 0, SV.int IntKind.u8 (wr IntKind.u8 proto),
                                                              SV.int IntKind.u8 (wr IntKind.u8 (wr IntKind.i64 (Int.tdiv n 256))),
                                                              SV.int IntKind.u8 (wr IntKind.u8 (Int.tmod n 256))]) }
                                                    5) →
                                              Vc.Append 5 1 1 r { ptr := some { block := b_3, off := 0 }, len := 4, cap := 4 } [b, b_1] w1 fun (r : Sl) (w : World) =>
                                                R (SV.tuple [SV.slice r, SV.int IntKind.i64 0]) w)
                                (∃ (I : Sl → Int → World → Prop),
                                  ∃ (M : Sl → Int → World → Nat),
                                    I { ptr := none, len := 0, cap := 0 } 0 w1 ∧
                                      ∀ (s : Sl) (n_2 : Int) (w1 : World),
                                        I s n_2 w1 →
                                          Br (decide (n_2 < 16))
                                            (Need (decide (0 ≤ n_2) && decide (n_2 < 16))
                                              (∀ (b_2 : Nat) (w1_2 : World),
                                                Upd [] [b_2] w1 w1_2 →
                                                  (World.heap w1_2)[b_2]? = some (Obj.cells { toList := SV.cells (SV.struct [SV.int IntKind.u8 (src_1 (Int.toNat n_2))]) } 5) →
                                                    Vc.Append 5 1 1 s { ptr := some { block := b_2, off := 0 }, len := 1, cap := 1 } [b, b_1] w1_2 fun (r : Sl) (w : World) =>
                                                      some (SV.box b 41 (SV.struct [SV.int IntKind.i64 src_0, SV.arr IntKind.u8 16 src_1])) =
                                                          some (SV.box b 41 (SV.struct [SV.int IntKind.i64 src_0, SV.arr IntKind.u8 16 src_1])) ∧
                                                        some (SV.box b_1 41 (SV.struct [SV.int IntKind.i64 dst_0, SV.arr IntKind.u8 16 dst_1])) =
                                                            some (SV.box b_1 41 (SV.struct [SV.int IntKind.i64 dst_0, SV.arr IntKind.u8 16 dst_1])) ∧
                                                          I r (wr IntKind.i64 (n_2 + 1)) w ∧ M r (wr IntKind.i64 (n_2 + 1)) w < M s n_2 w1))
                                            (∃ (I : Sl → Int → World → Prop),
                                              ∃ (M : Sl → Int → World → Nat),
                                                I s 0 w1 ∧
                                                  ∀ (s : Sl) (n_3 : Int) (w1 : World),
                                                    I s n_3 w1 →
                                                      Br (decide (n_3 < 16))
                                                        (Need (decide (0 ≤ n_3) && decide (n_3 < 16))
                                                          (∀ (b_2 : Nat) (w1_2 : World),
                                                            Upd [] [b_2] w1 w1_2 →
                                                              (World.heap w1_2)[b_2]? =
                                                                  some (Obj.cells { toList := SV.cells (SV.struct [SV.int IntKind.u8 (dst_1 (Int.toNat n_3))]) } 5) →
                                                                Vc.Append 5 1 1 s { ptr := some { block := b_2, off := 0 }, len := 1, cap := 1 } [b, b_1] w1_2
                                                                  fun (r : Sl) (w : World) =>
                                                                  some (SV.box b 41 (SV.struct [SV.int IntKind.i64 src_0, SV.arr IntKind.u8 16 src_1])) =
                                                                      some (SV.box b 41 (SV.struct [SV.int IntKind.i64 src_0, SV.arr IntKind.u8 16 src_1])) ∧
                                                                    some (SV.box b_1 41 (SV.struct [SV.int IntKind.i64 dst_0, SV.arr IntKind.u8 16 dst_1])) =
                                                                        some (SV.box b_1 41 (SV.struct [SV.int IntKind.i64 dst_0, SV.arr IntKind.u8 16 dst_1])) ∧
                                                                      I r (wr IntKind.i64 (n_3 + 1)) w ∧ M r (wr IntKind.i64 (n_3 + 1)) w < M s n_3 w1))
                                                        (∀ (b_2 : Nat) (w1_2 : World),
                                                          Upd [] [b_2] w1 w1_2 →
                                                            (World.heap w1_2)[b_2]? =
                                                                some
                                                                  (Obj.cells
                                                                    {
                                                                      toList :=
                                                                        SV.cells
                                                                          (SV.struct
                                                                            [SV.int IntKind.u8 0, SV.int IntKind.u8 0,
                                                                              SV.int IntKind.u8 (wr IntKind.u8 (wr IntKind.i64 (Int.tdiv n 256))),
                                                                              SV.int IntKind.u8 (wr IntKind.u8 (Int.tmod n 256)), SV.int IntKind.u8 0, SV.int IntKind.u8 0,
                                                                              SV.int IntKind.u8 0, SV.int IntKind.u8 (wr IntKind.u8 proto)]) }
                                                                    5) →
                                                              Vc.Append 5 1 1 s { ptr := some { block := b_2, off := 0 }, len := 8, cap := 8 } [b, b_1] w1_2
                                                                fun (r : Sl) (w : World) => R (SV.tuple [SV.slice r, SV.int IntKind.i64 0]) w))) →
                              J w1) →
                          Br (decide (proto < 0)) (R (SV.tuple [SV.slice { ptr := none, len := 0, cap := 0 }, SV.int IntKind.i64 1]) w1)
                            (Br (decide (proto > 255)) (R (SV.tuple [SV.slice { ptr := none, len := 0, cap := 0 }, SV.int IntKind.i64 1]) w1)
                              (Br (decide (n < 0)) (R (SV.tuple [SV.slice { ptr := none, len := 0, cap := 0 }, SV.int IntKind.i64 1]) w1)
                                (Br (decide (n > 65535)) (R (SV.tuple [SV.slice { ptr := none, len := 0, cap := 0 }, SV.int IntKind.i64 1]) w1)
                                  (some (SV.box b 41 (SV.struct [SV.int IntKind.i64 src_0, SV.arr IntKind.u8 16 src_1])) =
                                      some (SV.box b 41 (SV.struct [SV.int IntKind.i64 src_0, SV.arr IntKind.u8 16 src_1])) ∧
                                    some (SV.box b_1 41 (SV.struct [SV.int IntKind.i64 dst_0, SV.arr IntKind.u8 16 dst_1])) =
                                        some (SV.box b_1 41 (SV.struct [SV.int IntKind.i64 dst_0, SV.arr IntKind.u8 16 dst_1])) ∧
                                      J w1))))) →
                      J w1) →
                  Br (n_1 == 0) (R (SV.tuple [SV.slice { ptr := none, len := 0, cap := 0 }, SV.int IntKind.i64 20]) w1_1)
                    (Ret Try.prog 42 [SV.struct [SV.int IntKind.i64 dst_0, SV.arr IntKind.u8 16 dst_1]] w1_1 fun (r : SV) (w1 : World) =>
                      ∃ (n : Int),
                        r = SV.int IntKind.i64 n ∧
                          Keeps [b, b_1] w1_1 w1 ∧
                            Br (n != n_1) (R (SV.tuple [SV.slice { ptr := none, len := 0, cap := 0 }, SV.int IntKind.i64 20]) w1)
                              (some (SV.box b 41 (SV.struct [SV.int IntKind.i64 src_0, SV.arr IntKind.u8 16 src_1])) =
                                  some (SV.box b 41 (SV.struct [SV.int IntKind.i64 src_0, SV.arr IntKind.u8 16 src_1])) ∧
                                some (SV.box b_1 41 (SV.struct [SV.int IntKind.i64 dst_0, SV.arr IntKind.u8 16 dst_1])) =
                                    some (SV.box b_1 41 (SV.struct [SV.int IntKind.i64 dst_0, SV.arr IntKind.u8 16 dst_1])) ∧
                                  J w1))
theorem f27_of (src_0 : Int) (src_1 : Nat → Int) (dst_0 : Int) (dst_1 : Nat → Int) (proto : Int) (n : Int) (w : World) (R : SV → World → Prop) (h : vc27 src_0 src_1 dst_0 dst_1 proto n w R) : Ret Try.prog 27 [.struct [.int .i64 src_0, .arr .u8 16 src_1], .struct [.int .i64 dst_0, .arr .u8 16 dst_1], .int .i64 proto, .int .i64 n] w R :=
  have e : vc27 src_0 src_1 dst_0 dst_1 proto n w R = fnVC X Try.f27 a27 [.struct [.int .i64 src_0, .arr .u8 16 src_1], .struct [.int .i64 dst_0, .arr .u8 16 dst_1], .int .i64 proto, .int .i64 n] w R := by kernel_rfl
  fnVC_sound X_ok (n := a27) (e ▸ h) (by kernel_rfl) (by kernel_rfl) rfl

def vc42 (ip_0 : Int) (ip_1 : Nat → Int) (w : World) (R : SV → World → Prop) : Prop :=
  ∀ (b : Nat),
    Br (ip_0 == 6) (∀ (w1 : World), Upd [] [b] w w1 → R (SV.int IntKind.i64 6) w1)
      (∃ (I : Int → World → Prop),
        ∃ (M : Int → World → Nat),
          (∀ (w1 : World), Upd [] [b] w w1 → I 4 w1) ∧
            ∀ (n : Int) (w1 : World),
              I n w1 →
                Br (decide (n < 16))
                  (Need (decide (0 ≤ n) && decide (n < 16))
                    (Br (ip_1 (Int.toNat n) != 0) (R (SV.int IntKind.i64 0) w1)
                      (some (SV.box b 41 (SV.struct [SV.int IntKind.i64 ip_0, SV.arr IntKind.u8 16 ip_1])) =
                          some (SV.box b 41 (SV.struct [SV.int IntKind.i64 ip_0, SV.arr IntKind.u8 16 ip_1])) ∧
                        I (wr IntKind.i64 (n + 1)) w1 ∧ M (wr IntKind.i64 (n + 1)) w1 < M n w1)))
                  (Br (ip_0 == 4) (R (SV.int IntKind.i64 4) w1) (R (SV.int IntKind.i64 0) w1)))
theorem f42_of (ip_0 : Int) (ip_1 : Nat → Int) (w : World) (R : SV → World → Prop) (h : vc42 ip_0 ip_1 w R) : Ret Try.prog 42 [.struct [.int .i64 ip_0, .arr .u8 16 ip_1]] w R :=
  have e : vc42 ip_0 ip_1 w R = fnVC X Try.f42 a42 [.struct [.int .i64 ip_0, .arr .u8 16 ip_1]] w R := by kernel_rfl
  fnVC_sound X_ok (n := a42) (e ▸ h) (by kernel_rfl) (by kernel_rfl) rfl

def vc33 (parts : Sl) (w : World) (R : SV → World → Prop) : Prop :=
  ∃ (I : Sl → Int → World → Prop),
    ∃ (M : Sl → Int → World → Nat),
      I { ptr := none, len := 0, cap := 0 } 0 w ∧
        ∀ (s : Sl) (n : Int) (w1 : World),
          I s n w1 →
            Br (decide (n < (↑parts.2 : Int)))
              (Need (decide (0 ≤ n) && decide (n < (↑parts.2 : Int)) && Option.isSome parts.1)
                (∃ (s_1 : Sl),
                  World.cell? w1 (Sl.at parts 1 (Int.toNat n)) = some (Sl.val s_1) ∧
                    Ret Try.prog 46 [SV.slice s_1] w1 fun (r : SV) (w1_1 : World) =>
                      ∃ (s_2 : Sl),
                        r = SV.slice s_2 ∧
                          ∀ (b : Nat) (w1_2 : World),
                            Upd [] [b] w1_1 w1_2 →
                              (World.heap w1_2)[b]? = some (Obj.cells { toList := SV.cells (SV.struct [SV.slice s_2]) } 24) →
                                Vc.Append 24 1 24 s { ptr := some { block := b, off := 0 }, len := 1, cap := 1 } [] w1_2 fun (r : Sl) (w : World) =>
                                  I r (wr IntKind.i64 (n + 1)) w ∧ M r (wr IntKind.i64 (n + 1)) w < M s n w1))
              (∃ (I : Sl → Int → World → Prop),
                ∃ (M : Sl → Int → World → Nat),
                  I s 0 w1 ∧
                    ∀ (s : Sl) (n : Int) (w1 : World),
                      I s n w1 →
                        Br (decide (n < wr IntKind.i64 ((↑parts.2 : Int) + 9)))
                          (∀ (b : Nat) (w1_1 : World),
                            Upd [] [b] w1 w1_1 →
                              (World.heap w1_1)[b]? = some (Obj.cells { toList := SV.cells (SV.struct [SV.int IntKind.u8 (wr IntKind.u8 n), SV.int IntKind.u8 7]) } 5) →
                                ∀ (b_1 : Nat) (w1_2 : World),
                                  Upd [] [b_1] w1_1 w1_2 →
                                    (World.heap w1_2)[b_1]? =
                                        some (Obj.cells { toList := SV.cells (SV.struct [SV.slice { ptr := some { block := b, off := 0 }, len := 2, cap := 2 }]) } 24) →
                                      Vc.Append 24 1 24 s { ptr := some { block := b_1, off := 0 }, len := 1, cap := 1 } [] w1_2 fun (r : Sl) (w : World) =>
                                        I r (wr IntKind.i64 (n + 1)) w ∧ M r (wr IntKind.i64 (n + 1)) w < M s n w1)
                          (Need (decide (0 ≤ (↑parts.2 : Int)) && decide ((↑parts.2 : Int) ≤ (↑s.3 : Int))) (R (SV.slice (Sl.sub s 1 0 (Int.toNat (↑parts.2 : Int)) s.3)) w1)))
theorem f33_of (parts : Sl) (w : World) (R : SV → World → Prop) (h : vc33 parts w R) : Ret Try.prog 33 [.slice parts] w R :=
  have e : vc33 parts w R = fnVC X Try.f33 a33 [.slice parts] w R := by kernel_rfl
  fnVC_sound X_ok (n := a33) (e ▸ h) (by kernel_rfl) (by kernel_rfl) rfl

def vc34 (b : Sl) (w : World) (R : SV → World → Prop) : Prop :=
  Vc.Append 5 1 1 { ptr := none, len := 0, cap := 0 } b [] w fun (r : Sl) (w : World) => R (SV.slice r) w
theorem f34_of (b : Sl) (w : World) (R : SV → World → Prop) (h : vc34 b w R) : Ret Try.prog 34 [.slice b] w R :=
  have e : vc34 b w R = fnVC X Try.f34 a34 [.slice b] w R := by kernel_rfl
  fnVC_sound X_ok (n := a34) (e ▸ h) (by kernel_rfl) (by kernel_rfl) rfl

def vc35 (p0 : Sl) (parts : Sl) (w : World) (R : SV → World → Prop) : Prop :=
  Br ((↑p0.2 : Int) != (↑parts.2 : Int)) (R (SV.bool false) w)
    (∃ (I : Int → World → Prop),
      ∃ (M : Int → World → Nat),
        I 0 w ∧
          ∀ (n : Int) (w1 : World),
            I n w1 →
              Br (decide (n < (↑p0.2 : Int)))
                (Need (decide (0 ≤ n) && decide (n < (↑p0.2 : Int)) && Option.isSome p0.1)
                  (∃ (s : Sl),
                    World.cell? w1 (Sl.at p0 1 (Int.toNat n)) = some (Sl.val s) ∧
                      Need (decide (0 ≤ n) && decide (n < (↑parts.2 : Int)) && Option.isSome parts.1)
                        (∃ (s_1 : Sl),
                          World.cell? w1 (Sl.at parts 1 (Int.toNat n)) = some (Sl.val s_1) ∧
                            ∀ (w1_1 : World),
                              Upd [] [] w1 w1_1 →
                                Ret Try.prog 47 [SV.slice s, SV.slice s_1] w1_1 fun (r : SV) (w1_2 : World) =>
                                  ∃ (b : Bool), r = SV.bool b ∧ Br (!b) (R (SV.bool false) w1_2) (I (wr IntKind.i64 (n + 1)) w1_2 ∧ M (wr IntKind.i64 (n + 1)) w1_2 < M n w1))))
                (Need (decide (0 ≤ wr IntKind.i64 (wr IntKind.i64 (2 * (↑parts.2 : Int)) + 9)) && decide (wr IntKind.i64 (wr IntKind.i64 (2 * (↑parts.2 : Int)) + 9) ≤ (↑p0.3 : Int)))
                  (∃ (I : Int → World → Prop),
                    ∃ (M : Int → World → Nat),
                      I 0 w1 ∧
                        ∀ (n : Int) (w1 : World),
                          I n w1 →
                            Br (decide (n < wr IntKind.i64 ((↑parts.2 : Int) + 9)))
                              (∀ (J : World → Prop),
                                (∀ (w1_1 : World), I (wr IntKind.i64 (n + 1)) w1_1 ∧ M (wr IntKind.i64 (n + 1)) w1_1 < M n w1 → J w1_1) →
                                  Need
                                    (decide (0 ≤ wr IntKind.i64 ((↑parts.2 : Int) + n)) &&
                                        decide
                                          (wr IntKind.i64 ((↑parts.2 : Int) + n) <
                                            (↑(Sl.sub p0 1 0 (Int.toNat (wr IntKind.i64 (wr IntKind.i64 (2 * (↑parts.2 : Int)) + 9))) p0.3).2 : Int)) &&
                                      Option.isSome (Sl.sub p0 1 0 (Int.toNat (wr IntKind.i64 (wr IntKind.i64 (2 * (↑parts.2 : Int)) + 9))) p0.3).1)
                                    (∃ (s : Sl),
                                      World.cell? w1
                                            (Sl.at (Sl.sub p0 1 0 (Int.toNat (wr IntKind.i64 (wr IntKind.i64 (2 * (↑parts.2 : Int)) + 9))) p0.3) 1
                                              (Int.toNat (wr IntKind.i64 ((↑parts.2 : Int) + n)))) =
                                          some (Sl.val s) ∧
                                        Br ((↑s.2 : Int) != 2) (R (SV.bool false) w1)
                                          (Need (decide (0 < (↑s.2 : Int)) && Option.isSome s.1)
                                            (∃ (n_1 : Int),
                                              World.cell? w1 (Sl.at s 1 0) = some (Value.int IntKind.u8 n_1) ∧
                                                Br (n_1 != wr IntKind.u8 n) (R (SV.bool false) w1)
                                                  (Need (decide (1 < (↑s.2 : Int)) && Option.isSome s.1)
                                                    (∃ (n : Int), World.cell? w1 (Sl.at s 1 1) = some (Value.int IntKind.u8 n) ∧ Br (n != 7) (R (SV.bool false) w1) (J w1)))))))
                              (R (SV.bool true) w1))))
theorem f35_of (p0 : Sl) (parts : Sl) (w : World) (R : SV → World → Prop) (h : vc35 p0 parts w R) : Ret Try.prog 35 [.slice p0, .slice parts] w R :=
  have e : vc35 p0 parts w R = fnVC X Try.f35 a35 [.slice p0, .slice parts] w R := by kernel_rfl
  fnVC_sound X_ok (n := a35) (e ▸ h) (by kernel_rfl) (by kernel_rfl) rfl

def vc36 (l : Sl) (t_0 : Int) (t_1 : Int) (t_2 : Int) (t_3 : Bool) (w : World) (R : SV → World → Prop) : Prop :=
  ∀ (b : Nat),
    Br ((↑l.2 : Int) == 0) (∀ (w1 : World), Upd [] [b] w w1 → R (SV.tuple []) w1)
      (∀ (w1 : World),
        Upd [] [b] w w1 →
          Ret Try.prog 48 [SV.int IntKind.i64 t_0, SV.int IntKind.i64 (↑l.2 : Int)] w1 fun (r : SV) (w1_1 : World) =>
            ∃ (n : Int),
              r = SV.int IntKind.i64 n ∧
                Keeps [b] w1 w1_1 ∧
                  Br t_3
                    (Br (decide (wr IntKind.i64 (n + 1) < (↑l.2 : Int)))
                      (Need (decide (0 ≤ wr IntKind.i64 (n + 1)) && decide (wr IntKind.i64 (n + 1) < (↑l.2 : Int)) && Option.isSome l.1)
                        (∃ (s : Sl),
                          World.cell? w1_1 (Sl.at l 1 (Int.toNat (wr IntKind.i64 (n + 1)))) = some (Sl.val s) ∧
                            Need (decide (0 ≤ n) && decide (n < (↑l.2 : Int)) && Option.isSome l.1)
                              (∃ (s_1 : Sl),
                                World.cell? w1_1 (Sl.at l 1 (Int.toNat n)) = some (Sl.val s_1) ∧
                                  Need (decide (0 ≤ n) && decide (n < (↑l.2 : Int)) && Option.isSome l.1)
                                    (∀ (w1 : World),
                                      Upd [] [] w1_1 w1 →
                                        Store w1 (Sl.at l 1 (Int.toNat n)) (SV.cells (SV.slice s)) [b] fun (w1 : World) =>
                                          Need (decide (0 ≤ wr IntKind.i64 (n + 1)) && decide (wr IntKind.i64 (n + 1) < (↑l.2 : Int)) && Option.isSome l.1)
                                            (Store w1 (Sl.at l 1 (Int.toNat (wr IntKind.i64 (n + 1)))) (SV.cells (SV.slice s_1)) [b] fun (w1 : World) => R (SV.tuple []) w1)))))
                      (Need (decide (0 ≤ n) && decide (n < (↑l.2 : Int)) && Option.isSome l.1)
                        (∃ (s : Sl),
                          World.cell? w1_1 (Sl.at l 1 (Int.toNat n)) = some (Sl.val s) ∧
                            Br (decide ((↑s.2 : Int) > 0))
                              (Need (decide (0 ≤ n) && decide (n < (↑l.2 : Int)) && Option.isSome l.1)
                                (∃ (s : Sl),
                                  World.cell? w1_1 (Sl.at l 1 (Int.toNat n)) = some (Sl.val s) ∧
                                    Need (decide (0 ≤ n) && decide (n < (↑l.2 : Int)) && Option.isSome l.1)
                                      (∃ (s_1 : Sl),
                                        World.cell? w1_1 (Sl.at l 1 (Int.toNat n)) = some (Sl.val s_1) ∧
                                          ∀ (w1 : World),
                                            Upd [] [] w1_1 w1 →
                                              Ret Try.prog 48 [SV.int IntKind.i64 t_1, SV.int IntKind.i64 (↑s_1.2 : Int)] w1 fun (r : SV) (w1_2 : World) =>
                                                ∃ (n : Int),
                                                  r = SV.int IntKind.i64 n ∧
                                                    Keeps [b] w1 w1_2 ∧
                                                      Upd [] [] w1_1 w1_2 ∧
                                                        Need (decide (0 ≤ n) && decide (n < (↑s.2 : Int)) && Option.isSome s.1)
                                                          (Store w1_2 (Sl.at s 1 (Int.toNat n)) (SV.cells (SV.int IntKind.u8 t_2)) [b] fun (w1 : World) => R (SV.tuple []) w1))))
                              (R (SV.tuple []) w1_1))))
                    (Need (decide (0 ≤ n) && decide (n < (↑l.2 : Int)) && Option.isSome l.1)
                      (∃ (s : Sl),
                        World.cell? w1_1 (Sl.at l 1 (Int.toNat n)) = some (Sl.val s) ∧
                          Br (decide ((↑s.2 : Int) > 0))
                            (Need (decide (0 ≤ n) && decide (n < (↑l.2 : Int)) && Option.isSome l.1)
                              (∃ (s : Sl),
                                World.cell? w1_1 (Sl.at l 1 (Int.toNat n)) = some (Sl.val s) ∧
                                  Need (decide (0 ≤ n) && decide (n < (↑l.2 : Int)) && Option.isSome l.1)
                                    (∃ (s_1 : Sl),
                                      World.cell? w1_1 (Sl.at l 1 (Int.toNat n)) = some (Sl.val s_1) ∧
                                        ∀ (w1 : World),
                                          Upd [] [] w1_1 w1 →
                                            Ret Try.prog 48 [SV.int IntKind.i64 t_1, SV.int IntKind.i64 (↑s_1.2 : Int)] w1 fun (r : SV) (w1_2 : World) =>
                                              ∃ (n : Int),
                                                r = SV.int IntKind.i64 n ∧
                                                  Keeps [b] w1 w1_2 ∧
                                                    Upd [] [] w1_1 w1_2 ∧
                                                      Need (decide (0 ≤ n) && decide (n < (↑s.2 : Int)) && Option.isSome s.1)
                                                        (Store w1_2 (Sl.at s 1 (Int.toNat n)) (SV.cells (SV.int IntKind.u8 t_2)) [b] fun (w1 : World) => R (SV.tuple []) w1))))
                            (R (SV.tuple []) w1_1))))
theorem f36_of (l : Sl) (t_0 : Int) (t_1 : Int) (t_2 : Int) (t_3 : Bool) (w : World) (R : SV → World → Prop) (h : vc36 l t_0 t_1 t_2 t_3 w R) : Ret Try.prog 36 [.slice l, .struct [.int .i64 t_0, .int .i64 t_1, .int .u8 t_2, .bool t_3]] w R :=
  have e : vc36 l t_0 t_1 t_2 t_3 w R = fnVC X Try.f36 a36 [.slice l, .struct [.int .i64 t_0, .int .i64 t_1, .int .u8 t_2, .bool t_3]] w R := by kernel_rfl
  fnVC_sound X_ok (n := a36) (e ▸ h) (by kernel_rfl) (by kernel_rfl) rfl

def vc37 (n : Int) (w : World) (R : SV → World → Prop) : Prop :=
  ∃ (I : Int → World → Prop),
    ∃ (M : Int → World → Nat),
      I n w ∧
        ∀ (n : Int) (w1 : World),
          I n w1 →
            Br (decide (n > 65535))
              (I (wr IntKind.i64 (iand IntKind.i64 n 65535 + gshr IntKind.i64 n 16)) w1 ∧ M (wr IntKind.i64 (iand IntKind.i64 n 65535 + gshr IntKind.i64 n 16)) w1 < M n w1)
              (R (SV.int IntKind.i64 n) w1)
theorem f37_of (n : Int) (w : World) (R : SV → World → Prop) (h : vc37 n w R) : Ret Try.prog 37 [.int .i64 n] w R :=
  have e : vc37 n w R = fnVC X Try.f37 a37 [.int .i64 n] w R := by kernel_rfl
  fnVC_sound X_ok (n := a37) (e ▸ h) (by kernel_rfl) (by kernel_rfl) rfl

def vc38 (l : Sl) (w : World) (R : SV → World → Prop) : Prop :=
  ∃ (I : Int → Int → World → Prop),
    ∃ (M : Int → Int → World → Nat),
      I 70 0 w ∧
        ∀ (n n_1 : Int) (w1 : World),
          I n n_1 w1 →
            Br (decide (n_1 < (↑l.2 : Int)))
              (Need (decide (0 ≤ n_1) && decide (n_1 < (↑l.2 : Int)) && Option.isSome l.1)
                (∃ (s : Sl),
                  World.cell? w1 (Sl.at l 1 (Int.toNat n_1)) = some (Sl.val s) ∧
                    ∃ (I_1 : Int → World → Prop),
                      ∃ (M_1 : Int → World → Nat),
                        I_1 0 w1 ∧
                          ∀ (n_2 : Int) (w1_1 : World),
                            I_1 n_2 w1_1 →
                              Need (decide (0 ≤ n_1) && decide (n_1 < (↑l.2 : Int)) && Option.isSome l.1)
                                (∃ (s_1 : Sl),
                                  World.cell? w1_1 (Sl.at l 1 (Int.toNat n_1)) = some (Sl.val s_1) ∧
                                    Br (decide (n_2 < (↑s_1.2 : Int)))
                                      (Need (decide (0 ≤ n_1) && decide (n_1 < (↑l.2 : Int)) && Option.isSome l.1)
                                        (∃ (s : Sl),
                                          World.cell? w1_1 (Sl.at l 1 (Int.toNat n_1)) = some (Sl.val s) ∧
                                            Need (decide (0 ≤ n_2) && decide (n_2 < (↑s.2 : Int)) && Option.isSome s.1)
                                              (Store w1_1 (Sl.at s 1 (Int.toNat n_2)) (SV.cells (SV.int IntKind.u8 (wr IntKind.u8 (wr IntKind.i64 (Int.tmod n_1 200 + 40))))) []
                                                fun (w1 : World) => I_1 (wr IntKind.i64 (n_2 + 1)) w1 ∧ M_1 (wr IntKind.i64 (n_2 + 1)) w1 < M_1 n_2 w1_1)))
                                      (I (wr IntKind.i64 (n + (↑s.2 : Int))) (wr IntKind.i64 (n_1 + 1)) w1_1 ∧
                                        M (wr IntKind.i64 (n + (↑s.2 : Int))) (wr IntKind.i64 (n_1 + 1)) w1_1 < M n n_1 w1))))
              (∃ (I : Sl → Int → World → Prop),
                ∃ (M : Sl → Int → World → Nat),
                  I { ptr := none, len := 0, cap := 0 } 0 w1 ∧
                    ∀ (s : Sl) (n_2 : Int) (w1 : World),
                      I s n_2 w1 →
                        Br (decide (n_2 < (↑l.2 : Int)))
                          (Need (decide (0 ≤ n_2) && decide (n_2 < (↑l.2 : Int)) && Option.isSome l.1)
                            (∃ (s_1 : Sl),
                              World.cell? w1 (Sl.at l 1 (Int.toNat n_2)) = some (Sl.val s_1) ∧
                                ∃ (I_1 : Sl → Int → World → Prop),
                                  ∃ (M_1 : Sl → Int → World → Nat),
                                    I_1 s_1 0 w1 ∧
                                      ∀ (s_2 : Sl) (n_3 : Int) (w1_1 : World),
                                        I_1 s_2 n_3 w1_1 →
                                          Br (decide (n_3 < n))
                                            (∀ (b : Nat) (w1 : World),
                                              Upd [] [b] w1_1 w1 →
                                                (World.heap w1)[b]? =
                                                    some
                                                      (Obj.cells { toList := SV.cells (SV.struct [SV.int IntKind.u8 (wr IntKind.u8 (wr IntKind.i64 (Int.tmod n_2 200 + 40)))]) } 5) →
                                                  Vc.Append 5 1 1 s_2 { ptr := some { block := b, off := 0 }, len := 1, cap := 1 } [] w1 fun (r : Sl) (w : World) =>
                                                    I_1 r (wr IntKind.i64 (n_3 + 1)) w ∧ M_1 r (wr IntKind.i64 (n_3 + 1)) w < M_1 s_2 n_3 w1_1)
                                            (∀ (b : Nat) (w1_2 : World),
                                              Upd [] [b] w1_1 w1_2 →
                                                (World.heap w1_2)[b]? = some (Obj.cells { toList := SV.cells (SV.struct [SV.slice s_2]) } 24) →
                                                  Vc.Append 24 1 24 s { ptr := some { block := b, off := 0 }, len := 1, cap := 1 } [] w1_2 fun (r : Sl) (w : World) =>
                                                    I r (wr IntKind.i64 (n_2 + 1)) w ∧ M r (wr IntKind.i64 (n_2 + 1)) w < M s n_2 w1)))
                          (∃ (I : Int → World → Prop),
                            ∃ (M : Int → World → Nat),
                              I 0 w1 ∧
                                ∀ (n_3 : Int) (w1 : World),
                                  I n_3 w1 →
                                    Br (decide (n_3 < (↑l.2 : Int)))
                                      (∀ (J : World → Prop),
                                        (∀ (w1_1 : World), I (wr IntKind.i64 (n_3 + 1)) w1_1 ∧ M (wr IntKind.i64 (n_3 + 1)) w1_1 < M n_3 w1 → J w1_1) →
                                          Need (decide (0 ≤ n_3) && decide (n_3 < (↑l.2 : Int)) && Option.isSome l.1)
                                            (∃ (s_1 : Sl),
                                              World.cell? w1 (Sl.at l 1 (Int.toNat n_3)) = some (Sl.val s_1) ∧
                                                ∀ (w1_1 : World),
                                                  Upd [] [] w1 w1_1 →
                                                    Ret Try.prog 49 [SV.slice s_1, SV.int IntKind.u8 (wr IntKind.u8 (wr IntKind.i64 (Int.tmod n_3 200 + 40)))] w1_1
                                                      fun (r : SV) (w1_2 : World) =>
                                                      ∃ (b : Bool),
                                                        r = SV.bool b ∧
                                                          Upd [] [] w1 w1_2 ∧
                                                            Br (!b) (R (SV.bool false) w1_2)
                                                              (Need (decide (0 ≤ n_3) && decide (n_3 < (↑s.2 : Int)) && Option.isSome s.1)
                                                                (∃ (s_2 : Sl),
                                                                  World.cell? w1 (Sl.at s 1 (Int.toNat n_3)) = some (Sl.val s_2) ∧
                                                                    Ret Try.prog 49 [SV.slice s_2, SV.int IntKind.u8 (wr IntKind.u8 (wr IntKind.i64 (Int.tmod n_3 200 + 40)))] w1_2
                                                                      fun (r : SV) (w1_3 : World) =>
                                                                      ∃ (b : Bool),
                                                                        r = SV.bool b ∧
                                                                          Upd [] [] w1 w1_3 ∧
                                                                            Br (!b) (R (SV.bool false) w1_3)
                                                                              (Need (decide (0 ≤ n_3) && decide (n_3 < (↑s.2 : Int)) && Option.isSome s.1)
                                                                                (∃ (s_3 : Sl),
                                                                                  World.cell? w1 (Sl.at s 1 (Int.toNat n_3)) = some (Sl.val s_3) ∧
                                                                                    Need (decide (0 ≤ n_3) && decide (n_3 < (↑l.2 : Int)) && Option.isSome l.1)
                                                                                      (∃ (s : Sl),
                                                                                        World.cell? w1 (Sl.at l 1 (Int.toNat n_3)) = some (Sl.val s) ∧
                                                                                          Br ((↑s_3.2 : Int) != wr IntKind.i64 ((↑s.2 : Int) + n)) (R (SV.bool false) w1_3)
                                                                                            (J w1_3))))))))
                                      (R (SV.bool true) w1)))
theorem f38_of (l : Sl) (w : World) (R : SV → World → Prop) (h : vc38 l w R) : Ret Try.prog 38 [.slice l] w R :=
  have e : vc38 l w R = fnVC X Try.f38 a38 [.slice l] w R := by kernel_rfl
  fnVC_sound X_ok (n := a38) (e ▸ h) (by kernel_rfl) (by kernel_rfl) rfl

def vc44 (b : Sl) (p1 : Int) (w : World) (R : SV → World → Prop) : Prop :=
  Need (decide (0 ≤ p1) && decide (p1 < (↑b.2 : Int)) && Option.isSome b.1)
    (∃ (n : Int),
      World.cell? w (Sl.at b 1 (Int.toNat p1)) = some (Value.int IntKind.u8 n) ∧
        Br (decide (wr IntKind.i64 (p1 + 1) < (↑b.2 : Int)))
          (Need (decide (0 ≤ wr IntKind.i64 (p1 + 1)) && decide (wr IntKind.i64 (p1 + 1) < (↑b.2 : Int)) && Option.isSome b.1)
            (∃ (n_1 : Int),
              World.cell? w (Sl.at b 1 (Int.toNat (wr IntKind.i64 (p1 + 1)))) = some (Value.int IntKind.u8 n_1) ∧
                R (SV.int IntKind.i64 (wr IntKind.i64 (gshl IntKind.i64 (wr IntKind.i64 n) 8 + wr IntKind.i64 n_1))) w))
          (R (SV.int IntKind.i64 (gshl IntKind.i64 (wr IntKind.i64 n) 8)) w))
theorem f44_of (b : Sl) (p1 : Int) (w : World) (R : SV → World → Prop) (h : vc44 b p1 w R) : Ret Try.prog 44 [.slice b, .int .i64 p1] w R :=
  have e : vc44 b p1 w R = fnVC X Try.f44 a44 [.slice b, .int .i64 p1] w R := by kernel_rfl
  fnVC_sound X_ok (n := a44) (e ▸ h) (by kernel_rfl) (by kernel_rfl) rfl

def vc45 (b : Sl) (i : Int) (w : World) (R : SV → World → Prop) : Prop :=
  Br (decide (wr IntKind.i64 (i + 1) < (↑b.2 : Int)))
    (Need (decide (0 ≤ i) && decide (i < (↑b.2 : Int)) && Option.isSome b.1)
      (∃ (n : Int),
        World.cell? w (Sl.at b 1 (Int.toNat i)) = some (Value.int IntKind.u8 n) ∧
          Need (decide (0 ≤ wr IntKind.i64 (i + 1)) && decide (wr IntKind.i64 (i + 1) < (↑b.2 : Int)) && Option.isSome b.1)
            (∃ (n_1 : Int),
              World.cell? w (Sl.at b 1 (Int.toNat (wr IntKind.i64 (i + 1)))) = some (Value.int IntKind.u8 n_1) ∧
                ∀ (w1 : World), Upd [] [] w w1 → R (SV.int IntKind.i64 (wr IntKind.i64 (wr IntKind.i64 (wr IntKind.i64 n * 256) + wr IntKind.i64 n_1))) w1)))
    (Need (decide (0 ≤ i) && decide (i < (↑b.2 : Int)) && Option.isSome b.1)
      (∃ (n : Int), World.cell? w (Sl.at b 1 (Int.toNat i)) = some (Value.int IntKind.u8 n) ∧ R (SV.int IntKind.i64 (wr IntKind.i64 (wr IntKind.i64 n * 256))) w))
theorem f45_of (b : Sl) (i : Int) (w : World) (R : SV → World → Prop) (h : vc45 b i w R) : Ret Try.prog 45 [.slice b, .int .i64 i] w R :=
  have e : vc45 b i w R = fnVC X Try.f45 a45 [.slice b, .int .i64 i] w R := by kernel_rfl
  fnVC_sound X_ok (n := a45) (e ▸ h) (by kernel_rfl) (by kernel_rfl) rfl

def vc46 (b : Sl) (w : World) (R : SV → World → Prop) : Prop :=
  Need
    (decide (0 ≤ wr IntKind.i64 (wr IntKind.i64 (2 * (↑b.2 : Int)) + 70)) &&
          decide (wr IntKind.i64 (wr IntKind.i64 (2 * (↑b.2 : Int)) + 70) ≤ wr IntKind.i64 (wr IntKind.i64 (2 * (↑b.2 : Int)) + 70)) &&
        decide (wr IntKind.i64 (wr IntKind.i64 (2 * (↑b.2 : Int)) + 70) ≤ 281474976710656) &&
      decide (1 * wr IntKind.i64 (wr IntKind.i64 (2 * (↑b.2 : Int)) + 70) ≤ 281474976710656))
    (∀ (b_1 : Nat) (w1 : World),
      Upd [] [b_1] w w1 →
        (World.heap w1)[b_1]? = some (Obj.cells { toList := zerosOf (Ty.int IntKind.u8) (Int.toNat (wr IntKind.i64 (wr IntKind.i64 (2 * (↑b.2 : Int)) + 70))) } 5) →
          Copy 1
            { ptr := some { block := b_1, off := 0 }, len := Int.toNat (wr IntKind.i64 (wr IntKind.i64 (2 * (↑b.2 : Int)) + 70)),
              cap := Int.toNat (wr IntKind.i64 (wr IntKind.i64 (2 * (↑b.2 : Int)) + 70)) }
            b [] w1 fun (w : World) =>
            ∃ (I : Int → World → Prop),
              ∃ (M : Int → World → Nat),
                I (↑b.2 : Int) w ∧
                  ∀ (n : Int) (w1 : World),
                    I n w1 →
                      Br (decide (n < (↑(Int.toNat (wr IntKind.i64 (wr IntKind.i64 (2 * (↑b.2 : Int)) + 70))) : Int)))
                        (Ret Try.prog 50 [SV.int IntKind.i64 (wr IntKind.i64 (n - (↑b.2 : Int)))] w1 fun (r : SV) (w1_1 : World) =>
                          ∃ (n_1 : Int),
                            r = SV.int IntKind.u8 n_1 ∧
                              Need (decide (0 ≤ n) && decide (n < (↑(Int.toNat (wr IntKind.i64 (wr IntKind.i64 (2 * (↑b.2 : Int)) + 70))) : Int)) && true)
                                (Store w1_1
                                  (Sl.at
                                    { ptr := some { block := b_1, off := 0 }, len := Int.toNat (wr IntKind.i64 (wr IntKind.i64 (2 * (↑b.2 : Int)) + 70)),
                                      cap := Int.toNat (wr IntKind.i64 (wr IntKind.i64 (2 * (↑b.2 : Int)) + 70)) }
                                    1 (Int.toNat n))
                                  (SV.cells (SV.int IntKind.u8 n_1)) [] fun (w1_2 : World) => I (wr IntKind.i64 (n + 1)) w1_2 ∧ M (wr IntKind.i64 (n + 1)) w1_2 < M n w1))
                        (Need (decide (0 ≤ (↑b.2 : Int)) && decide ((↑b.2 : Int) ≤ (↑(Int.toNat (wr IntKind.i64 (wr IntKind.i64 (2 * (↑b.2 : Int)) + 70))) : Int)))
                          (R
                            (SV.slice
                              (Sl.sub
                                { ptr := some { block := b_1, off := 0 }, len := Int.toNat (wr IntKind.i64 (wr IntKind.i64 (2 * (↑b.2 : Int)) + 70)),
                                  cap := Int.toNat (wr IntKind.i64 (wr IntKind.i64 (2 * (↑b.2 : Int)) + 70)) }
                                1 0 (Int.toNat (↑b.2 : Int)) (Int.toNat (wr IntKind.i64 (wr IntKind.i64 (2 * (↑b.2 : Int)) + 70)))))
                            w1)))
theorem f46_of (b : Sl) (w : World) (R : SV → World → Prop) (h : vc46 b w R) : Ret Try.prog 46 [.slice b] w R :=
  have e : vc46 b w R = fnVC X Try.f46 a46 [.slice b] w R := by kernel_rfl
  fnVC_sound X_ok (n := a46) (e ▸ h) (by kernel_rfl) (by kernel_rfl) rfl

def vc47 (p0 : Sl) (b : Sl) (w : World) (R : SV → World → Prop) : Prop :=
  Br ((↑p0.2 : Int) != (↑b.2 : Int)) (R (SV.bool false) w)
    (Need (decide (0 ≤ wr IntKind.i64 (wr IntKind.i64 (2 * (↑b.2 : Int)) + 70)) && decide (wr IntKind.i64 (wr IntKind.i64 (2 * (↑b.2 : Int)) + 70) ≤ (↑p0.3 : Int)))
      (∃ (I : Int → World → Prop),
        ∃ (M : Int → World → Nat),
          I 0 w ∧
            ∀ (n : Int) (w1 : World),
              I n w1 →
                Br (decide (n < (↑(Sl.sub p0 1 0 (Int.toNat (wr IntKind.i64 (wr IntKind.i64 (2 * (↑b.2 : Int)) + 70))) p0.3).2 : Int)))
                  (∀ (J : World → Prop),
                    (∀ (w1_1 : World), I (wr IntKind.i64 (n + 1)) w1_1 ∧ M (wr IntKind.i64 (n + 1)) w1_1 < M n w1 → J w1_1) →
                      Br (decide (n < (↑b.2 : Int)))
                        (Need
                          (decide (0 ≤ n) && decide (n < (↑(Sl.sub p0 1 0 (Int.toNat (wr IntKind.i64 (wr IntKind.i64 (2 * (↑b.2 : Int)) + 70))) p0.3).2 : Int)) &&
                            Option.isSome (Sl.sub p0 1 0 (Int.toNat (wr IntKind.i64 (wr IntKind.i64 (2 * (↑b.2 : Int)) + 70))) p0.3).1)
                          (∃ (n_1 : Int),
                            World.cell? w1 (Sl.at (Sl.sub p0 1 0 (Int.toNat (wr IntKind.i64 (wr IntKind.i64 (2 * (↑b.2 : Int)) + 70))) p0.3) 1 (Int.toNat n)) =
                                some (Value.int IntKind.u8 n_1) ∧
                              Need (decide (0 ≤ n) && decide (n < (↑b.2 : Int)) && Option.isSome b.1)
                                (∃ (n_2 : Int),
                                  World.cell? w1 (Sl.at b 1 (Int.toNat n)) = some (Value.int IntKind.u8 n_2) ∧
                                    Br (n_1 != n_2) (∀ (w1_1 : World), Upd [] [] w1 w1_1 → R (SV.bool false) w1_1)
                                      (Br (decide (n ≥ (↑b.2 : Int)))
                                        (Need
                                          (decide (0 ≤ n) && decide (n < (↑(Sl.sub p0 1 0 (Int.toNat (wr IntKind.i64 (wr IntKind.i64 (2 * (↑b.2 : Int)) + 70))) p0.3).2 : Int)) &&
                                            Option.isSome (Sl.sub p0 1 0 (Int.toNat (wr IntKind.i64 (wr IntKind.i64 (2 * (↑b.2 : Int)) + 70))) p0.3).1)
                                          (∃ (n_3 : Int),
                                            World.cell? w1 (Sl.at (Sl.sub p0 1 0 (Int.toNat (wr IntKind.i64 (wr IntKind.i64 (2 * (↑b.2 : Int)) + 70))) p0.3) 1 (Int.toNat n)) =
                                                some (Value.int IntKind.u8 n_3) ∧
                                              ∀ (w1_1 : World),
                                                Upd [] [] w1 w1_1 →
                                                  Ret Try.prog 50 [SV.int IntKind.i64 (wr IntKind.i64 (n - (↑b.2 : Int)))] w1_1 fun (r : SV) (w1_2 : World) =>
                                                    ∃ (n : Int), r = SV.int IntKind.u8 n ∧ Upd [] [] w1 w1_2 ∧ Br (n_3 != n) (R (SV.bool false) w1_2) (J w1_2)))
                                        (∀ (w1_1 : World), Upd [] [] w1 w1_1 → J w1_1)))))
                        (Br (decide (n ≥ (↑b.2 : Int)))
                          (Need
                            (decide (0 ≤ n) && decide (n < (↑(Sl.sub p0 1 0 (Int.toNat (wr IntKind.i64 (wr IntKind.i64 (2 * (↑b.2 : Int)) + 70))) p0.3).2 : Int)) &&
                              Option.isSome (Sl.sub p0 1 0 (Int.toNat (wr IntKind.i64 (wr IntKind.i64 (2 * (↑b.2 : Int)) + 70))) p0.3).1)
                            (∃ (n_1 : Int),
                              World.cell? w1 (Sl.at (Sl.sub p0 1 0 (Int.toNat (wr IntKind.i64 (wr IntKind.i64 (2 * (↑b.2 : Int)) + 70))) p0.3) 1 (Int.toNat n)) =
                                  some (Value.int IntKind.u8 n_1) ∧
                                ∀ (w1_1 : World),
                                  Upd [] [] w1 w1_1 →
                                    Ret Try.prog 50 [SV.int IntKind.i64 (wr IntKind.i64 (n - (↑b.2 : Int)))] w1_1 fun (r : SV) (w1_2 : World) =>
                                      ∃ (n : Int), r = SV.int IntKind.u8 n ∧ Upd [] [] w1 w1_2 ∧ Br (n_1 != n) (R (SV.bool false) w1_2) (J w1_2)))
                          (∀ (w1_1 : World), Upd [] [] w1 w1_1 → J w1_1)))
                  (R (SV.bool true) w1)))
theorem f47_of (p0 : Sl) (b : Sl) (w : World) (R : SV → World → Prop) (h : vc47 p0 b w R) : Ret Try.prog 47 [.slice p0, .slice b] w R :=
  have e : vc47 p0 b w R = fnVC X Try.f47 a47 [.slice p0, .slice b] w R := by kernel_rfl
  fnVC_sound X_ok (n := a47) (e ▸ h) (by kernel_rfl) (by kernel_rfl) rfl

def vc48 (i : Int) (n : Int) (w : World) (R : SV → World → Prop) : Prop :=
  Need (n != 0) (R (SV.int IntKind.i64 (Int.tmod (iand IntKind.i64 i 1099511627775) n)) w)
theorem f48_of (i : Int) (n : Int) (w : World) (R : SV → World → Prop) (h : vc48 i n w R) : Ret Try.prog 48 [.int .i64 i, .int .i64 n] w R :=
  have e : vc48 i n w R = fnVC X Try.f48 a48 [.int .i64 i, .int .i64 n] w R := by kernel_rfl
  fnVC_sound X_ok (n := a48) (e ▸ h) (by kernel_rfl) (by kernel_rfl) rfl

def vc49 (l : Sl) (m : Int) (w : World) (R : SV → World → Prop) : Prop :=
  ∃ (I : Int → World → Prop),
    ∃ (M : Int → World → Nat),
      I 0 w ∧
        ∀ (n : Int) (w1 : World),
          I n w1 →
            Br (decide (n < (↑l.2 : Int)))
              (Need (decide (0 ≤ n) && decide (n < (↑l.2 : Int)) && Option.isSome l.1)
                (∃ (n_1 : Int),
                  World.cell? w1 (Sl.at l 1 (Int.toNat n)) = some (Value.int IntKind.u8 n_1) ∧
                    Br (n_1 != m) (R (SV.bool false) w1) (I (wr IntKind.i64 (n + 1)) w1 ∧ M (wr IntKind.i64 (n + 1)) w1 < M n w1)))
              (R (SV.bool true) w1)
theorem f49_of (l : Sl) (m : Int) (w : World) (R : SV → World → Prop) (h : vc49 l m w R) : Ret Try.prog 49 [.slice l, .int .u8 m] w R :=
  have e : vc49 l m w R = fnVC X Try.f49 a49 [.slice l, .int .u8 m] w R := by kernel_rfl
  fnVC_sound X_ok (n := a49) (e ▸ h) (by kernel_rfl) (by kernel_rfl) rfl

def vc50 (i : Int) (w : World) (R : SV → World → Prop) : Prop :=
  R (SV.int IntKind.u8 (wr IntKind.u8 (wr IntKind.i64 (203 - wr IntKind.i64 (5 * i))))) w
theorem f50_of (i : Int) (w : World) (R : SV → World → Prop) (h : vc50 i w R) : Ret Try.prog 50 [.int .i64 i] w R :=
  have e : vc50 i w R = fnVC X Try.f50 a50 [.int .i64 i] w R := by kernel_rfl
  fnVC_sound X_ok (n := a50) (e ▸ h) (by kernel_rfl) (by kernel_rfl) rfl

end Go.Vc.S2
