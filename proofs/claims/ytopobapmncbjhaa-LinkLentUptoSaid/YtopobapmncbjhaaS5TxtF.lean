import Derived.Test.YtopobapmncbjhaaAnnr5
import Derived.Test.YtopobapmncbjhaaNum
import Derived.KernelRfl
open Go Go.Vc Go.Vc.S5 Go.Proofs
set_option maxRecDepth 100000
set_option linter.unusedVariables false
namespace Go.Vc.S5
def vc20 (a_0 : Int) (a_1 : Nat → Int) (a_2_0 : Int) (a_2_1 : Nat → Int) (a_3 : Nat → Int) (a_4_0 : Int) (a_4_1 : Nat → Int) (w : World) (R : SV → World → Prop) : Prop :=
  ∀ (b : Nat) (w1 : World),
    Upd [] [b] w w1 →
      Ret Try.prog 42 [SV.int IntKind.i64 a_0, SV.arr IntKind.u8 6 a_1] w1 fun (r : SV) (w1_1 : World) =>
        ∃ (n : Int),
          r = SV.int IntKind.i64 n ∧
            Keeps [b] w1 w1_1 ∧
              Br (n != 0) (R (SV.tuple [SV.slice { ptr := none, len := 0, cap := 0 }, SV.int IntKind.i64 n]) w1_1)
                (∃ (I : Int → World → Prop),
                  ∃ (M : Int → World → Nat),
                    I 0 w1_1 ∧
                      ∀ (n : Int) (w1 : World),
                        I n w1 →
                          Br (decide (n < 2))
                            (Need (decide (0 ≤ n) && decide (n < (↑(1 + 1) : Int)))
                              ((Int.toNat n = 0 →
                                  ∀ (b_1 : Nat) (w1_2 : World),
                                    Upd [] [b_1] w1 w1_2 →
                                      (World.heap w1_2)[b_1]? = some (Obj.cells { toList := SV.cells (SV.struct [SV.int IntKind.i64 a_2_0, SV.arr IntKind.u8 16 a_2_1]) } 33) →
                                        ∃ (n_1 : Int),
                                          World.cell? w1_2 { block := b_1, off := 0 } = some (Value.int IntKind.i64 n_1) ∧
                                            ∃ (f : Nat → Int),
                                              (∀ (i : Nat), i < 16 → World.cell? w1_2 (Addr.add { block := b_1, off := 0 } (1 + i)) = some (Value.int IntKind.u8 (f i))) ∧
                                                Upd [] [] w1_2 w1_2 ∧
                                                  ∀ (w1_3 : World),
                                                    Upd [] [] w1_2 w1_3 →
                                                      Ret Try.prog 43 [SV.slice (Sl.sub { ptr := some (Addr.add { block := b_1, off := 0 } 1), len := 16, cap := 16 } 1 0 4 16)] w1_3
                                                        fun (r : SV) (w1_4 : World) =>
                                                        ∃ (n_2 : Int),
                                                          ∃ (f_1 : Nat → Int),
                                                            r = SV.struct [SV.int IntKind.i64 n_2, SV.arr IntKind.u8 16 f_1] ∧
                                                              Keeps [b] w1_3 w1_4 ∧
                                                                Upd [] [] w1_2 w1_4 ∧
                                                                  Br (!(n_1 == n_2 && eqArr 16 f f_1))
                                                                    (R (SV.tuple [SV.slice { ptr := none, len := 0, cap := 0 }, SV.int IntKind.i64 20]) w1_4)
                                                                    (some
                                                                          (SV.box b 35
                                                                            (SV.struct
                                                                              [SV.int IntKind.i64 a_0, SV.arr IntKind.u8 6 a_1,
                                                                                SV.struct [SV.int IntKind.i64 a_2_0, SV.arr IntKind.u8 16 a_2_1], SV.arr IntKind.u8 6 a_3,
                                                                                SV.struct [SV.int IntKind.i64 a_4_0, SV.arr IntKind.u8 16 a_4_1]])) =
                                                                        some
                                                                          (SV.box b 35
                                                                            (SV.struct
                                                                              [SV.int IntKind.i64 a_0, SV.arr IntKind.u8 6 a_1,
                                                                                SV.struct [SV.int IntKind.i64 a_2_0, SV.arr IntKind.u8 16 a_2_1], SV.arr IntKind.u8 6 a_3,
                                                                                SV.struct [SV.int IntKind.i64 a_4_0, SV.arr IntKind.u8 16 a_4_1]])) ∧
                                                                      I (wr IntKind.i64 (n + 1)) w1_4 ∧ M (wr IntKind.i64 (n + 1)) w1_4 < M n w1)) ∧
                                (Int.toNat n = 1 →
                                    ∀ (b_1 : Nat) (w1_2 : World),
                                      Upd [] [b_1] w1 w1_2 →
                                        (World.heap w1_2)[b_1]? = some (Obj.cells { toList := SV.cells (SV.struct [SV.int IntKind.i64 a_4_0, SV.arr IntKind.u8 16 a_4_1]) } 33) →
                                          ∃ (n_1 : Int),
                                            World.cell? w1_2 { block := b_1, off := 0 } = some (Value.int IntKind.i64 n_1) ∧
                                              ∃ (f : Nat → Int),
                                                (∀ (i : Nat), i < 16 → World.cell? w1_2 (Addr.add { block := b_1, off := 0 } (1 + i)) = some (Value.int IntKind.u8 (f i))) ∧
                                                  Upd [] [] w1_2 w1_2 ∧
                                                    ∀ (w1_3 : World),
                                                      Upd [] [] w1_2 w1_3 →
                                                        Ret Try.prog 43 [SV.slice (Sl.sub { ptr := some (Addr.add { block := b_1, off := 0 } 1), len := 16, cap := 16 } 1 0 4 16)]
                                                          w1_3 fun (r : SV) (w1_4 : World) =>
                                                          ∃ (n_2 : Int),
                                                            ∃ (f_1 : Nat → Int),
                                                              r = SV.struct [SV.int IntKind.i64 n_2, SV.arr IntKind.u8 16 f_1] ∧
                                                                Keeps [b] w1_3 w1_4 ∧
                                                                  Upd [] [] w1_2 w1_4 ∧
                                                                    Br (!(n_1 == n_2 && eqArr 16 f f_1))
                                                                      (R (SV.tuple [SV.slice { ptr := none, len := 0, cap := 0 }, SV.int IntKind.i64 20]) w1_4)
                                                                      (some
                                                                            (SV.box b 35
                                                                              (SV.struct
                                                                                [SV.int IntKind.i64 a_0, SV.arr IntKind.u8 6 a_1,
                                                                                  SV.struct [SV.int IntKind.i64 a_2_0, SV.arr IntKind.u8 16 a_2_1], SV.arr IntKind.u8 6 a_3,
                                                                                  SV.struct [SV.int IntKind.i64 a_4_0, SV.arr IntKind.u8 16 a_4_1]])) =
                                                                          some
                                                                            (SV.box b 35
                                                                              (SV.struct
                                                                                [SV.int IntKind.i64 a_0, SV.arr IntKind.u8 6 a_1,
                                                                                  SV.struct [SV.int IntKind.i64 a_2_0, SV.arr IntKind.u8 16 a_2_1], SV.arr IntKind.u8 6 a_3,
                                                                                  SV.struct [SV.int IntKind.i64 a_4_0, SV.arr IntKind.u8 16 a_4_1]])) ∧
                                                                        I (wr IntKind.i64 (n + 1)) w1_4 ∧ M (wr IntKind.i64 (n + 1)) w1_4 < M n w1)) ∧
                                  True))
                            (∀ (b_1 : Nat) (w1_2 : World),
                              Upd [] [b_1] w1 w1_2 →
                                (World.heap w1_2)[b_1]? =
                                    some
                                      (Obj.cells
                                        {
                                          toList :=
                                            SV.cells
                                              (SV.struct
                                                [SV.int IntKind.u8 0, SV.int IntKind.u8 1, SV.int IntKind.u8 8, SV.int IntKind.u8 0, SV.int IntKind.u8 6, SV.int IntKind.u8 4]) }
                                        5) →
                                  MarkStr w1_2 { ptr := some { block := b_1, off := 0 }, len := 6, cap := 6 } [b] fun (w : World) =>
                                    Ret Try.prog 44 [SV.slice { ptr := some { block := b_1, off := 0 }, len := 6, cap := 6 }, SV.int IntKind.i64 a_0] w fun (r : SV) (w1 : World) =>
                                      ∃ (s : Sl),
                                        r = SV.slice s ∧
                                          Keeps [b] w w1 ∧
                                            ((World.heap w1)[b]? =
                                                some
                                                  (Obj.cells
                                                    {
                                                      toList :=
                                                        SV.cells
                                                          (SV.struct
                                                            [SV.int IntKind.i64 a_0, SV.arr IntKind.u8 6 a_1, SV.struct [SV.int IntKind.i64 a_2_0, SV.arr IntKind.u8 16 a_2_1],
                                                              SV.arr IntKind.u8 6 a_3, SV.struct [SV.int IntKind.i64 a_4_0, SV.arr IntKind.u8 16 a_4_1]]) }
                                                    35) →
                                              ((∀ (w1_3 : World),
                                                    Upd [] [] w1 w1_3 →
                                                      Vc.Append 5 1 1 s (Sl.sub { ptr := some (Addr.add { block := b, off := 0 } 1), len := 6, cap := 6 } 1 0 6 6) [] w1_3
                                                        fun (r : Sl) (w : World) =>
                                                        Vc.Append 5 1 1 r (Sl.sub { ptr := some (Addr.add (Addr.add { block := b, off := 0 } 7) 1), len := 16, cap := 16 } 1 0 4 16)
                                                          [] w fun (r : Sl) (w : World) =>
                                                          ((∀ (w1 : World),
                                                                Upd [] [] w w1 →
                                                                  Vc.Append 5 1 1 r (Sl.sub { ptr := some (Addr.add { block := b, off := 0 } 24), len := 6, cap := 6 } 1 0 6 6) [] w1
                                                                    fun (r : Sl) (w : World) =>
                                                                    Vc.Append 5 1 1 r
                                                                      (Sl.sub { ptr := some (Addr.add (Addr.add { block := b, off := 0 } 30) 1), len := 16, cap := 16 } 1 0 4 16) [] w
                                                                      fun (r : Sl) (w : World) => R (SV.tuple [SV.slice r, SV.int IntKind.i64 0]) w) ∧
                                                              ∀ (w1 : World),
                                                                Upd [] [] w w1 →
                                                                  Vc.Append 5 1 1 r (Sl.sub { ptr := some (Addr.add { block := b, off := 0 } 24), len := 6, cap := 6 } 1 0 6 6) [] w1
                                                                    fun (r : Sl) (w : World) =>
                                                                    Vc.Append 5 1 1 r
                                                                      (Sl.sub { ptr := some (Addr.add (Addr.add { block := b, off := 0 } 30) 1), len := 16, cap := 16 } 1 0 4 16) [] w
                                                                      fun (r : Sl) (w : World) => R (SV.tuple [SV.slice r, SV.int IntKind.i64 0]) w) ∧
                                                            ∀ (w1 : World),
                                                              Upd [] [] w w1 →
                                                                Vc.Append 5 1 1 r (Sl.sub { ptr := some (Addr.add { block := b, off := 0 } 24), len := 6, cap := 6 } 1 0 6 6) [] w1
                                                                  fun (r : Sl) (w : World) =>
                                                                  Vc.Append 5 1 1 r
                                                                    (Sl.sub { ptr := some (Addr.add (Addr.add { block := b, off := 0 } 30) 1), len := 16, cap := 16 } 1 0 4 16) [] w
                                                                    fun (r : Sl) (w : World) => R (SV.tuple [SV.slice r, SV.int IntKind.i64 0]) w) ∧
                                                  ∀ (w1_3 : World),
                                                    Upd [] [] w1 w1_3 →
                                                      Vc.Append 5 1 1 s (Sl.sub { ptr := some (Addr.add { block := b, off := 0 } 1), len := 6, cap := 6 } 1 0 6 6) [] w1_3
                                                        fun (r : Sl) (w : World) =>
                                                        Vc.Append 5 1 1 r (Sl.sub { ptr := some (Addr.add (Addr.add { block := b, off := 0 } 7) 1), len := 16, cap := 16 } 1 0 4 16)
                                                          [] w fun (r : Sl) (w : World) =>
                                                          ((∀ (w1 : World),
                                                                Upd [] [] w w1 →
                                                                  Vc.Append 5 1 1 r (Sl.sub { ptr := some (Addr.add { block := b, off := 0 } 24), len := 6, cap := 6 } 1 0 6 6) [] w1
                                                                    fun (r : Sl) (w : World) =>
                                                                    Vc.Append 5 1 1 r
                                                                      (Sl.sub { ptr := some (Addr.add (Addr.add { block := b, off := 0 } 30) 1), len := 16, cap := 16 } 1 0 4 16) [] w
                                                                      fun (r : Sl) (w : World) => R (SV.tuple [SV.slice r, SV.int IntKind.i64 0]) w) ∧
                                                              ∀ (w1 : World),
                                                                Upd [] [] w w1 →
                                                                  Vc.Append 5 1 1 r (Sl.sub { ptr := some (Addr.add { block := b, off := 0 } 24), len := 6, cap := 6 } 1 0 6 6) [] w1
                                                                    fun (r : Sl) (w : World) =>
                                                                    Vc.Append 5 1 1 r
                                                                      (Sl.sub { ptr := some (Addr.add (Addr.add { block := b, off := 0 } 30) 1), len := 16, cap := 16 } 1 0 4 16) [] w
                                                                      fun (r : Sl) (w : World) => R (SV.tuple [SV.slice r, SV.int IntKind.i64 0]) w) ∧
                                                            ∀ (w1 : World),
                                                              Upd [] [] w w1 →
                                                                Vc.Append 5 1 1 r (Sl.sub { ptr := some (Addr.add { block := b, off := 0 } 24), len := 6, cap := 6 } 1 0 6 6) [] w1
                                                                  fun (r : Sl) (w : World) =>
                                                                  Vc.Append 5 1 1 r
                                                                    (Sl.sub { ptr := some (Addr.add (Addr.add { block := b, off := 0 } 30) 1), len := 16, cap := 16 } 1 0 4 16) [] w
                                                                    fun (r : Sl) (w : World) => R (SV.tuple [SV.slice r, SV.int IntKind.i64 0]) w) ∧
                                                ∀ (w1_3 : World),
                                                  Upd [] [] w1 w1_3 →
                                                    Vc.Append 5 1 1 s (Sl.sub { ptr := some (Addr.add { block := b, off := 0 } 1), len := 6, cap := 6 } 1 0 6 6) [] w1_3
                                                      fun (r : Sl) (w : World) =>
                                                      Vc.Append 5 1 1 r (Sl.sub { ptr := some (Addr.add (Addr.add { block := b, off := 0 } 7) 1), len := 16, cap := 16 } 1 0 4 16) []
                                                        w fun (r : Sl) (w : World) =>
                                                        ((∀ (w1 : World),
                                                              Upd [] [] w w1 →
                                                                Vc.Append 5 1 1 r (Sl.sub { ptr := some (Addr.add { block := b, off := 0 } 24), len := 6, cap := 6 } 1 0 6 6) [] w1
                                                                  fun (r : Sl) (w : World) =>
                                                                  Vc.Append 5 1 1 r
                                                                    (Sl.sub { ptr := some (Addr.add (Addr.add { block := b, off := 0 } 30) 1), len := 16, cap := 16 } 1 0 4 16) [] w
                                                                    fun (r : Sl) (w : World) => R (SV.tuple [SV.slice r, SV.int IntKind.i64 0]) w) ∧
                                                            ∀ (w1 : World),
                                                              Upd [] [] w w1 →
                                                                Vc.Append 5 1 1 r (Sl.sub { ptr := some (Addr.add { block := b, off := 0 } 24), len := 6, cap := 6 } 1 0 6 6) [] w1
                                                                  fun (r : Sl) (w : World) =>
                                                                  Vc.Append 5 1 1 r
                                                                    (Sl.sub { ptr := some (Addr.add (Addr.add { block := b, off := 0 } 30) 1), len := 16, cap := 16 } 1 0 4 16) [] w
                                                                    fun (r : Sl) (w : World) => R (SV.tuple [SV.slice r, SV.int IntKind.i64 0]) w) ∧
                                                          ∀ (w1 : World),
                                                            Upd [] [] w w1 →
                                                              Vc.Append 5 1 1 r (Sl.sub { ptr := some (Addr.add { block := b, off := 0 } 24), len := 6, cap := 6 } 1 0 6 6) [] w1
                                                                fun (r : Sl) (w : World) =>
                                                                Vc.Append 5 1 1 r
                                                                  (Sl.sub { ptr := some (Addr.add (Addr.add { block := b, off := 0 } 30) 1), len := 16, cap := 16 } 1 0 4 16) [] w
                                                                  fun (r : Sl) (w : World) => R (SV.tuple [SV.slice r, SV.int IntKind.i64 0]) w)))
theorem f20_of (a_0 : Int) (a_1 : Nat → Int) (a_2_0 : Int) (a_2_1 : Nat → Int) (a_3 : Nat → Int) (a_4_0 : Int) (a_4_1 : Nat → Int) (w : World) (R : SV → World → Prop) (h : vc20 a_0 a_1 a_2_0 a_2_1 a_3 a_4_0 a_4_1 w R) : Ret Try.prog 20 [.struct [.int .i64 a_0, .arr .u8 6 a_1, .struct [.int .i64 a_2_0, .arr .u8 16 a_2_1], .arr .u8 6 a_3, .struct [.int .i64 a_4_0, .arr .u8 16 a_4_1]]] w R :=
  have e : vc20 a_0 a_1 a_2_0 a_2_1 a_3 a_4_0 a_4_1 w R = fnVC X Try.f20 a20 [.struct [.int .i64 a_0, .arr .u8 6 a_1, .struct [.int .i64 a_2_0, .arr .u8 16 a_2_1], .arr .u8 6 a_3, .struct [.int .i64 a_4_0, .arr .u8 16 a_4_1]]] w R := by kernel_rfl
  fnVC_sound X_ok (n := a20) (e ▸ h) (by kernel_rfl) (by kernel_rfl) rfl rfl

end Go.Vc.S5
