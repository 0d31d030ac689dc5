import Derived.Test.YtncgcdicadibbaaAnnr2
import Derived.Test.YtncgcdicadibbaaNum
import Derived.KernelRfl
open Go Go.Vc Go.Vc.S2 Go.Proofs
set_option maxRecDepth 100000
set_option linter.unusedVariables false
namespace Go.Vc.S2
def vc11 (word : Int) (n : Int) (size : Int) (w : World) (R : SV → World → Prop) : Prop :=
  Ret Try.prog 13 [] w fun (r : SV) (w1 : World) =>
    ∃ (b : Bool),
      r = SV.bool b ∧
        Br (!b) (R (SV.bool false) w1)
          (Need
            (decide (0 ≤ wr IntKind.i64 (2 * imin (imax n 1) 1048576)) && decide (wr IntKind.i64 (2 * imin (imax n 1) 1048576) ≤ wr IntKind.i64 (2 * imin (imax n 1) 1048576)) &&
                decide (wr IntKind.i64 (2 * imin (imax n 1) 1048576) ≤ 281474976710656) &&
              decide (1 * wr IntKind.i64 (2 * imin (imax n 1) 1048576) ≤ 281474976710656))
            (∀ (b : Nat) (w1_1 : World),
              Upd [] [b] w1 w1_1 →
                (World.heap w1_1)[b]? = some (Obj.cells { toList := zerosOf (Ty.int IntKind.u8) (Int.toNat (wr IntKind.i64 (2 * imin (imax n 1) 1048576))) } 5) →
                  ∃ (I : Int → World → Prop),
                    ∃ (M : Int → World → Nat),
                      I 0 w1_1 ∧
                        ∀ (n_1 : Int) (w1 : World),
                          I n_1 w1 →
                            Br (decide (n_1 < imin (imax n 1) 1048576))
                              (Need
                                (decide (0 ≤ wr IntKind.i64 (2 * n_1)) && decide (wr IntKind.i64 (2 * n_1) < (↑(Int.toNat (wr IntKind.i64 (2 * imin (imax n 1) 1048576))) : Int)) &&
                                  true)
                                (Store w1
                                  (Sl.at
                                    { ptr := some { block := b, off := 0 }, len := Int.toNat (wr IntKind.i64 (2 * imin (imax n 1) 1048576)),
                                      cap := Int.toNat (wr IntKind.i64 (2 * imin (imax n 1) 1048576)) }
                                    1 (Int.toNat (wr IntKind.i64 (2 * n_1))))
                                  (SV.cells (SV.int IntKind.u8 (wr IntKind.u8 (gshr IntKind.i64 (iand IntKind.i64 word 65535) 8)))) [] fun (w1_2 : World) =>
                                  Need
                                    (decide (0 ≤ wr IntKind.i64 (wr IntKind.i64 (2 * n_1) + 1)) &&
                                        decide (wr IntKind.i64 (wr IntKind.i64 (2 * n_1) + 1) < (↑(Int.toNat (wr IntKind.i64 (2 * imin (imax n 1) 1048576))) : Int)) &&
                                      true)
                                    (Store w1_2
                                      (Sl.at
                                        { ptr := some { block := b, off := 0 }, len := Int.toNat (wr IntKind.i64 (2 * imin (imax n 1) 1048576)),
                                          cap := Int.toNat (wr IntKind.i64 (2 * imin (imax n 1) 1048576)) }
                                        1 (Int.toNat (wr IntKind.i64 (wr IntKind.i64 (2 * n_1) + 1))))
                                      (SV.cells (SV.int IntKind.u8 (wr IntKind.u8 (iand IntKind.i64 word 65535)))) [] fun (w1_3 : World) =>
                                      I (wr IntKind.i64 (n_1 + 1)) w1_3 ∧ M (wr IntKind.i64 (n_1 + 1)) w1_3 < M n_1 w1)))
                              (Ret Try.prog 37 [SV.int IntKind.i64 (wr IntKind.i64 (imin (imax n 1) 1048576 * iand IntKind.i64 word 65535))] w1 fun (r : SV) (w1 : World) =>
                                ∃ (n_2 : Int),
                                  r = SV.int IntKind.i64 n_2 ∧
                                    ∀ (J : World → Prop),
                                      (∀ (w1 : World),
                                          (∃ (I : Sl → Int → World → Prop),
                                              ∃ (M : Sl → Int → World → Nat),
                                                I { ptr := none, len := 0, cap := 0 } 0 w1 ∧
                                                  ∀ (s : Sl) (n_3 : Int) (w1 : World),
                                                    I s n_3 w1 →
                                                      Br (decide (n_3 < (↑(Int.toNat (wr IntKind.i64 (2 * imin (imax n 1) 1048576))) : Int)))
                                                        (Need
                                                          (decide
                                                                (0 ≤
                                                                  imin
                                                                    (wr IntKind.i64
                                                                      (n_3 +
                                                                        imin
                                                                          (imax size
                                                                            (wr IntKind.i64
                                                                              (1 +
                                                                                wr IntKind.i64 (Int.tdiv (↑(Int.toNat (wr IntKind.i64 (2 * imin (imax n 1) 1048576))) : Int) 3000))))
                                                                          (↑(Int.toNat (wr IntKind.i64 (2 * imin (imax n 1) 1048576))) : Int)))
                                                                    (↑(Int.toNat (wr IntKind.i64 (2 * imin (imax n 1) 1048576))) : Int)) &&
                                                              decide
                                                                (imin
                                                                    (wr IntKind.i64
                                                                      (n_3 +
                                                                        imin
                                                                          (imax size
                                                                            (wr IntKind.i64
                                                                              (1 +
                                                                                wr IntKind.i64 (Int.tdiv (↑(Int.toNat (wr IntKind.i64 (2 * imin (imax n 1) 1048576))) : Int) 3000))))
                                                                          (↑(Int.toNat (wr IntKind.i64 (2 * imin (imax n 1) 1048576))) : Int)))
                                                                    (↑(Int.toNat (wr IntKind.i64 (2 * imin (imax n 1) 1048576))) : Int) ≤
                                                                  (↑(Int.toNat (wr IntKind.i64 (2 * imin (imax n 1) 1048576))) : Int)) &&
                                                            (decide (0 ≤ n_3) &&
                                                              decide
                                                                (n_3 ≤
                                                                  (↑(Int.toNat
                                                                        (imin
                                                                          (wr IntKind.i64
                                                                            (n_3 +
                                                                              imin
                                                                                (imax size
                                                                                  (wr IntKind.i64
                                                                                    (1 +
                                                                                      wr IntKind.i64
                                                                                        (Int.tdiv (↑(Int.toNat (wr IntKind.i64 (2 * imin (imax n 1) 1048576))) : Int) 3000))))
                                                                                (↑(Int.toNat (wr IntKind.i64 (2 * imin (imax n 1) 1048576))) : Int)))
                                                                          (↑(Int.toNat (wr IntKind.i64 (2 * imin (imax n 1) 1048576))) : Int))) :
                                                                    Int))))
                                                          (∀ (b_1 : Nat) (w1_2 : World),
                                                            Upd [] [b_1] w1 w1_2 →
                                                              (World.heap w1_2)[b_1]? =
                                                                  some
                                                                    (Obj.cells
                                                                      {
                                                                        toList :=
                                                                          SV.cells
                                                                            (SV.struct
                                                                              [SV.slice
                                                                                  (Sl.sub
                                                                                    { ptr := some { block := b, off := 0 },
                                                                                      len := Int.toNat (wr IntKind.i64 (2 * imin (imax n 1) 1048576)),
                                                                                      cap := Int.toNat (wr IntKind.i64 (2 * imin (imax n 1) 1048576)) }
                                                                                    1 (Int.toNat n_3)
                                                                                    (Int.toNat
                                                                                      (imin
                                                                                        (wr IntKind.i64
                                                                                          (n_3 +
                                                                                            imin
                                                                                              (imax size
                                                                                                (wr IntKind.i64
                                                                                                  (1 +
                                                                                                    wr IntKind.i64
                                                                                                      (Int.tdiv (↑(Int.toNat (wr IntKind.i64 (2 * imin (imax n 1) 1048576))) : Int)
                                                                                                        3000))))
                                                                                              (↑(Int.toNat (wr IntKind.i64 (2 * imin (imax n 1) 1048576))) : Int)))
                                                                                        (↑(Int.toNat (wr IntKind.i64 (2 * imin (imax n 1) 1048576))) : Int)))
                                                                                    (Int.toNat (wr IntKind.i64 (2 * imin (imax n 1) 1048576))))]) }
                                                                      24) →
                                                                Vc.Append 24 1 24 s { ptr := some { block := b_1, off := 0 }, len := 1, cap := 1 } [] w1_2 fun (r : Sl) (w : World) =>
                                                                  I r
                                                                      (wr IntKind.i64
                                                                        (n_3 +
                                                                          imin
                                                                            (imax size
                                                                              (wr IntKind.i64
                                                                                (1 +
                                                                                  wr IntKind.i64
                                                                                    (Int.tdiv (↑(Int.toNat (wr IntKind.i64 (2 * imin (imax n 1) 1048576))) : Int) 3000))))
                                                                            (↑(Int.toNat (wr IntKind.i64 (2 * imin (imax n 1) 1048576))) : Int)))
                                                                      w ∧
                                                                    M r
                                                                        (wr IntKind.i64
                                                                          (n_3 +
                                                                            imin
                                                                              (imax size
                                                                                (wr IntKind.i64
                                                                                  (1 +
                                                                                    wr IntKind.i64
                                                                                      (Int.tdiv (↑(Int.toNat (wr IntKind.i64 (2 * imin (imax n 1) 1048576))) : Int) 3000))))
                                                                              (↑(Int.toNat (wr IntKind.i64 (2 * imin (imax n 1) 1048576))) : Int)))
                                                                        w <
                                                                      M s n_3 w1))
                                                        (Ret Try.prog 30
                                                          [SV.int IntKind.i64 (wr IntKind.i64 (65535 - n_2)),
                                                            SV.slice
                                                              { ptr := some { block := b, off := 0 }, len := Int.toNat (wr IntKind.i64 (2 * imin (imax n 1) 1048576)),
                                                                cap := Int.toNat (wr IntKind.i64 (2 * imin (imax n 1) 1048576)) },
                                                            SV.slice
                                                              { ptr := some { block := b, off := 0 }, len := Int.toNat (wr IntKind.i64 (2 * imin (imax n 1) 1048576)),
                                                                cap := Int.toNat (wr IntKind.i64 (2 * imin (imax n 1) 1048576)) }]
                                                          w1 fun (r : SV) (w1 : World) =>
                                                          ∃ (n : Int),
                                                            ∃ (n_4 : Int),
                                                              r = SV.tuple [SV.int IntKind.i64 n, SV.int IntKind.i64 n_4] ∧
                                                                Ret Try.prog 16 [SV.slice s] w1 fun (r : SV) (w1 : World) =>
                                                                  ∃ (n_5 : Int),
                                                                    r = SV.int IntKind.i64 n_5 ∧
                                                                      Br (n_5 == n_2)
                                                                        (Ret Try.prog 18 [SV.slice s] w1 fun (r : SV) (w1 : World) =>
                                                                          ∃ (b : Bool),
                                                                            r = SV.bool b ∧
                                                                              Br (b == (n_2 == 65535))
                                                                                (Br (n_4 == 0)
                                                                                  (Br (iand IntKind.i64 word 65535 == 0) (R (SV.bool true) w1)
                                                                                    (R (SV.bool (n == wr IntKind.i64 (65535 - n_2))) w1))
                                                                                  (R (SV.bool false) w1))
                                                                                (R (SV.bool false) w1))
                                                                        (R (SV.bool false) w1))) →
                                            J w1) →
                                        ∀ (b_1 : Nat) (w1_2 : World),
                                          Upd [] [b_1] w1 w1_2 →
                                            (World.heap w1_2)[b_1]? =
                                                some
                                                  (Obj.cells
                                                    {
                                                      toList :=
                                                        SV.cells
                                                          (SV.struct
                                                            [SV.slice
                                                                { ptr := some { block := b, off := 0 }, len := Int.toNat (wr IntKind.i64 (2 * imin (imax n 1) 1048576)),
                                                                  cap := Int.toNat (wr IntKind.i64 (2 * imin (imax n 1) 1048576)) }]) }
                                                    24) →
                                              Ret Try.prog 16 [SV.slice { ptr := some { block := b_1, off := 0 }, len := 1, cap := 1 }] w1_2 fun (r : SV) (w1 : World) =>
                                                ∃ (n_3 : Int),
                                                  r = SV.int IntKind.i64 n_3 ∧
                                                    Br (n_3 != n_2) (R (SV.bool false) w1)
                                                      (∀ (b_2 : Nat) (w1_3 : World),
                                                        Upd [] [b_2] w1 w1_3 →
                                                          (World.heap w1_3)[b_2]? =
                                                              some
                                                                (Obj.cells
                                                                  {
                                                                    toList :=
                                                                      SV.cells
                                                                        (SV.struct
                                                                          [SV.slice
                                                                              { ptr := some { block := b, off := 0 }, len := Int.toNat (wr IntKind.i64 (2 * imin (imax n 1) 1048576)),
                                                                                cap := Int.toNat (wr IntKind.i64 (2 * imin (imax n 1) 1048576)) }]) }
                                                                  24) →
                                                            Ret Try.prog 17 [SV.slice { ptr := some { block := b_2, off := 0 }, len := 1, cap := 1 }] w1_3
                                                              fun (r : SV) (w1 : World) =>
                                                              ∃ (n_4 : Int),
                                                                r = SV.int IntKind.i64 n_4 ∧
                                                                  Br (n_4 != wr IntKind.i64 (65535 - n_2)) (R (SV.bool false) w1)
                                                                    (∀ (b_3 : Nat) (w1_4 : World),
                                                                      Upd [] [b_3] w1 w1_4 →
                                                                        (World.heap w1_4)[b_3]? =
                                                                            some
                                                                              (Obj.cells
                                                                                {
                                                                                  toList :=
                                                                                    SV.cells
                                                                                      (SV.struct
                                                                                        [SV.slice
                                                                                            { ptr := some { block := b, off := 0 },
                                                                                              len := Int.toNat (wr IntKind.i64 (2 * imin (imax n 1) 1048576)),
                                                                                              cap := Int.toNat (wr IntKind.i64 (2 * imin (imax n 1) 1048576)) }]) }
                                                                                24) →
                                                                          Ret Try.prog 18 [SV.slice { ptr := some { block := b_3, off := 0 }, len := 1, cap := 1 }] w1_4
                                                                            fun (r : SV) (w1 : World) =>
                                                                            ∃ (b : Bool), r = SV.bool b ∧ Br (!b == (n_2 == 65535)) (R (SV.bool false) w1) (J w1))))))
theorem f11_of (word : Int) (n : Int) (size : Int) (w : World) (R : SV → World → Prop) (h : vc11 word n size w R) : Ret Try.prog 11 [.int .i64 word, .int .i64 n, .int .i64 size] w R :=
  have e : vc11 word n size w R = fnVC X Try.f11 a11 [.int .i64 word, .int .i64 n, .int .i64 size] w R := by kernel_rfl
  fnVC_sound X_ok (n := a11) (e ▸ h) (by kernel_rfl) (by kernel_rfl) rfl

end Go.Vc.S2
